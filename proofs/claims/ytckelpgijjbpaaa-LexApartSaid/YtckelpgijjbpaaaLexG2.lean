/- What the interpreter gives for LexApart and LexBlanks (written by decomp.py). -/
import Derived.Test.YtckelpgijjbpaaaLexE
namespace Go.LI.Lex
open Go.Proofs.Ytckelpgijjbpaaa Go Go.Proofs Go.LI
set_option maxRecDepth 100000
set_option linter.unusedVariables false
set_option linter.unusedSimpArgs false
/-! ### lantern/lanternlaw15.LexApart -/
def u6_3 {R : Type} (O : Ora R) (KN : Option GA → Nat → Option GA → Nat → List UInt8 → Int → Option GA → Nat → Int → List UInt8 → List UInt8 → Int → Option GA → Nat → Int → Int → Bool → GH → Option R) (s1a : Option GA) (s1n : Nat) (s5a : Option GA) (s5n : Nat) (s6 : List UInt8) (s7 : Int) (s8a : Option GA) (s8n : Nat) (s9 : Int) (s10 : List UInt8) (s11 : List UInt8) (s12 : Int) (s24a : Option GA) (s24n : Nat) (s25 : Int) (s26 : Int) (G : GH) : Option R :=
  bif decide (0 ≤ s12 ∧ s12 < (s10.length : Int)) then
  bif (decide (((s10.getD (Int.toNat s12) 0).toNat : Int) ≥ (97 : Int))) then
  bif decide (0 ≤ s12 ∧ s12 < (s10.length : Int)) then
  KN s1a s1n s5a s5n s6 s7 s8a s8n s9 s10 s11 s12 s24a s24n s25 s26 (decide (((s10.getD (Int.toNat s12) 0).toNat : Int) ≤ (122 : Int))) G
  else none
  else
  KN s1a s1n s5a s5n s6 s7 s8a s8n s9 s10 s11 s12 s24a s24n s25 s26 false G
  else none

def l6_3 {R : Type} (O : Ora R) (KN : Option GA → Nat → Option GA → Nat → List UInt8 → Int → Option GA → Nat → Int → List UInt8 → List UInt8 → Int → Option GA → Nat → Int → Int → Bool → GH → Option R) : Option GA → Nat → Option GA → Nat → List UInt8 → Int → Option GA → Nat → Int → List UInt8 → List UInt8 → Int → Option GA → Nat → Int → Int → GH → Option R := fun (s1a : Option GA) (s1n : Nat) (s5a : Option GA) (s5n : Nat) (s6 : List UInt8) (s7 : Int) (s8a : Option GA) (s8n : Nat) (s9 : Int) (s10 : List UInt8) (s11 : List UInt8) (s12 : Int) (s24a : Option GA) (s24n : Nat) (s25 : Int) (s26 : Int) G => u6_3 O KN s1a s1n s5a s5n s6 s7 s8a s8n s9 s10 s11 s12 s24a s24n s25 s26 G

theorem u6_3_raw {R : Type} (O : Ora R) (fuel : Nat) (s1a : Option GA) (s1n : Nat) (s5a : Option GA) (s5n : Nat) (s6 : List UInt8) (s7 : Int) (s8a : Option GA) (s8n : Nat) (s9 : Int) (s10 : List UInt8) (s11 : List UInt8) (s12 : Int) (s24a : Option GA) (s24n : Nat) (s25 : Int) (s26 : Int) (G : GH) (k : Ex → List IV → List (List IV) → GH → Option R) :
  loopD Try.prog O lo6 fuel (nav (Try.f6.body.getD .skip) [1, 1, 1, 1, 1, 1, 1, 0, 1, 0, 0, 1, 1, 0, 0, 1, 1, 0, 1, 0, 0, 1, 0, 0, 0]) 71 (mkE 143 [(1, .slice s1a s1n), (5, .slice s5a s5n), (6, .str s6), (7, .int .i64 s7), (8, .slice s8a s8n), (9, .int .i64 s9), (10, .str s10), (11, .str s11), (12, .int .i64 s12), (24, .slice s24a s24n), (25, .int .i64 s25), (26, .int .i64 s26)]) [] G k =
  u6_3 O (fun (s1a : Option GA) (s1n : Nat) (s5a : Option GA) (s5n : Nat) (s6 : List UInt8) (s7 : Int) (s8a : Option GA) (s8n : Nat) (s9 : Int) (s10 : List UInt8) (s11 : List UInt8) (s12 : Int) (s24a : Option GA) (s24n : Nat) (s25 : Int) (s26 : Int) (s46 : Bool) (G : GH) => k .normal (mkE 143 [(1, .slice s1a s1n), (5, .slice s5a s5n), (6, .str s6), (7, .int .i64 s7), (8, .slice s8a s8n), (9, .int .i64 s9), (10, .str s10), (11, .str s11), (12, .int .i64 s12), (24, .slice s24a s24n), (25, .int .i64 s25), (26, .int .i64 s26), (46, .bool s46)]) [] G) s1a s1n s5a s5n s6 s7 s8a s8n s9 s10 s11 s12 s24a s24n s25 s26 G := by kernel_rfl

theorem l6_3_eq {R : Type} (O : Ora R) (fuel : Nat) (k : Ex → List IV → List (List IV) → GH → Option R) : ∀ (s1a : Option GA) (s1n : Nat) (s5a : Option GA) (s5n : Nat) (s6 : List UInt8) (s7 : Int) (s8a : Option GA) (s8n : Nat) (s9 : Int) (s10 : List UInt8) (s11 : List UInt8) (s12 : Int) (s24a : Option GA) (s24n : Nat) (s25 : Int) (s26 : Int) (G : GH),
  loopD Try.prog O lo6 fuel (nav (Try.f6.body.getD .skip) [1, 1, 1, 1, 1, 1, 1, 0, 1, 0, 0, 1, 1, 0, 0, 1, 1, 0, 1, 0, 0, 1, 0, 0, 0]) 71 (mkE 143 [(1, .slice s1a s1n), (5, .slice s5a s5n), (6, .str s6), (7, .int .i64 s7), (8, .slice s8a s8n), (9, .int .i64 s9), (10, .str s10), (11, .str s11), (12, .int .i64 s12), (24, .slice s24a s24n), (25, .int .i64 s25), (26, .int .i64 s26)]) [] G k = l6_3 O (fun (s1a : Option GA) (s1n : Nat) (s5a : Option GA) (s5n : Nat) (s6 : List UInt8) (s7 : Int) (s8a : Option GA) (s8n : Nat) (s9 : Int) (s10 : List UInt8) (s11 : List UInt8) (s12 : Int) (s24a : Option GA) (s24n : Nat) (s25 : Int) (s26 : Int) (s46 : Bool) (G : GH) => k .normal (mkE 143 [(1, .slice s1a s1n), (5, .slice s5a s5n), (6, .str s6), (7, .int .i64 s7), (8, .slice s8a s8n), (9, .int .i64 s9), (10, .str s10), (11, .str s11), (12, .int .i64 s12), (24, .slice s24a s24n), (25, .int .i64 s25), (26, .int .i64 s26), (46, .bool s46)]) [] G) s1a s1n s5a s5n s6 s7 s8a s8n s9 s10 s11 s12 s24a s24n s25 s26 G := by
  intros
  rw [u6_3_raw]
  simp only [l6_3]

def u6_2 {R : Type} (O : Ora R) (KN : Option GA → Nat → Option GA → Nat → List UInt8 → Int → Option GA → Nat → Int → List UInt8 → List UInt8 → Int → Option GA → Nat → Int → Int → GH → Option R) (L3 : Option GA → Nat → Option GA → Nat → List UInt8 → Int → Option GA → Nat → Int → List UInt8 → List UInt8 → Int → Option GA → Nat → Int → Int → GH → Option R) (s1a : Option GA) (s1n : Nat) (s5a : Option GA) (s5n : Nat) (s6 : List UInt8) (s7 : Int) (s8a : Option GA) (s8n : Nat) (s9 : Int) (s10 : List UInt8) (s11 : List UInt8) (s12 : Int) (s24a : Option GA) (s24n : Nat) (s25 : Int) (s26 : Int) (G : GH) : Option R :=
  L3 s1a s1n s5a s5n s6 s7 s8a s8n s9 s10 s11 s12 s24a s24n s25 s26 G

def a6_3N {R : Type} (O : Ora R) (KN : Option GA → Nat → Option GA → Nat → List UInt8 → Int → Option GA → Nat → Int → List UInt8 → List UInt8 → Int → Option GA → Nat → Int → Int → GH → Option R) (s1a : Option GA) (s1n : Nat) (s5a : Option GA) (s5n : Nat) (s6 : List UInt8) (s7 : Int) (s8a : Option GA) (s8n : Nat) (s9 : Int) (s10 : List UInt8) (s11 : List UInt8) (s12 : Int) (s24a : Option GA) (s24n : Nat) (s25 : Int) (s26 : Int) (s46 : Bool) (G : GH) : Option R :=
  bif s46 then
  bif decide (0 ≤ s12 ∧ s12 ≤ (IntKind.wrap .i64 (s12 + (1 : Int))) ∧ (IntKind.wrap .i64 (s12 + (1 : Int))) ≤ (s10.length : Int)) then
  bif decide (s11.length + ((s10.drop (Int.toNat s12)).take (Int.toNat (IntKind.wrap .i64 (s12 + (1 : Int))) - Int.toNat s12)).length ≤ roomS) then
  KN s1a s1n s5a s5n s6 s7 s8a s8n s9 s10 (s11 ++ ((s10.drop (Int.toNat s12)).take (Int.toNat (IntKind.wrap .i64 (s12 + (1 : Int))) - Int.toNat s12))) s12 s24a s24n s25 s26 G
  else none
  else none
  else
  KN s1a s1n s5a s5n s6 s7 s8a s8n s9 s10 s11 s12 s24a s24n s25 s26 G

def L6_3 {R : Type} (O : Ora R) (fuel : Nat) (KN : Option GA → Nat → Option GA → Nat → List UInt8 → Int → Option GA → Nat → Int → List UInt8 → List UInt8 → Int → Option GA → Nat → Int → Int → GH → Option R) : Option GA → Nat → Option GA → Nat → List UInt8 → Int → Option GA → Nat → Int → List UInt8 → List UInt8 → Int → Option GA → Nat → Int → Int → GH → Option R := fun (s1a : Option GA) (s1n : Nat) (s5a : Option GA) (s5n : Nat) (s6 : List UInt8) (s7 : Int) (s8a : Option GA) (s8n : Nat) (s9 : Int) (s10 : List UInt8) (s11 : List UInt8) (s12 : Int) (s24a : Option GA) (s24n : Nat) (s25 : Int) (s26 : Int) G =>
  stepN fuel (l6_3 O (a6_3N O KN) s1a s1n s5a s5n s6 s7 s8a s8n s9 s10 s11 s12 s24a s24n s25 s26 G)

theorem a6_3N_raw {R : Type} (O : Ora R) (fuel : Nat) (s1a : Option GA) (s1n : Nat) (s5a : Option GA) (s5n : Nat) (s6 : List UInt8) (s7 : Int) (s8a : Option GA) (s8n : Nat) (s9 : Int) (s10 : List UInt8) (s11 : List UInt8) (s12 : Int) (s24a : Option GA) (s24n : Nat) (s25 : Int) (s26 : Int) (s46 : Bool) (G : GH) (k : Ex → List IV → List (List IV) → GH → Option R) :
  contC Try.prog O lo6 fuel (nav (Try.f6.body.getD .skip) [1, 1, 1, 1, 1, 1, 1, 0, 1, 0, 0, 1, 1, 0, 0, 1, 1, 0, 1, 0, 0, 1, 0]) [0, 0] (kpD lo6 63 0 k) .normal (mkE 143 [(1, .slice s1a s1n), (5, .slice s5a s5n), (6, .str s6), (7, .int .i64 s7), (8, .slice s8a s8n), (9, .int .i64 s9), (10, .str s10), (11, .str s11), (12, .int .i64 s12), (24, .slice s24a s24n), (25, .int .i64 s25), (26, .int .i64 s26), (46, .bool s46)]) [] G =
  a6_3N O (fun (s1a : Option GA) (s1n : Nat) (s5a : Option GA) (s5n : Nat) (s6 : List UInt8) (s7 : Int) (s8a : Option GA) (s8n : Nat) (s9 : Int) (s10 : List UInt8) (s11 : List UInt8) (s12 : Int) (s24a : Option GA) (s24n : Nat) (s25 : Int) (s26 : Int) (G : GH) => k .normal (mkE 143 [(1, .slice s1a s1n), (5, .slice s5a s5n), (6, .str s6), (7, .int .i64 s7), (8, .slice s8a s8n), (9, .int .i64 s9), (10, .str s10), (11, .str s11), (12, .int .i64 s12), (24, .slice s24a s24n), (25, .int .i64 s25), (26, .int .i64 s26)]) [] G) s1a s1n s5a s5n s6 s7 s8a s8n s9 s10 s11 s12 s24a s24n s25 s26 s46 G := by kernel_rfl

theorem L6_3_eq {R : Type} (O : Ora R) (fuel : Nat) (k : Ex → List IV → List (List IV) → GH → Option R) :
  (fun (s1a : Option GA) (s1n : Nat) (s5a : Option GA) (s5n : Nat) (s6 : List UInt8) (s7 : Int) (s8a : Option GA) (s8n : Nat) (s9 : Int) (s10 : List UInt8) (s11 : List UInt8) (s12 : Int) (s24a : Option GA) (s24n : Nat) (s25 : Int) (s26 : Int) (G : GH) => stepN fuel (loopD Try.prog O lo6 fuel (nav (Try.f6.body.getD .skip) [1, 1, 1, 1, 1, 1, 1, 0, 1, 0, 0, 1, 1, 0, 0, 1, 1, 0, 1, 0, 0, 1, 0, 0, 0]) 71 (mkE 143 [(1, .slice s1a s1n), (5, .slice s5a s5n), (6, .str s6), (7, .int .i64 s7), (8, .slice s8a s8n), (9, .int .i64 s9), (10, .str s10), (11, .str s11), (12, .int .i64 s12), (24, .slice s24a s24n), (25, .int .i64 s25), (26, .int .i64 s26)]) [] G (contC Try.prog O lo6 fuel (nav (Try.f6.body.getD .skip) [1, 1, 1, 1, 1, 1, 1, 0, 1, 0, 0, 1, 1, 0, 0, 1, 1, 0, 1, 0, 0, 1, 0]) [0, 0] (kpD lo6 63 0 k)))) = L6_3 O fuel (fun (s1a : Option GA) (s1n : Nat) (s5a : Option GA) (s5n : Nat) (s6 : List UInt8) (s7 : Int) (s8a : Option GA) (s8n : Nat) (s9 : Int) (s10 : List UInt8) (s11 : List UInt8) (s12 : Int) (s24a : Option GA) (s24n : Nat) (s25 : Int) (s26 : Int) (G : GH) => k .normal (mkE 143 [(1, .slice s1a s1n), (5, .slice s5a s5n), (6, .str s6), (7, .int .i64 s7), (8, .slice s8a s8n), (9, .int .i64 s9), (10, .str s10), (11, .str s11), (12, .int .i64 s12), (24, .slice s24a s24n), (25, .int .i64 s25), (26, .int .i64 s26)]) [] G) := by
  funext s1a s1n s5a s5n s6 s7 s8a s8n s9 s10 s11 s12 s24a s24n s25 s26 G
  simp only [L6_3, l6_3_eq, a6_3N_raw]

def l6_2 {R : Type} (O : Ora R) (fuel : Nat) (KN : Option GA → Nat → Option GA → Nat → List UInt8 → Int → Option GA → Nat → Int → List UInt8 → List UInt8 → Int → Option GA → Nat → Int → Int → GH → Option R) : Option GA → Nat → Option GA → Nat → List UInt8 → Int → Option GA → Nat → Int → List UInt8 → List UInt8 → Int → Option GA → Nat → Int → Int → GH → Option R := fun (s1a : Option GA) (s1n : Nat) (s5a : Option GA) (s5n : Nat) (s6 : List UInt8) (s7 : Int) (s8a : Option GA) (s8n : Nat) (s9 : Int) (s10 : List UInt8) (s11 : List UInt8) (s12 : Int) (s24a : Option GA) (s24n : Nat) (s25 : Int) (s26 : Int) G => u6_2 O KN (L6_3 O fuel KN) s1a s1n s5a s5n s6 s7 s8a s8n s9 s10 s11 s12 s24a s24n s25 s26 G

theorem u6_2_raw {R : Type} (O : Ora R) (fuel : Nat) (s1a : Option GA) (s1n : Nat) (s5a : Option GA) (s5n : Nat) (s6 : List UInt8) (s7 : Int) (s8a : Option GA) (s8n : Nat) (s9 : Int) (s10 : List UInt8) (s11 : List UInt8) (s12 : Int) (s24a : Option GA) (s24n : Nat) (s25 : Int) (s26 : Int) (G : GH) (k : Ex → List IV → List (List IV) → GH → Option R) :
  loopD Try.prog O lo6 fuel (nav (Try.f6.body.getD .skip) [1, 1, 1, 1, 1, 1, 1, 0, 1, 0, 0, 1, 1, 0, 0, 1, 1, 0, 1, 0, 0, 1, 0]) 63 (mkE 143 [(1, .slice s1a s1n), (5, .slice s5a s5n), (6, .str s6), (7, .int .i64 s7), (8, .slice s8a s8n), (9, .int .i64 s9), (10, .str s10), (11, .str s11), (12, .int .i64 s12), (24, .slice s24a s24n), (25, .int .i64 s25), (26, .int .i64 s26)]) [] G k =
  u6_2 O (fun (s1a : Option GA) (s1n : Nat) (s5a : Option GA) (s5n : Nat) (s6 : List UInt8) (s7 : Int) (s8a : Option GA) (s8n : Nat) (s9 : Int) (s10 : List UInt8) (s11 : List UInt8) (s12 : Int) (s24a : Option GA) (s24n : Nat) (s25 : Int) (s26 : Int) (G : GH) => k .normal (mkE 143 [(1, .slice s1a s1n), (5, .slice s5a s5n), (6, .str s6), (7, .int .i64 s7), (8, .slice s8a s8n), (9, .int .i64 s9), (10, .str s10), (11, .str s11), (12, .int .i64 s12), (24, .slice s24a s24n), (25, .int .i64 s25), (26, .int .i64 s26)]) [] G) (fun (s1a : Option GA) (s1n : Nat) (s5a : Option GA) (s5n : Nat) (s6 : List UInt8) (s7 : Int) (s8a : Option GA) (s8n : Nat) (s9 : Int) (s10 : List UInt8) (s11 : List UInt8) (s12 : Int) (s24a : Option GA) (s24n : Nat) (s25 : Int) (s26 : Int) (G : GH) => stepN fuel (loopD Try.prog O lo6 fuel (nav (Try.f6.body.getD .skip) [1, 1, 1, 1, 1, 1, 1, 0, 1, 0, 0, 1, 1, 0, 0, 1, 1, 0, 1, 0, 0, 1, 0, 0, 0]) 71 (mkE 143 [(1, .slice s1a s1n), (5, .slice s5a s5n), (6, .str s6), (7, .int .i64 s7), (8, .slice s8a s8n), (9, .int .i64 s9), (10, .str s10), (11, .str s11), (12, .int .i64 s12), (24, .slice s24a s24n), (25, .int .i64 s25), (26, .int .i64 s26)]) [] G (contC Try.prog O lo6 fuel (nav (Try.f6.body.getD .skip) [1, 1, 1, 1, 1, 1, 1, 0, 1, 0, 0, 1, 1, 0, 0, 1, 1, 0, 1, 0, 0, 1, 0]) [0, 0] (kpD lo6 63 0 k)))) s1a s1n s5a s5n s6 s7 s8a s8n s9 s10 s11 s12 s24a s24n s25 s26 G := by kernel_rfl

theorem l6_2_eq {R : Type} (O : Ora R) (fuel : Nat) (k : Ex → List IV → List (List IV) → GH → Option R) : ∀ (s1a : Option GA) (s1n : Nat) (s5a : Option GA) (s5n : Nat) (s6 : List UInt8) (s7 : Int) (s8a : Option GA) (s8n : Nat) (s9 : Int) (s10 : List UInt8) (s11 : List UInt8) (s12 : Int) (s24a : Option GA) (s24n : Nat) (s25 : Int) (s26 : Int) (G : GH),
  loopD Try.prog O lo6 fuel (nav (Try.f6.body.getD .skip) [1, 1, 1, 1, 1, 1, 1, 0, 1, 0, 0, 1, 1, 0, 0, 1, 1, 0, 1, 0, 0, 1, 0]) 63 (mkE 143 [(1, .slice s1a s1n), (5, .slice s5a s5n), (6, .str s6), (7, .int .i64 s7), (8, .slice s8a s8n), (9, .int .i64 s9), (10, .str s10), (11, .str s11), (12, .int .i64 s12), (24, .slice s24a s24n), (25, .int .i64 s25), (26, .int .i64 s26)]) [] G k = l6_2 O fuel (fun (s1a : Option GA) (s1n : Nat) (s5a : Option GA) (s5n : Nat) (s6 : List UInt8) (s7 : Int) (s8a : Option GA) (s8n : Nat) (s9 : Int) (s10 : List UInt8) (s11 : List UInt8) (s12 : Int) (s24a : Option GA) (s24n : Nat) (s25 : Int) (s26 : Int) (G : GH) => k .normal (mkE 143 [(1, .slice s1a s1n), (5, .slice s5a s5n), (6, .str s6), (7, .int .i64 s7), (8, .slice s8a s8n), (9, .int .i64 s9), (10, .str s10), (11, .str s11), (12, .int .i64 s12), (24, .slice s24a s24n), (25, .int .i64 s25), (26, .int .i64 s26)]) [] G) s1a s1n s5a s5n s6 s7 s8a s8n s9 s10 s11 s12 s24a s24n s25 s26 G := by
  intros
  rw [u6_2_raw]
  simp only [l6_2, L6_3_eq]

def u6_1 {R : Type} (O : Ora R) (KN : Option GA → Nat → Option GA → Nat → List UInt8 → Int → Option GA → Nat → Int → List UInt8 → List UInt8 → Int → Option GA → Nat → Int → Int → GH → Option R) (K2 : Option GA → Nat → Option GA → Nat → List UInt8 → Int → Option GA → Nat → Int → List UInt8 → List UInt8 → Option GA → Nat → Int → Int → GH → Option R) (L2 : Option GA → Nat → Option GA → Nat → List UInt8 → Int → Option GA → Nat → Int → List UInt8 → List UInt8 → Int → Option GA → Nat → Int → Int → GH → Option R) (s1a : Option GA) (s1n : Nat) (s5a : Option GA) (s5n : Nat) (s6 : List UInt8) (s7 : Int) (s8a : Option GA) (s8n : Nat) (s9 : Int) (s10 : List UInt8) (s11 : List UInt8) (s12 : Int) (s24a : Option GA) (s24n : Nat) (s25 : Int) (s26 : Int) (G : GH) : Option R :=
  bif (decide (s12 < (s10.length : Int))) then
  L2 s1a s1n s5a s5n s6 s7 s8a s8n s9 s10 s11 s12 s24a s24n s25 s26 G
  else
  K2 s1a s1n s5a s5n s6 s7 s8a s8n s9 s10 s11 s24a s24n s25 s26 G

def a6_2N {R : Type} (O : Ora R) (KN : Option GA → Nat → Option GA → Nat → List UInt8 → Int → Option GA → Nat → Int → List UInt8 → List UInt8 → Int → Option GA → Nat → Int → Int → GH → Option R) (K2 : Option GA → Nat → Option GA → Nat → List UInt8 → Int → Option GA → Nat → Int → List UInt8 → List UInt8 → Option GA → Nat → Int → Int → GH → Option R) (s1a : Option GA) (s1n : Nat) (s5a : Option GA) (s5n : Nat) (s6 : List UInt8) (s7 : Int) (s8a : Option GA) (s8n : Nat) (s9 : Int) (s10 : List UInt8) (s11 : List UInt8) (s12 : Int) (s24a : Option GA) (s24n : Nat) (s25 : Int) (s26 : Int) (G : GH) : Option R :=
  KN s1a s1n s5a s5n s6 s7 s8a s8n s9 s10 s11 (IntKind.wrap .i64 (s12 + (1 : Int))) s24a s24n s25 s26 G

def L6_2 {R : Type} (O : Ora R) (fuel : Nat) (KN : Option GA → Nat → Option GA → Nat → List UInt8 → Int → Option GA → Nat → Int → List UInt8 → List UInt8 → Int → Option GA → Nat → Int → Int → GH → Option R) (K2 : Option GA → Nat → Option GA → Nat → List UInt8 → Int → Option GA → Nat → Int → List UInt8 → List UInt8 → Option GA → Nat → Int → Int → GH → Option R) : Option GA → Nat → Option GA → Nat → List UInt8 → Int → Option GA → Nat → Int → List UInt8 → List UInt8 → Int → Option GA → Nat → Int → Int → GH → Option R := fun (s1a : Option GA) (s1n : Nat) (s5a : Option GA) (s5n : Nat) (s6 : List UInt8) (s7 : Int) (s8a : Option GA) (s8n : Nat) (s9 : Int) (s10 : List UInt8) (s11 : List UInt8) (s12 : Int) (s24a : Option GA) (s24n : Nat) (s25 : Int) (s26 : Int) G =>
  stepN fuel (l6_2 O fuel (a6_2N O KN K2) s1a s1n s5a s5n s6 s7 s8a s8n s9 s10 s11 s12 s24a s24n s25 s26 G)

theorem a6_2N_raw {R : Type} (O : Ora R) (fuel : Nat) (s1a : Option GA) (s1n : Nat) (s5a : Option GA) (s5n : Nat) (s6 : List UInt8) (s7 : Int) (s8a : Option GA) (s8n : Nat) (s9 : Int) (s10 : List UInt8) (s11 : List UInt8) (s12 : Int) (s24a : Option GA) (s24n : Nat) (s25 : Int) (s26 : Int) (G : GH) (k : Ex → List IV → List (List IV) → GH → Option R) :
  contC Try.prog O lo6 fuel (nav (Try.f6.body.getD .skip) [1, 1, 1, 1, 1, 1, 1, 0, 1, 0, 0, 1, 1, 0, 0, 1, 1, 0, 1, 0, 0]) [1, 0] (kpD lo6 56 0 k) .normal (mkE 143 [(1, .slice s1a s1n), (5, .slice s5a s5n), (6, .str s6), (7, .int .i64 s7), (8, .slice s8a s8n), (9, .int .i64 s9), (10, .str s10), (11, .str s11), (12, .int .i64 s12), (24, .slice s24a s24n), (25, .int .i64 s25), (26, .int .i64 s26)]) [] G =
  a6_2N O (fun (s1a : Option GA) (s1n : Nat) (s5a : Option GA) (s5n : Nat) (s6 : List UInt8) (s7 : Int) (s8a : Option GA) (s8n : Nat) (s9 : Int) (s10 : List UInt8) (s11 : List UInt8) (s12 : Int) (s24a : Option GA) (s24n : Nat) (s25 : Int) (s26 : Int) (G : GH) => k .normal (mkE 143 [(1, .slice s1a s1n), (5, .slice s5a s5n), (6, .str s6), (7, .int .i64 s7), (8, .slice s8a s8n), (9, .int .i64 s9), (10, .str s10), (11, .str s11), (12, .int .i64 s12), (24, .slice s24a s24n), (25, .int .i64 s25), (26, .int .i64 s26)]) [] G) (fun (s1a : Option GA) (s1n : Nat) (s5a : Option GA) (s5n : Nat) (s6 : List UInt8) (s7 : Int) (s8a : Option GA) (s8n : Nat) (s9 : Int) (s10 : List UInt8) (s11 : List UInt8) (s24a : Option GA) (s24n : Nat) (s25 : Int) (s26 : Int) (G : GH) => k (.exit 2) (mkE 143 [(1, .slice s1a s1n), (5, .slice s5a s5n), (6, .str s6), (7, .int .i64 s7), (8, .slice s8a s8n), (9, .int .i64 s9), (10, .str s10), (11, .str s11), (24, .slice s24a s24n), (25, .int .i64 s25), (26, .int .i64 s26)]) [] G) s1a s1n s5a s5n s6 s7 s8a s8n s9 s10 s11 s12 s24a s24n s25 s26 G := by kernel_rfl

theorem L6_2_eq {R : Type} (O : Ora R) (fuel : Nat) (k : Ex → List IV → List (List IV) → GH → Option R) :
  (fun (s1a : Option GA) (s1n : Nat) (s5a : Option GA) (s5n : Nat) (s6 : List UInt8) (s7 : Int) (s8a : Option GA) (s8n : Nat) (s9 : Int) (s10 : List UInt8) (s11 : List UInt8) (s12 : Int) (s24a : Option GA) (s24n : Nat) (s25 : Int) (s26 : Int) (G : GH) => stepN fuel (loopD Try.prog O lo6 fuel (nav (Try.f6.body.getD .skip) [1, 1, 1, 1, 1, 1, 1, 0, 1, 0, 0, 1, 1, 0, 0, 1, 1, 0, 1, 0, 0, 1, 0]) 63 (mkE 143 [(1, .slice s1a s1n), (5, .slice s5a s5n), (6, .str s6), (7, .int .i64 s7), (8, .slice s8a s8n), (9, .int .i64 s9), (10, .str s10), (11, .str s11), (12, .int .i64 s12), (24, .slice s24a s24n), (25, .int .i64 s25), (26, .int .i64 s26)]) [] G (contC Try.prog O lo6 fuel (nav (Try.f6.body.getD .skip) [1, 1, 1, 1, 1, 1, 1, 0, 1, 0, 0, 1, 1, 0, 0, 1, 1, 0, 1, 0, 0]) [1, 0] (kpD lo6 56 0 k)))) = L6_2 O fuel (fun (s1a : Option GA) (s1n : Nat) (s5a : Option GA) (s5n : Nat) (s6 : List UInt8) (s7 : Int) (s8a : Option GA) (s8n : Nat) (s9 : Int) (s10 : List UInt8) (s11 : List UInt8) (s12 : Int) (s24a : Option GA) (s24n : Nat) (s25 : Int) (s26 : Int) (G : GH) => k .normal (mkE 143 [(1, .slice s1a s1n), (5, .slice s5a s5n), (6, .str s6), (7, .int .i64 s7), (8, .slice s8a s8n), (9, .int .i64 s9), (10, .str s10), (11, .str s11), (12, .int .i64 s12), (24, .slice s24a s24n), (25, .int .i64 s25), (26, .int .i64 s26)]) [] G) (fun (s1a : Option GA) (s1n : Nat) (s5a : Option GA) (s5n : Nat) (s6 : List UInt8) (s7 : Int) (s8a : Option GA) (s8n : Nat) (s9 : Int) (s10 : List UInt8) (s11 : List UInt8) (s24a : Option GA) (s24n : Nat) (s25 : Int) (s26 : Int) (G : GH) => k (.exit 2) (mkE 143 [(1, .slice s1a s1n), (5, .slice s5a s5n), (6, .str s6), (7, .int .i64 s7), (8, .slice s8a s8n), (9, .int .i64 s9), (10, .str s10), (11, .str s11), (24, .slice s24a s24n), (25, .int .i64 s25), (26, .int .i64 s26)]) [] G) := by
  funext s1a s1n s5a s5n s6 s7 s8a s8n s9 s10 s11 s12 s24a s24n s25 s26 G
  simp only [L6_2, l6_2_eq, a6_2N_raw]

def l6_1 {R : Type} (O : Ora R) (fuel : Nat) (K2 : Option GA → Nat → Option GA → Nat → List UInt8 → Int → Option GA → Nat → Int → List UInt8 → List UInt8 → Option GA → Nat → Int → Int → GH → Option R) : Nat → Option GA → Nat → Option GA → Nat → List UInt8 → Int → Option GA → Nat → Int → List UInt8 → List UInt8 → Int → Option GA → Nat → Int → Int → GH → Option R
  | 0, _, _, _, _, _, _, _, _, _, _, _, _, _, _, _, _, _ => none
  | n + 1, s1a, s1n, s5a, s5n, s6, s7, s8a, s8n, s9, s10, s11, s12, s24a, s24n, s25, s26, G => u6_1 O (l6_1 O fuel K2 n) K2 (L6_2 O fuel (l6_1 O fuel K2 n) K2) s1a s1n s5a s5n s6 s7 s8a s8n s9 s10 s11 s12 s24a s24n s25 s26 G

theorem u6_1_raw {R : Type} (O : Ora R) (fuel : Nat) (s1a : Option GA) (s1n : Nat) (s5a : Option GA) (s5n : Nat) (s6 : List UInt8) (s7 : Int) (s8a : Option GA) (s8n : Nat) (s9 : Int) (s10 : List UInt8) (s11 : List UInt8) (s12 : Int) (s24a : Option GA) (s24n : Nat) (s25 : Int) (s26 : Int) (G : GH) (k : Ex → List IV → List (List IV) → GH → Option R) :
  loopD Try.prog O lo6 fuel (nav (Try.f6.body.getD .skip) [1, 1, 1, 1, 1, 1, 1, 0, 1, 0, 0, 1, 1, 0, 0, 1, 1, 0, 1, 0, 0]) 56 (mkE 143 [(1, .slice s1a s1n), (5, .slice s5a s5n), (6, .str s6), (7, .int .i64 s7), (8, .slice s8a s8n), (9, .int .i64 s9), (10, .str s10), (11, .str s11), (12, .int .i64 s12), (24, .slice s24a s24n), (25, .int .i64 s25), (26, .int .i64 s26)]) [] G k =
  u6_1 O (fun (s1a : Option GA) (s1n : Nat) (s5a : Option GA) (s5n : Nat) (s6 : List UInt8) (s7 : Int) (s8a : Option GA) (s8n : Nat) (s9 : Int) (s10 : List UInt8) (s11 : List UInt8) (s12 : Int) (s24a : Option GA) (s24n : Nat) (s25 : Int) (s26 : Int) (G : GH) => k .normal (mkE 143 [(1, .slice s1a s1n), (5, .slice s5a s5n), (6, .str s6), (7, .int .i64 s7), (8, .slice s8a s8n), (9, .int .i64 s9), (10, .str s10), (11, .str s11), (12, .int .i64 s12), (24, .slice s24a s24n), (25, .int .i64 s25), (26, .int .i64 s26)]) [] G) (fun (s1a : Option GA) (s1n : Nat) (s5a : Option GA) (s5n : Nat) (s6 : List UInt8) (s7 : Int) (s8a : Option GA) (s8n : Nat) (s9 : Int) (s10 : List UInt8) (s11 : List UInt8) (s24a : Option GA) (s24n : Nat) (s25 : Int) (s26 : Int) (G : GH) => k (.exit 2) (mkE 143 [(1, .slice s1a s1n), (5, .slice s5a s5n), (6, .str s6), (7, .int .i64 s7), (8, .slice s8a s8n), (9, .int .i64 s9), (10, .str s10), (11, .str s11), (24, .slice s24a s24n), (25, .int .i64 s25), (26, .int .i64 s26)]) [] G) (fun (s1a : Option GA) (s1n : Nat) (s5a : Option GA) (s5n : Nat) (s6 : List UInt8) (s7 : Int) (s8a : Option GA) (s8n : Nat) (s9 : Int) (s10 : List UInt8) (s11 : List UInt8) (s12 : Int) (s24a : Option GA) (s24n : Nat) (s25 : Int) (s26 : Int) (G : GH) => stepN fuel (loopD Try.prog O lo6 fuel (nav (Try.f6.body.getD .skip) [1, 1, 1, 1, 1, 1, 1, 0, 1, 0, 0, 1, 1, 0, 0, 1, 1, 0, 1, 0, 0, 1, 0]) 63 (mkE 143 [(1, .slice s1a s1n), (5, .slice s5a s5n), (6, .str s6), (7, .int .i64 s7), (8, .slice s8a s8n), (9, .int .i64 s9), (10, .str s10), (11, .str s11), (12, .int .i64 s12), (24, .slice s24a s24n), (25, .int .i64 s25), (26, .int .i64 s26)]) [] G (contC Try.prog O lo6 fuel (nav (Try.f6.body.getD .skip) [1, 1, 1, 1, 1, 1, 1, 0, 1, 0, 0, 1, 1, 0, 0, 1, 1, 0, 1, 0, 0]) [1, 0] (kpD lo6 56 0 k)))) s1a s1n s5a s5n s6 s7 s8a s8n s9 s10 s11 s12 s24a s24n s25 s26 G := by kernel_rfl

theorem l6_1_eq {R : Type} (O : Ora R) (fuel : Nat) (k : Ex → List IV → List (List IV) → GH → Option R) : ∀ (n : Nat) (s1a : Option GA) (s1n : Nat) (s5a : Option GA) (s5n : Nat) (s6 : List UInt8) (s7 : Int) (s8a : Option GA) (s8n : Nat) (s9 : Int) (s10 : List UInt8) (s11 : List UInt8) (s12 : Int) (s24a : Option GA) (s24n : Nat) (s25 : Int) (s26 : Int) (G : GH),
  loopN (loopD Try.prog O lo6 fuel (nav (Try.f6.body.getD .skip) [1, 1, 1, 1, 1, 1, 1, 0, 1, 0, 0, 1, 1, 0, 0, 1, 1, 0, 1, 0, 0]) 56) n (mkE 143 [(1, .slice s1a s1n), (5, .slice s5a s5n), (6, .str s6), (7, .int .i64 s7), (8, .slice s8a s8n), (9, .int .i64 s9), (10, .str s10), (11, .str s11), (12, .int .i64 s12), (24, .slice s24a s24n), (25, .int .i64 s25), (26, .int .i64 s26)]) [] G k = l6_1 O fuel (fun (s1a : Option GA) (s1n : Nat) (s5a : Option GA) (s5n : Nat) (s6 : List UInt8) (s7 : Int) (s8a : Option GA) (s8n : Nat) (s9 : Int) (s10 : List UInt8) (s11 : List UInt8) (s24a : Option GA) (s24n : Nat) (s25 : Int) (s26 : Int) (G : GH) => k (.exit 2) (mkE 143 [(1, .slice s1a s1n), (5, .slice s5a s5n), (6, .str s6), (7, .int .i64 s7), (8, .slice s8a s8n), (9, .int .i64 s9), (10, .str s10), (11, .str s11), (24, .slice s24a s24n), (25, .int .i64 s25), (26, .int .i64 s26)]) [] G) n s1a s1n s5a s5n s6 s7 s8a s8n s9 s10 s11 s12 s24a s24n s25 s26 G := by
  intro n
  induction n with
  | zero => intros; rfl
  | succ n ih =>
    intros
    rw [loopN_succ, u6_1_raw]
    simp only [l6_1, loopK_normal, loopK_exit, loopK_ret, ih, L6_2_eq]

def u6_4 {R : Type} (O : Ora R) (KN : Option GA → Nat → Option GA → Nat → List UInt8 → Int → Option GA → Nat → List UInt8 → List UInt8 → List UInt8 → Option GA → Nat → Int → Int → GH → Option R) (s1a : Option GA) (s1n : Nat) (s5a : Option GA) (s5n : Nat) (s6 : List UInt8) (s7 : Int) (s8a : Option GA) (s8n : Nat) (s9 : Int) (s10 : List UInt8) (s11 : List UInt8) (s13 : List UInt8) (s24a : Option GA) (s24n : Nat) (s25 : Int) (s26 : Int) (G : GH) : Option R :=
  bif (decide ((s1n : Int) > (0 : Int))) then
  bif (s1n : Int) == 0 then none else
  (idx? s1a s1n (Int.tmod s9 (s1n : Int)) 1).bind fun a1 =>
  (ldInt G .i64 a1).bind fun x2 =>
  (idx? s5a s5n (IntKind.wrap .i64 (Int.tmod (IntKind.wrap .u64 x2) (5 : Int))) 1).bind fun a3 =>
  (ldStr G a3).bind fun x4 =>
  KN s1a s1n s5a s5n s6 s7 s8a s8n s10 s11 x4 s24a s24n s25 s26 G
  else
  KN s1a s1n s5a s5n s6 s7 s8a s8n s10 s11 s13 s24a s24n s25 s26 G

def l6_4 {R : Type} (O : Ora R) (KN : Option GA → Nat → Option GA → Nat → List UInt8 → Int → Option GA → Nat → List UInt8 → List UInt8 → List UInt8 → Option GA → Nat → Int → Int → GH → Option R) : Option GA → Nat → Option GA → Nat → List UInt8 → Int → Option GA → Nat → Int → List UInt8 → List UInt8 → List UInt8 → Option GA → Nat → Int → Int → GH → Option R := fun (s1a : Option GA) (s1n : Nat) (s5a : Option GA) (s5n : Nat) (s6 : List UInt8) (s7 : Int) (s8a : Option GA) (s8n : Nat) (s9 : Int) (s10 : List UInt8) (s11 : List UInt8) (s13 : List UInt8) (s24a : Option GA) (s24n : Nat) (s25 : Int) (s26 : Int) G => u6_4 O KN s1a s1n s5a s5n s6 s7 s8a s8n s9 s10 s11 s13 s24a s24n s25 s26 G

theorem u6_4_raw {R : Type} (O : Ora R) (fuel : Nat) (s1a : Option GA) (s1n : Nat) (s5a : Option GA) (s5n : Nat) (s6 : List UInt8) (s7 : Int) (s8a : Option GA) (s8n : Nat) (s9 : Int) (s10 : List UInt8) (s11 : List UInt8) (s13 : List UInt8) (s24a : Option GA) (s24n : Nat) (s25 : Int) (s26 : Int) (G : GH) (k : Ex → List IV → List (List IV) → GH → Option R) :
  loopD Try.prog O lo6 fuel (nav (Try.f6.body.getD .skip) [1, 1, 1, 1, 1, 1, 1, 0, 1, 0, 0, 1, 1, 0, 0, 1, 1, 1, 1, 0]) 87 (mkE 143 [(1, .slice s1a s1n), (5, .slice s5a s5n), (6, .str s6), (7, .int .i64 s7), (8, .slice s8a s8n), (9, .int .i64 s9), (10, .str s10), (11, .str s11), (13, .str s13), (24, .slice s24a s24n), (25, .int .i64 s25), (26, .int .i64 s26)]) [] G k =
  u6_4 O (fun (s1a : Option GA) (s1n : Nat) (s5a : Option GA) (s5n : Nat) (s6 : List UInt8) (s7 : Int) (s8a : Option GA) (s8n : Nat) (s10 : List UInt8) (s11 : List UInt8) (s13 : List UInt8) (s24a : Option GA) (s24n : Nat) (s25 : Int) (s26 : Int) (G : GH) => k .normal (mkE 143 [(1, .slice s1a s1n), (5, .slice s5a s5n), (6, .str s6), (7, .int .i64 s7), (8, .slice s8a s8n), (10, .str s10), (11, .str s11), (13, .str s13), (24, .slice s24a s24n), (25, .int .i64 s25), (26, .int .i64 s26)]) [] G) s1a s1n s5a s5n s6 s7 s8a s8n s9 s10 s11 s13 s24a s24n s25 s26 G := by kernel_rfl

theorem l6_4_eq {R : Type} (O : Ora R) (fuel : Nat) (k : Ex → List IV → List (List IV) → GH → Option R) : ∀ (s1a : Option GA) (s1n : Nat) (s5a : Option GA) (s5n : Nat) (s6 : List UInt8) (s7 : Int) (s8a : Option GA) (s8n : Nat) (s9 : Int) (s10 : List UInt8) (s11 : List UInt8) (s13 : List UInt8) (s24a : Option GA) (s24n : Nat) (s25 : Int) (s26 : Int) (G : GH),
  loopD Try.prog O lo6 fuel (nav (Try.f6.body.getD .skip) [1, 1, 1, 1, 1, 1, 1, 0, 1, 0, 0, 1, 1, 0, 0, 1, 1, 1, 1, 0]) 87 (mkE 143 [(1, .slice s1a s1n), (5, .slice s5a s5n), (6, .str s6), (7, .int .i64 s7), (8, .slice s8a s8n), (9, .int .i64 s9), (10, .str s10), (11, .str s11), (13, .str s13), (24, .slice s24a s24n), (25, .int .i64 s25), (26, .int .i64 s26)]) [] G k = l6_4 O (fun (s1a : Option GA) (s1n : Nat) (s5a : Option GA) (s5n : Nat) (s6 : List UInt8) (s7 : Int) (s8a : Option GA) (s8n : Nat) (s10 : List UInt8) (s11 : List UInt8) (s13 : List UInt8) (s24a : Option GA) (s24n : Nat) (s25 : Int) (s26 : Int) (G : GH) => k .normal (mkE 143 [(1, .slice s1a s1n), (5, .slice s5a s5n), (6, .str s6), (7, .int .i64 s7), (8, .slice s8a s8n), (10, .str s10), (11, .str s11), (13, .str s13), (24, .slice s24a s24n), (25, .int .i64 s25), (26, .int .i64 s26)]) [] G) s1a s1n s5a s5n s6 s7 s8a s8n s9 s10 s11 s13 s24a s24n s25 s26 G := by
  intros
  rw [u6_4_raw]
  simp only [l6_4]

def u6_5 {R : Type} (O : Ora R) (KN : Option GA → Nat → Option GA → Nat → List UInt8 → Int → Option GA → Nat → List UInt8 → Option GA → Nat → Int → Int → Bool → GH → Option R) (s1a : Option GA) (s1n : Nat) (s5a : Option GA) (s5n : Nat) (s6 : List UInt8) (s7 : Int) (s8a : Option GA) (s8n : Nat) (s10 : List UInt8) (s11 : List UInt8) (s24a : Option GA) (s24n : Nat) (s25 : Int) (s26 : Int) (G : GH) : Option R :=
  bif (s11 == ([] : List UInt8)) then
  KN s1a s1n s5a s5n s6 s7 s8a s8n s11 s24a s24n s25 s26 true G
  else
  KN s1a s1n s5a s5n s6 s7 s8a s8n s11 s24a s24n s25 s26 ((Int.tmod (s10.length : Int) (2 : Int)) == (0 : Int)) G

def l6_5 {R : Type} (O : Ora R) (KN : Option GA → Nat → Option GA → Nat → List UInt8 → Int → Option GA → Nat → List UInt8 → Option GA → Nat → Int → Int → Bool → GH → Option R) : Option GA → Nat → Option GA → Nat → List UInt8 → Int → Option GA → Nat → List UInt8 → List UInt8 → Option GA → Nat → Int → Int → GH → Option R := fun (s1a : Option GA) (s1n : Nat) (s5a : Option GA) (s5n : Nat) (s6 : List UInt8) (s7 : Int) (s8a : Option GA) (s8n : Nat) (s10 : List UInt8) (s11 : List UInt8) (s24a : Option GA) (s24n : Nat) (s25 : Int) (s26 : Int) G => u6_5 O KN s1a s1n s5a s5n s6 s7 s8a s8n s10 s11 s24a s24n s25 s26 G

theorem u6_5_raw {R : Type} (O : Ora R) (fuel : Nat) (s1a : Option GA) (s1n : Nat) (s5a : Option GA) (s5n : Nat) (s6 : List UInt8) (s7 : Int) (s8a : Option GA) (s8n : Nat) (s10 : List UInt8) (s11 : List UInt8) (s24a : Option GA) (s24n : Nat) (s25 : Int) (s26 : Int) (G : GH) (k : Ex → List IV → List (List IV) → GH → Option R) :
  loopD Try.prog O lo6 fuel (nav (Try.f6.body.getD .skip) [1, 1, 1, 1, 1, 1, 1, 0, 1, 0, 0, 1, 1, 0, 0, 1, 1, 1, 1, 1, 1, 0, 0]) 95 (mkE 143 [(1, .slice s1a s1n), (5, .slice s5a s5n), (6, .str s6), (7, .int .i64 s7), (8, .slice s8a s8n), (10, .str s10), (11, .str s11), (24, .slice s24a s24n), (25, .int .i64 s25), (26, .int .i64 s26)]) [] G k =
  u6_5 O (fun (s1a : Option GA) (s1n : Nat) (s5a : Option GA) (s5n : Nat) (s6 : List UInt8) (s7 : Int) (s8a : Option GA) (s8n : Nat) (s11 : List UInt8) (s24a : Option GA) (s24n : Nat) (s25 : Int) (s26 : Int) (s87 : Bool) (G : GH) => k .normal (mkE 143 [(1, .slice s1a s1n), (5, .slice s5a s5n), (6, .str s6), (7, .int .i64 s7), (8, .slice s8a s8n), (11, .str s11), (24, .slice s24a s24n), (25, .int .i64 s25), (26, .int .i64 s26), (87, .bool s87)]) [] G) s1a s1n s5a s5n s6 s7 s8a s8n s10 s11 s24a s24n s25 s26 G := by kernel_rfl

theorem l6_5_eq {R : Type} (O : Ora R) (fuel : Nat) (k : Ex → List IV → List (List IV) → GH → Option R) : ∀ (s1a : Option GA) (s1n : Nat) (s5a : Option GA) (s5n : Nat) (s6 : List UInt8) (s7 : Int) (s8a : Option GA) (s8n : Nat) (s10 : List UInt8) (s11 : List UInt8) (s24a : Option GA) (s24n : Nat) (s25 : Int) (s26 : Int) (G : GH),
  loopD Try.prog O lo6 fuel (nav (Try.f6.body.getD .skip) [1, 1, 1, 1, 1, 1, 1, 0, 1, 0, 0, 1, 1, 0, 0, 1, 1, 1, 1, 1, 1, 0, 0]) 95 (mkE 143 [(1, .slice s1a s1n), (5, .slice s5a s5n), (6, .str s6), (7, .int .i64 s7), (8, .slice s8a s8n), (10, .str s10), (11, .str s11), (24, .slice s24a s24n), (25, .int .i64 s25), (26, .int .i64 s26)]) [] G k = l6_5 O (fun (s1a : Option GA) (s1n : Nat) (s5a : Option GA) (s5n : Nat) (s6 : List UInt8) (s7 : Int) (s8a : Option GA) (s8n : Nat) (s11 : List UInt8) (s24a : Option GA) (s24n : Nat) (s25 : Int) (s26 : Int) (s87 : Bool) (G : GH) => k .normal (mkE 143 [(1, .slice s1a s1n), (5, .slice s5a s5n), (6, .str s6), (7, .int .i64 s7), (8, .slice s8a s8n), (11, .str s11), (24, .slice s24a s24n), (25, .int .i64 s25), (26, .int .i64 s26), (87, .bool s87)]) [] G) s1a s1n s5a s5n s6 s7 s8a s8n s10 s11 s24a s24n s25 s26 G := by
  intros
  rw [u6_5_raw]
  simp only [l6_5]

def u6_0 {R : Type} (O : Ora R) (KN : Option GA → Nat → Option GA → Nat → List UInt8 → Int → Option GA → Nat → Option GA → Nat → Int → Int → GH → Option R) (K0 : List UInt8 → Option GA → Nat → GH → Option R) (L1 : Option GA → Nat → Option GA → Nat → List UInt8 → Int → Option GA → Nat → Int → List UInt8 → List UInt8 → Int → Option GA → Nat → Int → Int → GH → Option R) (s1a : Option GA) (s1n : Nat) (s5a : Option GA) (s5n : Nat) (s6 : List UInt8) (s7 : Int) (s8a : Option GA) (s8n : Nat) (s24a : Option GA) (s24n : Nat) (s25 : Int) (s26 : Int) (G : GH) : Option R :=
  bif (decide (s26 < s25)) then
  (idx? s24a s24n s26 1).bind fun a1 =>
  (ldStr G a1).bind fun x2 =>
  L1 s1a s1n s5a s5n s6 s7 s8a s8n s26 x2 ([] : List UInt8) (0 : Int) s24a s24n s25 s26 G
  else
  K0 s6 s8a s8n G

def a6_12 {R : Type} (O : Ora R) (KN : Option GA → Nat → Option GA → Nat → List UInt8 → Int → Option GA → Nat → Option GA → Nat → Int → Int → GH → Option R) (K0 : List UInt8 → Option GA → Nat → GH → Option R) (L4 : Option GA → Nat → Option GA → Nat → List UInt8 → Int → Option GA → Nat → Int → List UInt8 → List UInt8 → List UInt8 → Option GA → Nat → Int → Int → GH → Option R) (s1a : Option GA) (s1n : Nat) (s5a : Option GA) (s5n : Nat) (s6 : List UInt8) (s7 : Int) (s8a : Option GA) (s8n : Nat) (s9 : Int) (s10 : List UInt8) (s11 : List UInt8) (s24a : Option GA) (s24n : Nat) (s25 : Int) (s26 : Int) (G : GH) : Option R :=
  (idx? s5a s5n (0 : Int) 1).bind fun a1 =>
  (ldStr G a1).bind fun x2 =>
  L4 s1a s1n s5a s5n s6 s7 s8a s8n s9 s10 s11 x2 s24a s24n s25 s26 G

def a6_4N {R : Type} (O : Ora R) (KN : Option GA → Nat → Option GA → Nat → List UInt8 → Int → Option GA → Nat → Option GA → Nat → Int → Int → GH → Option R) (K0 : List UInt8 → Option GA → Nat → GH → Option R) (L5 : Option GA → Nat → Option GA → Nat → List UInt8 → Int → Option GA → Nat → List UInt8 → List UInt8 → Option GA → Nat → Int → Int → GH → Option R) (s1a : Option GA) (s1n : Nat) (s5a : Option GA) (s5n : Nat) (s6 : List UInt8) (s7 : Int) (s8a : Option GA) (s8n : Nat) (s10 : List UInt8) (s11 : List UInt8) (s13 : List UInt8) (s24a : Option GA) (s24n : Nat) (s25 : Int) (s26 : Int) (G : GH) : Option R :=
  bif decide (s6.length + s13.length ≤ roomS) then
  O 19 [.str s13, .str ([10] : List UInt8)] G fun v1 G2 =>
  (ivInt .i64 v1).bind fun x3 =>
  L5 s1a s1n s5a s5n (s6 ++ s13) (IntKind.wrap .i64 (s7 + x3)) s8a s8n s10 s11 s24a s24n s25 s26 G2
  else none

def a6_5N {R : Type} (O : Ora R) (KN : Option GA → Nat → Option GA → Nat → List UInt8 → Int → Option GA → Nat → Option GA → Nat → Int → Int → GH → Option R) (K0 : List UInt8 → Option GA → Nat → GH → Option R) (s1a : Option GA) (s1n : Nat) (s5a : Option GA) (s5n : Nat) (s6 : List UInt8) (s7 : Int) (s8a : Option GA) (s8n : Nat) (s11 : List UInt8) (s24a : Option GA) (s24n : Nat) (s25 : Int) (s26 : Int) (s87 : Bool) (G : GH) : Option R :=
  bif s87 then
  bif decide (s6.length + ([34] : List UInt8).length ≤ roomS) then
  bif decide ((s6 ++ ([34] : List UInt8)).length + s11.length ≤ roomS) then
  bif decide (((s6 ++ ([34] : List UInt8)) ++ s11).length + ([34] : List UInt8).length ≤ roomS) then
  (grd (gnew G [.int .i64 (3 : Int), .str s11, .float .f64 (0 : Nat), .int .i64 s7] 32) (gaddr G) (1 * 4)).bind fun x1 =>
  (gappend (gnew G [.int .i64 (3 : Int), .str s11, .float .f64 (0 : Nat), .int .i64 s7] 32) 32 4 40 s8a s8n x1 1).bind fun r2 =>
  KN s1a s1n s5a s5n (((s6 ++ ([34] : List UInt8)) ++ s11) ++ ([34] : List UInt8)) s7 r2.1 (s8n + 1) s24a s24n s25 (IntKind.wrap .i64 (s26 + (1 : Int))) r2.2
  else none
  else none
  else none
  else
  bif decide (s6.length + s11.length ≤ roomS) then
  (grd (gnew G [.int .i64 (1 : Int), .str s11, .float .f64 (0 : Nat), .int .i64 s7] 32) (gaddr G) (1 * 4)).bind fun x3 =>
  (gappend (gnew G [.int .i64 (1 : Int), .str s11, .float .f64 (0 : Nat), .int .i64 s7] 32) 32 4 40 s8a s8n x3 1).bind fun r4 =>
  KN s1a s1n s5a s5n (s6 ++ s11) s7 r4.1 (s8n + 1) s24a s24n s25 (IntKind.wrap .i64 (s26 + (1 : Int))) r4.2
  else none

def L6_5 {R : Type} (O : Ora R) (fuel : Nat) (KN : Option GA → Nat → Option GA → Nat → List UInt8 → Int → Option GA → Nat → Option GA → Nat → Int → Int → GH → Option R) (K0 : List UInt8 → Option GA → Nat → GH → Option R) : Option GA → Nat → Option GA → Nat → List UInt8 → Int → Option GA → Nat → List UInt8 → List UInt8 → Option GA → Nat → Int → Int → GH → Option R := fun (s1a : Option GA) (s1n : Nat) (s5a : Option GA) (s5n : Nat) (s6 : List UInt8) (s7 : Int) (s8a : Option GA) (s8n : Nat) (s10 : List UInt8) (s11 : List UInt8) (s24a : Option GA) (s24n : Nat) (s25 : Int) (s26 : Int) G =>
  stepN fuel (l6_5 O (a6_5N O KN K0) s1a s1n s5a s5n s6 s7 s8a s8n s10 s11 s24a s24n s25 s26 G)

theorem a6_5N_raw {R : Type} (O : Ora R) (fuel : Nat) (s1a : Option GA) (s1n : Nat) (s5a : Option GA) (s5n : Nat) (s6 : List UInt8) (s7 : Int) (s8a : Option GA) (s8n : Nat) (s11 : List UInt8) (s24a : Option GA) (s24n : Nat) (s25 : Int) (s26 : Int) (s87 : Bool) (G : GH) (k : Ex → List IV → List (List IV) → GH → Option R) :
  contC Try.prog O lo6 fuel (nav (Try.f6.body.getD .skip) [1, 1, 1, 1, 1, 1, 1, 0, 1, 0, 0]) [1, 1, 0, 0, 1, 1, 1, 1, 1, 1, 0, 0] (kpD lo6 40 0 k) .normal (mkE 143 [(1, .slice s1a s1n), (5, .slice s5a s5n), (6, .str s6), (7, .int .i64 s7), (8, .slice s8a s8n), (11, .str s11), (24, .slice s24a s24n), (25, .int .i64 s25), (26, .int .i64 s26), (87, .bool s87)]) [] G =
  a6_5N O (fun (s1a : Option GA) (s1n : Nat) (s5a : Option GA) (s5n : Nat) (s6 : List UInt8) (s7 : Int) (s8a : Option GA) (s8n : Nat) (s24a : Option GA) (s24n : Nat) (s25 : Int) (s26 : Int) (G : GH) => k .normal (mkE 143 [(1, .slice s1a s1n), (5, .slice s5a s5n), (6, .str s6), (7, .int .i64 s7), (8, .slice s8a s8n), (24, .slice s24a s24n), (25, .int .i64 s25), (26, .int .i64 s26)]) [] G) (fun (s6 : List UInt8) (s8a : Option GA) (s8n : Nat) (G : GH) => k (.exit 0) (mkE 143 [(6, .str s6), (8, .slice s8a s8n)]) [] G) s1a s1n s5a s5n s6 s7 s8a s8n s11 s24a s24n s25 s26 s87 G := by kernel_rfl

theorem L6_5_eq {R : Type} (O : Ora R) (fuel : Nat) (k : Ex → List IV → List (List IV) → GH → Option R) :
  (fun (s1a : Option GA) (s1n : Nat) (s5a : Option GA) (s5n : Nat) (s6 : List UInt8) (s7 : Int) (s8a : Option GA) (s8n : Nat) (s10 : List UInt8) (s11 : List UInt8) (s24a : Option GA) (s24n : Nat) (s25 : Int) (s26 : Int) (G : GH) => stepN fuel (loopD Try.prog O lo6 fuel (nav (Try.f6.body.getD .skip) [1, 1, 1, 1, 1, 1, 1, 0, 1, 0, 0, 1, 1, 0, 0, 1, 1, 1, 1, 1, 1, 0, 0]) 95 (mkE 143 [(1, .slice s1a s1n), (5, .slice s5a s5n), (6, .str s6), (7, .int .i64 s7), (8, .slice s8a s8n), (10, .str s10), (11, .str s11), (24, .slice s24a s24n), (25, .int .i64 s25), (26, .int .i64 s26)]) [] G (contC Try.prog O lo6 fuel (nav (Try.f6.body.getD .skip) [1, 1, 1, 1, 1, 1, 1, 0, 1, 0, 0]) [1, 1, 0, 0, 1, 1, 1, 1, 1, 1, 0, 0] (kpD lo6 40 0 k)))) = L6_5 O fuel (fun (s1a : Option GA) (s1n : Nat) (s5a : Option GA) (s5n : Nat) (s6 : List UInt8) (s7 : Int) (s8a : Option GA) (s8n : Nat) (s24a : Option GA) (s24n : Nat) (s25 : Int) (s26 : Int) (G : GH) => k .normal (mkE 143 [(1, .slice s1a s1n), (5, .slice s5a s5n), (6, .str s6), (7, .int .i64 s7), (8, .slice s8a s8n), (24, .slice s24a s24n), (25, .int .i64 s25), (26, .int .i64 s26)]) [] G) (fun (s6 : List UInt8) (s8a : Option GA) (s8n : Nat) (G : GH) => k (.exit 0) (mkE 143 [(6, .str s6), (8, .slice s8a s8n)]) [] G) := by
  funext s1a s1n s5a s5n s6 s7 s8a s8n s10 s11 s24a s24n s25 s26 G
  simp only [L6_5, l6_5_eq, a6_5N_raw]

def L6_4 {R : Type} (O : Ora R) (fuel : Nat) (KN : Option GA → Nat → Option GA → Nat → List UInt8 → Int → Option GA → Nat → Option GA → Nat → Int → Int → GH → Option R) (K0 : List UInt8 → Option GA → Nat → GH → Option R) : Option GA → Nat → Option GA → Nat → List UInt8 → Int → Option GA → Nat → Int → List UInt8 → List UInt8 → List UInt8 → Option GA → Nat → Int → Int → GH → Option R := fun (s1a : Option GA) (s1n : Nat) (s5a : Option GA) (s5n : Nat) (s6 : List UInt8) (s7 : Int) (s8a : Option GA) (s8n : Nat) (s9 : Int) (s10 : List UInt8) (s11 : List UInt8) (s13 : List UInt8) (s24a : Option GA) (s24n : Nat) (s25 : Int) (s26 : Int) G =>
  stepN fuel (l6_4 O (a6_4N O KN K0 (L6_5 O fuel KN K0)) s1a s1n s5a s5n s6 s7 s8a s8n s9 s10 s11 s13 s24a s24n s25 s26 G)

theorem a6_4N_raw {R : Type} (O : Ora R) (fuel : Nat) (s1a : Option GA) (s1n : Nat) (s5a : Option GA) (s5n : Nat) (s6 : List UInt8) (s7 : Int) (s8a : Option GA) (s8n : Nat) (s10 : List UInt8) (s11 : List UInt8) (s13 : List UInt8) (s24a : Option GA) (s24n : Nat) (s25 : Int) (s26 : Int) (G : GH) (k : Ex → List IV → List (List IV) → GH → Option R) :
  contC Try.prog O lo6 fuel (nav (Try.f6.body.getD .skip) [1, 1, 1, 1, 1, 1, 1, 0, 1, 0, 0]) [1, 1, 0, 0, 1, 1, 1, 1, 0] (kpD lo6 40 0 k) .normal (mkE 143 [(1, .slice s1a s1n), (5, .slice s5a s5n), (6, .str s6), (7, .int .i64 s7), (8, .slice s8a s8n), (10, .str s10), (11, .str s11), (13, .str s13), (24, .slice s24a s24n), (25, .int .i64 s25), (26, .int .i64 s26)]) [] G =
  a6_4N O (fun (s1a : Option GA) (s1n : Nat) (s5a : Option GA) (s5n : Nat) (s6 : List UInt8) (s7 : Int) (s8a : Option GA) (s8n : Nat) (s24a : Option GA) (s24n : Nat) (s25 : Int) (s26 : Int) (G : GH) => k .normal (mkE 143 [(1, .slice s1a s1n), (5, .slice s5a s5n), (6, .str s6), (7, .int .i64 s7), (8, .slice s8a s8n), (24, .slice s24a s24n), (25, .int .i64 s25), (26, .int .i64 s26)]) [] G) (fun (s6 : List UInt8) (s8a : Option GA) (s8n : Nat) (G : GH) => k (.exit 0) (mkE 143 [(6, .str s6), (8, .slice s8a s8n)]) [] G) (fun (s1a : Option GA) (s1n : Nat) (s5a : Option GA) (s5n : Nat) (s6 : List UInt8) (s7 : Int) (s8a : Option GA) (s8n : Nat) (s10 : List UInt8) (s11 : List UInt8) (s24a : Option GA) (s24n : Nat) (s25 : Int) (s26 : Int) (G : GH) => stepN fuel (loopD Try.prog O lo6 fuel (nav (Try.f6.body.getD .skip) [1, 1, 1, 1, 1, 1, 1, 0, 1, 0, 0, 1, 1, 0, 0, 1, 1, 1, 1, 1, 1, 0, 0]) 95 (mkE 143 [(1, .slice s1a s1n), (5, .slice s5a s5n), (6, .str s6), (7, .int .i64 s7), (8, .slice s8a s8n), (10, .str s10), (11, .str s11), (24, .slice s24a s24n), (25, .int .i64 s25), (26, .int .i64 s26)]) [] G (contC Try.prog O lo6 fuel (nav (Try.f6.body.getD .skip) [1, 1, 1, 1, 1, 1, 1, 0, 1, 0, 0]) [1, 1, 0, 0, 1, 1, 1, 1, 1, 1, 0, 0] (kpD lo6 40 0 k)))) s1a s1n s5a s5n s6 s7 s8a s8n s10 s11 s13 s24a s24n s25 s26 G := by kernel_rfl

theorem L6_4_eq {R : Type} (O : Ora R) (fuel : Nat) (k : Ex → List IV → List (List IV) → GH → Option R) :
  (fun (s1a : Option GA) (s1n : Nat) (s5a : Option GA) (s5n : Nat) (s6 : List UInt8) (s7 : Int) (s8a : Option GA) (s8n : Nat) (s9 : Int) (s10 : List UInt8) (s11 : List UInt8) (s13 : List UInt8) (s24a : Option GA) (s24n : Nat) (s25 : Int) (s26 : Int) (G : GH) => stepN fuel (loopD Try.prog O lo6 fuel (nav (Try.f6.body.getD .skip) [1, 1, 1, 1, 1, 1, 1, 0, 1, 0, 0, 1, 1, 0, 0, 1, 1, 1, 1, 0]) 87 (mkE 143 [(1, .slice s1a s1n), (5, .slice s5a s5n), (6, .str s6), (7, .int .i64 s7), (8, .slice s8a s8n), (9, .int .i64 s9), (10, .str s10), (11, .str s11), (13, .str s13), (24, .slice s24a s24n), (25, .int .i64 s25), (26, .int .i64 s26)]) [] G (contC Try.prog O lo6 fuel (nav (Try.f6.body.getD .skip) [1, 1, 1, 1, 1, 1, 1, 0, 1, 0, 0]) [1, 1, 0, 0, 1, 1, 1, 1, 0] (kpD lo6 40 0 k)))) = L6_4 O fuel (fun (s1a : Option GA) (s1n : Nat) (s5a : Option GA) (s5n : Nat) (s6 : List UInt8) (s7 : Int) (s8a : Option GA) (s8n : Nat) (s24a : Option GA) (s24n : Nat) (s25 : Int) (s26 : Int) (G : GH) => k .normal (mkE 143 [(1, .slice s1a s1n), (5, .slice s5a s5n), (6, .str s6), (7, .int .i64 s7), (8, .slice s8a s8n), (24, .slice s24a s24n), (25, .int .i64 s25), (26, .int .i64 s26)]) [] G) (fun (s6 : List UInt8) (s8a : Option GA) (s8n : Nat) (G : GH) => k (.exit 0) (mkE 143 [(6, .str s6), (8, .slice s8a s8n)]) [] G) := by
  funext s1a s1n s5a s5n s6 s7 s8a s8n s9 s10 s11 s13 s24a s24n s25 s26 G
  simp only [L6_4, l6_4_eq, a6_4N_raw, L6_5_eq]

def L6_1 {R : Type} (O : Ora R) (fuel : Nat) (KN : Option GA → Nat → Option GA → Nat → List UInt8 → Int → Option GA → Nat → Option GA → Nat → Int → Int → GH → Option R) (K0 : List UInt8 → Option GA → Nat → GH → Option R) : Option GA → Nat → Option GA → Nat → List UInt8 → Int → Option GA → Nat → Int → List UInt8 → List UInt8 → Int → Option GA → Nat → Int → Int → GH → Option R := fun (s1a : Option GA) (s1n : Nat) (s5a : Option GA) (s5n : Nat) (s6 : List UInt8) (s7 : Int) (s8a : Option GA) (s8n : Nat) (s9 : Int) (s10 : List UInt8) (s11 : List UInt8) (s12 : Int) (s24a : Option GA) (s24n : Nat) (s25 : Int) (s26 : Int) G =>
  l6_1 O fuel (a6_12 O KN K0 (L6_4 O fuel KN K0)) fuel s1a s1n s5a s5n s6 s7 s8a s8n s9 s10 s11 s12 s24a s24n s25 s26 G

theorem a6_12_raw {R : Type} (O : Ora R) (fuel : Nat) (s1a : Option GA) (s1n : Nat) (s5a : Option GA) (s5n : Nat) (s6 : List UInt8) (s7 : Int) (s8a : Option GA) (s8n : Nat) (s9 : Int) (s10 : List UInt8) (s11 : List UInt8) (s24a : Option GA) (s24n : Nat) (s25 : Int) (s26 : Int) (G : GH) (k : Ex → List IV → List (List IV) → GH → Option R) :
  contC Try.prog O lo6 fuel (nav (Try.f6.body.getD .skip) [1, 1, 1, 1, 1, 1, 1, 0, 1, 0, 0]) [1, 1, 0, 0, 1, 1, 0, 1, 0] (kpD lo6 40 0 k) (.exit 2) (mkE 143 [(1, .slice s1a s1n), (5, .slice s5a s5n), (6, .str s6), (7, .int .i64 s7), (8, .slice s8a s8n), (9, .int .i64 s9), (10, .str s10), (11, .str s11), (24, .slice s24a s24n), (25, .int .i64 s25), (26, .int .i64 s26)]) [] G =
  a6_12 O (fun (s1a : Option GA) (s1n : Nat) (s5a : Option GA) (s5n : Nat) (s6 : List UInt8) (s7 : Int) (s8a : Option GA) (s8n : Nat) (s24a : Option GA) (s24n : Nat) (s25 : Int) (s26 : Int) (G : GH) => k .normal (mkE 143 [(1, .slice s1a s1n), (5, .slice s5a s5n), (6, .str s6), (7, .int .i64 s7), (8, .slice s8a s8n), (24, .slice s24a s24n), (25, .int .i64 s25), (26, .int .i64 s26)]) [] G) (fun (s6 : List UInt8) (s8a : Option GA) (s8n : Nat) (G : GH) => k (.exit 0) (mkE 143 [(6, .str s6), (8, .slice s8a s8n)]) [] G) (fun (s1a : Option GA) (s1n : Nat) (s5a : Option GA) (s5n : Nat) (s6 : List UInt8) (s7 : Int) (s8a : Option GA) (s8n : Nat) (s9 : Int) (s10 : List UInt8) (s11 : List UInt8) (s13 : List UInt8) (s24a : Option GA) (s24n : Nat) (s25 : Int) (s26 : Int) (G : GH) => stepN fuel (loopD Try.prog O lo6 fuel (nav (Try.f6.body.getD .skip) [1, 1, 1, 1, 1, 1, 1, 0, 1, 0, 0, 1, 1, 0, 0, 1, 1, 1, 1, 0]) 87 (mkE 143 [(1, .slice s1a s1n), (5, .slice s5a s5n), (6, .str s6), (7, .int .i64 s7), (8, .slice s8a s8n), (9, .int .i64 s9), (10, .str s10), (11, .str s11), (13, .str s13), (24, .slice s24a s24n), (25, .int .i64 s25), (26, .int .i64 s26)]) [] G (contC Try.prog O lo6 fuel (nav (Try.f6.body.getD .skip) [1, 1, 1, 1, 1, 1, 1, 0, 1, 0, 0]) [1, 1, 0, 0, 1, 1, 1, 1, 0] (kpD lo6 40 0 k)))) s1a s1n s5a s5n s6 s7 s8a s8n s9 s10 s11 s24a s24n s25 s26 G := by kernel_rfl

theorem L6_1_eq {R : Type} (O : Ora R) (fuel : Nat) (k : Ex → List IV → List (List IV) → GH → Option R) :
  (fun (s1a : Option GA) (s1n : Nat) (s5a : Option GA) (s5n : Nat) (s6 : List UInt8) (s7 : Int) (s8a : Option GA) (s8n : Nat) (s9 : Int) (s10 : List UInt8) (s11 : List UInt8) (s12 : Int) (s24a : Option GA) (s24n : Nat) (s25 : Int) (s26 : Int) (G : GH) => loopN (loopD Try.prog O lo6 fuel (nav (Try.f6.body.getD .skip) [1, 1, 1, 1, 1, 1, 1, 0, 1, 0, 0, 1, 1, 0, 0, 1, 1, 0, 1, 0, 0]) 56) fuel (mkE 143 [(1, .slice s1a s1n), (5, .slice s5a s5n), (6, .str s6), (7, .int .i64 s7), (8, .slice s8a s8n), (9, .int .i64 s9), (10, .str s10), (11, .str s11), (12, .int .i64 s12), (24, .slice s24a s24n), (25, .int .i64 s25), (26, .int .i64 s26)]) [] G (contC Try.prog O lo6 fuel (nav (Try.f6.body.getD .skip) [1, 1, 1, 1, 1, 1, 1, 0, 1, 0, 0]) [1, 1, 0, 0, 1, 1, 0, 1, 0] (kpD lo6 40 0 k))) = L6_1 O fuel (fun (s1a : Option GA) (s1n : Nat) (s5a : Option GA) (s5n : Nat) (s6 : List UInt8) (s7 : Int) (s8a : Option GA) (s8n : Nat) (s24a : Option GA) (s24n : Nat) (s25 : Int) (s26 : Int) (G : GH) => k .normal (mkE 143 [(1, .slice s1a s1n), (5, .slice s5a s5n), (6, .str s6), (7, .int .i64 s7), (8, .slice s8a s8n), (24, .slice s24a s24n), (25, .int .i64 s25), (26, .int .i64 s26)]) [] G) (fun (s6 : List UInt8) (s8a : Option GA) (s8n : Nat) (G : GH) => k (.exit 0) (mkE 143 [(6, .str s6), (8, .slice s8a s8n)]) [] G) := by
  funext s1a s1n s5a s5n s6 s7 s8a s8n s9 s10 s11 s12 s24a s24n s25 s26 G
  simp only [L6_1, l6_1_eq, a6_12_raw, L6_4_eq]

def l6_0 {R : Type} (O : Ora R) (fuel : Nat) (K0 : List UInt8 → Option GA → Nat → GH → Option R) : Nat → Option GA → Nat → Option GA → Nat → List UInt8 → Int → Option GA → Nat → Option GA → Nat → Int → Int → GH → Option R
  | 0, _, _, _, _, _, _, _, _, _, _, _, _, _ => none
  | n + 1, s1a, s1n, s5a, s5n, s6, s7, s8a, s8n, s24a, s24n, s25, s26, G => u6_0 O (l6_0 O fuel K0 n) K0 (L6_1 O fuel (l6_0 O fuel K0 n) K0) s1a s1n s5a s5n s6 s7 s8a s8n s24a s24n s25 s26 G

theorem u6_0_raw {R : Type} (O : Ora R) (fuel : Nat) (s1a : Option GA) (s1n : Nat) (s5a : Option GA) (s5n : Nat) (s6 : List UInt8) (s7 : Int) (s8a : Option GA) (s8n : Nat) (s24a : Option GA) (s24n : Nat) (s25 : Int) (s26 : Int) (G : GH) (k : Ex → List IV → List (List IV) → GH → Option R) :
  loopD Try.prog O lo6 fuel (nav (Try.f6.body.getD .skip) [1, 1, 1, 1, 1, 1, 1, 0, 1, 0, 0]) 40 (mkE 143 [(1, .slice s1a s1n), (5, .slice s5a s5n), (6, .str s6), (7, .int .i64 s7), (8, .slice s8a s8n), (24, .slice s24a s24n), (25, .int .i64 s25), (26, .int .i64 s26)]) [] G k =
  u6_0 O (fun (s1a : Option GA) (s1n : Nat) (s5a : Option GA) (s5n : Nat) (s6 : List UInt8) (s7 : Int) (s8a : Option GA) (s8n : Nat) (s24a : Option GA) (s24n : Nat) (s25 : Int) (s26 : Int) (G : GH) => k .normal (mkE 143 [(1, .slice s1a s1n), (5, .slice s5a s5n), (6, .str s6), (7, .int .i64 s7), (8, .slice s8a s8n), (24, .slice s24a s24n), (25, .int .i64 s25), (26, .int .i64 s26)]) [] G) (fun (s6 : List UInt8) (s8a : Option GA) (s8n : Nat) (G : GH) => k (.exit 0) (mkE 143 [(6, .str s6), (8, .slice s8a s8n)]) [] G) (fun (s1a : Option GA) (s1n : Nat) (s5a : Option GA) (s5n : Nat) (s6 : List UInt8) (s7 : Int) (s8a : Option GA) (s8n : Nat) (s9 : Int) (s10 : List UInt8) (s11 : List UInt8) (s12 : Int) (s24a : Option GA) (s24n : Nat) (s25 : Int) (s26 : Int) (G : GH) => loopN (loopD Try.prog O lo6 fuel (nav (Try.f6.body.getD .skip) [1, 1, 1, 1, 1, 1, 1, 0, 1, 0, 0, 1, 1, 0, 0, 1, 1, 0, 1, 0, 0]) 56) fuel (mkE 143 [(1, .slice s1a s1n), (5, .slice s5a s5n), (6, .str s6), (7, .int .i64 s7), (8, .slice s8a s8n), (9, .int .i64 s9), (10, .str s10), (11, .str s11), (12, .int .i64 s12), (24, .slice s24a s24n), (25, .int .i64 s25), (26, .int .i64 s26)]) [] G (contC Try.prog O lo6 fuel (nav (Try.f6.body.getD .skip) [1, 1, 1, 1, 1, 1, 1, 0, 1, 0, 0]) [1, 1, 0, 0, 1, 1, 0, 1, 0] (kpD lo6 40 0 k))) s1a s1n s5a s5n s6 s7 s8a s8n s24a s24n s25 s26 G := by kernel_rfl

theorem l6_0_eq {R : Type} (O : Ora R) (fuel : Nat) (k : Ex → List IV → List (List IV) → GH → Option R) : ∀ (n : Nat) (s1a : Option GA) (s1n : Nat) (s5a : Option GA) (s5n : Nat) (s6 : List UInt8) (s7 : Int) (s8a : Option GA) (s8n : Nat) (s24a : Option GA) (s24n : Nat) (s25 : Int) (s26 : Int) (G : GH),
  loopN (loopD Try.prog O lo6 fuel (nav (Try.f6.body.getD .skip) [1, 1, 1, 1, 1, 1, 1, 0, 1, 0, 0]) 40) n (mkE 143 [(1, .slice s1a s1n), (5, .slice s5a s5n), (6, .str s6), (7, .int .i64 s7), (8, .slice s8a s8n), (24, .slice s24a s24n), (25, .int .i64 s25), (26, .int .i64 s26)]) [] G k = l6_0 O fuel (fun (s6 : List UInt8) (s8a : Option GA) (s8n : Nat) (G : GH) => k (.exit 0) (mkE 143 [(6, .str s6), (8, .slice s8a s8n)]) [] G) n s1a s1n s5a s5n s6 s7 s8a s8n s24a s24n s25 s26 G := by
  intro n
  induction n with
  | zero => intros; rfl
  | succ n ih =>
    intros
    rw [loopN_succ, u6_0_raw]
    simp only [l6_0, loopK_normal, loopK_exit, loopK_ret, ih, L6_1_eq]

def u6_6 {R : Type} (O : Ora R) (Kret : Bool → GH → Option R) (KN : Option GA → Nat → Option GA → Nat → GH → Option R) (s8a : Option GA) (s8n : Nat) (s14a : Option GA) (s14n : Nat) (s15 : Int) (s16 : Int) (G : GH) : Option R :=
  bif (s16 != (0 : Int)) then
  Kret false G
  else
  bif (s15 != (0 : Int)) then
  Kret false G
  else
  bif ((s14n : Int) != (s8n : Int)) then
  Kret false G
  else
  KN s8a s8n s14a s14n G

def l6_6 {R : Type} (O : Ora R) (Kret : Bool → GH → Option R) (KN : Option GA → Nat → Option GA → Nat → GH → Option R) : Option GA → Nat → Option GA → Nat → Int → Int → GH → Option R := fun (s8a : Option GA) (s8n : Nat) (s14a : Option GA) (s14n : Nat) (s15 : Int) (s16 : Int) G => u6_6 O Kret KN s8a s8n s14a s14n s15 s16 G

theorem u6_6_raw {R : Type} (O : Ora R) (fuel : Nat) (s8a : Option GA) (s8n : Nat) (s14a : Option GA) (s14n : Nat) (s15 : Int) (s16 : Int) (G : GH) (k : Ex → List IV → List (List IV) → GH → Option R) :
  loopD Try.prog O lo6 fuel (nav (Try.f6.body.getD .skip) [1, 1, 1, 1, 1, 1, 1, 1, 1, 0]) 127 (mkE 143 [(8, .slice s8a s8n), (14, .slice s14a s14n), (15, .int .i64 s15), (16, .int .i64 s16)]) [] G k =
  u6_6 O (fun (s4 : Bool) (G : GH) => k .ret (mkE 143 [(4, .bool s4)]) [] G) (fun (s8a : Option GA) (s8n : Nat) (s14a : Option GA) (s14n : Nat) (G : GH) => k .normal (mkE 143 [(8, .slice s8a s8n), (14, .slice s14a s14n)]) [] G) s8a s8n s14a s14n s15 s16 G := by kernel_rfl

theorem l6_6_eq {R : Type} (O : Ora R) (fuel : Nat) (k : Ex → List IV → List (List IV) → GH → Option R) : ∀ (s8a : Option GA) (s8n : Nat) (s14a : Option GA) (s14n : Nat) (s15 : Int) (s16 : Int) (G : GH),
  loopD Try.prog O lo6 fuel (nav (Try.f6.body.getD .skip) [1, 1, 1, 1, 1, 1, 1, 1, 1, 0]) 127 (mkE 143 [(8, .slice s8a s8n), (14, .slice s14a s14n), (15, .int .i64 s15), (16, .int .i64 s16)]) [] G k = l6_6 O (fun (s4 : Bool) (G : GH) => k .ret (mkE 143 [(4, .bool s4)]) [] G) (fun (s8a : Option GA) (s8n : Nat) (s14a : Option GA) (s14n : Nat) (G : GH) => k .normal (mkE 143 [(8, .slice s8a s8n), (14, .slice s14a s14n)]) [] G) s8a s8n s14a s14n s15 s16 G := by
  intros
  rw [u6_6_raw]
  simp only [l6_6]

def u6_7 {R : Type} (O : Ora R) (Kret : Bool → GH → Option R) (KN : Option GA → Nat → Option GA → Nat → Int → Int → GH → Option R) (K4 : GH → Option R) (s8a : Option GA) (s8n : Nat) (s14a : Option GA) (s14n : Nat) (s129 : Int) (s130 : Int) (G : GH) : Option R :=
  bif (decide (s130 < s129)) then
  (idx? s14a s14n s130 4).bind fun a1 =>
  (ldInt G .i64 (GA.add a1 0)).bind fun x2 =>
  (ldStr G (GA.add a1 1)).bind fun x3 =>
  (ldFloat G .f64 (GA.add a1 2)).bind fun x4 =>
  (ldInt G .i64 (GA.add a1 3)).bind fun x5 =>
  (idx? s8a s8n s130 4).bind fun a6 =>
  (ldInt G .i64 (GA.add a6 0)).bind fun x7 =>
  (ldStr G (GA.add a6 1)).bind fun x8 =>
  (ldFloat G .f64 (GA.add a6 2)).bind fun x9 =>
  (ldInt G .i64 (GA.add a6 3)).bind fun x10 =>
  bif (!((x2 == x7) && ((x3 == x8) && ((feq .f64 x4 x9) && ((x5 == x10) && true))))) then
  Kret false G
  else
  KN s8a s8n s14a s14n s129 (IntKind.wrap .i64 (s130 + (1 : Int))) G
  else
  K4 G

def l6_7 {R : Type} (O : Ora R) (Kret : Bool → GH → Option R) (K4 : GH → Option R) : Nat → Option GA → Nat → Option GA → Nat → Int → Int → GH → Option R
  | 0, _, _, _, _, _, _, _ => none
  | n + 1, s8a, s8n, s14a, s14n, s129, s130, G => u6_7 O Kret (l6_7 O Kret K4 n) K4 s8a s8n s14a s14n s129 s130 G

theorem u6_7_raw {R : Type} (O : Ora R) (fuel : Nat) (s8a : Option GA) (s8n : Nat) (s14a : Option GA) (s14n : Nat) (s129 : Int) (s130 : Int) (G : GH) (k : Ex → List IV → List (List IV) → GH → Option R) :
  loopD Try.prog O lo6 fuel (nav (Try.f6.body.getD .skip) [1, 1, 1, 1, 1, 1, 1, 1, 1, 1, 0, 1, 0, 0]) 128 (mkE 143 [(8, .slice s8a s8n), (14, .slice s14a s14n), (129, .int .i64 s129), (130, .int .i64 s130)]) [] G k =
  u6_7 O (fun (s4 : Bool) (G : GH) => k .ret (mkE 143 [(4, .bool s4)]) [] G) (fun (s8a : Option GA) (s8n : Nat) (s14a : Option GA) (s14n : Nat) (s129 : Int) (s130 : Int) (G : GH) => k .normal (mkE 143 [(8, .slice s8a s8n), (14, .slice s14a s14n), (129, .int .i64 s129), (130, .int .i64 s130)]) [] G) (fun (G : GH) => k (.exit 4) (mkE 143 []) [] G) s8a s8n s14a s14n s129 s130 G := by kernel_rfl

theorem l6_7_eq {R : Type} (O : Ora R) (fuel : Nat) (k : Ex → List IV → List (List IV) → GH → Option R) : ∀ (n : Nat) (s8a : Option GA) (s8n : Nat) (s14a : Option GA) (s14n : Nat) (s129 : Int) (s130 : Int) (G : GH),
  loopN (loopD Try.prog O lo6 fuel (nav (Try.f6.body.getD .skip) [1, 1, 1, 1, 1, 1, 1, 1, 1, 1, 0, 1, 0, 0]) 128) n (mkE 143 [(8, .slice s8a s8n), (14, .slice s14a s14n), (129, .int .i64 s129), (130, .int .i64 s130)]) [] G k = l6_7 O (fun (s4 : Bool) (G : GH) => k .ret (mkE 143 [(4, .bool s4)]) [] G) (fun (G : GH) => k (.exit 4) (mkE 143 []) [] G) n s8a s8n s14a s14n s129 s130 G := by
  intro n
  induction n with
  | zero => intros; rfl
  | succ n ih =>
    intros
    rw [loopN_succ, u6_7_raw]
    simp only [l6_7, loopK_normal, loopK_exit, loopK_ret, ih]

def u6 {R : Type} (O : Ora R) (k : IV → GH → Option R) (L0 : Option GA → Nat → Option GA → Nat → List UInt8 → Int → Option GA → Nat → Option GA → Nat → Int → Int → GH → Option R) (p0a : Option GA) (p0n : Nat) (p1a : Option GA) (p1n : Nat) (G : GH) : Option R :=
  O 8 [] G fun v1 G2 =>
  (ivBool v1).bind fun x3 =>
  bif (!x3) then
  k (.bool false) G2
  else
  bif (decide ((p0n : Int) > (200 : Int))) then
  k (.bool true) G2
  else
  L0 p1a p1n (some (gaddr G2)) 5 ([] : List UInt8) (1 : Int) none 0 p0a p0n (p0n : Int) (0 : Int) (gnew G2 [.str ([32] : List UInt8), .str ([9, 32] : List UInt8), .str ([32, 35, 32, 114, 32, 34, 32, 57, 10] : List UInt8), .str ([10, 10] : List UInt8), .str ([13, 10] : List UInt8)] 9)

def a6_00 {R : Type} (O : Ora R) (k : IV → GH → Option R) (L6 : Option GA → Nat → Option GA → Nat → Int → Int → GH → Option R) (s6 : List UInt8) (s8a : Option GA) (s8n : Nat) (G : GH) : Option R :=
  O 10 [.str s6] G fun v1 G2 =>
  (ivTup 3 v1).bind fun c3 =>
  (ivSlice (c3.getD 0 undefI)).bind fun x4 =>
  (ivInt .i64 (c3.getD 1 undefI)).bind fun x5 =>
  (ivInt .i64 (c3.getD 2 undefI)).bind fun x6 =>
  L6 s8a s8n x4.1 x4.2 x5 x6 G2

def a6_6ret {R : Type} (O : Ora R) (k : IV → GH → Option R) (s4 : Bool) (G : GH) : Option R :=
  k (.bool s4) G

def a6_6N {R : Type} (O : Ora R) (k : IV → GH → Option R) (L7 : Option GA → Nat → Option GA → Nat → Int → Int → GH → Option R) (s8a : Option GA) (s8n : Nat) (s14a : Option GA) (s14n : Nat) (G : GH) : Option R :=
  L7 s8a s8n s14a s14n (s14n : Int) (0 : Int) G

def a6_7ret {R : Type} (O : Ora R) (k : IV → GH → Option R) (s4 : Bool) (G : GH) : Option R :=
  k (.bool s4) G

def a6_74 {R : Type} (O : Ora R) (k : IV → GH → Option R)  (G : GH) : Option R :=
  k (.bool true) G

def L6_7 {R : Type} (O : Ora R) (fuel : Nat) (k : IV → GH → Option R) : Option GA → Nat → Option GA → Nat → Int → Int → GH → Option R := fun (s8a : Option GA) (s8n : Nat) (s14a : Option GA) (s14n : Nat) (s129 : Int) (s130 : Int) G =>
  l6_7 O (a6_7ret O k) (a6_74 O k) fuel s8a s8n s14a s14n s129 s130 G

theorem a6_7ret_raw {R : Type} (O : Ora R) (fuel : Nat) (s4 : Bool) (G : GH) (k : IV → GH → Option R) :
  contC Try.prog O lo6 fuel (Try.f6.body.getD .skip) [1, 1, 1, 1, 1, 1, 1, 1, 1, 1, 0, 1, 0] (fun e env F G => match e with | .exit _ => none | _ => resC Try.prog Try.f6 env F G k) .ret (mkE 143 [(4, .bool s4)]) [] G =
  a6_7ret O k s4 G := by kernel_rfl

theorem a6_74_raw {R : Type} (O : Ora R) (fuel : Nat)  (G : GH) (k : IV → GH → Option R) :
  contC Try.prog O lo6 fuel (Try.f6.body.getD .skip) [1, 1, 1, 1, 1, 1, 1, 1, 1, 1, 0, 1, 0] (fun e env F G => match e with | .exit _ => none | _ => resC Try.prog Try.f6 env F G k) (.exit 4) (mkE 143 []) [] G =
  a6_74 O k G := by kernel_rfl

theorem L6_7_eq {R : Type} (O : Ora R) (fuel : Nat) (k : IV → GH → Option R) :
  (fun (s8a : Option GA) (s8n : Nat) (s14a : Option GA) (s14n : Nat) (s129 : Int) (s130 : Int) (G : GH) => loopN (loopD Try.prog O lo6 fuel (nav (Try.f6.body.getD .skip) [1, 1, 1, 1, 1, 1, 1, 1, 1, 1, 0, 1, 0, 0]) 128) fuel (mkE 143 [(8, .slice s8a s8n), (14, .slice s14a s14n), (129, .int .i64 s129), (130, .int .i64 s130)]) [] G (contC Try.prog O lo6 fuel (Try.f6.body.getD .skip) [1, 1, 1, 1, 1, 1, 1, 1, 1, 1, 0, 1, 0] (fun e env F G => match e with | .exit _ => none | _ => resC Try.prog Try.f6 env F G k))) = L6_7 O fuel k := by
  funext s8a s8n s14a s14n s129 s130 G
  simp only [L6_7, l6_7_eq, a6_7ret_raw, a6_74_raw]

def L6_6 {R : Type} (O : Ora R) (fuel : Nat) (k : IV → GH → Option R) : Option GA → Nat → Option GA → Nat → Int → Int → GH → Option R := fun (s8a : Option GA) (s8n : Nat) (s14a : Option GA) (s14n : Nat) (s15 : Int) (s16 : Int) G =>
  stepN fuel (l6_6 O (a6_6ret O k) (a6_6N O k (L6_7 O fuel k)) s8a s8n s14a s14n s15 s16 G)

theorem a6_6ret_raw {R : Type} (O : Ora R) (fuel : Nat) (s4 : Bool) (G : GH) (k : IV → GH → Option R) :
  contC Try.prog O lo6 fuel (Try.f6.body.getD .skip) [1, 1, 1, 1, 1, 1, 1, 1, 1, 0] (fun e env F G => match e with | .exit _ => none | _ => resC Try.prog Try.f6 env F G k) .ret (mkE 143 [(4, .bool s4)]) [] G =
  a6_6ret O k s4 G := by kernel_rfl

theorem a6_6N_raw {R : Type} (O : Ora R) (fuel : Nat) (s8a : Option GA) (s8n : Nat) (s14a : Option GA) (s14n : Nat) (G : GH) (k : IV → GH → Option R) :
  contC Try.prog O lo6 fuel (Try.f6.body.getD .skip) [1, 1, 1, 1, 1, 1, 1, 1, 1, 0] (fun e env F G => match e with | .exit _ => none | _ => resC Try.prog Try.f6 env F G k) .normal (mkE 143 [(8, .slice s8a s8n), (14, .slice s14a s14n)]) [] G =
  a6_6N O k (fun (s8a : Option GA) (s8n : Nat) (s14a : Option GA) (s14n : Nat) (s129 : Int) (s130 : Int) (G : GH) => loopN (loopD Try.prog O lo6 fuel (nav (Try.f6.body.getD .skip) [1, 1, 1, 1, 1, 1, 1, 1, 1, 1, 0, 1, 0, 0]) 128) fuel (mkE 143 [(8, .slice s8a s8n), (14, .slice s14a s14n), (129, .int .i64 s129), (130, .int .i64 s130)]) [] G (contC Try.prog O lo6 fuel (Try.f6.body.getD .skip) [1, 1, 1, 1, 1, 1, 1, 1, 1, 1, 0, 1, 0] (fun e env F G => match e with | .exit _ => none | _ => resC Try.prog Try.f6 env F G k))) s8a s8n s14a s14n G := by kernel_rfl

theorem L6_6_eq {R : Type} (O : Ora R) (fuel : Nat) (k : IV → GH → Option R) :
  (fun (s8a : Option GA) (s8n : Nat) (s14a : Option GA) (s14n : Nat) (s15 : Int) (s16 : Int) (G : GH) => stepN fuel (loopD Try.prog O lo6 fuel (nav (Try.f6.body.getD .skip) [1, 1, 1, 1, 1, 1, 1, 1, 1, 0]) 127 (mkE 143 [(8, .slice s8a s8n), (14, .slice s14a s14n), (15, .int .i64 s15), (16, .int .i64 s16)]) [] G (contC Try.prog O lo6 fuel (Try.f6.body.getD .skip) [1, 1, 1, 1, 1, 1, 1, 1, 1, 0] (fun e env F G => match e with | .exit _ => none | _ => resC Try.prog Try.f6 env F G k)))) = L6_6 O fuel k := by
  funext s8a s8n s14a s14n s15 s16 G
  simp only [L6_6, l6_6_eq, a6_6ret_raw, a6_6N_raw, L6_7_eq]

def L6_0 {R : Type} (O : Ora R) (fuel : Nat) (k : IV → GH → Option R) : Option GA → Nat → Option GA → Nat → List UInt8 → Int → Option GA → Nat → Option GA → Nat → Int → Int → GH → Option R := fun (s1a : Option GA) (s1n : Nat) (s5a : Option GA) (s5n : Nat) (s6 : List UInt8) (s7 : Int) (s8a : Option GA) (s8n : Nat) (s24a : Option GA) (s24n : Nat) (s25 : Int) (s26 : Int) G =>
  l6_0 O fuel (a6_00 O k (L6_6 O fuel k)) fuel s1a s1n s5a s5n s6 s7 s8a s8n s24a s24n s25 s26 G

theorem a6_00_raw {R : Type} (O : Ora R) (fuel : Nat) (s6 : List UInt8) (s8a : Option GA) (s8n : Nat) (G : GH) (k : IV → GH → Option R) :
  contC Try.prog O lo6 fuel (Try.f6.body.getD .skip) [1, 1, 1, 1, 1, 1, 1, 0, 1, 0] (fun e env F G => match e with | .exit _ => none | _ => resC Try.prog Try.f6 env F G k) (.exit 0) (mkE 143 [(6, .str s6), (8, .slice s8a s8n)]) [] G =
  a6_00 O k (fun (s8a : Option GA) (s8n : Nat) (s14a : Option GA) (s14n : Nat) (s15 : Int) (s16 : Int) (G : GH) => stepN fuel (loopD Try.prog O lo6 fuel (nav (Try.f6.body.getD .skip) [1, 1, 1, 1, 1, 1, 1, 1, 1, 0]) 127 (mkE 143 [(8, .slice s8a s8n), (14, .slice s14a s14n), (15, .int .i64 s15), (16, .int .i64 s16)]) [] G (contC Try.prog O lo6 fuel (Try.f6.body.getD .skip) [1, 1, 1, 1, 1, 1, 1, 1, 1, 0] (fun e env F G => match e with | .exit _ => none | _ => resC Try.prog Try.f6 env F G k)))) s6 s8a s8n G := by kernel_rfl

theorem L6_0_eq {R : Type} (O : Ora R) (fuel : Nat) (k : IV → GH → Option R) :
  (fun (s1a : Option GA) (s1n : Nat) (s5a : Option GA) (s5n : Nat) (s6 : List UInt8) (s7 : Int) (s8a : Option GA) (s8n : Nat) (s24a : Option GA) (s24n : Nat) (s25 : Int) (s26 : Int) (G : GH) => loopN (loopD Try.prog O lo6 fuel (nav (Try.f6.body.getD .skip) [1, 1, 1, 1, 1, 1, 1, 0, 1, 0, 0]) 40) fuel (mkE 143 [(1, .slice s1a s1n), (5, .slice s5a s5n), (6, .str s6), (7, .int .i64 s7), (8, .slice s8a s8n), (24, .slice s24a s24n), (25, .int .i64 s25), (26, .int .i64 s26)]) [] G (contC Try.prog O lo6 fuel (Try.f6.body.getD .skip) [1, 1, 1, 1, 1, 1, 1, 0, 1, 0] (fun e env F G => match e with | .exit _ => none | _ => resC Try.prog Try.f6 env F G k))) = L6_0 O fuel k := by
  funext s1a s1n s5a s5n s6 s7 s8a s8n s24a s24n s25 s26 G
  simp only [L6_0, l6_0_eq, a6_00_raw, L6_6_eq]

theorem e6_raw {R : Type} (O : Ora R) (fuel : Nat) (p0a : Option GA) (p0n : Nat) (p1a : Option GA) (p1n : Nat) (G : GH) (k : IV → GH → Option R) :
  bodyC Try.prog O lo6 fuel Try.f6 [.slice p0a p0n, .slice p1a p1n] G k =
  u6 O k (fun (s1a : Option GA) (s1n : Nat) (s5a : Option GA) (s5n : Nat) (s6 : List UInt8) (s7 : Int) (s8a : Option GA) (s8n : Nat) (s24a : Option GA) (s24n : Nat) (s25 : Int) (s26 : Int) (G : GH) => loopN (loopD Try.prog O lo6 fuel (nav (Try.f6.body.getD .skip) [1, 1, 1, 1, 1, 1, 1, 0, 1, 0, 0]) 40) fuel (mkE 143 [(1, .slice s1a s1n), (5, .slice s5a s5n), (6, .str s6), (7, .int .i64 s7), (8, .slice s8a s8n), (24, .slice s24a s24n), (25, .int .i64 s25), (26, .int .i64 s26)]) [] G (contC Try.prog O lo6 fuel (Try.f6.body.getD .skip) [1, 1, 1, 1, 1, 1, 1, 0, 1, 0] (fun e env F G => match e with | .exit _ => none | _ => resC Try.prog Try.f6 env F G k))) p0a p0n p1a p1n G := by kernel_rfl

theorem e6 {R : Type} (O : Ora R) (fuel : Nat) (p0a : Option GA) (p0n : Nat) (p1a : Option GA) (p1n : Nat) (G : GH) (k : IV → GH → Option R) :
  bodyC Try.prog O lo6 fuel Try.f6 [.slice p0a p0n, .slice p1a p1n] G k =
  u6 O k (L6_0 O fuel k) p0a p0n p1a p1n G := by
  rw [e6_raw, L6_0_eq]

theorem r6 {R : Type} (fuel n : Nat) (p0a : Option GA) (p0n : Nat) (p1a : Option GA) (p1n : Nat) (G : GH) (k : IV → GH → Option R) :
  runL Try.prog lexLib lo0 fuel (n + 1) 6 [.slice p0a p0n, .slice p1a p1n] G k = bodyC Try.prog (runL Try.prog lexLib lo0 fuel n) lo6 fuel Try.f6 [.slice p0a p0n, .slice p1a p1n] G k := runL_body Try.func6 rfl rfl rfl

/-! ### lantern/lanternlaw15.LexBlanks -/
def u7_0 {R : Type} (O : Ora R) (Kret : Bool → GH → Option R) (KN : Int → Option GA → Nat → Option GA → Nat → GH → Option R) (s1 : Int) (s5a : Option GA) (s5n : Nat) (s6 : Int) (s7 : Int) (s8a : Option GA) (s8n : Nat) (s9 : Int) (s10 : Int) (G : GH) : Option R :=
  bif (s7 != s10) then
  Kret false G
  else
  bif ((s5n : Int) != (s8n : Int)) then
  Kret false G
  else
  bif (s7 != (0 : Int)) then
  bif (s9 != (IntKind.wrap .i64 (s6 + s1))) then
  Kret false G
  else
  KN s1 s5a s5n s8a s8n G
  else
  KN s1 s5a s5n s8a s8n G

def l7_0 {R : Type} (O : Ora R) (Kret : Bool → GH → Option R) (KN : Int → Option GA → Nat → Option GA → Nat → GH → Option R) : Int → Option GA → Nat → Int → Int → Option GA → Nat → Int → Int → GH → Option R := fun (s1 : Int) (s5a : Option GA) (s5n : Nat) (s6 : Int) (s7 : Int) (s8a : Option GA) (s8n : Nat) (s9 : Int) (s10 : Int) G => u7_0 O Kret KN s1 s5a s5n s6 s7 s8a s8n s9 s10 G

theorem u7_0_raw {R : Type} (O : Ora R) (fuel : Nat) (s1 : Int) (s5a : Option GA) (s5n : Nat) (s6 : Int) (s7 : Int) (s8a : Option GA) (s8n : Nat) (s9 : Int) (s10 : Int) (G : GH) (k : Ex → List IV → List (List IV) → GH → Option R) :
  loopD Try.prog O lo7 fuel (nav (Try.f7.body.getD .skip) [1, 1, 1, 1, 1, 1, 0]) 43 (mkE 83 [(1, .int .i64 s1), (5, .slice s5a s5n), (6, .int .i64 s6), (7, .int .i64 s7), (8, .slice s8a s8n), (9, .int .i64 s9), (10, .int .i64 s10)]) [] G k =
  u7_0 O (fun (s4 : Bool) (G : GH) => k .ret (mkE 83 [(4, .bool s4)]) [] G) (fun (s1 : Int) (s5a : Option GA) (s5n : Nat) (s8a : Option GA) (s8n : Nat) (G : GH) => k .normal (mkE 83 [(1, .int .i64 s1), (5, .slice s5a s5n), (8, .slice s8a s8n)]) [] G) s1 s5a s5n s6 s7 s8a s8n s9 s10 G := by kernel_rfl

theorem l7_0_eq {R : Type} (O : Ora R) (fuel : Nat) (k : Ex → List IV → List (List IV) → GH → Option R) : ∀ (s1 : Int) (s5a : Option GA) (s5n : Nat) (s6 : Int) (s7 : Int) (s8a : Option GA) (s8n : Nat) (s9 : Int) (s10 : Int) (G : GH),
  loopD Try.prog O lo7 fuel (nav (Try.f7.body.getD .skip) [1, 1, 1, 1, 1, 1, 0]) 43 (mkE 83 [(1, .int .i64 s1), (5, .slice s5a s5n), (6, .int .i64 s6), (7, .int .i64 s7), (8, .slice s8a s8n), (9, .int .i64 s9), (10, .int .i64 s10)]) [] G k = l7_0 O (fun (s4 : Bool) (G : GH) => k .ret (mkE 83 [(4, .bool s4)]) [] G) (fun (s1 : Int) (s5a : Option GA) (s5n : Nat) (s8a : Option GA) (s8n : Nat) (G : GH) => k .normal (mkE 83 [(1, .int .i64 s1), (5, .slice s5a s5n), (8, .slice s8a s8n)]) [] G) s1 s5a s5n s6 s7 s8a s8n s9 s10 G := by
  intros
  rw [u7_0_raw]
  simp only [l7_0]

def u7_1 {R : Type} (O : Ora R) (Kret : Bool → GH → Option R) (KN : Int → Option GA → Nat → Option GA → Nat → Int → Int → GH → Option R) (K0 : GH → Option R) (s1 : Int) (s5a : Option GA) (s5n : Nat) (s8a : Option GA) (s8n : Nat) (s60 : Int) (s61 : Int) (G : GH) : Option R :=
  bif (decide (s61 < s60)) then
  (idx? s5a s5n s61 4).bind fun a1 =>
  (ldInt G .i64 (GA.add a1 3)).bind fun x2 =>
  (idx? s5a s5n s61 4).bind fun a3 =>
  (gst G (GA.add a3 3) [.int .i64 (IntKind.wrap .i64 (x2 + s1))]).bind fun G4 =>
  (idx? s5a s5n s61 4).bind fun a5 =>
  (ldInt G4 .i64 (GA.add a5 0)).bind fun x6 =>
  (ldStr G4 (GA.add a5 1)).bind fun x7 =>
  (ldFloat G4 .f64 (GA.add a5 2)).bind fun x8 =>
  (ldInt G4 .i64 (GA.add a5 3)).bind fun x9 =>
  (idx? s8a s8n s61 4).bind fun a10 =>
  (ldInt G4 .i64 (GA.add a10 0)).bind fun x11 =>
  (ldStr G4 (GA.add a10 1)).bind fun x12 =>
  (ldFloat G4 .f64 (GA.add a10 2)).bind fun x13 =>
  (ldInt G4 .i64 (GA.add a10 3)).bind fun x14 =>
  bif (!((x6 == x11) && ((x7 == x12) && ((feq .f64 x8 x13) && ((x9 == x14) && true))))) then
  Kret false G4
  else
  KN s1 s5a s5n s8a s8n s60 (IntKind.wrap .i64 (s61 + (1 : Int))) G4
  else
  K0 G

def l7_1 {R : Type} (O : Ora R) (Kret : Bool → GH → Option R) (K0 : GH → Option R) : Nat → Int → Option GA → Nat → Option GA → Nat → Int → Int → GH → Option R
  | 0, _, _, _, _, _, _, _, _ => none
  | n + 1, s1, s5a, s5n, s8a, s8n, s60, s61, G => u7_1 O Kret (l7_1 O Kret K0 n) K0 s1 s5a s5n s8a s8n s60 s61 G

theorem u7_1_raw {R : Type} (O : Ora R) (fuel : Nat) (s1 : Int) (s5a : Option GA) (s5n : Nat) (s8a : Option GA) (s8n : Nat) (s60 : Int) (s61 : Int) (G : GH) (k : Ex → List IV → List (List IV) → GH → Option R) :
  loopD Try.prog O lo7 fuel (nav (Try.f7.body.getD .skip) [1, 1, 1, 1, 1, 1, 1, 0, 1, 0, 0]) 44 (mkE 83 [(1, .int .i64 s1), (5, .slice s5a s5n), (8, .slice s8a s8n), (60, .int .i64 s60), (61, .int .i64 s61)]) [] G k =
  u7_1 O (fun (s4 : Bool) (G : GH) => k .ret (mkE 83 [(4, .bool s4)]) [] G) (fun (s1 : Int) (s5a : Option GA) (s5n : Nat) (s8a : Option GA) (s8n : Nat) (s60 : Int) (s61 : Int) (G : GH) => k .normal (mkE 83 [(1, .int .i64 s1), (5, .slice s5a s5n), (8, .slice s8a s8n), (60, .int .i64 s60), (61, .int .i64 s61)]) [] G) (fun (G : GH) => k (.exit 0) (mkE 83 []) [] G) s1 s5a s5n s8a s8n s60 s61 G := by kernel_rfl

theorem l7_1_eq {R : Type} (O : Ora R) (fuel : Nat) (k : Ex → List IV → List (List IV) → GH → Option R) : ∀ (n : Nat) (s1 : Int) (s5a : Option GA) (s5n : Nat) (s8a : Option GA) (s8n : Nat) (s60 : Int) (s61 : Int) (G : GH),
  loopN (loopD Try.prog O lo7 fuel (nav (Try.f7.body.getD .skip) [1, 1, 1, 1, 1, 1, 1, 0, 1, 0, 0]) 44) n (mkE 83 [(1, .int .i64 s1), (5, .slice s5a s5n), (8, .slice s8a s8n), (60, .int .i64 s60), (61, .int .i64 s61)]) [] G k = l7_1 O (fun (s4 : Bool) (G : GH) => k .ret (mkE 83 [(4, .bool s4)]) [] G) (fun (G : GH) => k (.exit 0) (mkE 83 []) [] G) n s1 s5a s5n s8a s8n s60 s61 G := by
  intro n
  induction n with
  | zero => intros; rfl
  | succ n ih =>
    intros
    rw [loopN_succ, u7_1_raw]
    simp only [l7_1, loopK_normal, loopK_exit, loopK_ret, ih]

def u7 {R : Type} (O : Ora R) (k : IV → GH → Option R) (L0 : Int → Option GA → Nat → Int → Int → Option GA → Nat → Int → Int → GH → Option R) (p0 : List UInt8) (p1 : Int) (G : GH) : Option R :=
  O 8 [] G fun v1 G2 =>
  (ivBool v1).bind fun x3 =>
  bif (!x3) then
  k (.bool false) G2
  else
  bif (decide ((p0.length : Int) > (20000 : Int))) then
  k (.bool true) G2
  else
  O 10 [.str p0] G2 fun v4 G5 =>
  (ivTup 3 v4).bind fun c6 =>
  (ivSlice (c6.getD 0 undefI)).bind fun x7 =>
  (ivInt .i64 (c6.getD 1 undefI)).bind fun x8 =>
  (ivInt .i64 (c6.getD 2 undefI)).bind fun x9 =>
  O 20 [.str ([10] : List UInt8), .int .i64 (IntKind.wrap .i64 (Int.tmod (IntKind.wrap .u64 p1) (50 : Int)))] G5 fun v10 G11 =>
  (ivStr v10).bind fun x12 =>
  bif decide (x12.length + ([32, 9] : List UInt8).length ≤ roomS) then
  bif decide ((x12 ++ ([32, 9] : List UInt8)).length + p0.length ≤ roomS) then
  bif decide (((x12 ++ ([32, 9] : List UInt8)) ++ p0).length + ([10] : List UInt8).length ≤ roomS) then
  O 10 [.str (((x12 ++ ([32, 9] : List UInt8)) ++ p0) ++ ([10] : List UInt8))] G11 fun v13 G14 =>
  (ivTup 3 v13).bind fun c15 =>
  (ivSlice (c15.getD 0 undefI)).bind fun x16 =>
  (ivInt .i64 (c15.getD 1 undefI)).bind fun x17 =>
  (ivInt .i64 (c15.getD 2 undefI)).bind fun x18 =>
  L0 (IntKind.wrap .i64 (Int.tmod (IntKind.wrap .u64 p1) (50 : Int))) x7.1 x7.2 x8 x9 x16.1 x16.2 x17 x18 G14
  else none
  else none
  else none

def a7_0ret {R : Type} (O : Ora R) (k : IV → GH → Option R) (s4 : Bool) (G : GH) : Option R :=
  k (.bool s4) G

def a7_0N {R : Type} (O : Ora R) (k : IV → GH → Option R) (L1 : Int → Option GA → Nat → Option GA → Nat → Int → Int → GH → Option R) (s1 : Int) (s5a : Option GA) (s5n : Nat) (s8a : Option GA) (s8n : Nat) (G : GH) : Option R :=
  L1 s1 s5a s5n s8a s8n (s5n : Int) (0 : Int) G

def a7_1ret {R : Type} (O : Ora R) (k : IV → GH → Option R) (s4 : Bool) (G : GH) : Option R :=
  k (.bool s4) G

def a7_10 {R : Type} (O : Ora R) (k : IV → GH → Option R)  (G : GH) : Option R :=
  k (.bool true) G

def L7_1 {R : Type} (O : Ora R) (fuel : Nat) (k : IV → GH → Option R) : Int → Option GA → Nat → Option GA → Nat → Int → Int → GH → Option R := fun (s1 : Int) (s5a : Option GA) (s5n : Nat) (s8a : Option GA) (s8n : Nat) (s60 : Int) (s61 : Int) G =>
  l7_1 O (a7_1ret O k) (a7_10 O k) fuel s1 s5a s5n s8a s8n s60 s61 G

theorem a7_1ret_raw {R : Type} (O : Ora R) (fuel : Nat) (s4 : Bool) (G : GH) (k : IV → GH → Option R) :
  contC Try.prog O lo7 fuel (Try.f7.body.getD .skip) [1, 1, 1, 1, 1, 1, 1, 0, 1, 0] (fun e env F G => match e with | .exit _ => none | _ => resC Try.prog Try.f7 env F G k) .ret (mkE 83 [(4, .bool s4)]) [] G =
  a7_1ret O k s4 G := by kernel_rfl

theorem a7_10_raw {R : Type} (O : Ora R) (fuel : Nat)  (G : GH) (k : IV → GH → Option R) :
  contC Try.prog O lo7 fuel (Try.f7.body.getD .skip) [1, 1, 1, 1, 1, 1, 1, 0, 1, 0] (fun e env F G => match e with | .exit _ => none | _ => resC Try.prog Try.f7 env F G k) (.exit 0) (mkE 83 []) [] G =
  a7_10 O k G := by kernel_rfl

theorem L7_1_eq {R : Type} (O : Ora R) (fuel : Nat) (k : IV → GH → Option R) :
  (fun (s1 : Int) (s5a : Option GA) (s5n : Nat) (s8a : Option GA) (s8n : Nat) (s60 : Int) (s61 : Int) (G : GH) => loopN (loopD Try.prog O lo7 fuel (nav (Try.f7.body.getD .skip) [1, 1, 1, 1, 1, 1, 1, 0, 1, 0, 0]) 44) fuel (mkE 83 [(1, .int .i64 s1), (5, .slice s5a s5n), (8, .slice s8a s8n), (60, .int .i64 s60), (61, .int .i64 s61)]) [] G (contC Try.prog O lo7 fuel (Try.f7.body.getD .skip) [1, 1, 1, 1, 1, 1, 1, 0, 1, 0] (fun e env F G => match e with | .exit _ => none | _ => resC Try.prog Try.f7 env F G k))) = L7_1 O fuel k := by
  funext s1 s5a s5n s8a s8n s60 s61 G
  simp only [L7_1, l7_1_eq, a7_1ret_raw, a7_10_raw]

def L7_0 {R : Type} (O : Ora R) (fuel : Nat) (k : IV → GH → Option R) : Int → Option GA → Nat → Int → Int → Option GA → Nat → Int → Int → GH → Option R := fun (s1 : Int) (s5a : Option GA) (s5n : Nat) (s6 : Int) (s7 : Int) (s8a : Option GA) (s8n : Nat) (s9 : Int) (s10 : Int) G =>
  stepN fuel (l7_0 O (a7_0ret O k) (a7_0N O k (L7_1 O fuel k)) s1 s5a s5n s6 s7 s8a s8n s9 s10 G)

theorem a7_0ret_raw {R : Type} (O : Ora R) (fuel : Nat) (s4 : Bool) (G : GH) (k : IV → GH → Option R) :
  contC Try.prog O lo7 fuel (Try.f7.body.getD .skip) [1, 1, 1, 1, 1, 1, 0] (fun e env F G => match e with | .exit _ => none | _ => resC Try.prog Try.f7 env F G k) .ret (mkE 83 [(4, .bool s4)]) [] G =
  a7_0ret O k s4 G := by kernel_rfl

theorem a7_0N_raw {R : Type} (O : Ora R) (fuel : Nat) (s1 : Int) (s5a : Option GA) (s5n : Nat) (s8a : Option GA) (s8n : Nat) (G : GH) (k : IV → GH → Option R) :
  contC Try.prog O lo7 fuel (Try.f7.body.getD .skip) [1, 1, 1, 1, 1, 1, 0] (fun e env F G => match e with | .exit _ => none | _ => resC Try.prog Try.f7 env F G k) .normal (mkE 83 [(1, .int .i64 s1), (5, .slice s5a s5n), (8, .slice s8a s8n)]) [] G =
  a7_0N O k (fun (s1 : Int) (s5a : Option GA) (s5n : Nat) (s8a : Option GA) (s8n : Nat) (s60 : Int) (s61 : Int) (G : GH) => loopN (loopD Try.prog O lo7 fuel (nav (Try.f7.body.getD .skip) [1, 1, 1, 1, 1, 1, 1, 0, 1, 0, 0]) 44) fuel (mkE 83 [(1, .int .i64 s1), (5, .slice s5a s5n), (8, .slice s8a s8n), (60, .int .i64 s60), (61, .int .i64 s61)]) [] G (contC Try.prog O lo7 fuel (Try.f7.body.getD .skip) [1, 1, 1, 1, 1, 1, 1, 0, 1, 0] (fun e env F G => match e with | .exit _ => none | _ => resC Try.prog Try.f7 env F G k))) s1 s5a s5n s8a s8n G := by kernel_rfl

theorem L7_0_eq {R : Type} (O : Ora R) (fuel : Nat) (k : IV → GH → Option R) :
  (fun (s1 : Int) (s5a : Option GA) (s5n : Nat) (s6 : Int) (s7 : Int) (s8a : Option GA) (s8n : Nat) (s9 : Int) (s10 : Int) (G : GH) => stepN fuel (loopD Try.prog O lo7 fuel (nav (Try.f7.body.getD .skip) [1, 1, 1, 1, 1, 1, 0]) 43 (mkE 83 [(1, .int .i64 s1), (5, .slice s5a s5n), (6, .int .i64 s6), (7, .int .i64 s7), (8, .slice s8a s8n), (9, .int .i64 s9), (10, .int .i64 s10)]) [] G (contC Try.prog O lo7 fuel (Try.f7.body.getD .skip) [1, 1, 1, 1, 1, 1, 0] (fun e env F G => match e with | .exit _ => none | _ => resC Try.prog Try.f7 env F G k)))) = L7_0 O fuel k := by
  funext s1 s5a s5n s6 s7 s8a s8n s9 s10 G
  simp only [L7_0, l7_0_eq, a7_0ret_raw, a7_0N_raw, L7_1_eq]

theorem e7_raw {R : Type} (O : Ora R) (fuel : Nat) (p0 : List UInt8) (p1 : Int) (G : GH) (k : IV → GH → Option R) :
  bodyC Try.prog O lo7 fuel Try.f7 [.str p0, .int .i64 p1] G k =
  u7 O k (fun (s1 : Int) (s5a : Option GA) (s5n : Nat) (s6 : Int) (s7 : Int) (s8a : Option GA) (s8n : Nat) (s9 : Int) (s10 : Int) (G : GH) => stepN fuel (loopD Try.prog O lo7 fuel (nav (Try.f7.body.getD .skip) [1, 1, 1, 1, 1, 1, 0]) 43 (mkE 83 [(1, .int .i64 s1), (5, .slice s5a s5n), (6, .int .i64 s6), (7, .int .i64 s7), (8, .slice s8a s8n), (9, .int .i64 s9), (10, .int .i64 s10)]) [] G (contC Try.prog O lo7 fuel (Try.f7.body.getD .skip) [1, 1, 1, 1, 1, 1, 0] (fun e env F G => match e with | .exit _ => none | _ => resC Try.prog Try.f7 env F G k)))) p0 p1 G := by kernel_rfl

theorem e7 {R : Type} (O : Ora R) (fuel : Nat) (p0 : List UInt8) (p1 : Int) (G : GH) (k : IV → GH → Option R) :
  bodyC Try.prog O lo7 fuel Try.f7 [.str p0, .int .i64 p1] G k =
  u7 O k (L7_0 O fuel k) p0 p1 G := by
  rw [e7_raw, L7_0_eq]

theorem r7 {R : Type} (fuel n : Nat) (p0 : List UInt8) (p1 : Int) (G : GH) (k : IV → GH → Option R) :
  runL Try.prog lexLib lo0 fuel (n + 1) 7 [.str p0, .int .i64 p1] G k = bodyC Try.prog (runL Try.prog lexLib lo0 fuel n) lo7 fuel Try.f7 [.str p0, .int .i64 p1] G k := runL_body Try.func7 rfl rfl rfl

end Go.LI.Lex
