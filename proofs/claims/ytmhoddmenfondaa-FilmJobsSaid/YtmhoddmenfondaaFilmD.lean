/- What the interpreter gives for FilmJobs (written by decomp.py). -/
import Derived.Test.YtmhoddmenfondaaFilmA
namespace Go.LI.Film
open Go.Proofs.Ytmhoddmenfondaa Go Go.Proofs Go.LI
set_option maxRecDepth 100000
set_option linter.unusedVariables false
set_option linter.unusedSimpArgs false
/-! ### lantern/lanternlaw19.FilmJobs -/
def u3_0 {R : Type} (O : Ora R) (Kret : Bool → GH → Option R) (KN : Int → Int → Int → Option GA → Nat → Int → Option GA → Nat → GH → Option R) (s0 : Int) (s1 : Int) (s2 : Int) (s7a : Option GA) (s7n : Nat) (s8 : Int) (s9a : Option GA) (s9n : Nat) (s10 : Int) (G : GH) : Option R :=
  bif (s8 != s10) then
  Kret false G
  else
  bif ((s7n : Int) != (s9n : Int)) then
  Kret false G
  else
  KN s0 s1 s2 s7a s7n s8 s9a s9n G

def l3_0 {R : Type} (O : Ora R) (Kret : Bool → GH → Option R) (KN : Int → Int → Int → Option GA → Nat → Int → Option GA → Nat → GH → Option R) : Int → Int → Int → Option GA → Nat → Int → Option GA → Nat → Int → GH → Option R := fun (s0 : Int) (s1 : Int) (s2 : Int) (s7a : Option GA) (s7n : Nat) (s8 : Int) (s9a : Option GA) (s9n : Nat) (s10 : Int) G => u3_0 O Kret KN s0 s1 s2 s7a s7n s8 s9a s9n s10 G

theorem u3_0_raw {R : Type} (O : Ora R) (fuel : Nat) (s0 : Int) (s1 : Int) (s2 : Int) (s7a : Option GA) (s7n : Nat) (s8 : Int) (s9a : Option GA) (s9n : Nat) (s10 : Int) (G : GH) (k : Ex → List IV → List (List IV) → GH → Option R) :
  loopD Try.prog O lo3 fuel (nav (Try.f3.body.getD .skip) [1, 1, 1, 1, 0]) 31 (mkE 144 [(0, .int .i64 s0), (1, .int .i64 s1), (2, .int .i64 s2), (7, .slice s7a s7n), (8, .int .i64 s8), (9, .slice s9a s9n), (10, .int .i64 s10)]) [] G k =
  u3_0 O (fun (s6 : Bool) (G : GH) => k .ret (mkE 144 [(6, .bool s6)]) [] G) (fun (s0 : Int) (s1 : Int) (s2 : Int) (s7a : Option GA) (s7n : Nat) (s8 : Int) (s9a : Option GA) (s9n : Nat) (G : GH) => k .normal (mkE 144 [(0, .int .i64 s0), (1, .int .i64 s1), (2, .int .i64 s2), (7, .slice s7a s7n), (8, .int .i64 s8), (9, .slice s9a s9n)]) [] G) s0 s1 s2 s7a s7n s8 s9a s9n s10 G := by kernel_rfl

theorem l3_0_eq {R : Type} (O : Ora R) (fuel : Nat) (k : Ex → List IV → List (List IV) → GH → Option R) : ∀ (s0 : Int) (s1 : Int) (s2 : Int) (s7a : Option GA) (s7n : Nat) (s8 : Int) (s9a : Option GA) (s9n : Nat) (s10 : Int) (G : GH),
  loopD Try.prog O lo3 fuel (nav (Try.f3.body.getD .skip) [1, 1, 1, 1, 0]) 31 (mkE 144 [(0, .int .i64 s0), (1, .int .i64 s1), (2, .int .i64 s2), (7, .slice s7a s7n), (8, .int .i64 s8), (9, .slice s9a s9n), (10, .int .i64 s10)]) [] G k = l3_0 O (fun (s6 : Bool) (G : GH) => k .ret (mkE 144 [(6, .bool s6)]) [] G) (fun (s0 : Int) (s1 : Int) (s2 : Int) (s7a : Option GA) (s7n : Nat) (s8 : Int) (s9a : Option GA) (s9n : Nat) (G : GH) => k .normal (mkE 144 [(0, .int .i64 s0), (1, .int .i64 s1), (2, .int .i64 s2), (7, .slice s7a s7n), (8, .int .i64 s8), (9, .slice s9a s9n)]) [] G) s0 s1 s2 s7a s7n s8 s9a s9n s10 G := by
  intros
  rw [u3_0_raw]
  simp only [l3_0]

def u3_1 {R : Type} (O : Ora R) (Kret : Bool → GH → Option R) (KN : Int → Int → Int → Option GA → Nat → Int → Option GA → Nat → Int → Int → GH → Option R) (K0 : Int → Int → Int → Option GA → Nat → Int → GH → Option R) (s0 : Int) (s1 : Int) (s2 : Int) (s7a : Option GA) (s7n : Nat) (s8 : Int) (s9a : Option GA) (s9n : Nat) (s46 : Int) (s47 : Int) (G : GH) : Option R :=
  bif (decide (s47 < s46)) then
  (idx? s7a s7n s47 4).bind fun a1 =>
  (ldInt G .i64 (GA.add a1 0)).bind fun x2 =>
  (ldInt G .i64 (GA.add a1 1)).bind fun x3 =>
  (ldInt G .i64 (GA.add a1 2)).bind fun x4 =>
  (ldInt G .i64 (GA.add a1 3)).bind fun x5 =>
  (idx? s9a s9n s47 4).bind fun a6 =>
  (ldInt G .i64 (GA.add a6 0)).bind fun x7 =>
  (ldInt G .i64 (GA.add a6 1)).bind fun x8 =>
  (ldInt G .i64 (GA.add a6 2)).bind fun x9 =>
  (ldInt G .i64 (GA.add a6 3)).bind fun x10 =>
  bif (!((x2 == x7) && ((x3 == x8) && ((x4 == x9) && ((x5 == x10) && true))))) then
  Kret false G
  else
  KN s0 s1 s2 s7a s7n s8 s9a s9n s46 (IntKind.wrap .i64 (s47 + (1 : Int))) G
  else
  K0 s0 s1 s2 s7a s7n s8 G

def l3_1 {R : Type} (O : Ora R) (Kret : Bool → GH → Option R) (K0 : Int → Int → Int → Option GA → Nat → Int → GH → Option R) : Nat → Int → Int → Int → Option GA → Nat → Int → Option GA → Nat → Int → Int → GH → Option R
  | 0, _, _, _, _, _, _, _, _, _, _, _ => none
  | n + 1, s0, s1, s2, s7a, s7n, s8, s9a, s9n, s46, s47, G => u3_1 O Kret (l3_1 O Kret K0 n) K0 s0 s1 s2 s7a s7n s8 s9a s9n s46 s47 G

theorem u3_1_raw {R : Type} (O : Ora R) (fuel : Nat) (s0 : Int) (s1 : Int) (s2 : Int) (s7a : Option GA) (s7n : Nat) (s8 : Int) (s9a : Option GA) (s9n : Nat) (s46 : Int) (s47 : Int) (G : GH) (k : Ex → List IV → List (List IV) → GH → Option R) :
  loopD Try.prog O lo3 fuel (nav (Try.f3.body.getD .skip) [1, 1, 1, 1, 1, 0, 1, 0, 0]) 32 (mkE 144 [(0, .int .i64 s0), (1, .int .i64 s1), (2, .int .i64 s2), (7, .slice s7a s7n), (8, .int .i64 s8), (9, .slice s9a s9n), (46, .int .i64 s46), (47, .int .i64 s47)]) [] G k =
  u3_1 O (fun (s6 : Bool) (G : GH) => k .ret (mkE 144 [(6, .bool s6)]) [] G) (fun (s0 : Int) (s1 : Int) (s2 : Int) (s7a : Option GA) (s7n : Nat) (s8 : Int) (s9a : Option GA) (s9n : Nat) (s46 : Int) (s47 : Int) (G : GH) => k .normal (mkE 144 [(0, .int .i64 s0), (1, .int .i64 s1), (2, .int .i64 s2), (7, .slice s7a s7n), (8, .int .i64 s8), (9, .slice s9a s9n), (46, .int .i64 s46), (47, .int .i64 s47)]) [] G) (fun (s0 : Int) (s1 : Int) (s2 : Int) (s7a : Option GA) (s7n : Nat) (s8 : Int) (G : GH) => k (.exit 0) (mkE 144 [(0, .int .i64 s0), (1, .int .i64 s1), (2, .int .i64 s2), (7, .slice s7a s7n), (8, .int .i64 s8)]) [] G) s0 s1 s2 s7a s7n s8 s9a s9n s46 s47 G := by kernel_rfl

theorem l3_1_eq {R : Type} (O : Ora R) (fuel : Nat) (k : Ex → List IV → List (List IV) → GH → Option R) : ∀ (n : Nat) (s0 : Int) (s1 : Int) (s2 : Int) (s7a : Option GA) (s7n : Nat) (s8 : Int) (s9a : Option GA) (s9n : Nat) (s46 : Int) (s47 : Int) (G : GH),
  loopN (loopD Try.prog O lo3 fuel (nav (Try.f3.body.getD .skip) [1, 1, 1, 1, 1, 0, 1, 0, 0]) 32) n (mkE 144 [(0, .int .i64 s0), (1, .int .i64 s1), (2, .int .i64 s2), (7, .slice s7a s7n), (8, .int .i64 s8), (9, .slice s9a s9n), (46, .int .i64 s46), (47, .int .i64 s47)]) [] G k = l3_1 O (fun (s6 : Bool) (G : GH) => k .ret (mkE 144 [(6, .bool s6)]) [] G) (fun (s0 : Int) (s1 : Int) (s2 : Int) (s7a : Option GA) (s7n : Nat) (s8 : Int) (G : GH) => k (.exit 0) (mkE 144 [(0, .int .i64 s0), (1, .int .i64 s1), (2, .int .i64 s2), (7, .slice s7a s7n), (8, .int .i64 s8)]) [] G) n s0 s1 s2 s7a s7n s8 s9a s9n s46 s47 G := by
  intro n
  induction n with
  | zero => intros; rfl
  | succ n ih =>
    intros
    rw [loopN_succ, u3_1_raw]
    simp only [l3_1, loopK_normal, loopK_exit, loopK_ret, ih]

def u3_2 {R : Type} (O : Ora R) (Kret : Bool → GH → Option R) (KN : Int → Int → Int → Option GA → Nat → GH → Option R) (s0 : Int) (s1 : Int) (s2 : Int) (s7a : Option GA) (s7n : Nat) (s8 : Int) (G : GH) : Option R :=
  bif (s8 != (0 : Int)) then
  Kret true G
  else
  bif (decide ((IntKind.wrap .i64 (s0 * s1)) > (3000 : Int))) then
  Kret true G
  else
  KN s0 s1 s2 s7a s7n G

def l3_2 {R : Type} (O : Ora R) (Kret : Bool → GH → Option R) (KN : Int → Int → Int → Option GA → Nat → GH → Option R) : Int → Int → Int → Option GA → Nat → Int → GH → Option R := fun (s0 : Int) (s1 : Int) (s2 : Int) (s7a : Option GA) (s7n : Nat) (s8 : Int) G => u3_2 O Kret KN s0 s1 s2 s7a s7n s8 G

theorem u3_2_raw {R : Type} (O : Ora R) (fuel : Nat) (s0 : Int) (s1 : Int) (s2 : Int) (s7a : Option GA) (s7n : Nat) (s8 : Int) (G : GH) (k : Ex → List IV → List (List IV) → GH → Option R) :
  loopD Try.prog O lo3 fuel (nav (Try.f3.body.getD .skip) [1, 1, 1, 1, 1, 1, 0]) 63 (mkE 144 [(0, .int .i64 s0), (1, .int .i64 s1), (2, .int .i64 s2), (7, .slice s7a s7n), (8, .int .i64 s8)]) [] G k =
  u3_2 O (fun (s6 : Bool) (G : GH) => k .ret (mkE 144 [(6, .bool s6)]) [] G) (fun (s0 : Int) (s1 : Int) (s2 : Int) (s7a : Option GA) (s7n : Nat) (G : GH) => k .normal (mkE 144 [(0, .int .i64 s0), (1, .int .i64 s1), (2, .int .i64 s2), (7, .slice s7a s7n)]) [] G) s0 s1 s2 s7a s7n s8 G := by kernel_rfl

theorem l3_2_eq {R : Type} (O : Ora R) (fuel : Nat) (k : Ex → List IV → List (List IV) → GH → Option R) : ∀ (s0 : Int) (s1 : Int) (s2 : Int) (s7a : Option GA) (s7n : Nat) (s8 : Int) (G : GH),
  loopD Try.prog O lo3 fuel (nav (Try.f3.body.getD .skip) [1, 1, 1, 1, 1, 1, 0]) 63 (mkE 144 [(0, .int .i64 s0), (1, .int .i64 s1), (2, .int .i64 s2), (7, .slice s7a s7n), (8, .int .i64 s8)]) [] G k = l3_2 O (fun (s6 : Bool) (G : GH) => k .ret (mkE 144 [(6, .bool s6)]) [] G) (fun (s0 : Int) (s1 : Int) (s2 : Int) (s7a : Option GA) (s7n : Nat) (G : GH) => k .normal (mkE 144 [(0, .int .i64 s0), (1, .int .i64 s1), (2, .int .i64 s2), (7, .slice s7a s7n)]) [] G) s0 s1 s2 s7a s7n s8 G := by
  intros
  rw [u3_2_raw]
  simp only [l3_2]

def u3_4 {R : Type} (O : Ora R) (Kret : Bool → Int → Int → Int → Int → GH → Option R) (KN : Int → Int → Option GA → Nat → Option GA → Nat → Int → Int → Int → Int → Int → Int → GH → Option R) (s0 : Int) (s2 : Int) (s12a : Option GA) (s12n : Nat) (s72a : Option GA) (s72n : Nat) (s73 : Int) (s74 : Int) (b0_0 : Int) (b0_1 : Int) (b0_2 : Int) (b0_3 : Int) (G : GH) : Option R :=
  bif (decide (b0_0 ≥ b0_2)) then
  Kret false b0_0 b0_1 b0_2 b0_3 G
  else
  bif (decide (b0_1 ≥ b0_3)) then
  Kret false b0_0 b0_1 b0_2 b0_3 G
  else
  bif (decide ((IntKind.wrap .i64 (b0_2 - b0_0)) > s2)) then
  Kret false b0_0 b0_1 b0_2 b0_3 G
  else
  bif (decide ((IntKind.wrap .i64 (b0_3 - b0_1)) > s2)) then
  Kret false b0_0 b0_1 b0_2 b0_3 G
  else
  KN s0 s2 s12a s12n s72a s72n s73 s74 b0_0 b0_1 b0_2 b0_3 G

def l3_4 {R : Type} (O : Ora R) (Kret : Bool → Int → Int → Int → Int → GH → Option R) (KN : Int → Int → Option GA → Nat → Option GA → Nat → Int → Int → Int → Int → Int → Int → GH → Option R) : Int → Int → Option GA → Nat → Option GA → Nat → Int → Int → Int → Int → Int → Int → GH → Option R := fun (s0 : Int) (s2 : Int) (s12a : Option GA) (s12n : Nat) (s72a : Option GA) (s72n : Nat) (s73 : Int) (s74 : Int) (b0_0 : Int) (b0_1 : Int) (b0_2 : Int) (b0_3 : Int) G => u3_4 O Kret KN s0 s2 s12a s12n s72a s72n s73 s74 b0_0 b0_1 b0_2 b0_3 G

theorem u3_4_raw {R : Type} (O : Ora R) (fuel : Nat) (s0 : Int) (s2 : Int) (s12a : Option GA) (s12n : Nat) (s72a : Option GA) (s72n : Nat) (s73 : Int) (s74 : Int) (b0_0 : Int) (b0_1 : Int) (b0_2 : Int) (b0_3 : Int) (G : GH) (k : Ex → List IV → List (List IV) → GH → Option R) :
  loopD Try.prog O lo3 fuel (nav (Try.f3.body.getD .skip) [1, 1, 1, 1, 1, 1, 1, 1, 0, 1, 0, 0, 1, 1, 0, 0, 1, 0]) 87 (mkE 144 [(0, .int .i64 s0), (2, .int .i64 s2), (12, .slice s12a s12n), (14, .loc 0 0), (72, .slice s72a s72n), (73, .int .i64 s73), (74, .int .i64 s74)]) [[.int .i64 b0_0, .int .i64 b0_1, .int .i64 b0_2, .int .i64 b0_3]] G k =
  u3_4 O (fun (s6 : Bool) (b0_0 : Int) (b0_1 : Int) (b0_2 : Int) (b0_3 : Int) (G : GH) => k .ret (mkE 144 [(6, .bool s6)]) [[.int .i64 b0_0, .int .i64 b0_1, .int .i64 b0_2, .int .i64 b0_3]] G) (fun (s0 : Int) (s2 : Int) (s12a : Option GA) (s12n : Nat) (s72a : Option GA) (s72n : Nat) (s73 : Int) (s74 : Int) (b0_0 : Int) (b0_1 : Int) (b0_2 : Int) (b0_3 : Int) (G : GH) => k .normal (mkE 144 [(0, .int .i64 s0), (2, .int .i64 s2), (12, .slice s12a s12n), (14, .loc 0 0), (72, .slice s72a s72n), (73, .int .i64 s73), (74, .int .i64 s74)]) [[.int .i64 b0_0, .int .i64 b0_1, .int .i64 b0_2, .int .i64 b0_3]] G) s0 s2 s12a s12n s72a s72n s73 s74 b0_0 b0_1 b0_2 b0_3 G := by kernel_rfl

theorem l3_4_eq {R : Type} (O : Ora R) (fuel : Nat) (k : Ex → List IV → List (List IV) → GH → Option R) : ∀ (s0 : Int) (s2 : Int) (s12a : Option GA) (s12n : Nat) (s72a : Option GA) (s72n : Nat) (s73 : Int) (s74 : Int) (b0_0 : Int) (b0_1 : Int) (b0_2 : Int) (b0_3 : Int) (G : GH),
  loopD Try.prog O lo3 fuel (nav (Try.f3.body.getD .skip) [1, 1, 1, 1, 1, 1, 1, 1, 0, 1, 0, 0, 1, 1, 0, 0, 1, 0]) 87 (mkE 144 [(0, .int .i64 s0), (2, .int .i64 s2), (12, .slice s12a s12n), (14, .loc 0 0), (72, .slice s72a s72n), (73, .int .i64 s73), (74, .int .i64 s74)]) [[.int .i64 b0_0, .int .i64 b0_1, .int .i64 b0_2, .int .i64 b0_3]] G k = l3_4 O (fun (s6 : Bool) (b0_0 : Int) (b0_1 : Int) (b0_2 : Int) (b0_3 : Int) (G : GH) => k .ret (mkE 144 [(6, .bool s6)]) [[.int .i64 b0_0, .int .i64 b0_1, .int .i64 b0_2, .int .i64 b0_3]] G) (fun (s0 : Int) (s2 : Int) (s12a : Option GA) (s12n : Nat) (s72a : Option GA) (s72n : Nat) (s73 : Int) (s74 : Int) (b0_0 : Int) (b0_1 : Int) (b0_2 : Int) (b0_3 : Int) (G : GH) => k .normal (mkE 144 [(0, .int .i64 s0), (2, .int .i64 s2), (12, .slice s12a s12n), (14, .loc 0 0), (72, .slice s72a s72n), (73, .int .i64 s73), (74, .int .i64 s74)]) [[.int .i64 b0_0, .int .i64 b0_1, .int .i64 b0_2, .int .i64 b0_3]] G) s0 s2 s12a s12n s72a s72n s73 s74 b0_0 b0_1 b0_2 b0_3 G := by
  intros
  rw [u3_4_raw]
  simp only [l3_4]

def u3_6 {R : Type} (O : Ora R) (KN : Int → Int → Option GA → Nat → Int → Int → Option GA → Nat → Int → Int → Int → Int → Int → Int → GH → Option R) (K6 : Int → Int → Option GA → Nat → Int → Option GA → Nat → Int → Int → Int → Int → Int → Int → GH → Option R) (s0 : Int) (s2 : Int) (s12a : Option GA) (s12n : Nat) (s15 : Int) (s16 : Int) (s72a : Option GA) (s72n : Nat) (s73 : Int) (s74 : Int) (b0_0 : Int) (b0_1 : Int) (b0_2 : Int) (b0_3 : Int) (G : GH) : Option R :=
  bif (decide (s16 < b0_2)) then
  (idx? s12a s12n (IntKind.wrap .i64 ((IntKind.wrap .i64 (s15 * s0)) + s16)) 1).bind fun a1 =>
  (ldInt G .i64 a1).bind fun x2 =>
  (idx? s12a s12n (IntKind.wrap .i64 ((IntKind.wrap .i64 (s15 * s0)) + s16)) 1).bind fun a3 =>
  (gst G a3 [.int .i64 (IntKind.wrap .i64 (x2 + (1 : Int)))]).bind fun G4 =>
  KN s0 s2 s12a s12n s15 (IntKind.wrap .i64 (s16 + (1 : Int))) s72a s72n s73 s74 b0_0 b0_1 b0_2 b0_3 G4
  else
  K6 s0 s2 s12a s12n s15 s72a s72n s73 s74 b0_0 b0_1 b0_2 b0_3 G

def l3_6 {R : Type} (O : Ora R) (K6 : Int → Int → Option GA → Nat → Int → Option GA → Nat → Int → Int → Int → Int → Int → Int → GH → Option R) : Nat → Int → Int → Option GA → Nat → Int → Int → Option GA → Nat → Int → Int → Int → Int → Int → Int → GH → Option R
  | 0, _, _, _, _, _, _, _, _, _, _, _, _, _, _, _ => none
  | n + 1, s0, s2, s12a, s12n, s15, s16, s72a, s72n, s73, s74, b0_0, b0_1, b0_2, b0_3, G => u3_6 O (l3_6 O K6 n) K6 s0 s2 s12a s12n s15 s16 s72a s72n s73 s74 b0_0 b0_1 b0_2 b0_3 G

theorem u3_6_raw {R : Type} (O : Ora R) (fuel : Nat) (s0 : Int) (s2 : Int) (s12a : Option GA) (s12n : Nat) (s15 : Int) (s16 : Int) (s72a : Option GA) (s72n : Nat) (s73 : Int) (s74 : Int) (b0_0 : Int) (b0_1 : Int) (b0_2 : Int) (b0_3 : Int) (G : GH) (k : Ex → List IV → List (List IV) → GH → Option R) :
  loopD Try.prog O lo3 fuel (nav (Try.f3.body.getD .skip) [1, 1, 1, 1, 1, 1, 1, 1, 0, 1, 0, 0, 1, 1, 0, 0, 1, 1, 1, 0, 0, 1, 0, 0, 1, 0, 0]) 100 (mkE 144 [(0, .int .i64 s0), (2, .int .i64 s2), (12, .slice s12a s12n), (14, .loc 0 0), (15, .int .i64 s15), (16, .int .i64 s16), (72, .slice s72a s72n), (73, .int .i64 s73), (74, .int .i64 s74)]) [[.int .i64 b0_0, .int .i64 b0_1, .int .i64 b0_2, .int .i64 b0_3]] G k =
  u3_6 O (fun (s0 : Int) (s2 : Int) (s12a : Option GA) (s12n : Nat) (s15 : Int) (s16 : Int) (s72a : Option GA) (s72n : Nat) (s73 : Int) (s74 : Int) (b0_0 : Int) (b0_1 : Int) (b0_2 : Int) (b0_3 : Int) (G : GH) => k .normal (mkE 144 [(0, .int .i64 s0), (2, .int .i64 s2), (12, .slice s12a s12n), (14, .loc 0 0), (15, .int .i64 s15), (16, .int .i64 s16), (72, .slice s72a s72n), (73, .int .i64 s73), (74, .int .i64 s74)]) [[.int .i64 b0_0, .int .i64 b0_1, .int .i64 b0_2, .int .i64 b0_3]] G) (fun (s0 : Int) (s2 : Int) (s12a : Option GA) (s12n : Nat) (s15 : Int) (s72a : Option GA) (s72n : Nat) (s73 : Int) (s74 : Int) (b0_0 : Int) (b0_1 : Int) (b0_2 : Int) (b0_3 : Int) (G : GH) => k (.exit 6) (mkE 144 [(0, .int .i64 s0), (2, .int .i64 s2), (12, .slice s12a s12n), (14, .loc 0 0), (15, .int .i64 s15), (72, .slice s72a s72n), (73, .int .i64 s73), (74, .int .i64 s74)]) [[.int .i64 b0_0, .int .i64 b0_1, .int .i64 b0_2, .int .i64 b0_3]] G) s0 s2 s12a s12n s15 s16 s72a s72n s73 s74 b0_0 b0_1 b0_2 b0_3 G := by kernel_rfl

theorem l3_6_eq {R : Type} (O : Ora R) (fuel : Nat) (k : Ex → List IV → List (List IV) → GH → Option R) : ∀ (n : Nat) (s0 : Int) (s2 : Int) (s12a : Option GA) (s12n : Nat) (s15 : Int) (s16 : Int) (s72a : Option GA) (s72n : Nat) (s73 : Int) (s74 : Int) (b0_0 : Int) (b0_1 : Int) (b0_2 : Int) (b0_3 : Int) (G : GH),
  loopN (loopD Try.prog O lo3 fuel (nav (Try.f3.body.getD .skip) [1, 1, 1, 1, 1, 1, 1, 1, 0, 1, 0, 0, 1, 1, 0, 0, 1, 1, 1, 0, 0, 1, 0, 0, 1, 0, 0]) 100) n (mkE 144 [(0, .int .i64 s0), (2, .int .i64 s2), (12, .slice s12a s12n), (14, .loc 0 0), (15, .int .i64 s15), (16, .int .i64 s16), (72, .slice s72a s72n), (73, .int .i64 s73), (74, .int .i64 s74)]) [[.int .i64 b0_0, .int .i64 b0_1, .int .i64 b0_2, .int .i64 b0_3]] G k = l3_6 O (fun (s0 : Int) (s2 : Int) (s12a : Option GA) (s12n : Nat) (s15 : Int) (s72a : Option GA) (s72n : Nat) (s73 : Int) (s74 : Int) (b0_0 : Int) (b0_1 : Int) (b0_2 : Int) (b0_3 : Int) (G : GH) => k (.exit 6) (mkE 144 [(0, .int .i64 s0), (2, .int .i64 s2), (12, .slice s12a s12n), (14, .loc 0 0), (15, .int .i64 s15), (72, .slice s72a s72n), (73, .int .i64 s73), (74, .int .i64 s74)]) [[.int .i64 b0_0, .int .i64 b0_1, .int .i64 b0_2, .int .i64 b0_3]] G) n s0 s2 s12a s12n s15 s16 s72a s72n s73 s74 b0_0 b0_1 b0_2 b0_3 G := by
  intro n
  induction n with
  | zero => intros; rfl
  | succ n ih =>
    intros
    rw [loopN_succ, u3_6_raw]
    simp only [l3_6, loopK_normal, loopK_exit, loopK_ret, ih]

def u3_5 {R : Type} (O : Ora R) (KN : Int → Int → Option GA → Nat → Int → Option GA → Nat → Int → Int → Int → Int → Int → Int → GH → Option R) (K4 : Int → Int → Option GA → Nat → Option GA → Nat → Int → Int → Int → Int → Int → Int → GH → Option R) (L6 : Int → Int → Option GA → Nat → Int → Int → Option GA → Nat → Int → Int → Int → Int → Int → Int → GH → Option R) (s0 : Int) (s2 : Int) (s12a : Option GA) (s12n : Nat) (s15 : Int) (s72a : Option GA) (s72n : Nat) (s73 : Int) (s74 : Int) (b0_0 : Int) (b0_1 : Int) (b0_2 : Int) (b0_3 : Int) (G : GH) : Option R :=
  bif (decide (s15 < b0_3)) then
  L6 s0 s2 s12a s12n s15 b0_0 s72a s72n s73 s74 b0_0 b0_1 b0_2 b0_3 G
  else
  K4 s0 s2 s12a s12n s72a s72n s73 s74 b0_0 b0_1 b0_2 b0_3 G

def a3_66 {R : Type} (O : Ora R) (KN : Int → Int → Option GA → Nat → Int → Option GA → Nat → Int → Int → Int → Int → Int → Int → GH → Option R) (K4 : Int → Int → Option GA → Nat → Option GA → Nat → Int → Int → Int → Int → Int → Int → GH → Option R) (s0 : Int) (s2 : Int) (s12a : Option GA) (s12n : Nat) (s15 : Int) (s72a : Option GA) (s72n : Nat) (s73 : Int) (s74 : Int) (b0_0 : Int) (b0_1 : Int) (b0_2 : Int) (b0_3 : Int) (G : GH) : Option R :=
  KN s0 s2 s12a s12n (IntKind.wrap .i64 (s15 + (1 : Int))) s72a s72n s73 s74 b0_0 b0_1 b0_2 b0_3 G

def L3_6 {R : Type} (O : Ora R) (fuel : Nat) (KN : Int → Int → Option GA → Nat → Int → Option GA → Nat → Int → Int → Int → Int → Int → Int → GH → Option R) (K4 : Int → Int → Option GA → Nat → Option GA → Nat → Int → Int → Int → Int → Int → Int → GH → Option R) : Int → Int → Option GA → Nat → Int → Int → Option GA → Nat → Int → Int → Int → Int → Int → Int → GH → Option R := fun (s0 : Int) (s2 : Int) (s12a : Option GA) (s12n : Nat) (s15 : Int) (s16 : Int) (s72a : Option GA) (s72n : Nat) (s73 : Int) (s74 : Int) (b0_0 : Int) (b0_1 : Int) (b0_2 : Int) (b0_3 : Int) G =>
  l3_6 O (a3_66 O KN K4) fuel s0 s2 s12a s12n s15 s16 s72a s72n s73 s74 b0_0 b0_1 b0_2 b0_3 G

theorem a3_66_raw {R : Type} (O : Ora R) (fuel : Nat) (s0 : Int) (s2 : Int) (s12a : Option GA) (s12n : Nat) (s15 : Int) (s72a : Option GA) (s72n : Nat) (s73 : Int) (s74 : Int) (b0_0 : Int) (b0_1 : Int) (b0_2 : Int) (b0_3 : Int) (G : GH) (k : Ex → List IV → List (List IV) → GH → Option R) :
  contC Try.prog O lo3 fuel (nav (Try.f3.body.getD .skip) [1, 1, 1, 1, 1, 1, 1, 1, 0, 1, 0, 0, 1, 1, 0, 0, 1, 1, 1, 0, 0]) [1, 0, 0, 1, 0] (kpD lo3 88 1 k) (.exit 6) (mkE 144 [(0, .int .i64 s0), (2, .int .i64 s2), (12, .slice s12a s12n), (14, .loc 0 0), (15, .int .i64 s15), (72, .slice s72a s72n), (73, .int .i64 s73), (74, .int .i64 s74)]) [[.int .i64 b0_0, .int .i64 b0_1, .int .i64 b0_2, .int .i64 b0_3]] G =
  a3_66 O (fun (s0 : Int) (s2 : Int) (s12a : Option GA) (s12n : Nat) (s15 : Int) (s72a : Option GA) (s72n : Nat) (s73 : Int) (s74 : Int) (b0_0 : Int) (b0_1 : Int) (b0_2 : Int) (b0_3 : Int) (G : GH) => k .normal (mkE 144 [(0, .int .i64 s0), (2, .int .i64 s2), (12, .slice s12a s12n), (14, .loc 0 0), (15, .int .i64 s15), (72, .slice s72a s72n), (73, .int .i64 s73), (74, .int .i64 s74)]) [[.int .i64 b0_0, .int .i64 b0_1, .int .i64 b0_2, .int .i64 b0_3]] G) (fun (s0 : Int) (s2 : Int) (s12a : Option GA) (s12n : Nat) (s72a : Option GA) (s72n : Nat) (s73 : Int) (s74 : Int) (b0_0 : Int) (b0_1 : Int) (b0_2 : Int) (b0_3 : Int) (G : GH) => k (.exit 4) (mkE 144 [(0, .int .i64 s0), (2, .int .i64 s2), (12, .slice s12a s12n), (72, .slice s72a s72n), (73, .int .i64 s73), (74, .int .i64 s74)]) [[.int .i64 b0_0, .int .i64 b0_1, .int .i64 b0_2, .int .i64 b0_3]] G) s0 s2 s12a s12n s15 s72a s72n s73 s74 b0_0 b0_1 b0_2 b0_3 G := by kernel_rfl

theorem L3_6_eq {R : Type} (O : Ora R) (fuel : Nat) (k : Ex → List IV → List (List IV) → GH → Option R) :
  (fun (s0 : Int) (s2 : Int) (s12a : Option GA) (s12n : Nat) (s15 : Int) (s16 : Int) (s72a : Option GA) (s72n : Nat) (s73 : Int) (s74 : Int) (b0_0 : Int) (b0_1 : Int) (b0_2 : Int) (b0_3 : Int) (G : GH) => loopN (loopD Try.prog O lo3 fuel (nav (Try.f3.body.getD .skip) [1, 1, 1, 1, 1, 1, 1, 1, 0, 1, 0, 0, 1, 1, 0, 0, 1, 1, 1, 0, 0, 1, 0, 0, 1, 0, 0]) 100) fuel (mkE 144 [(0, .int .i64 s0), (2, .int .i64 s2), (12, .slice s12a s12n), (14, .loc 0 0), (15, .int .i64 s15), (16, .int .i64 s16), (72, .slice s72a s72n), (73, .int .i64 s73), (74, .int .i64 s74)]) [[.int .i64 b0_0, .int .i64 b0_1, .int .i64 b0_2, .int .i64 b0_3]] G (contC Try.prog O lo3 fuel (nav (Try.f3.body.getD .skip) [1, 1, 1, 1, 1, 1, 1, 1, 0, 1, 0, 0, 1, 1, 0, 0, 1, 1, 1, 0, 0]) [1, 0, 0, 1, 0] (kpD lo3 88 1 k))) = L3_6 O fuel (fun (s0 : Int) (s2 : Int) (s12a : Option GA) (s12n : Nat) (s15 : Int) (s72a : Option GA) (s72n : Nat) (s73 : Int) (s74 : Int) (b0_0 : Int) (b0_1 : Int) (b0_2 : Int) (b0_3 : Int) (G : GH) => k .normal (mkE 144 [(0, .int .i64 s0), (2, .int .i64 s2), (12, .slice s12a s12n), (14, .loc 0 0), (15, .int .i64 s15), (72, .slice s72a s72n), (73, .int .i64 s73), (74, .int .i64 s74)]) [[.int .i64 b0_0, .int .i64 b0_1, .int .i64 b0_2, .int .i64 b0_3]] G) (fun (s0 : Int) (s2 : Int) (s12a : Option GA) (s12n : Nat) (s72a : Option GA) (s72n : Nat) (s73 : Int) (s74 : Int) (b0_0 : Int) (b0_1 : Int) (b0_2 : Int) (b0_3 : Int) (G : GH) => k (.exit 4) (mkE 144 [(0, .int .i64 s0), (2, .int .i64 s2), (12, .slice s12a s12n), (72, .slice s72a s72n), (73, .int .i64 s73), (74, .int .i64 s74)]) [[.int .i64 b0_0, .int .i64 b0_1, .int .i64 b0_2, .int .i64 b0_3]] G) := by
  funext s0 s2 s12a s12n s15 s16 s72a s72n s73 s74 b0_0 b0_1 b0_2 b0_3 G
  simp only [L3_6, l3_6_eq, a3_66_raw]

def l3_5 {R : Type} (O : Ora R) (fuel : Nat) (K4 : Int → Int → Option GA → Nat → Option GA → Nat → Int → Int → Int → Int → Int → Int → GH → Option R) : Nat → Int → Int → Option GA → Nat → Int → Option GA → Nat → Int → Int → Int → Int → Int → Int → GH → Option R
  | 0, _, _, _, _, _, _, _, _, _, _, _, _, _, _ => none
  | n + 1, s0, s2, s12a, s12n, s15, s72a, s72n, s73, s74, b0_0, b0_1, b0_2, b0_3, G => u3_5 O (l3_5 O fuel K4 n) K4 (L3_6 O fuel (l3_5 O fuel K4 n) K4) s0 s2 s12a s12n s15 s72a s72n s73 s74 b0_0 b0_1 b0_2 b0_3 G

theorem u3_5_raw {R : Type} (O : Ora R) (fuel : Nat) (s0 : Int) (s2 : Int) (s12a : Option GA) (s12n : Nat) (s15 : Int) (s72a : Option GA) (s72n : Nat) (s73 : Int) (s74 : Int) (b0_0 : Int) (b0_1 : Int) (b0_2 : Int) (b0_3 : Int) (G : GH) (k : Ex → List IV → List (List IV) → GH → Option R) :
  loopD Try.prog O lo3 fuel (nav (Try.f3.body.getD .skip) [1, 1, 1, 1, 1, 1, 1, 1, 0, 1, 0, 0, 1, 1, 0, 0, 1, 1, 1, 0, 0]) 88 (mkE 144 [(0, .int .i64 s0), (2, .int .i64 s2), (12, .slice s12a s12n), (14, .loc 0 0), (15, .int .i64 s15), (72, .slice s72a s72n), (73, .int .i64 s73), (74, .int .i64 s74)]) [[.int .i64 b0_0, .int .i64 b0_1, .int .i64 b0_2, .int .i64 b0_3]] G k =
  u3_5 O (fun (s0 : Int) (s2 : Int) (s12a : Option GA) (s12n : Nat) (s15 : Int) (s72a : Option GA) (s72n : Nat) (s73 : Int) (s74 : Int) (b0_0 : Int) (b0_1 : Int) (b0_2 : Int) (b0_3 : Int) (G : GH) => k .normal (mkE 144 [(0, .int .i64 s0), (2, .int .i64 s2), (12, .slice s12a s12n), (14, .loc 0 0), (15, .int .i64 s15), (72, .slice s72a s72n), (73, .int .i64 s73), (74, .int .i64 s74)]) [[.int .i64 b0_0, .int .i64 b0_1, .int .i64 b0_2, .int .i64 b0_3]] G) (fun (s0 : Int) (s2 : Int) (s12a : Option GA) (s12n : Nat) (s72a : Option GA) (s72n : Nat) (s73 : Int) (s74 : Int) (b0_0 : Int) (b0_1 : Int) (b0_2 : Int) (b0_3 : Int) (G : GH) => k (.exit 4) (mkE 144 [(0, .int .i64 s0), (2, .int .i64 s2), (12, .slice s12a s12n), (72, .slice s72a s72n), (73, .int .i64 s73), (74, .int .i64 s74)]) [[.int .i64 b0_0, .int .i64 b0_1, .int .i64 b0_2, .int .i64 b0_3]] G) (fun (s0 : Int) (s2 : Int) (s12a : Option GA) (s12n : Nat) (s15 : Int) (s16 : Int) (s72a : Option GA) (s72n : Nat) (s73 : Int) (s74 : Int) (b0_0 : Int) (b0_1 : Int) (b0_2 : Int) (b0_3 : Int) (G : GH) => loopN (loopD Try.prog O lo3 fuel (nav (Try.f3.body.getD .skip) [1, 1, 1, 1, 1, 1, 1, 1, 0, 1, 0, 0, 1, 1, 0, 0, 1, 1, 1, 0, 0, 1, 0, 0, 1, 0, 0]) 100) fuel (mkE 144 [(0, .int .i64 s0), (2, .int .i64 s2), (12, .slice s12a s12n), (14, .loc 0 0), (15, .int .i64 s15), (16, .int .i64 s16), (72, .slice s72a s72n), (73, .int .i64 s73), (74, .int .i64 s74)]) [[.int .i64 b0_0, .int .i64 b0_1, .int .i64 b0_2, .int .i64 b0_3]] G (contC Try.prog O lo3 fuel (nav (Try.f3.body.getD .skip) [1, 1, 1, 1, 1, 1, 1, 1, 0, 1, 0, 0, 1, 1, 0, 0, 1, 1, 1, 0, 0]) [1, 0, 0, 1, 0] (kpD lo3 88 1 k))) s0 s2 s12a s12n s15 s72a s72n s73 s74 b0_0 b0_1 b0_2 b0_3 G := by kernel_rfl

theorem l3_5_eq {R : Type} (O : Ora R) (fuel : Nat) (k : Ex → List IV → List (List IV) → GH → Option R) : ∀ (n : Nat) (s0 : Int) (s2 : Int) (s12a : Option GA) (s12n : Nat) (s15 : Int) (s72a : Option GA) (s72n : Nat) (s73 : Int) (s74 : Int) (b0_0 : Int) (b0_1 : Int) (b0_2 : Int) (b0_3 : Int) (G : GH),
  loopN (loopD Try.prog O lo3 fuel (nav (Try.f3.body.getD .skip) [1, 1, 1, 1, 1, 1, 1, 1, 0, 1, 0, 0, 1, 1, 0, 0, 1, 1, 1, 0, 0]) 88) n (mkE 144 [(0, .int .i64 s0), (2, .int .i64 s2), (12, .slice s12a s12n), (14, .loc 0 0), (15, .int .i64 s15), (72, .slice s72a s72n), (73, .int .i64 s73), (74, .int .i64 s74)]) [[.int .i64 b0_0, .int .i64 b0_1, .int .i64 b0_2, .int .i64 b0_3]] G k = l3_5 O fuel (fun (s0 : Int) (s2 : Int) (s12a : Option GA) (s12n : Nat) (s72a : Option GA) (s72n : Nat) (s73 : Int) (s74 : Int) (b0_0 : Int) (b0_1 : Int) (b0_2 : Int) (b0_3 : Int) (G : GH) => k (.exit 4) (mkE 144 [(0, .int .i64 s0), (2, .int .i64 s2), (12, .slice s12a s12n), (72, .slice s72a s72n), (73, .int .i64 s73), (74, .int .i64 s74)]) [[.int .i64 b0_0, .int .i64 b0_1, .int .i64 b0_2, .int .i64 b0_3]] G) n s0 s2 s12a s12n s15 s72a s72n s73 s74 b0_0 b0_1 b0_2 b0_3 G := by
  intro n
  induction n with
  | zero => intros; rfl
  | succ n ih =>
    intros
    rw [loopN_succ, u3_5_raw]
    simp only [l3_5, loopK_normal, loopK_exit, loopK_ret, ih, L3_6_eq]

def u3_3 {R : Type} (O : Ora R) (Kret : Bool → GH → Option R) (KN : Int → Int → Option GA → Nat → Option GA → Nat → Int → Int → GH → Option R) (K2 : Option GA → Nat → GH → Option R) (L4 : Int → Int → Option GA → Nat → Option GA → Nat → Int → Int → Int → Int → Int → Int → GH → Option R) (s0 : Int) (s2 : Int) (s12a : Option GA) (s12n : Nat) (s72a : Option GA) (s72n : Nat) (s73 : Int) (s74 : Int) (G : GH) : Option R :=
  bif (decide (s74 < s73)) then
  (idx? s72a s72n s74 4).bind fun a1 =>
  (ldInt G .i64 (GA.add a1 0)).bind fun x2 =>
  (ldInt G .i64 (GA.add a1 1)).bind fun x3 =>
  (ldInt G .i64 (GA.add a1 2)).bind fun x4 =>
  (ldInt G .i64 (GA.add a1 3)).bind fun x5 =>
  L4 s0 s2 s12a s12n s72a s72n s73 s74 x2 x3 x4 x5 G
  else
  K2 s12a s12n G

def a3_4ret {R : Type} (O : Ora R) (Kret : Bool → GH → Option R) (KN : Int → Int → Option GA → Nat → Option GA → Nat → Int → Int → GH → Option R) (K2 : Option GA → Nat → GH → Option R) (s6 : Bool) (b0_0 : Int) (b0_1 : Int) (b0_2 : Int) (b0_3 : Int) (G : GH) : Option R :=
  Kret s6 G

def a3_4N {R : Type} (O : Ora R) (Kret : Bool → GH → Option R) (KN : Int → Int → Option GA → Nat → Option GA → Nat → Int → Int → GH → Option R) (K2 : Option GA → Nat → GH → Option R) (L5 : Int → Int → Option GA → Nat → Int → Option GA → Nat → Int → Int → Int → Int → Int → Int → GH → Option R) (s0 : Int) (s2 : Int) (s12a : Option GA) (s12n : Nat) (s72a : Option GA) (s72n : Nat) (s73 : Int) (s74 : Int) (b0_0 : Int) (b0_1 : Int) (b0_2 : Int) (b0_3 : Int) (G : GH) : Option R :=
  L5 s0 s2 s12a s12n b0_1 s72a s72n s73 s74 b0_0 b0_1 b0_2 b0_3 G

def a3_54 {R : Type} (O : Ora R) (Kret : Bool → GH → Option R) (KN : Int → Int → Option GA → Nat → Option GA → Nat → Int → Int → GH → Option R) (K2 : Option GA → Nat → GH → Option R) (s0 : Int) (s2 : Int) (s12a : Option GA) (s12n : Nat) (s72a : Option GA) (s72n : Nat) (s73 : Int) (s74 : Int) (b0_0 : Int) (b0_1 : Int) (b0_2 : Int) (b0_3 : Int) (G : GH) : Option R :=
  KN s0 s2 s12a s12n s72a s72n s73 (IntKind.wrap .i64 (s74 + (1 : Int))) G

def L3_5 {R : Type} (O : Ora R) (fuel : Nat) (Kret : Bool → GH → Option R) (KN : Int → Int → Option GA → Nat → Option GA → Nat → Int → Int → GH → Option R) (K2 : Option GA → Nat → GH → Option R) : Int → Int → Option GA → Nat → Int → Option GA → Nat → Int → Int → Int → Int → Int → Int → GH → Option R := fun (s0 : Int) (s2 : Int) (s12a : Option GA) (s12n : Nat) (s15 : Int) (s72a : Option GA) (s72n : Nat) (s73 : Int) (s74 : Int) (b0_0 : Int) (b0_1 : Int) (b0_2 : Int) (b0_3 : Int) G =>
  l3_5 O fuel (a3_54 O Kret KN K2) fuel s0 s2 s12a s12n s15 s72a s72n s73 s74 b0_0 b0_1 b0_2 b0_3 G

theorem a3_54_raw {R : Type} (O : Ora R) (fuel : Nat) (s0 : Int) (s2 : Int) (s12a : Option GA) (s12n : Nat) (s72a : Option GA) (s72n : Nat) (s73 : Int) (s74 : Int) (b0_0 : Int) (b0_1 : Int) (b0_2 : Int) (b0_3 : Int) (G : GH) (k : Ex → List IV → List (List IV) → GH → Option R) :
  contC Try.prog O lo3 fuel (nav (Try.f3.body.getD .skip) [1, 1, 1, 1, 1, 1, 1, 1, 0, 1, 0, 0]) [1, 1, 0, 0, 1, 1, 1, 0] (kpD lo3 68 0 k) (.exit 4) (mkE 144 [(0, .int .i64 s0), (2, .int .i64 s2), (12, .slice s12a s12n), (72, .slice s72a s72n), (73, .int .i64 s73), (74, .int .i64 s74)]) [[.int .i64 b0_0, .int .i64 b0_1, .int .i64 b0_2, .int .i64 b0_3]] G =
  a3_54 O (fun (s6 : Bool) (G : GH) => k .ret (mkE 144 [(6, .bool s6)]) [] G) (fun (s0 : Int) (s2 : Int) (s12a : Option GA) (s12n : Nat) (s72a : Option GA) (s72n : Nat) (s73 : Int) (s74 : Int) (G : GH) => k .normal (mkE 144 [(0, .int .i64 s0), (2, .int .i64 s2), (12, .slice s12a s12n), (72, .slice s72a s72n), (73, .int .i64 s73), (74, .int .i64 s74)]) [] G) (fun (s12a : Option GA) (s12n : Nat) (G : GH) => k (.exit 2) (mkE 144 [(12, .slice s12a s12n)]) [] G) s0 s2 s12a s12n s72a s72n s73 s74 b0_0 b0_1 b0_2 b0_3 G := by kernel_rfl

theorem L3_5_eq {R : Type} (O : Ora R) (fuel : Nat) (k : Ex → List IV → List (List IV) → GH → Option R) :
  (fun (s0 : Int) (s2 : Int) (s12a : Option GA) (s12n : Nat) (s15 : Int) (s72a : Option GA) (s72n : Nat) (s73 : Int) (s74 : Int) (b0_0 : Int) (b0_1 : Int) (b0_2 : Int) (b0_3 : Int) (G : GH) => loopN (loopD Try.prog O lo3 fuel (nav (Try.f3.body.getD .skip) [1, 1, 1, 1, 1, 1, 1, 1, 0, 1, 0, 0, 1, 1, 0, 0, 1, 1, 1, 0, 0]) 88) fuel (mkE 144 [(0, .int .i64 s0), (2, .int .i64 s2), (12, .slice s12a s12n), (14, .loc 0 0), (15, .int .i64 s15), (72, .slice s72a s72n), (73, .int .i64 s73), (74, .int .i64 s74)]) [[.int .i64 b0_0, .int .i64 b0_1, .int .i64 b0_2, .int .i64 b0_3]] G (contC Try.prog O lo3 fuel (nav (Try.f3.body.getD .skip) [1, 1, 1, 1, 1, 1, 1, 1, 0, 1, 0, 0]) [1, 1, 0, 0, 1, 1, 1, 0] (kpD lo3 68 0 k))) = L3_5 O fuel (fun (s6 : Bool) (G : GH) => k .ret (mkE 144 [(6, .bool s6)]) [] G) (fun (s0 : Int) (s2 : Int) (s12a : Option GA) (s12n : Nat) (s72a : Option GA) (s72n : Nat) (s73 : Int) (s74 : Int) (G : GH) => k .normal (mkE 144 [(0, .int .i64 s0), (2, .int .i64 s2), (12, .slice s12a s12n), (72, .slice s72a s72n), (73, .int .i64 s73), (74, .int .i64 s74)]) [] G) (fun (s12a : Option GA) (s12n : Nat) (G : GH) => k (.exit 2) (mkE 144 [(12, .slice s12a s12n)]) [] G) := by
  funext s0 s2 s12a s12n s15 s72a s72n s73 s74 b0_0 b0_1 b0_2 b0_3 G
  simp only [L3_5, l3_5_eq, a3_54_raw]

def L3_4 {R : Type} (O : Ora R) (fuel : Nat) (Kret : Bool → GH → Option R) (KN : Int → Int → Option GA → Nat → Option GA → Nat → Int → Int → GH → Option R) (K2 : Option GA → Nat → GH → Option R) : Int → Int → Option GA → Nat → Option GA → Nat → Int → Int → Int → Int → Int → Int → GH → Option R := fun (s0 : Int) (s2 : Int) (s12a : Option GA) (s12n : Nat) (s72a : Option GA) (s72n : Nat) (s73 : Int) (s74 : Int) (b0_0 : Int) (b0_1 : Int) (b0_2 : Int) (b0_3 : Int) G =>
  stepN fuel (l3_4 O (a3_4ret O Kret KN K2) (a3_4N O Kret KN K2 (L3_5 O fuel Kret KN K2)) s0 s2 s12a s12n s72a s72n s73 s74 b0_0 b0_1 b0_2 b0_3 G)

theorem a3_4ret_raw {R : Type} (O : Ora R) (fuel : Nat) (s6 : Bool) (b0_0 : Int) (b0_1 : Int) (b0_2 : Int) (b0_3 : Int) (G : GH) (k : Ex → List IV → List (List IV) → GH → Option R) :
  contC Try.prog O lo3 fuel (nav (Try.f3.body.getD .skip) [1, 1, 1, 1, 1, 1, 1, 1, 0, 1, 0, 0]) [1, 1, 0, 0, 1, 0] (kpD lo3 68 0 k) .ret (mkE 144 [(6, .bool s6)]) [[.int .i64 b0_0, .int .i64 b0_1, .int .i64 b0_2, .int .i64 b0_3]] G =
  a3_4ret O (fun (s6 : Bool) (G : GH) => k .ret (mkE 144 [(6, .bool s6)]) [] G) (fun (s0 : Int) (s2 : Int) (s12a : Option GA) (s12n : Nat) (s72a : Option GA) (s72n : Nat) (s73 : Int) (s74 : Int) (G : GH) => k .normal (mkE 144 [(0, .int .i64 s0), (2, .int .i64 s2), (12, .slice s12a s12n), (72, .slice s72a s72n), (73, .int .i64 s73), (74, .int .i64 s74)]) [] G) (fun (s12a : Option GA) (s12n : Nat) (G : GH) => k (.exit 2) (mkE 144 [(12, .slice s12a s12n)]) [] G) s6 b0_0 b0_1 b0_2 b0_3 G := by kernel_rfl

theorem a3_4N_raw {R : Type} (O : Ora R) (fuel : Nat) (s0 : Int) (s2 : Int) (s12a : Option GA) (s12n : Nat) (s72a : Option GA) (s72n : Nat) (s73 : Int) (s74 : Int) (b0_0 : Int) (b0_1 : Int) (b0_2 : Int) (b0_3 : Int) (G : GH) (k : Ex → List IV → List (List IV) → GH → Option R) :
  contC Try.prog O lo3 fuel (nav (Try.f3.body.getD .skip) [1, 1, 1, 1, 1, 1, 1, 1, 0, 1, 0, 0]) [1, 1, 0, 0, 1, 0] (kpD lo3 68 0 k) .normal (mkE 144 [(0, .int .i64 s0), (2, .int .i64 s2), (12, .slice s12a s12n), (14, .loc 0 0), (72, .slice s72a s72n), (73, .int .i64 s73), (74, .int .i64 s74)]) [[.int .i64 b0_0, .int .i64 b0_1, .int .i64 b0_2, .int .i64 b0_3]] G =
  a3_4N O (fun (s6 : Bool) (G : GH) => k .ret (mkE 144 [(6, .bool s6)]) [] G) (fun (s0 : Int) (s2 : Int) (s12a : Option GA) (s12n : Nat) (s72a : Option GA) (s72n : Nat) (s73 : Int) (s74 : Int) (G : GH) => k .normal (mkE 144 [(0, .int .i64 s0), (2, .int .i64 s2), (12, .slice s12a s12n), (72, .slice s72a s72n), (73, .int .i64 s73), (74, .int .i64 s74)]) [] G) (fun (s12a : Option GA) (s12n : Nat) (G : GH) => k (.exit 2) (mkE 144 [(12, .slice s12a s12n)]) [] G) (fun (s0 : Int) (s2 : Int) (s12a : Option GA) (s12n : Nat) (s15 : Int) (s72a : Option GA) (s72n : Nat) (s73 : Int) (s74 : Int) (b0_0 : Int) (b0_1 : Int) (b0_2 : Int) (b0_3 : Int) (G : GH) => loopN (loopD Try.prog O lo3 fuel (nav (Try.f3.body.getD .skip) [1, 1, 1, 1, 1, 1, 1, 1, 0, 1, 0, 0, 1, 1, 0, 0, 1, 1, 1, 0, 0]) 88) fuel (mkE 144 [(0, .int .i64 s0), (2, .int .i64 s2), (12, .slice s12a s12n), (14, .loc 0 0), (15, .int .i64 s15), (72, .slice s72a s72n), (73, .int .i64 s73), (74, .int .i64 s74)]) [[.int .i64 b0_0, .int .i64 b0_1, .int .i64 b0_2, .int .i64 b0_3]] G (contC Try.prog O lo3 fuel (nav (Try.f3.body.getD .skip) [1, 1, 1, 1, 1, 1, 1, 1, 0, 1, 0, 0]) [1, 1, 0, 0, 1, 1, 1, 0] (kpD lo3 68 0 k))) s0 s2 s12a s12n s72a s72n s73 s74 b0_0 b0_1 b0_2 b0_3 G := by kernel_rfl

theorem L3_4_eq {R : Type} (O : Ora R) (fuel : Nat) (k : Ex → List IV → List (List IV) → GH → Option R) :
  (fun (s0 : Int) (s2 : Int) (s12a : Option GA) (s12n : Nat) (s72a : Option GA) (s72n : Nat) (s73 : Int) (s74 : Int) (b0_0 : Int) (b0_1 : Int) (b0_2 : Int) (b0_3 : Int) (G : GH) => stepN fuel (loopD Try.prog O lo3 fuel (nav (Try.f3.body.getD .skip) [1, 1, 1, 1, 1, 1, 1, 1, 0, 1, 0, 0, 1, 1, 0, 0, 1, 0]) 87 (mkE 144 [(0, .int .i64 s0), (2, .int .i64 s2), (12, .slice s12a s12n), (14, .loc 0 0), (72, .slice s72a s72n), (73, .int .i64 s73), (74, .int .i64 s74)]) [[.int .i64 b0_0, .int .i64 b0_1, .int .i64 b0_2, .int .i64 b0_3]] G (contC Try.prog O lo3 fuel (nav (Try.f3.body.getD .skip) [1, 1, 1, 1, 1, 1, 1, 1, 0, 1, 0, 0]) [1, 1, 0, 0, 1, 0] (kpD lo3 68 0 k)))) = L3_4 O fuel (fun (s6 : Bool) (G : GH) => k .ret (mkE 144 [(6, .bool s6)]) [] G) (fun (s0 : Int) (s2 : Int) (s12a : Option GA) (s12n : Nat) (s72a : Option GA) (s72n : Nat) (s73 : Int) (s74 : Int) (G : GH) => k .normal (mkE 144 [(0, .int .i64 s0), (2, .int .i64 s2), (12, .slice s12a s12n), (72, .slice s72a s72n), (73, .int .i64 s73), (74, .int .i64 s74)]) [] G) (fun (s12a : Option GA) (s12n : Nat) (G : GH) => k (.exit 2) (mkE 144 [(12, .slice s12a s12n)]) [] G) := by
  funext s0 s2 s12a s12n s72a s72n s73 s74 b0_0 b0_1 b0_2 b0_3 G
  simp only [L3_4, l3_4_eq, a3_4ret_raw, a3_4N_raw, L3_5_eq]

def l3_3 {R : Type} (O : Ora R) (fuel : Nat) (Kret : Bool → GH → Option R) (K2 : Option GA → Nat → GH → Option R) : Nat → Int → Int → Option GA → Nat → Option GA → Nat → Int → Int → GH → Option R
  | 0, _, _, _, _, _, _, _, _, _ => none
  | n + 1, s0, s2, s12a, s12n, s72a, s72n, s73, s74, G => u3_3 O Kret (l3_3 O fuel Kret K2 n) K2 (L3_4 O fuel Kret (l3_3 O fuel Kret K2 n) K2) s0 s2 s12a s12n s72a s72n s73 s74 G

theorem u3_3_raw {R : Type} (O : Ora R) (fuel : Nat) (s0 : Int) (s2 : Int) (s12a : Option GA) (s12n : Nat) (s72a : Option GA) (s72n : Nat) (s73 : Int) (s74 : Int) (G : GH) (k : Ex → List IV → List (List IV) → GH → Option R) :
  loopD Try.prog O lo3 fuel (nav (Try.f3.body.getD .skip) [1, 1, 1, 1, 1, 1, 1, 1, 0, 1, 0, 0]) 68 (mkE 144 [(0, .int .i64 s0), (2, .int .i64 s2), (12, .slice s12a s12n), (72, .slice s72a s72n), (73, .int .i64 s73), (74, .int .i64 s74)]) [] G k =
  u3_3 O (fun (s6 : Bool) (G : GH) => k .ret (mkE 144 [(6, .bool s6)]) [] G) (fun (s0 : Int) (s2 : Int) (s12a : Option GA) (s12n : Nat) (s72a : Option GA) (s72n : Nat) (s73 : Int) (s74 : Int) (G : GH) => k .normal (mkE 144 [(0, .int .i64 s0), (2, .int .i64 s2), (12, .slice s12a s12n), (72, .slice s72a s72n), (73, .int .i64 s73), (74, .int .i64 s74)]) [] G) (fun (s12a : Option GA) (s12n : Nat) (G : GH) => k (.exit 2) (mkE 144 [(12, .slice s12a s12n)]) [] G) (fun (s0 : Int) (s2 : Int) (s12a : Option GA) (s12n : Nat) (s72a : Option GA) (s72n : Nat) (s73 : Int) (s74 : Int) (b0_0 : Int) (b0_1 : Int) (b0_2 : Int) (b0_3 : Int) (G : GH) => stepN fuel (loopD Try.prog O lo3 fuel (nav (Try.f3.body.getD .skip) [1, 1, 1, 1, 1, 1, 1, 1, 0, 1, 0, 0, 1, 1, 0, 0, 1, 0]) 87 (mkE 144 [(0, .int .i64 s0), (2, .int .i64 s2), (12, .slice s12a s12n), (14, .loc 0 0), (72, .slice s72a s72n), (73, .int .i64 s73), (74, .int .i64 s74)]) [[.int .i64 b0_0, .int .i64 b0_1, .int .i64 b0_2, .int .i64 b0_3]] G (contC Try.prog O lo3 fuel (nav (Try.f3.body.getD .skip) [1, 1, 1, 1, 1, 1, 1, 1, 0, 1, 0, 0]) [1, 1, 0, 0, 1, 0] (kpD lo3 68 0 k)))) s0 s2 s12a s12n s72a s72n s73 s74 G := by kernel_rfl

theorem l3_3_eq {R : Type} (O : Ora R) (fuel : Nat) (k : Ex → List IV → List (List IV) → GH → Option R) : ∀ (n : Nat) (s0 : Int) (s2 : Int) (s12a : Option GA) (s12n : Nat) (s72a : Option GA) (s72n : Nat) (s73 : Int) (s74 : Int) (G : GH),
  loopN (loopD Try.prog O lo3 fuel (nav (Try.f3.body.getD .skip) [1, 1, 1, 1, 1, 1, 1, 1, 0, 1, 0, 0]) 68) n (mkE 144 [(0, .int .i64 s0), (2, .int .i64 s2), (12, .slice s12a s12n), (72, .slice s72a s72n), (73, .int .i64 s73), (74, .int .i64 s74)]) [] G k = l3_3 O fuel (fun (s6 : Bool) (G : GH) => k .ret (mkE 144 [(6, .bool s6)]) [] G) (fun (s12a : Option GA) (s12n : Nat) (G : GH) => k (.exit 2) (mkE 144 [(12, .slice s12a s12n)]) [] G) n s0 s2 s12a s12n s72a s72n s73 s74 G := by
  intro n
  induction n with
  | zero => intros; rfl
  | succ n ih =>
    intros
    rw [loopN_succ, u3_3_raw]
    simp only [l3_3, loopK_normal, loopK_exit, loopK_ret, ih, L3_4_eq]

def u3_7 {R : Type} (O : Ora R) (Kret : Bool → GH → Option R) (KN : Option GA → Nat → Int → Int → GH → Option R) (K8 : GH → Option R) (s135a : Option GA) (s135n : Nat) (s136 : Int) (s137 : Int) (G : GH) : Option R :=
  bif (decide (s137 < s136)) then
  (idx? s135a s135n s137 1).bind fun a1 =>
  (ldInt G .i64 a1).bind fun x2 =>
  bif (x2 != (1 : Int)) then
  Kret false G
  else
  KN s135a s135n s136 (IntKind.wrap .i64 (s137 + (1 : Int))) G
  else
  K8 G

def l3_7 {R : Type} (O : Ora R) (Kret : Bool → GH → Option R) (K8 : GH → Option R) : Nat → Option GA → Nat → Int → Int → GH → Option R
  | 0, _, _, _, _, _ => none
  | n + 1, s135a, s135n, s136, s137, G => u3_7 O Kret (l3_7 O Kret K8 n) K8 s135a s135n s136 s137 G

theorem u3_7_raw {R : Type} (O : Ora R) (fuel : Nat) (s135a : Option GA) (s135n : Nat) (s136 : Int) (s137 : Int) (G : GH) (k : Ex → List IV → List (List IV) → GH → Option R) :
  loopD Try.prog O lo3 fuel (nav (Try.f3.body.getD .skip) [1, 1, 1, 1, 1, 1, 1, 1, 1, 0, 1, 0, 0]) 120 (mkE 144 [(135, .slice s135a s135n), (136, .int .i64 s136), (137, .int .i64 s137)]) [] G k =
  u3_7 O (fun (s6 : Bool) (G : GH) => k .ret (mkE 144 [(6, .bool s6)]) [] G) (fun (s135a : Option GA) (s135n : Nat) (s136 : Int) (s137 : Int) (G : GH) => k .normal (mkE 144 [(135, .slice s135a s135n), (136, .int .i64 s136), (137, .int .i64 s137)]) [] G) (fun (G : GH) => k (.exit 8) (mkE 144 []) [] G) s135a s135n s136 s137 G := by kernel_rfl

theorem l3_7_eq {R : Type} (O : Ora R) (fuel : Nat) (k : Ex → List IV → List (List IV) → GH → Option R) : ∀ (n : Nat) (s135a : Option GA) (s135n : Nat) (s136 : Int) (s137 : Int) (G : GH),
  loopN (loopD Try.prog O lo3 fuel (nav (Try.f3.body.getD .skip) [1, 1, 1, 1, 1, 1, 1, 1, 1, 0, 1, 0, 0]) 120) n (mkE 144 [(135, .slice s135a s135n), (136, .int .i64 s136), (137, .int .i64 s137)]) [] G k = l3_7 O (fun (s6 : Bool) (G : GH) => k .ret (mkE 144 [(6, .bool s6)]) [] G) (fun (G : GH) => k (.exit 8) (mkE 144 []) [] G) n s135a s135n s136 s137 G := by
  intro n
  induction n with
  | zero => intros; rfl
  | succ n ih =>
    intros
    rw [loopN_succ, u3_7_raw]
    simp only [l3_7, loopK_normal, loopK_exit, loopK_ret, ih]

def u3 {R : Type} (O : Ora R) (k : IV → GH → Option R) (L0 : Int → Int → Int → Option GA → Nat → Int → Option GA → Nat → Int → GH → Option R) (p0 : Int) (p1 : Int) (p2 : Int) (G : GH) : Option R :=
  O 10 [] G fun v1 G2 =>
  (ivBool v1).bind fun x3 =>
  bif (!x3) then
  k (.bool false) G2
  else
  O 11 [.int .i64 p0, .int .i64 p1, .int .i64 p2] G2 fun v4 G5 =>
  (ivTup 2 v4).bind fun c6 =>
  (ivSlice (c6.getD 0 undefI)).bind fun x7 =>
  (ivInt .i64 (c6.getD 1 undefI)).bind fun x8 =>
  O 12 [.int .i64 p0, .int .i64 p1, .int .i64 p2] G5 fun v9 G10 =>
  (ivTup 2 v9).bind fun c11 =>
  (ivSlice (c11.getD 0 undefI)).bind fun x12 =>
  (ivInt .i64 (c11.getD 1 undefI)).bind fun x13 =>
  L0 p0 p1 p2 x7.1 x7.2 x8 x12.1 x12.2 x13 G10

def a3_0ret {R : Type} (O : Ora R) (k : IV → GH → Option R) (s6 : Bool) (G : GH) : Option R :=
  k (.bool s6) G

def a3_0N {R : Type} (O : Ora R) (k : IV → GH → Option R) (L1 : Int → Int → Int → Option GA → Nat → Int → Option GA → Nat → Int → Int → GH → Option R) (s0 : Int) (s1 : Int) (s2 : Int) (s7a : Option GA) (s7n : Nat) (s8 : Int) (s9a : Option GA) (s9n : Nat) (G : GH) : Option R :=
  L1 s0 s1 s2 s7a s7n s8 s9a s9n (s7n : Int) (0 : Int) G

def a3_1ret {R : Type} (O : Ora R) (k : IV → GH → Option R) (s6 : Bool) (G : GH) : Option R :=
  k (.bool s6) G

def a3_10 {R : Type} (O : Ora R) (k : IV → GH → Option R) (L2 : Int → Int → Int → Option GA → Nat → Int → GH → Option R) (s0 : Int) (s1 : Int) (s2 : Int) (s7a : Option GA) (s7n : Nat) (s8 : Int) (G : GH) : Option R :=
  L2 s0 s1 s2 s7a s7n s8 G

def a3_2ret {R : Type} (O : Ora R) (k : IV → GH → Option R) (s6 : Bool) (G : GH) : Option R :=
  k (.bool s6) G

def a3_2N {R : Type} (O : Ora R) (k : IV → GH → Option R) (L3 : Int → Int → Option GA → Nat → Option GA → Nat → Int → Int → GH → Option R) (s0 : Int) (s1 : Int) (s2 : Int) (s7a : Option GA) (s7n : Nat) (G : GH) : Option R :=
  bif (decide (0 ≤ (IntKind.wrap .i64 (s0 * s1)) ∧ (IntKind.wrap .i64 (s0 * s1)) ≤ (IntKind.wrap .i64 (s0 * s1)) ∧ (IntKind.wrap .i64 (s0 * s1)) * 8 ≤ roomI ∧ (IntKind.wrap .i64 (s0 * s1)) ≤ roomI) && true && true) then
  L3 s0 s2 (some (gaddr G)) (Int.toNat (IntKind.wrap .i64 (s0 * s1))) s7a s7n (s7n : Int) (0 : Int) (gnew G (List.replicate (Int.toNat (IntKind.wrap .i64 (s0 * s1))) [.int .i64 (0 : Int)]).flatten 3)
  else none

def a3_3ret {R : Type} (O : Ora R) (k : IV → GH → Option R) (s6 : Bool) (G : GH) : Option R :=
  k (.bool s6) G

def a3_32 {R : Type} (O : Ora R) (k : IV → GH → Option R) (L7 : Option GA → Nat → Int → Int → GH → Option R) (s12a : Option GA) (s12n : Nat) (G : GH) : Option R :=
  L7 s12a s12n (s12n : Int) (0 : Int) G

def a3_7ret {R : Type} (O : Ora R) (k : IV → GH → Option R) (s6 : Bool) (G : GH) : Option R :=
  k (.bool s6) G

def a3_78 {R : Type} (O : Ora R) (k : IV → GH → Option R)  (G : GH) : Option R :=
  k (.bool true) G

def L3_7 {R : Type} (O : Ora R) (fuel : Nat) (k : IV → GH → Option R) : Option GA → Nat → Int → Int → GH → Option R := fun (s135a : Option GA) (s135n : Nat) (s136 : Int) (s137 : Int) G =>
  l3_7 O (a3_7ret O k) (a3_78 O k) fuel s135a s135n s136 s137 G

theorem a3_7ret_raw {R : Type} (O : Ora R) (fuel : Nat) (s6 : Bool) (G : GH) (k : IV → GH → Option R) :
  contC Try.prog O lo3 fuel (Try.f3.body.getD .skip) [1, 1, 1, 1, 1, 1, 1, 1, 1, 0, 1, 0] (fun e env F G => match e with | .exit _ => none | _ => resC Try.prog Try.f3 env F G k) .ret (mkE 144 [(6, .bool s6)]) [] G =
  a3_7ret O k s6 G := by kernel_rfl

theorem a3_78_raw {R : Type} (O : Ora R) (fuel : Nat)  (G : GH) (k : IV → GH → Option R) :
  contC Try.prog O lo3 fuel (Try.f3.body.getD .skip) [1, 1, 1, 1, 1, 1, 1, 1, 1, 0, 1, 0] (fun e env F G => match e with | .exit _ => none | _ => resC Try.prog Try.f3 env F G k) (.exit 8) (mkE 144 []) [] G =
  a3_78 O k G := by kernel_rfl

theorem L3_7_eq {R : Type} (O : Ora R) (fuel : Nat) (k : IV → GH → Option R) :
  (fun (s135a : Option GA) (s135n : Nat) (s136 : Int) (s137 : Int) (G : GH) => loopN (loopD Try.prog O lo3 fuel (nav (Try.f3.body.getD .skip) [1, 1, 1, 1, 1, 1, 1, 1, 1, 0, 1, 0, 0]) 120) fuel (mkE 144 [(135, .slice s135a s135n), (136, .int .i64 s136), (137, .int .i64 s137)]) [] G (contC Try.prog O lo3 fuel (Try.f3.body.getD .skip) [1, 1, 1, 1, 1, 1, 1, 1, 1, 0, 1, 0] (fun e env F G => match e with | .exit _ => none | _ => resC Try.prog Try.f3 env F G k))) = L3_7 O fuel k := by
  funext s135a s135n s136 s137 G
  simp only [L3_7, l3_7_eq, a3_7ret_raw, a3_78_raw]

def L3_3 {R : Type} (O : Ora R) (fuel : Nat) (k : IV → GH → Option R) : Int → Int → Option GA → Nat → Option GA → Nat → Int → Int → GH → Option R := fun (s0 : Int) (s2 : Int) (s12a : Option GA) (s12n : Nat) (s72a : Option GA) (s72n : Nat) (s73 : Int) (s74 : Int) G =>
  l3_3 O fuel (a3_3ret O k) (a3_32 O k (L3_7 O fuel k)) fuel s0 s2 s12a s12n s72a s72n s73 s74 G

theorem a3_3ret_raw {R : Type} (O : Ora R) (fuel : Nat) (s6 : Bool) (G : GH) (k : IV → GH → Option R) :
  contC Try.prog O lo3 fuel (Try.f3.body.getD .skip) [1, 1, 1, 1, 1, 1, 1, 1, 0, 1, 0] (fun e env F G => match e with | .exit _ => none | _ => resC Try.prog Try.f3 env F G k) .ret (mkE 144 [(6, .bool s6)]) [] G =
  a3_3ret O k s6 G := by kernel_rfl

theorem a3_32_raw {R : Type} (O : Ora R) (fuel : Nat) (s12a : Option GA) (s12n : Nat) (G : GH) (k : IV → GH → Option R) :
  contC Try.prog O lo3 fuel (Try.f3.body.getD .skip) [1, 1, 1, 1, 1, 1, 1, 1, 0, 1, 0] (fun e env F G => match e with | .exit _ => none | _ => resC Try.prog Try.f3 env F G k) (.exit 2) (mkE 144 [(12, .slice s12a s12n)]) [] G =
  a3_32 O k (fun (s135a : Option GA) (s135n : Nat) (s136 : Int) (s137 : Int) (G : GH) => loopN (loopD Try.prog O lo3 fuel (nav (Try.f3.body.getD .skip) [1, 1, 1, 1, 1, 1, 1, 1, 1, 0, 1, 0, 0]) 120) fuel (mkE 144 [(135, .slice s135a s135n), (136, .int .i64 s136), (137, .int .i64 s137)]) [] G (contC Try.prog O lo3 fuel (Try.f3.body.getD .skip) [1, 1, 1, 1, 1, 1, 1, 1, 1, 0, 1, 0] (fun e env F G => match e with | .exit _ => none | _ => resC Try.prog Try.f3 env F G k))) s12a s12n G := by kernel_rfl

theorem L3_3_eq {R : Type} (O : Ora R) (fuel : Nat) (k : IV → GH → Option R) :
  (fun (s0 : Int) (s2 : Int) (s12a : Option GA) (s12n : Nat) (s72a : Option GA) (s72n : Nat) (s73 : Int) (s74 : Int) (G : GH) => loopN (loopD Try.prog O lo3 fuel (nav (Try.f3.body.getD .skip) [1, 1, 1, 1, 1, 1, 1, 1, 0, 1, 0, 0]) 68) fuel (mkE 144 [(0, .int .i64 s0), (2, .int .i64 s2), (12, .slice s12a s12n), (72, .slice s72a s72n), (73, .int .i64 s73), (74, .int .i64 s74)]) [] G (contC Try.prog O lo3 fuel (Try.f3.body.getD .skip) [1, 1, 1, 1, 1, 1, 1, 1, 0, 1, 0] (fun e env F G => match e with | .exit _ => none | _ => resC Try.prog Try.f3 env F G k))) = L3_3 O fuel k := by
  funext s0 s2 s12a s12n s72a s72n s73 s74 G
  simp only [L3_3, l3_3_eq, a3_3ret_raw, a3_32_raw, L3_7_eq]

def L3_2 {R : Type} (O : Ora R) (fuel : Nat) (k : IV → GH → Option R) : Int → Int → Int → Option GA → Nat → Int → GH → Option R := fun (s0 : Int) (s1 : Int) (s2 : Int) (s7a : Option GA) (s7n : Nat) (s8 : Int) G =>
  stepN fuel (l3_2 O (a3_2ret O k) (a3_2N O k (L3_3 O fuel k)) s0 s1 s2 s7a s7n s8 G)

theorem a3_2ret_raw {R : Type} (O : Ora R) (fuel : Nat) (s6 : Bool) (G : GH) (k : IV → GH → Option R) :
  contC Try.prog O lo3 fuel (Try.f3.body.getD .skip) [1, 1, 1, 1, 1, 1, 0] (fun e env F G => match e with | .exit _ => none | _ => resC Try.prog Try.f3 env F G k) .ret (mkE 144 [(6, .bool s6)]) [] G =
  a3_2ret O k s6 G := by kernel_rfl

theorem a3_2N_raw {R : Type} (O : Ora R) (fuel : Nat) (s0 : Int) (s1 : Int) (s2 : Int) (s7a : Option GA) (s7n : Nat) (G : GH) (k : IV → GH → Option R) :
  contC Try.prog O lo3 fuel (Try.f3.body.getD .skip) [1, 1, 1, 1, 1, 1, 0] (fun e env F G => match e with | .exit _ => none | _ => resC Try.prog Try.f3 env F G k) .normal (mkE 144 [(0, .int .i64 s0), (1, .int .i64 s1), (2, .int .i64 s2), (7, .slice s7a s7n)]) [] G =
  a3_2N O k (fun (s0 : Int) (s2 : Int) (s12a : Option GA) (s12n : Nat) (s72a : Option GA) (s72n : Nat) (s73 : Int) (s74 : Int) (G : GH) => loopN (loopD Try.prog O lo3 fuel (nav (Try.f3.body.getD .skip) [1, 1, 1, 1, 1, 1, 1, 1, 0, 1, 0, 0]) 68) fuel (mkE 144 [(0, .int .i64 s0), (2, .int .i64 s2), (12, .slice s12a s12n), (72, .slice s72a s72n), (73, .int .i64 s73), (74, .int .i64 s74)]) [] G (contC Try.prog O lo3 fuel (Try.f3.body.getD .skip) [1, 1, 1, 1, 1, 1, 1, 1, 0, 1, 0] (fun e env F G => match e with | .exit _ => none | _ => resC Try.prog Try.f3 env F G k))) s0 s1 s2 s7a s7n G := by kernel_rfl

theorem L3_2_eq {R : Type} (O : Ora R) (fuel : Nat) (k : IV → GH → Option R) :
  (fun (s0 : Int) (s1 : Int) (s2 : Int) (s7a : Option GA) (s7n : Nat) (s8 : Int) (G : GH) => stepN fuel (loopD Try.prog O lo3 fuel (nav (Try.f3.body.getD .skip) [1, 1, 1, 1, 1, 1, 0]) 63 (mkE 144 [(0, .int .i64 s0), (1, .int .i64 s1), (2, .int .i64 s2), (7, .slice s7a s7n), (8, .int .i64 s8)]) [] G (contC Try.prog O lo3 fuel (Try.f3.body.getD .skip) [1, 1, 1, 1, 1, 1, 0] (fun e env F G => match e with | .exit _ => none | _ => resC Try.prog Try.f3 env F G k)))) = L3_2 O fuel k := by
  funext s0 s1 s2 s7a s7n s8 G
  simp only [L3_2, l3_2_eq, a3_2ret_raw, a3_2N_raw, L3_3_eq]

def L3_1 {R : Type} (O : Ora R) (fuel : Nat) (k : IV → GH → Option R) : Int → Int → Int → Option GA → Nat → Int → Option GA → Nat → Int → Int → GH → Option R := fun (s0 : Int) (s1 : Int) (s2 : Int) (s7a : Option GA) (s7n : Nat) (s8 : Int) (s9a : Option GA) (s9n : Nat) (s46 : Int) (s47 : Int) G =>
  l3_1 O (a3_1ret O k) (a3_10 O k (L3_2 O fuel k)) fuel s0 s1 s2 s7a s7n s8 s9a s9n s46 s47 G

theorem a3_1ret_raw {R : Type} (O : Ora R) (fuel : Nat) (s6 : Bool) (G : GH) (k : IV → GH → Option R) :
  contC Try.prog O lo3 fuel (Try.f3.body.getD .skip) [1, 1, 1, 1, 1, 0, 1, 0] (fun e env F G => match e with | .exit _ => none | _ => resC Try.prog Try.f3 env F G k) .ret (mkE 144 [(6, .bool s6)]) [] G =
  a3_1ret O k s6 G := by kernel_rfl

theorem a3_10_raw {R : Type} (O : Ora R) (fuel : Nat) (s0 : Int) (s1 : Int) (s2 : Int) (s7a : Option GA) (s7n : Nat) (s8 : Int) (G : GH) (k : IV → GH → Option R) :
  contC Try.prog O lo3 fuel (Try.f3.body.getD .skip) [1, 1, 1, 1, 1, 0, 1, 0] (fun e env F G => match e with | .exit _ => none | _ => resC Try.prog Try.f3 env F G k) (.exit 0) (mkE 144 [(0, .int .i64 s0), (1, .int .i64 s1), (2, .int .i64 s2), (7, .slice s7a s7n), (8, .int .i64 s8)]) [] G =
  a3_10 O k (fun (s0 : Int) (s1 : Int) (s2 : Int) (s7a : Option GA) (s7n : Nat) (s8 : Int) (G : GH) => stepN fuel (loopD Try.prog O lo3 fuel (nav (Try.f3.body.getD .skip) [1, 1, 1, 1, 1, 1, 0]) 63 (mkE 144 [(0, .int .i64 s0), (1, .int .i64 s1), (2, .int .i64 s2), (7, .slice s7a s7n), (8, .int .i64 s8)]) [] G (contC Try.prog O lo3 fuel (Try.f3.body.getD .skip) [1, 1, 1, 1, 1, 1, 0] (fun e env F G => match e with | .exit _ => none | _ => resC Try.prog Try.f3 env F G k)))) s0 s1 s2 s7a s7n s8 G := by kernel_rfl

theorem L3_1_eq {R : Type} (O : Ora R) (fuel : Nat) (k : IV → GH → Option R) :
  (fun (s0 : Int) (s1 : Int) (s2 : Int) (s7a : Option GA) (s7n : Nat) (s8 : Int) (s9a : Option GA) (s9n : Nat) (s46 : Int) (s47 : Int) (G : GH) => loopN (loopD Try.prog O lo3 fuel (nav (Try.f3.body.getD .skip) [1, 1, 1, 1, 1, 0, 1, 0, 0]) 32) fuel (mkE 144 [(0, .int .i64 s0), (1, .int .i64 s1), (2, .int .i64 s2), (7, .slice s7a s7n), (8, .int .i64 s8), (9, .slice s9a s9n), (46, .int .i64 s46), (47, .int .i64 s47)]) [] G (contC Try.prog O lo3 fuel (Try.f3.body.getD .skip) [1, 1, 1, 1, 1, 0, 1, 0] (fun e env F G => match e with | .exit _ => none | _ => resC Try.prog Try.f3 env F G k))) = L3_1 O fuel k := by
  funext s0 s1 s2 s7a s7n s8 s9a s9n s46 s47 G
  simp only [L3_1, l3_1_eq, a3_1ret_raw, a3_10_raw, L3_2_eq]

def L3_0 {R : Type} (O : Ora R) (fuel : Nat) (k : IV → GH → Option R) : Int → Int → Int → Option GA → Nat → Int → Option GA → Nat → Int → GH → Option R := fun (s0 : Int) (s1 : Int) (s2 : Int) (s7a : Option GA) (s7n : Nat) (s8 : Int) (s9a : Option GA) (s9n : Nat) (s10 : Int) G =>
  stepN fuel (l3_0 O (a3_0ret O k) (a3_0N O k (L3_1 O fuel k)) s0 s1 s2 s7a s7n s8 s9a s9n s10 G)

theorem a3_0ret_raw {R : Type} (O : Ora R) (fuel : Nat) (s6 : Bool) (G : GH) (k : IV → GH → Option R) :
  contC Try.prog O lo3 fuel (Try.f3.body.getD .skip) [1, 1, 1, 1, 0] (fun e env F G => match e with | .exit _ => none | _ => resC Try.prog Try.f3 env F G k) .ret (mkE 144 [(6, .bool s6)]) [] G =
  a3_0ret O k s6 G := by kernel_rfl

theorem a3_0N_raw {R : Type} (O : Ora R) (fuel : Nat) (s0 : Int) (s1 : Int) (s2 : Int) (s7a : Option GA) (s7n : Nat) (s8 : Int) (s9a : Option GA) (s9n : Nat) (G : GH) (k : IV → GH → Option R) :
  contC Try.prog O lo3 fuel (Try.f3.body.getD .skip) [1, 1, 1, 1, 0] (fun e env F G => match e with | .exit _ => none | _ => resC Try.prog Try.f3 env F G k) .normal (mkE 144 [(0, .int .i64 s0), (1, .int .i64 s1), (2, .int .i64 s2), (7, .slice s7a s7n), (8, .int .i64 s8), (9, .slice s9a s9n)]) [] G =
  a3_0N O k (fun (s0 : Int) (s1 : Int) (s2 : Int) (s7a : Option GA) (s7n : Nat) (s8 : Int) (s9a : Option GA) (s9n : Nat) (s46 : Int) (s47 : Int) (G : GH) => loopN (loopD Try.prog O lo3 fuel (nav (Try.f3.body.getD .skip) [1, 1, 1, 1, 1, 0, 1, 0, 0]) 32) fuel (mkE 144 [(0, .int .i64 s0), (1, .int .i64 s1), (2, .int .i64 s2), (7, .slice s7a s7n), (8, .int .i64 s8), (9, .slice s9a s9n), (46, .int .i64 s46), (47, .int .i64 s47)]) [] G (contC Try.prog O lo3 fuel (Try.f3.body.getD .skip) [1, 1, 1, 1, 1, 0, 1, 0] (fun e env F G => match e with | .exit _ => none | _ => resC Try.prog Try.f3 env F G k))) s0 s1 s2 s7a s7n s8 s9a s9n G := by kernel_rfl

theorem L3_0_eq {R : Type} (O : Ora R) (fuel : Nat) (k : IV → GH → Option R) :
  (fun (s0 : Int) (s1 : Int) (s2 : Int) (s7a : Option GA) (s7n : Nat) (s8 : Int) (s9a : Option GA) (s9n : Nat) (s10 : Int) (G : GH) => stepN fuel (loopD Try.prog O lo3 fuel (nav (Try.f3.body.getD .skip) [1, 1, 1, 1, 0]) 31 (mkE 144 [(0, .int .i64 s0), (1, .int .i64 s1), (2, .int .i64 s2), (7, .slice s7a s7n), (8, .int .i64 s8), (9, .slice s9a s9n), (10, .int .i64 s10)]) [] G (contC Try.prog O lo3 fuel (Try.f3.body.getD .skip) [1, 1, 1, 1, 0] (fun e env F G => match e with | .exit _ => none | _ => resC Try.prog Try.f3 env F G k)))) = L3_0 O fuel k := by
  funext s0 s1 s2 s7a s7n s8 s9a s9n s10 G
  simp only [L3_0, l3_0_eq, a3_0ret_raw, a3_0N_raw, L3_1_eq]

theorem e3_raw {R : Type} (O : Ora R) (fuel : Nat) (p0 : Int) (p1 : Int) (p2 : Int) (G : GH) (k : IV → GH → Option R) :
  bodyC Try.prog O lo3 fuel Try.f3 [.int .i64 p0, .int .i64 p1, .int .i64 p2] G k =
  u3 O k (fun (s0 : Int) (s1 : Int) (s2 : Int) (s7a : Option GA) (s7n : Nat) (s8 : Int) (s9a : Option GA) (s9n : Nat) (s10 : Int) (G : GH) => stepN fuel (loopD Try.prog O lo3 fuel (nav (Try.f3.body.getD .skip) [1, 1, 1, 1, 0]) 31 (mkE 144 [(0, .int .i64 s0), (1, .int .i64 s1), (2, .int .i64 s2), (7, .slice s7a s7n), (8, .int .i64 s8), (9, .slice s9a s9n), (10, .int .i64 s10)]) [] G (contC Try.prog O lo3 fuel (Try.f3.body.getD .skip) [1, 1, 1, 1, 0] (fun e env F G => match e with | .exit _ => none | _ => resC Try.prog Try.f3 env F G k)))) p0 p1 p2 G := by kernel_rfl

theorem e3 {R : Type} (O : Ora R) (fuel : Nat) (p0 : Int) (p1 : Int) (p2 : Int) (G : GH) (k : IV → GH → Option R) :
  bodyC Try.prog O lo3 fuel Try.f3 [.int .i64 p0, .int .i64 p1, .int .i64 p2] G k =
  u3 O k (L3_0 O fuel k) p0 p1 p2 G := by
  rw [e3_raw, L3_0_eq]

theorem r3 {R : Type} (fuel n : Nat) (p0 : Int) (p1 : Int) (p2 : Int) (G : GH) (k : IV → GH → Option R) :
  runC Try.prog lo0 fuel (n + 1) 3 [.int .i64 p0, .int .i64 p1, .int .i64 p2] G k = bodyC Try.prog (runC Try.prog lo0 fuel n) lo3 fuel Try.f3 [.int .i64 p0, .int .i64 p1, .int .i64 p2] G k := run_body Try.func3 rfl rfl

end Go.LI.Film
