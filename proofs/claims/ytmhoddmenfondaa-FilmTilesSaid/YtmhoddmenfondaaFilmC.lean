/- What the interpreter gives for Jobs (written by decomp.py). -/
import Derived.Test.YtmhoddmenfondaaFilmA
namespace Go.LI.Film
open Go.Proofs.Ytmhoddmenfondaa Go Go.Proofs Go.LI
set_option maxRecDepth 100000
set_option linter.unusedVariables false
set_option linter.unusedSimpArgs false
/-! ### lantern/film.Jobs -/
def u11_0 {R : Type} (O : Ora R) (KN : Int → Int → Int → Bool → GH → Option R) (s0 : Int) (s1 : Int) (s2 : Int) (G : GH) : Option R :=
  bif (decide (s0 < (1 : Int))) then
  KN s0 s1 s2 true G
  else
  bif (decide (s1 < (1 : Int))) then
  KN s0 s1 s2 true G
  else
  bif (decide (s0 > (1024 : Int))) then
  KN s0 s1 s2 true G
  else
  bif (decide (s1 > (1024 : Int))) then
  KN s0 s1 s2 true G
  else
  KN s0 s1 s2 (decide (s2 < (1 : Int))) G

def l11_0 {R : Type} (O : Ora R) (KN : Int → Int → Int → Bool → GH → Option R) : Int → Int → Int → GH → Option R := fun (s0 : Int) (s1 : Int) (s2 : Int) G => u11_0 O KN s0 s1 s2 G

theorem u11_0_raw {R : Type} (O : Ora R) (fuel : Nat) (s0 : Int) (s1 : Int) (s2 : Int) (G : GH) (k : Ex → List IV → List (List IV) → GH → Option R) :
  loopD Try.prog O lo11 fuel (nav (Try.f11.body.getD .skip) [1, 0, 0]) 11 (mkE 80 [(0, .int .i64 s0), (1, .int .i64 s1), (2, .int .i64 s2)]) [] G k =
  u11_0 O (fun (s0 : Int) (s1 : Int) (s2 : Int) (s30 : Bool) (G : GH) => k .normal (mkE 80 [(0, .int .i64 s0), (1, .int .i64 s1), (2, .int .i64 s2), (30, .bool s30)]) [] G) s0 s1 s2 G := by kernel_rfl

theorem l11_0_eq {R : Type} (O : Ora R) (fuel : Nat) (k : Ex → List IV → List (List IV) → GH → Option R) : ∀ (s0 : Int) (s1 : Int) (s2 : Int) (G : GH),
  loopD Try.prog O lo11 fuel (nav (Try.f11.body.getD .skip) [1, 0, 0]) 11 (mkE 80 [(0, .int .i64 s0), (1, .int .i64 s1), (2, .int .i64 s2)]) [] G k = l11_0 O (fun (s0 : Int) (s1 : Int) (s2 : Int) (s30 : Bool) (G : GH) => k .normal (mkE 80 [(0, .int .i64 s0), (1, .int .i64 s1), (2, .int .i64 s2), (30, .bool s30)]) [] G) s0 s1 s2 G := by
  intros
  rw [u11_0_raw]
  simp only [l11_0]

def u11_2 {R : Type} (O : Ora R) (KN : Int → Int → Int → Int → Option GA → Nat → Int → Int → Int → Int → Int → GH → Option R) (K2 : Int → Int → Int → Int → Option GA → Nat → Int → Int → GH → Option R) (s0 : Int) (s1 : Int) (s2 : Int) (s8 : Int) (s10a : Option GA) (s10n : Nat) (s11 : Int) (s45 : Int) (s46 : Int) (s49 : Int) (s50 : Int) (G : GH) : Option R :=
  bif (decide (s50 < s49)) then
  (grd (gnew G [.int .i64 (IntKind.wrap .i64 (s50 * s2)), .int .i64 (IntKind.wrap .i64 (s11 * s2)), .int .i64 (if (IntKind.wrap .i64 ((IntKind.wrap .i64 (s50 * s2)) + s2)) < s0 then (IntKind.wrap .i64 ((IntKind.wrap .i64 (s50 * s2)) + s2)) else s0), .int .i64 (if (IntKind.wrap .i64 ((IntKind.wrap .i64 (s11 * s2)) + s2)) < s1 then (IntKind.wrap .i64 ((IntKind.wrap .i64 (s11 * s2)) + s2)) else s1)] 30) (gaddr G) (1 * 4)).bind fun x1 =>
  (gappend (gnew G [.int .i64 (IntKind.wrap .i64 (s50 * s2)), .int .i64 (IntKind.wrap .i64 (s11 * s2)), .int .i64 (if (IntKind.wrap .i64 ((IntKind.wrap .i64 (s50 * s2)) + s2)) < s0 then (IntKind.wrap .i64 ((IntKind.wrap .i64 (s50 * s2)) + s2)) else s0), .int .i64 (if (IntKind.wrap .i64 ((IntKind.wrap .i64 (s11 * s2)) + s2)) < s1 then (IntKind.wrap .i64 ((IntKind.wrap .i64 (s11 * s2)) + s2)) else s1)] 30) 30 4 32 s10a s10n x1 1).bind fun r2 =>
  KN s0 s1 s2 s8 r2.1 (s10n + 1) s11 s45 s46 s49 (IntKind.wrap .i64 (s50 + (1 : Int))) r2.2
  else
  K2 s0 s1 s2 s8 s10a s10n s45 s46 G

def l11_2 {R : Type} (O : Ora R) (K2 : Int → Int → Int → Int → Option GA → Nat → Int → Int → GH → Option R) : Nat → Int → Int → Int → Int → Option GA → Nat → Int → Int → Int → Int → Int → GH → Option R
  | 0, _, _, _, _, _, _, _, _, _, _, _, _ => none
  | n + 1, s0, s1, s2, s8, s10a, s10n, s11, s45, s46, s49, s50, G => u11_2 O (l11_2 O K2 n) K2 s0 s1 s2 s8 s10a s10n s11 s45 s46 s49 s50 G

theorem u11_2_raw {R : Type} (O : Ora R) (fuel : Nat) (s0 : Int) (s1 : Int) (s2 : Int) (s8 : Int) (s10a : Option GA) (s10n : Nat) (s11 : Int) (s45 : Int) (s46 : Int) (s49 : Int) (s50 : Int) (G : GH) (k : Ex → List IV → List (List IV) → GH → Option R) :
  loopD Try.prog O lo11 fuel (nav (Try.f11.body.getD .skip) [1, 1, 1, 1, 1, 0, 1, 0, 0, 1, 1, 0, 0, 1, 1, 0, 0]) 44 (mkE 80 [(0, .int .i64 s0), (1, .int .i64 s1), (2, .int .i64 s2), (8, .int .i64 s8), (10, .slice s10a s10n), (11, .int .i64 s11), (45, .int .i64 s45), (46, .int .i64 s46), (49, .int .i64 s49), (50, .int .i64 s50)]) [] G k =
  u11_2 O (fun (s0 : Int) (s1 : Int) (s2 : Int) (s8 : Int) (s10a : Option GA) (s10n : Nat) (s11 : Int) (s45 : Int) (s46 : Int) (s49 : Int) (s50 : Int) (G : GH) => k .normal (mkE 80 [(0, .int .i64 s0), (1, .int .i64 s1), (2, .int .i64 s2), (8, .int .i64 s8), (10, .slice s10a s10n), (11, .int .i64 s11), (45, .int .i64 s45), (46, .int .i64 s46), (49, .int .i64 s49), (50, .int .i64 s50)]) [] G) (fun (s0 : Int) (s1 : Int) (s2 : Int) (s8 : Int) (s10a : Option GA) (s10n : Nat) (s45 : Int) (s46 : Int) (G : GH) => k (.exit 2) (mkE 80 [(0, .int .i64 s0), (1, .int .i64 s1), (2, .int .i64 s2), (8, .int .i64 s8), (10, .slice s10a s10n), (45, .int .i64 s45), (46, .int .i64 s46)]) [] G) s0 s1 s2 s8 s10a s10n s11 s45 s46 s49 s50 G := by kernel_rfl

theorem l11_2_eq {R : Type} (O : Ora R) (fuel : Nat) (k : Ex → List IV → List (List IV) → GH → Option R) : ∀ (n : Nat) (s0 : Int) (s1 : Int) (s2 : Int) (s8 : Int) (s10a : Option GA) (s10n : Nat) (s11 : Int) (s45 : Int) (s46 : Int) (s49 : Int) (s50 : Int) (G : GH),
  loopN (loopD Try.prog O lo11 fuel (nav (Try.f11.body.getD .skip) [1, 1, 1, 1, 1, 0, 1, 0, 0, 1, 1, 0, 0, 1, 1, 0, 0]) 44) n (mkE 80 [(0, .int .i64 s0), (1, .int .i64 s1), (2, .int .i64 s2), (8, .int .i64 s8), (10, .slice s10a s10n), (11, .int .i64 s11), (45, .int .i64 s45), (46, .int .i64 s46), (49, .int .i64 s49), (50, .int .i64 s50)]) [] G k = l11_2 O (fun (s0 : Int) (s1 : Int) (s2 : Int) (s8 : Int) (s10a : Option GA) (s10n : Nat) (s45 : Int) (s46 : Int) (G : GH) => k (.exit 2) (mkE 80 [(0, .int .i64 s0), (1, .int .i64 s1), (2, .int .i64 s2), (8, .int .i64 s8), (10, .slice s10a s10n), (45, .int .i64 s45), (46, .int .i64 s46)]) [] G) n s0 s1 s2 s8 s10a s10n s11 s45 s46 s49 s50 G := by
  intro n
  induction n with
  | zero => intros; rfl
  | succ n ih =>
    intros
    rw [loopN_succ, u11_2_raw]
    simp only [l11_2, loopK_normal, loopK_exit, loopK_ret, ih]

def u11_1 {R : Type} (O : Ora R) (KN : Int → Int → Int → Int → Option GA → Nat → Int → Int → GH → Option R) (K0 : Option GA → Nat → GH → Option R) (L2 : Int → Int → Int → Int → Option GA → Nat → Int → Int → Int → Int → Int → GH → Option R) (s0 : Int) (s1 : Int) (s2 : Int) (s8 : Int) (s10a : Option GA) (s10n : Nat) (s45 : Int) (s46 : Int) (G : GH) : Option R :=
  bif (decide (s46 < s45)) then
  L2 s0 s1 s2 s8 s10a s10n s46 s45 s46 s8 (0 : Int) G
  else
  K0 s10a s10n G

def a11_22 {R : Type} (O : Ora R) (KN : Int → Int → Int → Int → Option GA → Nat → Int → Int → GH → Option R) (K0 : Option GA → Nat → GH → Option R) (s0 : Int) (s1 : Int) (s2 : Int) (s8 : Int) (s10a : Option GA) (s10n : Nat) (s45 : Int) (s46 : Int) (G : GH) : Option R :=
  KN s0 s1 s2 s8 s10a s10n s45 (IntKind.wrap .i64 (s46 + (1 : Int))) G

def L11_2 {R : Type} (O : Ora R) (fuel : Nat) (KN : Int → Int → Int → Int → Option GA → Nat → Int → Int → GH → Option R) (K0 : Option GA → Nat → GH → Option R) : Int → Int → Int → Int → Option GA → Nat → Int → Int → Int → Int → Int → GH → Option R := fun (s0 : Int) (s1 : Int) (s2 : Int) (s8 : Int) (s10a : Option GA) (s10n : Nat) (s11 : Int) (s45 : Int) (s46 : Int) (s49 : Int) (s50 : Int) G =>
  l11_2 O (a11_22 O KN K0) fuel s0 s1 s2 s8 s10a s10n s11 s45 s46 s49 s50 G

theorem a11_22_raw {R : Type} (O : Ora R) (fuel : Nat) (s0 : Int) (s1 : Int) (s2 : Int) (s8 : Int) (s10a : Option GA) (s10n : Nat) (s45 : Int) (s46 : Int) (G : GH) (k : Ex → List IV → List (List IV) → GH → Option R) :
  contC Try.prog O lo11 fuel (nav (Try.f11.body.getD .skip) [1, 1, 1, 1, 1, 0, 1, 0, 0]) [1, 1, 0, 0, 1, 1, 0] (kpD lo11 32 0 k) (.exit 2) (mkE 80 [(0, .int .i64 s0), (1, .int .i64 s1), (2, .int .i64 s2), (8, .int .i64 s8), (10, .slice s10a s10n), (45, .int .i64 s45), (46, .int .i64 s46)]) [] G =
  a11_22 O (fun (s0 : Int) (s1 : Int) (s2 : Int) (s8 : Int) (s10a : Option GA) (s10n : Nat) (s45 : Int) (s46 : Int) (G : GH) => k .normal (mkE 80 [(0, .int .i64 s0), (1, .int .i64 s1), (2, .int .i64 s2), (8, .int .i64 s8), (10, .slice s10a s10n), (45, .int .i64 s45), (46, .int .i64 s46)]) [] G) (fun (s10a : Option GA) (s10n : Nat) (G : GH) => k (.exit 0) (mkE 80 [(10, .slice s10a s10n)]) [] G) s0 s1 s2 s8 s10a s10n s45 s46 G := by kernel_rfl

theorem L11_2_eq {R : Type} (O : Ora R) (fuel : Nat) (k : Ex → List IV → List (List IV) → GH → Option R) :
  (fun (s0 : Int) (s1 : Int) (s2 : Int) (s8 : Int) (s10a : Option GA) (s10n : Nat) (s11 : Int) (s45 : Int) (s46 : Int) (s49 : Int) (s50 : Int) (G : GH) => loopN (loopD Try.prog O lo11 fuel (nav (Try.f11.body.getD .skip) [1, 1, 1, 1, 1, 0, 1, 0, 0, 1, 1, 0, 0, 1, 1, 0, 0]) 44) fuel (mkE 80 [(0, .int .i64 s0), (1, .int .i64 s1), (2, .int .i64 s2), (8, .int .i64 s8), (10, .slice s10a s10n), (11, .int .i64 s11), (45, .int .i64 s45), (46, .int .i64 s46), (49, .int .i64 s49), (50, .int .i64 s50)]) [] G (contC Try.prog O lo11 fuel (nav (Try.f11.body.getD .skip) [1, 1, 1, 1, 1, 0, 1, 0, 0]) [1, 1, 0, 0, 1, 1, 0] (kpD lo11 32 0 k))) = L11_2 O fuel (fun (s0 : Int) (s1 : Int) (s2 : Int) (s8 : Int) (s10a : Option GA) (s10n : Nat) (s45 : Int) (s46 : Int) (G : GH) => k .normal (mkE 80 [(0, .int .i64 s0), (1, .int .i64 s1), (2, .int .i64 s2), (8, .int .i64 s8), (10, .slice s10a s10n), (45, .int .i64 s45), (46, .int .i64 s46)]) [] G) (fun (s10a : Option GA) (s10n : Nat) (G : GH) => k (.exit 0) (mkE 80 [(10, .slice s10a s10n)]) [] G) := by
  funext s0 s1 s2 s8 s10a s10n s11 s45 s46 s49 s50 G
  simp only [L11_2, l11_2_eq, a11_22_raw]

def l11_1 {R : Type} (O : Ora R) (fuel : Nat) (K0 : Option GA → Nat → GH → Option R) : Nat → Int → Int → Int → Int → Option GA → Nat → Int → Int → GH → Option R
  | 0, _, _, _, _, _, _, _, _, _ => none
  | n + 1, s0, s1, s2, s8, s10a, s10n, s45, s46, G => u11_1 O (l11_1 O fuel K0 n) K0 (L11_2 O fuel (l11_1 O fuel K0 n) K0) s0 s1 s2 s8 s10a s10n s45 s46 G

theorem u11_1_raw {R : Type} (O : Ora R) (fuel : Nat) (s0 : Int) (s1 : Int) (s2 : Int) (s8 : Int) (s10a : Option GA) (s10n : Nat) (s45 : Int) (s46 : Int) (G : GH) (k : Ex → List IV → List (List IV) → GH → Option R) :
  loopD Try.prog O lo11 fuel (nav (Try.f11.body.getD .skip) [1, 1, 1, 1, 1, 0, 1, 0, 0]) 32 (mkE 80 [(0, .int .i64 s0), (1, .int .i64 s1), (2, .int .i64 s2), (8, .int .i64 s8), (10, .slice s10a s10n), (45, .int .i64 s45), (46, .int .i64 s46)]) [] G k =
  u11_1 O (fun (s0 : Int) (s1 : Int) (s2 : Int) (s8 : Int) (s10a : Option GA) (s10n : Nat) (s45 : Int) (s46 : Int) (G : GH) => k .normal (mkE 80 [(0, .int .i64 s0), (1, .int .i64 s1), (2, .int .i64 s2), (8, .int .i64 s8), (10, .slice s10a s10n), (45, .int .i64 s45), (46, .int .i64 s46)]) [] G) (fun (s10a : Option GA) (s10n : Nat) (G : GH) => k (.exit 0) (mkE 80 [(10, .slice s10a s10n)]) [] G) (fun (s0 : Int) (s1 : Int) (s2 : Int) (s8 : Int) (s10a : Option GA) (s10n : Nat) (s11 : Int) (s45 : Int) (s46 : Int) (s49 : Int) (s50 : Int) (G : GH) => loopN (loopD Try.prog O lo11 fuel (nav (Try.f11.body.getD .skip) [1, 1, 1, 1, 1, 0, 1, 0, 0, 1, 1, 0, 0, 1, 1, 0, 0]) 44) fuel (mkE 80 [(0, .int .i64 s0), (1, .int .i64 s1), (2, .int .i64 s2), (8, .int .i64 s8), (10, .slice s10a s10n), (11, .int .i64 s11), (45, .int .i64 s45), (46, .int .i64 s46), (49, .int .i64 s49), (50, .int .i64 s50)]) [] G (contC Try.prog O lo11 fuel (nav (Try.f11.body.getD .skip) [1, 1, 1, 1, 1, 0, 1, 0, 0]) [1, 1, 0, 0, 1, 1, 0] (kpD lo11 32 0 k))) s0 s1 s2 s8 s10a s10n s45 s46 G := by kernel_rfl

theorem l11_1_eq {R : Type} (O : Ora R) (fuel : Nat) (k : Ex → List IV → List (List IV) → GH → Option R) : ∀ (n : Nat) (s0 : Int) (s1 : Int) (s2 : Int) (s8 : Int) (s10a : Option GA) (s10n : Nat) (s45 : Int) (s46 : Int) (G : GH),
  loopN (loopD Try.prog O lo11 fuel (nav (Try.f11.body.getD .skip) [1, 1, 1, 1, 1, 0, 1, 0, 0]) 32) n (mkE 80 [(0, .int .i64 s0), (1, .int .i64 s1), (2, .int .i64 s2), (8, .int .i64 s8), (10, .slice s10a s10n), (45, .int .i64 s45), (46, .int .i64 s46)]) [] G k = l11_1 O fuel (fun (s10a : Option GA) (s10n : Nat) (G : GH) => k (.exit 0) (mkE 80 [(10, .slice s10a s10n)]) [] G) n s0 s1 s2 s8 s10a s10n s45 s46 G := by
  intro n
  induction n with
  | zero => intros; rfl
  | succ n ih =>
    intros
    rw [loopN_succ, u11_1_raw]
    simp only [l11_1, loopK_normal, loopK_exit, loopK_ret, ih, L11_2_eq]

def u11 {R : Type} (O : Ora R) (k : IV → GH → Option R) (L0 : Int → Int → Int → GH → Option R) (p0 : Int) (p1 : Int) (p2 : Int) (G : GH) : Option R :=
  L0 p0 p1 p2 G

def a11_0N {R : Type} (O : Ora R) (k : IV → GH → Option R) (L1 : Int → Int → Int → Int → Option GA → Nat → Int → Int → GH → Option R) (s0 : Int) (s1 : Int) (s2 : Int) (s30 : Bool) (G : GH) : Option R :=
  bif s30 then
  k (.tuple [.slice none 0, .int .i64 (2 : Int)]) G
  else
  bif s2 == 0 then none else
  bif s2 == 0 then none else
  bif (decide ((IntKind.wrap .i64 ((IntKind.wrap .i64 ((IntKind.wrap .i64 (Int.tdiv (IntKind.wrap .i64 (s0 - (1 : Int))) s2)) + (1 : Int))) * (IntKind.wrap .i64 ((IntKind.wrap .i64 (Int.tdiv (IntKind.wrap .i64 (s1 - (1 : Int))) s2)) + (1 : Int))))) > (8192 : Int))) then
  k (.tuple [.slice none 0, .int .i64 (2 : Int)]) G
  else
  L1 s0 s1 s2 (IntKind.wrap .i64 ((IntKind.wrap .i64 (Int.tdiv (IntKind.wrap .i64 (s0 - (1 : Int))) s2)) + (1 : Int))) none 0 (IntKind.wrap .i64 ((IntKind.wrap .i64 (Int.tdiv (IntKind.wrap .i64 (s1 - (1 : Int))) s2)) + (1 : Int))) (0 : Int) G

def a11_10 {R : Type} (O : Ora R) (k : IV → GH → Option R) (s10a : Option GA) (s10n : Nat) (G : GH) : Option R :=
  k (.tuple [.slice s10a s10n, .int .i64 (0 : Int)]) G

def L11_1 {R : Type} (O : Ora R) (fuel : Nat) (k : IV → GH → Option R) : Int → Int → Int → Int → Option GA → Nat → Int → Int → GH → Option R := fun (s0 : Int) (s1 : Int) (s2 : Int) (s8 : Int) (s10a : Option GA) (s10n : Nat) (s45 : Int) (s46 : Int) G =>
  l11_1 O fuel (a11_10 O k) fuel s0 s1 s2 s8 s10a s10n s45 s46 G

theorem a11_10_raw {R : Type} (O : Ora R) (fuel : Nat) (s10a : Option GA) (s10n : Nat) (G : GH) (k : IV → GH → Option R) :
  contC Try.prog O lo11 fuel (Try.f11.body.getD .skip) [1, 1, 1, 1, 1, 0, 1, 0] (fun e env F G => match e with | .exit _ => none | _ => resC Try.prog Try.f11 env F G k) (.exit 0) (mkE 80 [(10, .slice s10a s10n)]) [] G =
  a11_10 O k s10a s10n G := by kernel_rfl

theorem L11_1_eq {R : Type} (O : Ora R) (fuel : Nat) (k : IV → GH → Option R) :
  (fun (s0 : Int) (s1 : Int) (s2 : Int) (s8 : Int) (s10a : Option GA) (s10n : Nat) (s45 : Int) (s46 : Int) (G : GH) => loopN (loopD Try.prog O lo11 fuel (nav (Try.f11.body.getD .skip) [1, 1, 1, 1, 1, 0, 1, 0, 0]) 32) fuel (mkE 80 [(0, .int .i64 s0), (1, .int .i64 s1), (2, .int .i64 s2), (8, .int .i64 s8), (10, .slice s10a s10n), (45, .int .i64 s45), (46, .int .i64 s46)]) [] G (contC Try.prog O lo11 fuel (Try.f11.body.getD .skip) [1, 1, 1, 1, 1, 0, 1, 0] (fun e env F G => match e with | .exit _ => none | _ => resC Try.prog Try.f11 env F G k))) = L11_1 O fuel k := by
  funext s0 s1 s2 s8 s10a s10n s45 s46 G
  simp only [L11_1, l11_1_eq, a11_10_raw]

def L11_0 {R : Type} (O : Ora R) (fuel : Nat) (k : IV → GH → Option R) : Int → Int → Int → GH → Option R := fun (s0 : Int) (s1 : Int) (s2 : Int) G =>
  stepN fuel (l11_0 O (a11_0N O k (L11_1 O fuel k)) s0 s1 s2 G)

theorem a11_0N_raw {R : Type} (O : Ora R) (fuel : Nat) (s0 : Int) (s1 : Int) (s2 : Int) (s30 : Bool) (G : GH) (k : IV → GH → Option R) :
  contC Try.prog O lo11 fuel (Try.f11.body.getD .skip) [1, 0, 0] (fun e env F G => match e with | .exit _ => none | _ => resC Try.prog Try.f11 env F G k) .normal (mkE 80 [(0, .int .i64 s0), (1, .int .i64 s1), (2, .int .i64 s2), (30, .bool s30)]) [] G =
  a11_0N O k (fun (s0 : Int) (s1 : Int) (s2 : Int) (s8 : Int) (s10a : Option GA) (s10n : Nat) (s45 : Int) (s46 : Int) (G : GH) => loopN (loopD Try.prog O lo11 fuel (nav (Try.f11.body.getD .skip) [1, 1, 1, 1, 1, 0, 1, 0, 0]) 32) fuel (mkE 80 [(0, .int .i64 s0), (1, .int .i64 s1), (2, .int .i64 s2), (8, .int .i64 s8), (10, .slice s10a s10n), (45, .int .i64 s45), (46, .int .i64 s46)]) [] G (contC Try.prog O lo11 fuel (Try.f11.body.getD .skip) [1, 1, 1, 1, 1, 0, 1, 0] (fun e env F G => match e with | .exit _ => none | _ => resC Try.prog Try.f11 env F G k))) s0 s1 s2 s30 G := by kernel_rfl

theorem L11_0_eq {R : Type} (O : Ora R) (fuel : Nat) (k : IV → GH → Option R) :
  (fun (s0 : Int) (s1 : Int) (s2 : Int) (G : GH) => stepN fuel (loopD Try.prog O lo11 fuel (nav (Try.f11.body.getD .skip) [1, 0, 0]) 11 (mkE 80 [(0, .int .i64 s0), (1, .int .i64 s1), (2, .int .i64 s2)]) [] G (contC Try.prog O lo11 fuel (Try.f11.body.getD .skip) [1, 0, 0] (fun e env F G => match e with | .exit _ => none | _ => resC Try.prog Try.f11 env F G k)))) = L11_0 O fuel k := by
  funext s0 s1 s2 G
  simp only [L11_0, l11_0_eq, a11_0N_raw, L11_1_eq]

theorem e11_raw {R : Type} (O : Ora R) (fuel : Nat) (p0 : Int) (p1 : Int) (p2 : Int) (G : GH) (k : IV → GH → Option R) :
  bodyC Try.prog O lo11 fuel Try.f11 [.int .i64 p0, .int .i64 p1, .int .i64 p2] G k =
  u11 O k (fun (s0 : Int) (s1 : Int) (s2 : Int) (G : GH) => stepN fuel (loopD Try.prog O lo11 fuel (nav (Try.f11.body.getD .skip) [1, 0, 0]) 11 (mkE 80 [(0, .int .i64 s0), (1, .int .i64 s1), (2, .int .i64 s2)]) [] G (contC Try.prog O lo11 fuel (Try.f11.body.getD .skip) [1, 0, 0] (fun e env F G => match e with | .exit _ => none | _ => resC Try.prog Try.f11 env F G k)))) p0 p1 p2 G := by kernel_rfl

theorem e11 {R : Type} (O : Ora R) (fuel : Nat) (p0 : Int) (p1 : Int) (p2 : Int) (G : GH) (k : IV → GH → Option R) :
  bodyC Try.prog O lo11 fuel Try.f11 [.int .i64 p0, .int .i64 p1, .int .i64 p2] G k =
  u11 O k (L11_0 O fuel k) p0 p1 p2 G := by
  rw [e11_raw, L11_0_eq]

theorem r11 {R : Type} (fuel n : Nat) (p0 : Int) (p1 : Int) (p2 : Int) (G : GH) (k : IV → GH → Option R) :
  runC Try.prog lo0 fuel (n + 1) 11 [.int .i64 p0, .int .i64 p1, .int .i64 p2] G k = bodyC Try.prog (runC Try.prog lo0 fuel n) lo11 fuel Try.f11 [.int .i64 p0, .int .i64 p1, .int .i64 p2] G k := run_body Try.func11 rfl rfl

/-! ### lantern/lanternref19.Jobs -/
def u12_0 {R : Type} (O : Ora R) (KN : Int → Int → Int → Bool → GH → Option R) (s0 : Int) (s1 : Int) (s2 : Int) (G : GH) : Option R :=
  bif (decide (s0 < (1 : Int))) then
  KN s0 s1 s2 true G
  else
  bif (decide (s1 < (1 : Int))) then
  KN s0 s1 s2 true G
  else
  bif (decide (s0 > (1024 : Int))) then
  KN s0 s1 s2 true G
  else
  bif (decide (s1 > (1024 : Int))) then
  KN s0 s1 s2 true G
  else
  KN s0 s1 s2 (decide (s2 < (1 : Int))) G

def l12_0 {R : Type} (O : Ora R) (KN : Int → Int → Int → Bool → GH → Option R) : Int → Int → Int → GH → Option R := fun (s0 : Int) (s1 : Int) (s2 : Int) G => u12_0 O KN s0 s1 s2 G

theorem u12_0_raw {R : Type} (O : Ora R) (fuel : Nat) (s0 : Int) (s1 : Int) (s2 : Int) (G : GH) (k : Ex → List IV → List (List IV) → GH → Option R) :
  loopD Try.prog O lo12 fuel (nav (Try.f12.body.getD .skip) [1, 0, 0]) 11 (mkE 92 [(0, .int .i64 s0), (1, .int .i64 s1), (2, .int .i64 s2)]) [] G k =
  u12_0 O (fun (s0 : Int) (s1 : Int) (s2 : Int) (s30 : Bool) (G : GH) => k .normal (mkE 92 [(0, .int .i64 s0), (1, .int .i64 s1), (2, .int .i64 s2), (30, .bool s30)]) [] G) s0 s1 s2 G := by kernel_rfl

theorem l12_0_eq {R : Type} (O : Ora R) (fuel : Nat) (k : Ex → List IV → List (List IV) → GH → Option R) : ∀ (s0 : Int) (s1 : Int) (s2 : Int) (G : GH),
  loopD Try.prog O lo12 fuel (nav (Try.f12.body.getD .skip) [1, 0, 0]) 11 (mkE 92 [(0, .int .i64 s0), (1, .int .i64 s1), (2, .int .i64 s2)]) [] G k = l12_0 O (fun (s0 : Int) (s1 : Int) (s2 : Int) (s30 : Bool) (G : GH) => k .normal (mkE 92 [(0, .int .i64 s0), (1, .int .i64 s1), (2, .int .i64 s2), (30, .bool s30)]) [] G) s0 s1 s2 G := by
  intros
  rw [u12_0_raw]
  simp only [l12_0]

def u12_2 {R : Type} (O : Ora R) (KN : Int → Int → Int → Int → Int → Option GA → Nat → Int → Int → Int → Int → Int → GH → Option R) (s0 : Int) (s1 : Int) (s2 : Int) (s8 : Int) (s9 : Int) (s10a : Option GA) (s10n : Nat) (s11 : Int) (b0_0 : Int) (b0_1 : Int) (b0_2 : Int) (b0_3 : Int) (G : GH) : Option R :=
  bif (decide (b0_0 < (IntKind.wrap .i64 (s0 - s2)))) then
  KN s0 s1 s2 s8 s9 s10a s10n s11 b0_0 b0_1 (IntKind.wrap .i64 (b0_0 + s2)) b0_3 G
  else
  KN s0 s1 s2 s8 s9 s10a s10n s11 b0_0 b0_1 b0_2 b0_3 G

def l12_2 {R : Type} (O : Ora R) (KN : Int → Int → Int → Int → Int → Option GA → Nat → Int → Int → Int → Int → Int → GH → Option R) : Int → Int → Int → Int → Int → Option GA → Nat → Int → Int → Int → Int → Int → GH → Option R := fun (s0 : Int) (s1 : Int) (s2 : Int) (s8 : Int) (s9 : Int) (s10a : Option GA) (s10n : Nat) (s11 : Int) (b0_0 : Int) (b0_1 : Int) (b0_2 : Int) (b0_3 : Int) G => u12_2 O KN s0 s1 s2 s8 s9 s10a s10n s11 b0_0 b0_1 b0_2 b0_3 G

theorem u12_2_raw {R : Type} (O : Ora R) (fuel : Nat) (s0 : Int) (s1 : Int) (s2 : Int) (s8 : Int) (s9 : Int) (s10a : Option GA) (s10n : Nat) (s11 : Int) (b0_0 : Int) (b0_1 : Int) (b0_2 : Int) (b0_3 : Int) (G : GH) (k : Ex → List IV → List (List IV) → GH → Option R) :
  loopD Try.prog O lo12 fuel (nav (Try.f12.body.getD .skip) [1, 1, 1, 1, 1, 0, 1, 0, 0, 1, 0, 0, 1, 0]) 55 (mkE 92 [(0, .int .i64 s0), (1, .int .i64 s1), (2, .int .i64 s2), (8, .int .i64 s8), (9, .int .i64 s9), (10, .slice s10a s10n), (11, .int .i64 s11), (12, .loc 0 0)]) [[.int .i64 b0_0, .int .i64 b0_1, .int .i64 b0_2, .int .i64 b0_3]] G k =
  u12_2 O (fun (s0 : Int) (s1 : Int) (s2 : Int) (s8 : Int) (s9 : Int) (s10a : Option GA) (s10n : Nat) (s11 : Int) (b0_0 : Int) (b0_1 : Int) (b0_2 : Int) (b0_3 : Int) (G : GH) => k .normal (mkE 92 [(0, .int .i64 s0), (1, .int .i64 s1), (2, .int .i64 s2), (8, .int .i64 s8), (9, .int .i64 s9), (10, .slice s10a s10n), (11, .int .i64 s11), (12, .loc 0 0)]) [[.int .i64 b0_0, .int .i64 b0_1, .int .i64 b0_2, .int .i64 b0_3]] G) s0 s1 s2 s8 s9 s10a s10n s11 b0_0 b0_1 b0_2 b0_3 G := by kernel_rfl

theorem l12_2_eq {R : Type} (O : Ora R) (fuel : Nat) (k : Ex → List IV → List (List IV) → GH → Option R) : ∀ (s0 : Int) (s1 : Int) (s2 : Int) (s8 : Int) (s9 : Int) (s10a : Option GA) (s10n : Nat) (s11 : Int) (b0_0 : Int) (b0_1 : Int) (b0_2 : Int) (b0_3 : Int) (G : GH),
  loopD Try.prog O lo12 fuel (nav (Try.f12.body.getD .skip) [1, 1, 1, 1, 1, 0, 1, 0, 0, 1, 0, 0, 1, 0]) 55 (mkE 92 [(0, .int .i64 s0), (1, .int .i64 s1), (2, .int .i64 s2), (8, .int .i64 s8), (9, .int .i64 s9), (10, .slice s10a s10n), (11, .int .i64 s11), (12, .loc 0 0)]) [[.int .i64 b0_0, .int .i64 b0_1, .int .i64 b0_2, .int .i64 b0_3]] G k = l12_2 O (fun (s0 : Int) (s1 : Int) (s2 : Int) (s8 : Int) (s9 : Int) (s10a : Option GA) (s10n : Nat) (s11 : Int) (b0_0 : Int) (b0_1 : Int) (b0_2 : Int) (b0_3 : Int) (G : GH) => k .normal (mkE 92 [(0, .int .i64 s0), (1, .int .i64 s1), (2, .int .i64 s2), (8, .int .i64 s8), (9, .int .i64 s9), (10, .slice s10a s10n), (11, .int .i64 s11), (12, .loc 0 0)]) [[.int .i64 b0_0, .int .i64 b0_1, .int .i64 b0_2, .int .i64 b0_3]] G) s0 s1 s2 s8 s9 s10a s10n s11 b0_0 b0_1 b0_2 b0_3 G := by
  intros
  rw [u12_2_raw]
  simp only [l12_2]

def u12_3 {R : Type} (O : Ora R) (KN : Int → Int → Int → Int → Int → Option GA → Nat → Int → Int → Int → Int → Int → GH → Option R) (s0 : Int) (s1 : Int) (s2 : Int) (s8 : Int) (s9 : Int) (s10a : Option GA) (s10n : Nat) (s11 : Int) (b0_0 : Int) (b0_1 : Int) (b0_2 : Int) (b0_3 : Int) (G : GH) : Option R :=
  bif (decide (b0_1 < (IntKind.wrap .i64 (s1 - s2)))) then
  KN s0 s1 s2 s8 s9 s10a s10n s11 b0_0 b0_1 b0_2 (IntKind.wrap .i64 (b0_1 + s2)) G
  else
  KN s0 s1 s2 s8 s9 s10a s10n s11 b0_0 b0_1 b0_2 b0_3 G

def l12_3 {R : Type} (O : Ora R) (KN : Int → Int → Int → Int → Int → Option GA → Nat → Int → Int → Int → Int → Int → GH → Option R) : Int → Int → Int → Int → Int → Option GA → Nat → Int → Int → Int → Int → Int → GH → Option R := fun (s0 : Int) (s1 : Int) (s2 : Int) (s8 : Int) (s9 : Int) (s10a : Option GA) (s10n : Nat) (s11 : Int) (b0_0 : Int) (b0_1 : Int) (b0_2 : Int) (b0_3 : Int) G => u12_3 O KN s0 s1 s2 s8 s9 s10a s10n s11 b0_0 b0_1 b0_2 b0_3 G

theorem u12_3_raw {R : Type} (O : Ora R) (fuel : Nat) (s0 : Int) (s1 : Int) (s2 : Int) (s8 : Int) (s9 : Int) (s10a : Option GA) (s10n : Nat) (s11 : Int) (b0_0 : Int) (b0_1 : Int) (b0_2 : Int) (b0_3 : Int) (G : GH) (k : Ex → List IV → List (List IV) → GH → Option R) :
  loopD Try.prog O lo12 fuel (nav (Try.f12.body.getD .skip) [1, 1, 1, 1, 1, 0, 1, 0, 0, 1, 0, 0, 1, 1, 0]) 63 (mkE 92 [(0, .int .i64 s0), (1, .int .i64 s1), (2, .int .i64 s2), (8, .int .i64 s8), (9, .int .i64 s9), (10, .slice s10a s10n), (11, .int .i64 s11), (12, .loc 0 0)]) [[.int .i64 b0_0, .int .i64 b0_1, .int .i64 b0_2, .int .i64 b0_3]] G k =
  u12_3 O (fun (s0 : Int) (s1 : Int) (s2 : Int) (s8 : Int) (s9 : Int) (s10a : Option GA) (s10n : Nat) (s11 : Int) (b0_0 : Int) (b0_1 : Int) (b0_2 : Int) (b0_3 : Int) (G : GH) => k .normal (mkE 92 [(0, .int .i64 s0), (1, .int .i64 s1), (2, .int .i64 s2), (8, .int .i64 s8), (9, .int .i64 s9), (10, .slice s10a s10n), (11, .int .i64 s11), (12, .loc 0 0)]) [[.int .i64 b0_0, .int .i64 b0_1, .int .i64 b0_2, .int .i64 b0_3]] G) s0 s1 s2 s8 s9 s10a s10n s11 b0_0 b0_1 b0_2 b0_3 G := by kernel_rfl

theorem l12_3_eq {R : Type} (O : Ora R) (fuel : Nat) (k : Ex → List IV → List (List IV) → GH → Option R) : ∀ (s0 : Int) (s1 : Int) (s2 : Int) (s8 : Int) (s9 : Int) (s10a : Option GA) (s10n : Nat) (s11 : Int) (b0_0 : Int) (b0_1 : Int) (b0_2 : Int) (b0_3 : Int) (G : GH),
  loopD Try.prog O lo12 fuel (nav (Try.f12.body.getD .skip) [1, 1, 1, 1, 1, 0, 1, 0, 0, 1, 0, 0, 1, 1, 0]) 63 (mkE 92 [(0, .int .i64 s0), (1, .int .i64 s1), (2, .int .i64 s2), (8, .int .i64 s8), (9, .int .i64 s9), (10, .slice s10a s10n), (11, .int .i64 s11), (12, .loc 0 0)]) [[.int .i64 b0_0, .int .i64 b0_1, .int .i64 b0_2, .int .i64 b0_3]] G k = l12_3 O (fun (s0 : Int) (s1 : Int) (s2 : Int) (s8 : Int) (s9 : Int) (s10a : Option GA) (s10n : Nat) (s11 : Int) (b0_0 : Int) (b0_1 : Int) (b0_2 : Int) (b0_3 : Int) (G : GH) => k .normal (mkE 92 [(0, .int .i64 s0), (1, .int .i64 s1), (2, .int .i64 s2), (8, .int .i64 s8), (9, .int .i64 s9), (10, .slice s10a s10n), (11, .int .i64 s11), (12, .loc 0 0)]) [[.int .i64 b0_0, .int .i64 b0_1, .int .i64 b0_2, .int .i64 b0_3]] G) s0 s1 s2 s8 s9 s10a s10n s11 b0_0 b0_1 b0_2 b0_3 G := by
  intros
  rw [u12_3_raw]
  simp only [l12_3]

def u12_1 {R : Type} (O : Ora R) (KN : Int → Int → Int → Int → Int → Option GA → Nat → Int → GH → Option R) (K0 : Option GA → Nat → GH → Option R) (L2 : Int → Int → Int → Int → Int → Option GA → Nat → Int → Int → Int → Int → Int → GH → Option R) (s0 : Int) (s1 : Int) (s2 : Int) (s8 : Int) (s9 : Int) (s10a : Option GA) (s10n : Nat) (s11 : Int) (G : GH) : Option R :=
  bif (decide (s11 < (IntKind.wrap .i64 (s8 * s9)))) then
  bif s8 == 0 then none else
  bif s8 == 0 then none else
  L2 s0 s1 s2 s8 s9 s10a s10n s11 (IntKind.wrap .i64 ((Int.tmod s11 s8) * s2)) (IntKind.wrap .i64 ((IntKind.wrap .i64 (Int.tdiv s11 s8)) * s2)) s0 s1 G
  else
  K0 s10a s10n G

def a12_2N {R : Type} (O : Ora R) (KN : Int → Int → Int → Int → Int → Option GA → Nat → Int → GH → Option R) (K0 : Option GA → Nat → GH → Option R) (L3 : Int → Int → Int → Int → Int → Option GA → Nat → Int → Int → Int → Int → Int → GH → Option R) (s0 : Int) (s1 : Int) (s2 : Int) (s8 : Int) (s9 : Int) (s10a : Option GA) (s10n : Nat) (s11 : Int) (b0_0 : Int) (b0_1 : Int) (b0_2 : Int) (b0_3 : Int) (G : GH) : Option R :=
  L3 s0 s1 s2 s8 s9 s10a s10n s11 b0_0 b0_1 b0_2 b0_3 G

def a12_3N {R : Type} (O : Ora R) (KN : Int → Int → Int → Int → Int → Option GA → Nat → Int → GH → Option R) (K0 : Option GA → Nat → GH → Option R) (s0 : Int) (s1 : Int) (s2 : Int) (s8 : Int) (s9 : Int) (s10a : Option GA) (s10n : Nat) (s11 : Int) (b0_0 : Int) (b0_1 : Int) (b0_2 : Int) (b0_3 : Int) (G : GH) : Option R :=
  (grd (gnew G [.int .i64 b0_0, .int .i64 b0_1, .int .i64 b0_2, .int .i64 b0_3] 30) (gaddr G) (1 * 4)).bind fun x1 =>
  (gappend (gnew G [.int .i64 b0_0, .int .i64 b0_1, .int .i64 b0_2, .int .i64 b0_3] 30) 30 4 32 s10a s10n x1 1).bind fun r2 =>
  KN s0 s1 s2 s8 s9 r2.1 (s10n + 1) (IntKind.wrap .i64 (s11 + (1 : Int))) r2.2

def L12_3 {R : Type} (O : Ora R) (fuel : Nat) (KN : Int → Int → Int → Int → Int → Option GA → Nat → Int → GH → Option R) (K0 : Option GA → Nat → GH → Option R) : Int → Int → Int → Int → Int → Option GA → Nat → Int → Int → Int → Int → Int → GH → Option R := fun (s0 : Int) (s1 : Int) (s2 : Int) (s8 : Int) (s9 : Int) (s10a : Option GA) (s10n : Nat) (s11 : Int) (b0_0 : Int) (b0_1 : Int) (b0_2 : Int) (b0_3 : Int) G =>
  stepN fuel (l12_3 O (a12_3N O KN K0) s0 s1 s2 s8 s9 s10a s10n s11 b0_0 b0_1 b0_2 b0_3 G)

theorem a12_3N_raw {R : Type} (O : Ora R) (fuel : Nat) (s0 : Int) (s1 : Int) (s2 : Int) (s8 : Int) (s9 : Int) (s10a : Option GA) (s10n : Nat) (s11 : Int) (b0_0 : Int) (b0_1 : Int) (b0_2 : Int) (b0_3 : Int) (G : GH) (k : Ex → List IV → List (List IV) → GH → Option R) :
  contC Try.prog O lo12 fuel (nav (Try.f12.body.getD .skip) [1, 1, 1, 1, 1, 0, 1, 0, 0]) [1, 0, 0, 1, 1, 0] (kpD lo12 32 0 k) .normal (mkE 92 [(0, .int .i64 s0), (1, .int .i64 s1), (2, .int .i64 s2), (8, .int .i64 s8), (9, .int .i64 s9), (10, .slice s10a s10n), (11, .int .i64 s11), (12, .loc 0 0)]) [[.int .i64 b0_0, .int .i64 b0_1, .int .i64 b0_2, .int .i64 b0_3]] G =
  a12_3N O (fun (s0 : Int) (s1 : Int) (s2 : Int) (s8 : Int) (s9 : Int) (s10a : Option GA) (s10n : Nat) (s11 : Int) (G : GH) => k .normal (mkE 92 [(0, .int .i64 s0), (1, .int .i64 s1), (2, .int .i64 s2), (8, .int .i64 s8), (9, .int .i64 s9), (10, .slice s10a s10n), (11, .int .i64 s11)]) [] G) (fun (s10a : Option GA) (s10n : Nat) (G : GH) => k (.exit 0) (mkE 92 [(10, .slice s10a s10n)]) [] G) s0 s1 s2 s8 s9 s10a s10n s11 b0_0 b0_1 b0_2 b0_3 G := by kernel_rfl

theorem L12_3_eq {R : Type} (O : Ora R) (fuel : Nat) (k : Ex → List IV → List (List IV) → GH → Option R) :
  (fun (s0 : Int) (s1 : Int) (s2 : Int) (s8 : Int) (s9 : Int) (s10a : Option GA) (s10n : Nat) (s11 : Int) (b0_0 : Int) (b0_1 : Int) (b0_2 : Int) (b0_3 : Int) (G : GH) => stepN fuel (loopD Try.prog O lo12 fuel (nav (Try.f12.body.getD .skip) [1, 1, 1, 1, 1, 0, 1, 0, 0, 1, 0, 0, 1, 1, 0]) 63 (mkE 92 [(0, .int .i64 s0), (1, .int .i64 s1), (2, .int .i64 s2), (8, .int .i64 s8), (9, .int .i64 s9), (10, .slice s10a s10n), (11, .int .i64 s11), (12, .loc 0 0)]) [[.int .i64 b0_0, .int .i64 b0_1, .int .i64 b0_2, .int .i64 b0_3]] G (contC Try.prog O lo12 fuel (nav (Try.f12.body.getD .skip) [1, 1, 1, 1, 1, 0, 1, 0, 0]) [1, 0, 0, 1, 1, 0] (kpD lo12 32 0 k)))) = L12_3 O fuel (fun (s0 : Int) (s1 : Int) (s2 : Int) (s8 : Int) (s9 : Int) (s10a : Option GA) (s10n : Nat) (s11 : Int) (G : GH) => k .normal (mkE 92 [(0, .int .i64 s0), (1, .int .i64 s1), (2, .int .i64 s2), (8, .int .i64 s8), (9, .int .i64 s9), (10, .slice s10a s10n), (11, .int .i64 s11)]) [] G) (fun (s10a : Option GA) (s10n : Nat) (G : GH) => k (.exit 0) (mkE 92 [(10, .slice s10a s10n)]) [] G) := by
  funext s0 s1 s2 s8 s9 s10a s10n s11 b0_0 b0_1 b0_2 b0_3 G
  simp only [L12_3, l12_3_eq, a12_3N_raw]

def L12_2 {R : Type} (O : Ora R) (fuel : Nat) (KN : Int → Int → Int → Int → Int → Option GA → Nat → Int → GH → Option R) (K0 : Option GA → Nat → GH → Option R) : Int → Int → Int → Int → Int → Option GA → Nat → Int → Int → Int → Int → Int → GH → Option R := fun (s0 : Int) (s1 : Int) (s2 : Int) (s8 : Int) (s9 : Int) (s10a : Option GA) (s10n : Nat) (s11 : Int) (b0_0 : Int) (b0_1 : Int) (b0_2 : Int) (b0_3 : Int) G =>
  stepN fuel (l12_2 O (a12_2N O KN K0 (L12_3 O fuel KN K0)) s0 s1 s2 s8 s9 s10a s10n s11 b0_0 b0_1 b0_2 b0_3 G)

theorem a12_2N_raw {R : Type} (O : Ora R) (fuel : Nat) (s0 : Int) (s1 : Int) (s2 : Int) (s8 : Int) (s9 : Int) (s10a : Option GA) (s10n : Nat) (s11 : Int) (b0_0 : Int) (b0_1 : Int) (b0_2 : Int) (b0_3 : Int) (G : GH) (k : Ex → List IV → List (List IV) → GH → Option R) :
  contC Try.prog O lo12 fuel (nav (Try.f12.body.getD .skip) [1, 1, 1, 1, 1, 0, 1, 0, 0]) [1, 0, 0, 1, 0] (kpD lo12 32 0 k) .normal (mkE 92 [(0, .int .i64 s0), (1, .int .i64 s1), (2, .int .i64 s2), (8, .int .i64 s8), (9, .int .i64 s9), (10, .slice s10a s10n), (11, .int .i64 s11), (12, .loc 0 0)]) [[.int .i64 b0_0, .int .i64 b0_1, .int .i64 b0_2, .int .i64 b0_3]] G =
  a12_2N O (fun (s0 : Int) (s1 : Int) (s2 : Int) (s8 : Int) (s9 : Int) (s10a : Option GA) (s10n : Nat) (s11 : Int) (G : GH) => k .normal (mkE 92 [(0, .int .i64 s0), (1, .int .i64 s1), (2, .int .i64 s2), (8, .int .i64 s8), (9, .int .i64 s9), (10, .slice s10a s10n), (11, .int .i64 s11)]) [] G) (fun (s10a : Option GA) (s10n : Nat) (G : GH) => k (.exit 0) (mkE 92 [(10, .slice s10a s10n)]) [] G) (fun (s0 : Int) (s1 : Int) (s2 : Int) (s8 : Int) (s9 : Int) (s10a : Option GA) (s10n : Nat) (s11 : Int) (b0_0 : Int) (b0_1 : Int) (b0_2 : Int) (b0_3 : Int) (G : GH) => stepN fuel (loopD Try.prog O lo12 fuel (nav (Try.f12.body.getD .skip) [1, 1, 1, 1, 1, 0, 1, 0, 0, 1, 0, 0, 1, 1, 0]) 63 (mkE 92 [(0, .int .i64 s0), (1, .int .i64 s1), (2, .int .i64 s2), (8, .int .i64 s8), (9, .int .i64 s9), (10, .slice s10a s10n), (11, .int .i64 s11), (12, .loc 0 0)]) [[.int .i64 b0_0, .int .i64 b0_1, .int .i64 b0_2, .int .i64 b0_3]] G (contC Try.prog O lo12 fuel (nav (Try.f12.body.getD .skip) [1, 1, 1, 1, 1, 0, 1, 0, 0]) [1, 0, 0, 1, 1, 0] (kpD lo12 32 0 k)))) s0 s1 s2 s8 s9 s10a s10n s11 b0_0 b0_1 b0_2 b0_3 G := by kernel_rfl

theorem L12_2_eq {R : Type} (O : Ora R) (fuel : Nat) (k : Ex → List IV → List (List IV) → GH → Option R) :
  (fun (s0 : Int) (s1 : Int) (s2 : Int) (s8 : Int) (s9 : Int) (s10a : Option GA) (s10n : Nat) (s11 : Int) (b0_0 : Int) (b0_1 : Int) (b0_2 : Int) (b0_3 : Int) (G : GH) => stepN fuel (loopD Try.prog O lo12 fuel (nav (Try.f12.body.getD .skip) [1, 1, 1, 1, 1, 0, 1, 0, 0, 1, 0, 0, 1, 0]) 55 (mkE 92 [(0, .int .i64 s0), (1, .int .i64 s1), (2, .int .i64 s2), (8, .int .i64 s8), (9, .int .i64 s9), (10, .slice s10a s10n), (11, .int .i64 s11), (12, .loc 0 0)]) [[.int .i64 b0_0, .int .i64 b0_1, .int .i64 b0_2, .int .i64 b0_3]] G (contC Try.prog O lo12 fuel (nav (Try.f12.body.getD .skip) [1, 1, 1, 1, 1, 0, 1, 0, 0]) [1, 0, 0, 1, 0] (kpD lo12 32 0 k)))) = L12_2 O fuel (fun (s0 : Int) (s1 : Int) (s2 : Int) (s8 : Int) (s9 : Int) (s10a : Option GA) (s10n : Nat) (s11 : Int) (G : GH) => k .normal (mkE 92 [(0, .int .i64 s0), (1, .int .i64 s1), (2, .int .i64 s2), (8, .int .i64 s8), (9, .int .i64 s9), (10, .slice s10a s10n), (11, .int .i64 s11)]) [] G) (fun (s10a : Option GA) (s10n : Nat) (G : GH) => k (.exit 0) (mkE 92 [(10, .slice s10a s10n)]) [] G) := by
  funext s0 s1 s2 s8 s9 s10a s10n s11 b0_0 b0_1 b0_2 b0_3 G
  simp only [L12_2, l12_2_eq, a12_2N_raw, L12_3_eq]

def l12_1 {R : Type} (O : Ora R) (fuel : Nat) (K0 : Option GA → Nat → GH → Option R) : Nat → Int → Int → Int → Int → Int → Option GA → Nat → Int → GH → Option R
  | 0, _, _, _, _, _, _, _, _, _ => none
  | n + 1, s0, s1, s2, s8, s9, s10a, s10n, s11, G => u12_1 O (l12_1 O fuel K0 n) K0 (L12_2 O fuel (l12_1 O fuel K0 n) K0) s0 s1 s2 s8 s9 s10a s10n s11 G

theorem u12_1_raw {R : Type} (O : Ora R) (fuel : Nat) (s0 : Int) (s1 : Int) (s2 : Int) (s8 : Int) (s9 : Int) (s10a : Option GA) (s10n : Nat) (s11 : Int) (G : GH) (k : Ex → List IV → List (List IV) → GH → Option R) :
  loopD Try.prog O lo12 fuel (nav (Try.f12.body.getD .skip) [1, 1, 1, 1, 1, 0, 1, 0, 0]) 32 (mkE 92 [(0, .int .i64 s0), (1, .int .i64 s1), (2, .int .i64 s2), (8, .int .i64 s8), (9, .int .i64 s9), (10, .slice s10a s10n), (11, .int .i64 s11)]) [] G k =
  u12_1 O (fun (s0 : Int) (s1 : Int) (s2 : Int) (s8 : Int) (s9 : Int) (s10a : Option GA) (s10n : Nat) (s11 : Int) (G : GH) => k .normal (mkE 92 [(0, .int .i64 s0), (1, .int .i64 s1), (2, .int .i64 s2), (8, .int .i64 s8), (9, .int .i64 s9), (10, .slice s10a s10n), (11, .int .i64 s11)]) [] G) (fun (s10a : Option GA) (s10n : Nat) (G : GH) => k (.exit 0) (mkE 92 [(10, .slice s10a s10n)]) [] G) (fun (s0 : Int) (s1 : Int) (s2 : Int) (s8 : Int) (s9 : Int) (s10a : Option GA) (s10n : Nat) (s11 : Int) (b0_0 : Int) (b0_1 : Int) (b0_2 : Int) (b0_3 : Int) (G : GH) => stepN fuel (loopD Try.prog O lo12 fuel (nav (Try.f12.body.getD .skip) [1, 1, 1, 1, 1, 0, 1, 0, 0, 1, 0, 0, 1, 0]) 55 (mkE 92 [(0, .int .i64 s0), (1, .int .i64 s1), (2, .int .i64 s2), (8, .int .i64 s8), (9, .int .i64 s9), (10, .slice s10a s10n), (11, .int .i64 s11), (12, .loc 0 0)]) [[.int .i64 b0_0, .int .i64 b0_1, .int .i64 b0_2, .int .i64 b0_3]] G (contC Try.prog O lo12 fuel (nav (Try.f12.body.getD .skip) [1, 1, 1, 1, 1, 0, 1, 0, 0]) [1, 0, 0, 1, 0] (kpD lo12 32 0 k)))) s0 s1 s2 s8 s9 s10a s10n s11 G := by kernel_rfl

theorem l12_1_eq {R : Type} (O : Ora R) (fuel : Nat) (k : Ex → List IV → List (List IV) → GH → Option R) : ∀ (n : Nat) (s0 : Int) (s1 : Int) (s2 : Int) (s8 : Int) (s9 : Int) (s10a : Option GA) (s10n : Nat) (s11 : Int) (G : GH),
  loopN (loopD Try.prog O lo12 fuel (nav (Try.f12.body.getD .skip) [1, 1, 1, 1, 1, 0, 1, 0, 0]) 32) n (mkE 92 [(0, .int .i64 s0), (1, .int .i64 s1), (2, .int .i64 s2), (8, .int .i64 s8), (9, .int .i64 s9), (10, .slice s10a s10n), (11, .int .i64 s11)]) [] G k = l12_1 O fuel (fun (s10a : Option GA) (s10n : Nat) (G : GH) => k (.exit 0) (mkE 92 [(10, .slice s10a s10n)]) [] G) n s0 s1 s2 s8 s9 s10a s10n s11 G := by
  intro n
  induction n with
  | zero => intros; rfl
  | succ n ih =>
    intros
    rw [loopN_succ, u12_1_raw]
    simp only [l12_1, loopK_normal, loopK_exit, loopK_ret, ih, L12_2_eq]

def u12 {R : Type} (O : Ora R) (k : IV → GH → Option R) (L0 : Int → Int → Int → GH → Option R) (p0 : Int) (p1 : Int) (p2 : Int) (G : GH) : Option R :=
  L0 p0 p1 p2 G

def a12_0N {R : Type} (O : Ora R) (k : IV → GH → Option R) (L1 : Int → Int → Int → Int → Int → Option GA → Nat → Int → GH → Option R) (s0 : Int) (s1 : Int) (s2 : Int) (s30 : Bool) (G : GH) : Option R :=
  bif s30 then
  k (.tuple [.slice none 0, .int .i64 (2 : Int)]) G
  else
  bif s2 == 0 then none else
  bif s2 == 0 then none else
  bif (decide ((IntKind.wrap .i64 ((IntKind.wrap .i64 ((1 : Int) + (IntKind.wrap .i64 (Int.tdiv (IntKind.wrap .i64 (s0 - (1 : Int))) s2)))) * (IntKind.wrap .i64 ((1 : Int) + (IntKind.wrap .i64 (Int.tdiv (IntKind.wrap .i64 (s1 - (1 : Int))) s2)))))) > (8192 : Int))) then
  k (.tuple [.slice none 0, .int .i64 (2 : Int)]) G
  else
  L1 s0 s1 s2 (IntKind.wrap .i64 ((1 : Int) + (IntKind.wrap .i64 (Int.tdiv (IntKind.wrap .i64 (s0 - (1 : Int))) s2)))) (IntKind.wrap .i64 ((1 : Int) + (IntKind.wrap .i64 (Int.tdiv (IntKind.wrap .i64 (s1 - (1 : Int))) s2)))) none 0 (0 : Int) G

def a12_10 {R : Type} (O : Ora R) (k : IV → GH → Option R) (s10a : Option GA) (s10n : Nat) (G : GH) : Option R :=
  k (.tuple [.slice s10a s10n, .int .i64 (0 : Int)]) G

def L12_1 {R : Type} (O : Ora R) (fuel : Nat) (k : IV → GH → Option R) : Int → Int → Int → Int → Int → Option GA → Nat → Int → GH → Option R := fun (s0 : Int) (s1 : Int) (s2 : Int) (s8 : Int) (s9 : Int) (s10a : Option GA) (s10n : Nat) (s11 : Int) G =>
  l12_1 O fuel (a12_10 O k) fuel s0 s1 s2 s8 s9 s10a s10n s11 G

theorem a12_10_raw {R : Type} (O : Ora R) (fuel : Nat) (s10a : Option GA) (s10n : Nat) (G : GH) (k : IV → GH → Option R) :
  contC Try.prog O lo12 fuel (Try.f12.body.getD .skip) [1, 1, 1, 1, 1, 0, 1, 0] (fun e env F G => match e with | .exit _ => none | _ => resC Try.prog Try.f12 env F G k) (.exit 0) (mkE 92 [(10, .slice s10a s10n)]) [] G =
  a12_10 O k s10a s10n G := by kernel_rfl

theorem L12_1_eq {R : Type} (O : Ora R) (fuel : Nat) (k : IV → GH → Option R) :
  (fun (s0 : Int) (s1 : Int) (s2 : Int) (s8 : Int) (s9 : Int) (s10a : Option GA) (s10n : Nat) (s11 : Int) (G : GH) => loopN (loopD Try.prog O lo12 fuel (nav (Try.f12.body.getD .skip) [1, 1, 1, 1, 1, 0, 1, 0, 0]) 32) fuel (mkE 92 [(0, .int .i64 s0), (1, .int .i64 s1), (2, .int .i64 s2), (8, .int .i64 s8), (9, .int .i64 s9), (10, .slice s10a s10n), (11, .int .i64 s11)]) [] G (contC Try.prog O lo12 fuel (Try.f12.body.getD .skip) [1, 1, 1, 1, 1, 0, 1, 0] (fun e env F G => match e with | .exit _ => none | _ => resC Try.prog Try.f12 env F G k))) = L12_1 O fuel k := by
  funext s0 s1 s2 s8 s9 s10a s10n s11 G
  simp only [L12_1, l12_1_eq, a12_10_raw]

def L12_0 {R : Type} (O : Ora R) (fuel : Nat) (k : IV → GH → Option R) : Int → Int → Int → GH → Option R := fun (s0 : Int) (s1 : Int) (s2 : Int) G =>
  stepN fuel (l12_0 O (a12_0N O k (L12_1 O fuel k)) s0 s1 s2 G)

theorem a12_0N_raw {R : Type} (O : Ora R) (fuel : Nat) (s0 : Int) (s1 : Int) (s2 : Int) (s30 : Bool) (G : GH) (k : IV → GH → Option R) :
  contC Try.prog O lo12 fuel (Try.f12.body.getD .skip) [1, 0, 0] (fun e env F G => match e with | .exit _ => none | _ => resC Try.prog Try.f12 env F G k) .normal (mkE 92 [(0, .int .i64 s0), (1, .int .i64 s1), (2, .int .i64 s2), (30, .bool s30)]) [] G =
  a12_0N O k (fun (s0 : Int) (s1 : Int) (s2 : Int) (s8 : Int) (s9 : Int) (s10a : Option GA) (s10n : Nat) (s11 : Int) (G : GH) => loopN (loopD Try.prog O lo12 fuel (nav (Try.f12.body.getD .skip) [1, 1, 1, 1, 1, 0, 1, 0, 0]) 32) fuel (mkE 92 [(0, .int .i64 s0), (1, .int .i64 s1), (2, .int .i64 s2), (8, .int .i64 s8), (9, .int .i64 s9), (10, .slice s10a s10n), (11, .int .i64 s11)]) [] G (contC Try.prog O lo12 fuel (Try.f12.body.getD .skip) [1, 1, 1, 1, 1, 0, 1, 0] (fun e env F G => match e with | .exit _ => none | _ => resC Try.prog Try.f12 env F G k))) s0 s1 s2 s30 G := by kernel_rfl

theorem L12_0_eq {R : Type} (O : Ora R) (fuel : Nat) (k : IV → GH → Option R) :
  (fun (s0 : Int) (s1 : Int) (s2 : Int) (G : GH) => stepN fuel (loopD Try.prog O lo12 fuel (nav (Try.f12.body.getD .skip) [1, 0, 0]) 11 (mkE 92 [(0, .int .i64 s0), (1, .int .i64 s1), (2, .int .i64 s2)]) [] G (contC Try.prog O lo12 fuel (Try.f12.body.getD .skip) [1, 0, 0] (fun e env F G => match e with | .exit _ => none | _ => resC Try.prog Try.f12 env F G k)))) = L12_0 O fuel k := by
  funext s0 s1 s2 G
  simp only [L12_0, l12_0_eq, a12_0N_raw, L12_1_eq]

theorem e12_raw {R : Type} (O : Ora R) (fuel : Nat) (p0 : Int) (p1 : Int) (p2 : Int) (G : GH) (k : IV → GH → Option R) :
  bodyC Try.prog O lo12 fuel Try.f12 [.int .i64 p0, .int .i64 p1, .int .i64 p2] G k =
  u12 O k (fun (s0 : Int) (s1 : Int) (s2 : Int) (G : GH) => stepN fuel (loopD Try.prog O lo12 fuel (nav (Try.f12.body.getD .skip) [1, 0, 0]) 11 (mkE 92 [(0, .int .i64 s0), (1, .int .i64 s1), (2, .int .i64 s2)]) [] G (contC Try.prog O lo12 fuel (Try.f12.body.getD .skip) [1, 0, 0] (fun e env F G => match e with | .exit _ => none | _ => resC Try.prog Try.f12 env F G k)))) p0 p1 p2 G := by kernel_rfl

theorem e12 {R : Type} (O : Ora R) (fuel : Nat) (p0 : Int) (p1 : Int) (p2 : Int) (G : GH) (k : IV → GH → Option R) :
  bodyC Try.prog O lo12 fuel Try.f12 [.int .i64 p0, .int .i64 p1, .int .i64 p2] G k =
  u12 O k (L12_0 O fuel k) p0 p1 p2 G := by
  rw [e12_raw, L12_0_eq]

theorem r12 {R : Type} (fuel n : Nat) (p0 : Int) (p1 : Int) (p2 : Int) (G : GH) (k : IV → GH → Option R) :
  runC Try.prog lo0 fuel (n + 1) 12 [.int .i64 p0, .int .i64 p1, .int .i64 p2] G k = bodyC Try.prog (runC Try.prog lo0 fuel n) lo12 fuel Try.f12 [.int .i64 p0, .int .i64 p1, .int .i64 p2] G k := run_body Try.func12 rfl rfl

end Go.LI.Film
