/- What the interpreter gives for math: the rest (written by rnd.py). -/
import Derived.Test.YtmhoddmenfondaaSeatA
namespace Go.LI.Film
open Go.Proofs.Ytmhoddmenfondaa Go Go.Proofs Go.LI
set_option maxRecDepth 100000
set_option linter.unusedVariables false
set_option linter.unusedSimpArgs false
/-! ### math/bits.Div64 -/
def u_zd_0 {R : Type} (O : Ora R) (KN : Int → Int → Int → GH → Option R) (s0 s1 s2 : Int) (G : GH) : Option R :=
  bif (s2 == (0 : Int)) then
  none
  else
  KN s0 s1 s2 G

def l_zd_0 {R : Type} (O : Ora R) (KN : Int → Int → Int → GH → Option R) : Int → Int → Int → GH → Option R := fun s0 s1 s2 G => u_zd_0 O KN s0 s1 s2 G

theorem u_zd_0_raw {R : Type} (O : Ora R) (fuel : Nat) (s0 s1 s2 : Int) (G : GH) (k : KE R) :
  loopD Try.prog O lo88 fuel (nav (Try.f88.body.getD .skip) [1, 0]) 15 (mkE 135 [(0, .int .u64 s0), (1, .int .u64 s1), (2, .int .u64 s2)]) [] G k =
  u_zd_0 O (fun s0 s1 s2 G => k .normal (mkE 135 [(0, .int .u64 s0), (1, .int .u64 s1), (2, .int .u64 s2)]) [] G) s0 s1 s2 G := by kernel_rfl

theorem l_zd_0_eq {R : Type} (O : Ora R) (fuel : Nat) (k : KE R) : ∀ (s0 s1 s2 : Int) (G : GH),
  loopD Try.prog O lo88 fuel (nav (Try.f88.body.getD .skip) [1, 0]) 15 (mkE 135 [(0, .int .u64 s0), (1, .int .u64 s1), (2, .int .u64 s2)]) [] G k = l_zd_0 O (fun s0 s1 s2 G => k .normal (mkE 135 [(0, .int .u64 s0), (1, .int .u64 s1), (2, .int .u64 s2)]) [] G) s0 s1 s2 G := by
  intros
  rw [u_zd_0_raw]
  simp only [l_zd_0]

def u_zd_1 {R : Type} (O : Ora R) (KN : Int → Int → Int → GH → Option R) (s0 s1 s2 : Int) (G : GH) : Option R :=
  bif (decide (s2 ≤ s0)) then
  none
  else
  KN s0 s1 s2 G

def l_zd_1 {R : Type} (O : Ora R) (KN : Int → Int → Int → GH → Option R) : Int → Int → Int → GH → Option R := fun s0 s1 s2 G => u_zd_1 O KN s0 s1 s2 G

theorem u_zd_1_raw {R : Type} (O : Ora R) (fuel : Nat) (s0 s1 s2 : Int) (G : GH) (k : KE R) :
  loopD Try.prog O lo88 fuel (nav (Try.f88.body.getD .skip) [1, 1, 0]) 23 (mkE 135 [(0, .int .u64 s0), (1, .int .u64 s1), (2, .int .u64 s2)]) [] G k =
  u_zd_1 O (fun s0 s1 s2 G => k .normal (mkE 135 [(0, .int .u64 s0), (1, .int .u64 s1), (2, .int .u64 s2)]) [] G) s0 s1 s2 G := by kernel_rfl

theorem l_zd_1_eq {R : Type} (O : Ora R) (fuel : Nat) (k : KE R) : ∀ (s0 s1 s2 : Int) (G : GH),
  loopD Try.prog O lo88 fuel (nav (Try.f88.body.getD .skip) [1, 1, 0]) 23 (mkE 135 [(0, .int .u64 s0), (1, .int .u64 s1), (2, .int .u64 s2)]) [] G k = l_zd_1 O (fun s0 s1 s2 G => k .normal (mkE 135 [(0, .int .u64 s0), (1, .int .u64 s1), (2, .int .u64 s2)]) [] G) s0 s1 s2 G := by
  intros
  rw [u_zd_1_raw]
  simp only [l_zd_1]

def u_zd_3 {R : Type} (O : Ora R) (KN : Int → Int → Int → Int → Int → Int → Int → Int → Int → GH → Option R) (K0 : Int → Int → Int → Int → Int → Int → Int → Int → GH → Option R) (s2 s8 : Int) (s9 s10 : Int) (s11 s13 : Int) (s14 s15 s16 : Int) (G : GH) : Option R :=
  bif (decide (s15 ≥ (4294967296 : Int))) then
  KN s2 s8 s9 s10 s11 s13 s14 s15 s16 G
  else
  bif (decide ((IntKind.wrap .u64 (s15 * s10)) > (IntKind.wrap .u64 ((IntKind.wrap .u64 ((4294967296 : Int) * s16)) + s13)))) then
  KN s2 s8 s9 s10 s11 s13 s14 s15 s16 G
  else
  K0 s2 s8 s9 s10 s11 s13 s14 s15 G

def l_zd_3 {R : Type} (O : Ora R) (KN : Int → Int → Int → Int → Int → Int → Int → Int → Int → GH → Option R) (K0 : Int → Int → Int → Int → Int → Int → Int → Int → GH → Option R) : Int → Int → Int → Int → Int → Int → Int → Int → Int → GH → Option R := fun s2 s8 s9 s10 s11 s13 s14 s15 s16 G => u_zd_3 O KN K0 s2 s8 s9 s10 s11 s13 s14 s15 s16 G

theorem u_zd_3_raw {R : Type} (O : Ora R) (fuel : Nat) (s2 s8 : Int) (s9 s10 : Int) (s11 s13 : Int) (s14 s15 s16 : Int) (G : GH) (k : KE R) :
  loopD Try.prog O lo88 fuel (nav (Try.f88.body.getD .skip) [1, 1, 1, 1, 1, 1, 1, 1, 1, 1, 1, 1, 1, 1, 0, 0, 0, 0]) 75 (mkE 135 [(2, .int .u64 s2), (8, .int .u64 s8), (9, .int .u64 s9), (10, .int .u64 s10), (11, .int .u64 s11), (13, .int .u64 s13), (14, .int .u64 s14), (15, .int .u64 s15), (16, .int .u64 s16)]) [] G k =
  u_zd_3 O (fun s2 s8 s9 s10 s11 s13 s14 s15 s16 G => k .normal (mkE 135 [(2, .int .u64 s2), (8, .int .u64 s8), (9, .int .u64 s9), (10, .int .u64 s10), (11, .int .u64 s11), (13, .int .u64 s13), (14, .int .u64 s14), (15, .int .u64 s15), (16, .int .u64 s16)]) [] G) (fun s2 s8 s9 s10 s11 s13 s14 s15 G => k (.exit 0) (mkE 135 [(2, .int .u64 s2), (8, .int .u64 s8), (9, .int .u64 s9), (10, .int .u64 s10), (11, .int .u64 s11), (13, .int .u64 s13), (14, .int .u64 s14), (15, .int .u64 s15)]) [] G) s2 s8 s9 s10 s11 s13 s14 s15 s16 G := by kernel_rfl

theorem l_zd_3_eq {R : Type} (O : Ora R) (fuel : Nat) (k : KE R) : ∀ (s2 s8 : Int) (s9 s10 : Int) (s11 s13 : Int) (s14 s15 s16 : Int) (G : GH),
  loopD Try.prog O lo88 fuel (nav (Try.f88.body.getD .skip) [1, 1, 1, 1, 1, 1, 1, 1, 1, 1, 1, 1, 1, 1, 0, 0, 0, 0]) 75 (mkE 135 [(2, .int .u64 s2), (8, .int .u64 s8), (9, .int .u64 s9), (10, .int .u64 s10), (11, .int .u64 s11), (13, .int .u64 s13), (14, .int .u64 s14), (15, .int .u64 s15), (16, .int .u64 s16)]) [] G k = l_zd_3 O (fun s2 s8 s9 s10 s11 s13 s14 s15 s16 G => k .normal (mkE 135 [(2, .int .u64 s2), (8, .int .u64 s8), (9, .int .u64 s9), (10, .int .u64 s10), (11, .int .u64 s11), (13, .int .u64 s13), (14, .int .u64 s14), (15, .int .u64 s15), (16, .int .u64 s16)]) [] G) (fun s2 s8 s9 s10 s11 s13 s14 s15 G => k (.exit 0) (mkE 135 [(2, .int .u64 s2), (8, .int .u64 s8), (9, .int .u64 s9), (10, .int .u64 s10), (11, .int .u64 s11), (13, .int .u64 s13), (14, .int .u64 s14), (15, .int .u64 s15)]) [] G) s2 s8 s9 s10 s11 s13 s14 s15 s16 G := by
  intros
  rw [u_zd_3_raw]
  simp only [l_zd_3]

def u_zd_2 {R : Type} (O : Ora R) (K0 : Int → Int → Int → Int → Int → Int → Int → Int → GH → Option R) (KN L3 : Int → Int → Int → Int → Int → Int → Int → Int → Int → GH → Option R) (s2 s8 : Int) (s9 s10 : Int) (s11 s13 : Int) (s14 s15 s16 : Int) (G : GH) : Option R :=
  L3 s2 s8 s9 s10 s11 s13 s14 s15 s16 G

def a_zd_3N {R : Type} (O : Ora R) (K0 : Int → Int → Int → Int → Int → Int → Int → Int → GH → Option R) (KN : Int → Int → Int → Int → Int → Int → Int → Int → Int → GH → Option R) (s2 s8 : Int) (s9 s10 : Int) (s11 s13 : Int) (s14 s15 s16 : Int) (G : GH) : Option R :=
  bif (decide ((IntKind.wrap .u64 (s16 + s9)) ≥ (4294967296 : Int))) then
  K0 s2 s8 s9 s10 s11 s13 s14 (IntKind.wrap .u64 (s15 - (1 : Int))) G
  else
  KN s2 s8 s9 s10 s11 s13 s14 (IntKind.wrap .u64 (s15 - (1 : Int))) (IntKind.wrap .u64 (s16 + s9)) G

def a_zd_30 {R : Type} (O : Ora R) (K0 : Int → Int → Int → Int → Int → Int → Int → Int → GH → Option R) (KN : Int → Int → Int → Int → Int → Int → Int → Int → Int → GH → Option R) (s2 s8 : Int) (s9 s10 : Int) (s11 s13 : Int) (s14 s15 : Int) (G : GH) : Option R :=
  K0 s2 s8 s9 s10 s11 s13 s14 s15 G

def L_zd_3 {R : Type} (O : Ora R) (fuel : Nat) (K0 : Int → Int → Int → Int → Int → Int → Int → Int → GH → Option R) (KN : Int → Int → Int → Int → Int → Int → Int → Int → Int → GH → Option R) : Int → Int → Int → Int → Int → Int → Int → Int → Int → GH → Option R := fun s2 s8 s9 s10 s11 s13 s14 s15 s16 G =>
  stepN fuel (l_zd_3 O (a_zd_3N O K0 KN) (a_zd_30 O K0 KN) s2 s8 s9 s10 s11 s13 s14 s15 s16 G)

theorem a_zd_3N_raw {R : Type} (O : Ora R) (fuel : Nat) (s2 s8 : Int) (s9 s10 : Int) (s11 s13 : Int) (s14 s15 s16 : Int) (G : GH) (k : KE R) :
  contC Try.prog O lo88 fuel (nav (Try.f88.body.getD .skip) [1, 1, 1, 1, 1, 1, 1, 1, 1, 1, 1, 1, 1, 1, 0, 0, 0]) [0] (kpD lo88 68 0 k) .normal (mkE 135 [(2, .int .u64 s2), (8, .int .u64 s8), (9, .int .u64 s9), (10, .int .u64 s10), (11, .int .u64 s11), (13, .int .u64 s13), (14, .int .u64 s14), (15, .int .u64 s15), (16, .int .u64 s16)]) [] G =
  a_zd_3N O (fun s2 s8 s9 s10 s11 s13 s14 s15 G => k (.exit 0) (mkE 135 [(2, .int .u64 s2), (8, .int .u64 s8), (9, .int .u64 s9), (10, .int .u64 s10), (11, .int .u64 s11), (13, .int .u64 s13), (14, .int .u64 s14), (15, .int .u64 s15)]) [] G) (fun s2 s8 s9 s10 s11 s13 s14 s15 s16 G => k .normal (mkE 135 [(2, .int .u64 s2), (8, .int .u64 s8), (9, .int .u64 s9), (10, .int .u64 s10), (11, .int .u64 s11), (13, .int .u64 s13), (14, .int .u64 s14), (15, .int .u64 s15), (16, .int .u64 s16)]) [] G) s2 s8 s9 s10 s11 s13 s14 s15 s16 G := by kernel_rfl

theorem a_zd_30_raw {R : Type} (O : Ora R) (fuel : Nat) (s2 s8 : Int) (s9 s10 : Int) (s11 s13 : Int) (s14 s15 : Int) (G : GH) (k : KE R) :
  contC Try.prog O lo88 fuel (nav (Try.f88.body.getD .skip) [1, 1, 1, 1, 1, 1, 1, 1, 1, 1, 1, 1, 1, 1, 0, 0, 0]) [0] (kpD lo88 68 0 k) (.exit 0) (mkE 135 [(2, .int .u64 s2), (8, .int .u64 s8), (9, .int .u64 s9), (10, .int .u64 s10), (11, .int .u64 s11), (13, .int .u64 s13), (14, .int .u64 s14), (15, .int .u64 s15)]) [] G =
  a_zd_30 O (fun s2 s8 s9 s10 s11 s13 s14 s15 G => k (.exit 0) (mkE 135 [(2, .int .u64 s2), (8, .int .u64 s8), (9, .int .u64 s9), (10, .int .u64 s10), (11, .int .u64 s11), (13, .int .u64 s13), (14, .int .u64 s14), (15, .int .u64 s15)]) [] G) (fun s2 s8 s9 s10 s11 s13 s14 s15 s16 G => k .normal (mkE 135 [(2, .int .u64 s2), (8, .int .u64 s8), (9, .int .u64 s9), (10, .int .u64 s10), (11, .int .u64 s11), (13, .int .u64 s13), (14, .int .u64 s14), (15, .int .u64 s15), (16, .int .u64 s16)]) [] G) s2 s8 s9 s10 s11 s13 s14 s15 G := by kernel_rfl

theorem L_zd_3_eq {R : Type} (O : Ora R) (fuel : Nat) (k : KE R) :
  (fun (s2 s8 : Int) (s9 s10 : Int) (s11 s13 : Int) (s14 s15 s16 : Int) (G : GH) => stepN fuel (loopD Try.prog O lo88 fuel (nav (Try.f88.body.getD .skip) [1, 1, 1, 1, 1, 1, 1, 1, 1, 1, 1, 1, 1, 1, 0, 0, 0, 0]) 75 (mkE 135 [(2, .int .u64 s2), (8, .int .u64 s8), (9, .int .u64 s9), (10, .int .u64 s10), (11, .int .u64 s11), (13, .int .u64 s13), (14, .int .u64 s14), (15, .int .u64 s15), (16, .int .u64 s16)]) [] G (contC Try.prog O lo88 fuel (nav (Try.f88.body.getD .skip) [1, 1, 1, 1, 1, 1, 1, 1, 1, 1, 1, 1, 1, 1, 0, 0, 0]) [0] (kpD lo88 68 0 k)))) = L_zd_3 O fuel (fun (s2 s8 : Int) (s9 s10 : Int) (s11 s13 : Int) (s14 s15 : Int) (G : GH) => k (.exit 0) (mkE 135 [(2, .int .u64 s2), (8, .int .u64 s8), (9, .int .u64 s9), (10, .int .u64 s10), (11, .int .u64 s11), (13, .int .u64 s13), (14, .int .u64 s14), (15, .int .u64 s15)]) [] G) (fun (s2 s8 : Int) (s9 s10 : Int) (s11 s13 : Int) (s14 s15 s16 : Int) (G : GH) => k .normal (mkE 135 [(2, .int .u64 s2), (8, .int .u64 s8), (9, .int .u64 s9), (10, .int .u64 s10), (11, .int .u64 s11), (13, .int .u64 s13), (14, .int .u64 s14), (15, .int .u64 s15), (16, .int .u64 s16)]) [] G) := by
  funext s2 s8 s9 s10 s11 s13 s14 s15 s16 G
  simp only [L_zd_3, l_zd_3_eq, a_zd_3N_raw, a_zd_30_raw]

def l_zd_2 {R : Type} (O : Ora R) (fuel : Nat) (K0 : Int → Int → Int → Int → Int → Int → Int → Int → GH → Option R) : Nat → Int → Int → Int → Int → Int → Int → Int → Int → Int → GH → Option R
  | 0, _, _, _, _, _, _, _, _, _, _ => none
  | n + 1, s2, s8, s9, s10, s11, s13, s14, s15, s16, G => u_zd_2 O K0 (l_zd_2 O fuel K0 n) (L_zd_3 O fuel K0 (l_zd_2 O fuel K0 n)) s2 s8 s9 s10 s11 s13 s14 s15 s16 G

theorem u_zd_2_raw {R : Type} (O : Ora R) (fuel : Nat) (s2 s8 : Int) (s9 s10 : Int) (s11 s13 : Int) (s14 s15 s16 : Int) (G : GH) (k : KE R) :
  loopD Try.prog O lo88 fuel (nav (Try.f88.body.getD .skip) [1, 1, 1, 1, 1, 1, 1, 1, 1, 1, 1, 1, 1, 1, 0, 0, 0]) 68 (mkE 135 [(2, .int .u64 s2), (8, .int .u64 s8), (9, .int .u64 s9), (10, .int .u64 s10), (11, .int .u64 s11), (13, .int .u64 s13), (14, .int .u64 s14), (15, .int .u64 s15), (16, .int .u64 s16)]) [] G k =
  u_zd_2 O (fun s2 s8 s9 s10 s11 s13 s14 s15 G => k (.exit 0) (mkE 135 [(2, .int .u64 s2), (8, .int .u64 s8), (9, .int .u64 s9), (10, .int .u64 s10), (11, .int .u64 s11), (13, .int .u64 s13), (14, .int .u64 s14), (15, .int .u64 s15)]) [] G) (fun s2 s8 s9 s10 s11 s13 s14 s15 s16 G => k .normal (mkE 135 [(2, .int .u64 s2), (8, .int .u64 s8), (9, .int .u64 s9), (10, .int .u64 s10), (11, .int .u64 s11), (13, .int .u64 s13), (14, .int .u64 s14), (15, .int .u64 s15), (16, .int .u64 s16)]) [] G) (fun s2 s8 s9 s10 s11 s13 s14 s15 s16 G => stepN fuel (loopD Try.prog O lo88 fuel (nav (Try.f88.body.getD .skip) [1, 1, 1, 1, 1, 1, 1, 1, 1, 1, 1, 1, 1, 1, 0, 0, 0, 0]) 75 (mkE 135 [(2, .int .u64 s2), (8, .int .u64 s8), (9, .int .u64 s9), (10, .int .u64 s10), (11, .int .u64 s11), (13, .int .u64 s13), (14, .int .u64 s14), (15, .int .u64 s15), (16, .int .u64 s16)]) [] G (contC Try.prog O lo88 fuel (nav (Try.f88.body.getD .skip) [1, 1, 1, 1, 1, 1, 1, 1, 1, 1, 1, 1, 1, 1, 0, 0, 0]) [0] (kpD lo88 68 0 k)))) s2 s8 s9 s10 s11 s13 s14 s15 s16 G := by kernel_rfl

theorem l_zd_2_eq {R : Type} (O : Ora R) (fuel : Nat) (k : KE R) : ∀ (n : Nat) (s2 s8 : Int) (s9 s10 : Int) (s11 s13 : Int) (s14 s15 s16 : Int) (G : GH),
  loopN (loopD Try.prog O lo88 fuel (nav (Try.f88.body.getD .skip) [1, 1, 1, 1, 1, 1, 1, 1, 1, 1, 1, 1, 1, 1, 0, 0, 0]) 68) n (mkE 135 [(2, .int .u64 s2), (8, .int .u64 s8), (9, .int .u64 s9), (10, .int .u64 s10), (11, .int .u64 s11), (13, .int .u64 s13), (14, .int .u64 s14), (15, .int .u64 s15), (16, .int .u64 s16)]) [] G k = l_zd_2 O fuel (fun s2 s8 s9 s10 s11 s13 s14 s15 G => k (.exit 0) (mkE 135 [(2, .int .u64 s2), (8, .int .u64 s8), (9, .int .u64 s9), (10, .int .u64 s10), (11, .int .u64 s11), (13, .int .u64 s13), (14, .int .u64 s14), (15, .int .u64 s15)]) [] G) n s2 s8 s9 s10 s11 s13 s14 s15 s16 G := by
  intro n
  induction n with
  | zero => intros; rfl
  | succ n ih =>
    intros
    rw [loopN_succ, u_zd_2_raw]
    simp only [l_zd_2, loopK_normal, loopK_exit, loopK_ret, ih, L_zd_3_eq]

def u_zd_5 {R : Type} (O : Ora R) (KN : Int → Int → Int → Int → Int → Int → Int → Int → Int → GH → Option R) (K2 : Int → Int → Int → Int → Int → Int → GH → Option R) (s2 s8 : Int) (s9 s10 : Int) (s14 s15 : Int) (s16 s17 s18 : Int) (G : GH) : Option R :=
  bif (decide (s18 ≥ (4294967296 : Int))) then
  KN s2 s8 s9 s10 s14 s15 s16 s17 s18 G
  else
  bif (decide ((IntKind.wrap .u64 (s18 * s10)) > (IntKind.wrap .u64 ((IntKind.wrap .u64 ((4294967296 : Int) * s16)) + s14)))) then
  KN s2 s8 s9 s10 s14 s15 s16 s17 s18 G
  else
  K2 s2 s8 s14 s15 s17 s18 G

def l_zd_5 {R : Type} (O : Ora R) (KN : Int → Int → Int → Int → Int → Int → Int → Int → Int → GH → Option R) (K2 : Int → Int → Int → Int → Int → Int → GH → Option R) : Int → Int → Int → Int → Int → Int → Int → Int → Int → GH → Option R := fun s2 s8 s9 s10 s14 s15 s16 s17 s18 G => u_zd_5 O KN K2 s2 s8 s9 s10 s14 s15 s16 s17 s18 G

theorem u_zd_5_raw {R : Type} (O : Ora R) (fuel : Nat) (s2 s8 : Int) (s9 s10 : Int) (s14 s15 : Int) (s16 s17 s18 : Int) (G : GH) (k : KE R) :
  loopD Try.prog O lo88 fuel (nav (Try.f88.body.getD .skip) [1, 1, 1, 1, 1, 1, 1, 1, 1, 1, 1, 1, 1, 1, 1, 1, 1, 1, 0, 0, 0, 0]) 103 (mkE 135 [(2, .int .u64 s2), (8, .int .u64 s8), (9, .int .u64 s9), (10, .int .u64 s10), (14, .int .u64 s14), (15, .int .u64 s15), (16, .int .u64 s16), (17, .int .u64 s17), (18, .int .u64 s18)]) [] G k =
  u_zd_5 O (fun s2 s8 s9 s10 s14 s15 s16 s17 s18 G => k .normal (mkE 135 [(2, .int .u64 s2), (8, .int .u64 s8), (9, .int .u64 s9), (10, .int .u64 s10), (14, .int .u64 s14), (15, .int .u64 s15), (16, .int .u64 s16), (17, .int .u64 s17), (18, .int .u64 s18)]) [] G) (fun s2 s8 s14 s15 s17 s18 G => k (.exit 2) (mkE 135 [(2, .int .u64 s2), (8, .int .u64 s8), (14, .int .u64 s14), (15, .int .u64 s15), (17, .int .u64 s17), (18, .int .u64 s18)]) [] G) s2 s8 s9 s10 s14 s15 s16 s17 s18 G := by kernel_rfl

theorem l_zd_5_eq {R : Type} (O : Ora R) (fuel : Nat) (k : KE R) : ∀ (s2 s8 : Int) (s9 s10 : Int) (s14 s15 : Int) (s16 s17 s18 : Int) (G : GH),
  loopD Try.prog O lo88 fuel (nav (Try.f88.body.getD .skip) [1, 1, 1, 1, 1, 1, 1, 1, 1, 1, 1, 1, 1, 1, 1, 1, 1, 1, 0, 0, 0, 0]) 103 (mkE 135 [(2, .int .u64 s2), (8, .int .u64 s8), (9, .int .u64 s9), (10, .int .u64 s10), (14, .int .u64 s14), (15, .int .u64 s15), (16, .int .u64 s16), (17, .int .u64 s17), (18, .int .u64 s18)]) [] G k = l_zd_5 O (fun s2 s8 s9 s10 s14 s15 s16 s17 s18 G => k .normal (mkE 135 [(2, .int .u64 s2), (8, .int .u64 s8), (9, .int .u64 s9), (10, .int .u64 s10), (14, .int .u64 s14), (15, .int .u64 s15), (16, .int .u64 s16), (17, .int .u64 s17), (18, .int .u64 s18)]) [] G) (fun s2 s8 s14 s15 s17 s18 G => k (.exit 2) (mkE 135 [(2, .int .u64 s2), (8, .int .u64 s8), (14, .int .u64 s14), (15, .int .u64 s15), (17, .int .u64 s17), (18, .int .u64 s18)]) [] G) s2 s8 s9 s10 s14 s15 s16 s17 s18 G := by
  intros
  rw [u_zd_5_raw]
  simp only [l_zd_5]

def u_zd_4 {R : Type} (O : Ora R) (K2 : Int → Int → Int → Int → Int → Int → GH → Option R) (KN L5 : Int → Int → Int → Int → Int → Int → Int → Int → Int → GH → Option R) (s2 s8 : Int) (s9 s10 : Int) (s14 s15 : Int) (s16 s17 s18 : Int) (G : GH) : Option R :=
  L5 s2 s8 s9 s10 s14 s15 s16 s17 s18 G

def a_zd_5N {R : Type} (O : Ora R) (K2 : Int → Int → Int → Int → Int → Int → GH → Option R) (KN : Int → Int → Int → Int → Int → Int → Int → Int → Int → GH → Option R) (s2 s8 : Int) (s9 s10 : Int) (s14 s15 : Int) (s16 s17 s18 : Int) (G : GH) : Option R :=
  bif (decide ((IntKind.wrap .u64 (s16 + s9)) ≥ (4294967296 : Int))) then
  K2 s2 s8 s14 s15 s17 (IntKind.wrap .u64 (s18 - (1 : Int))) G
  else
  KN s2 s8 s9 s10 s14 s15 (IntKind.wrap .u64 (s16 + s9)) s17 (IntKind.wrap .u64 (s18 - (1 : Int))) G

def a_zd_52 {R : Type} (O : Ora R) (K2 : Int → Int → Int → Int → Int → Int → GH → Option R) (KN : Int → Int → Int → Int → Int → Int → Int → Int → Int → GH → Option R) (s2 s8 : Int) (s14 s15 : Int) (s17 s18 : Int) (G : GH) : Option R :=
  K2 s2 s8 s14 s15 s17 s18 G

def L_zd_5 {R : Type} (O : Ora R) (fuel : Nat) (K2 : Int → Int → Int → Int → Int → Int → GH → Option R) (KN : Int → Int → Int → Int → Int → Int → Int → Int → Int → GH → Option R) : Int → Int → Int → Int → Int → Int → Int → Int → Int → GH → Option R := fun s2 s8 s9 s10 s14 s15 s16 s17 s18 G =>
  stepN fuel (l_zd_5 O (a_zd_5N O K2 KN) (a_zd_52 O K2 KN) s2 s8 s9 s10 s14 s15 s16 s17 s18 G)

theorem a_zd_5N_raw {R : Type} (O : Ora R) (fuel : Nat) (s2 s8 : Int) (s9 s10 : Int) (s14 s15 : Int) (s16 s17 s18 : Int) (G : GH) (k : KE R) :
  contC Try.prog O lo88 fuel (nav (Try.f88.body.getD .skip) [1, 1, 1, 1, 1, 1, 1, 1, 1, 1, 1, 1, 1, 1, 1, 1, 1, 1, 0, 0, 0]) [0] (kpD lo88 96 0 k) .normal (mkE 135 [(2, .int .u64 s2), (8, .int .u64 s8), (9, .int .u64 s9), (10, .int .u64 s10), (14, .int .u64 s14), (15, .int .u64 s15), (16, .int .u64 s16), (17, .int .u64 s17), (18, .int .u64 s18)]) [] G =
  a_zd_5N O (fun s2 s8 s14 s15 s17 s18 G => k (.exit 2) (mkE 135 [(2, .int .u64 s2), (8, .int .u64 s8), (14, .int .u64 s14), (15, .int .u64 s15), (17, .int .u64 s17), (18, .int .u64 s18)]) [] G) (fun s2 s8 s9 s10 s14 s15 s16 s17 s18 G => k .normal (mkE 135 [(2, .int .u64 s2), (8, .int .u64 s8), (9, .int .u64 s9), (10, .int .u64 s10), (14, .int .u64 s14), (15, .int .u64 s15), (16, .int .u64 s16), (17, .int .u64 s17), (18, .int .u64 s18)]) [] G) s2 s8 s9 s10 s14 s15 s16 s17 s18 G := by kernel_rfl

theorem a_zd_52_raw {R : Type} (O : Ora R) (fuel : Nat) (s2 s8 : Int) (s14 s15 : Int) (s17 s18 : Int) (G : GH) (k : KE R) :
  contC Try.prog O lo88 fuel (nav (Try.f88.body.getD .skip) [1, 1, 1, 1, 1, 1, 1, 1, 1, 1, 1, 1, 1, 1, 1, 1, 1, 1, 0, 0, 0]) [0] (kpD lo88 96 0 k) (.exit 2) (mkE 135 [(2, .int .u64 s2), (8, .int .u64 s8), (14, .int .u64 s14), (15, .int .u64 s15), (17, .int .u64 s17), (18, .int .u64 s18)]) [] G =
  a_zd_52 O (fun s2 s8 s14 s15 s17 s18 G => k (.exit 2) (mkE 135 [(2, .int .u64 s2), (8, .int .u64 s8), (14, .int .u64 s14), (15, .int .u64 s15), (17, .int .u64 s17), (18, .int .u64 s18)]) [] G) (fun s2 s8 s9 s10 s14 s15 s16 s17 s18 G => k .normal (mkE 135 [(2, .int .u64 s2), (8, .int .u64 s8), (9, .int .u64 s9), (10, .int .u64 s10), (14, .int .u64 s14), (15, .int .u64 s15), (16, .int .u64 s16), (17, .int .u64 s17), (18, .int .u64 s18)]) [] G) s2 s8 s14 s15 s17 s18 G := by kernel_rfl

theorem L_zd_5_eq {R : Type} (O : Ora R) (fuel : Nat) (k : KE R) :
  (fun (s2 s8 : Int) (s9 s10 : Int) (s14 s15 : Int) (s16 s17 s18 : Int) (G : GH) => stepN fuel (loopD Try.prog O lo88 fuel (nav (Try.f88.body.getD .skip) [1, 1, 1, 1, 1, 1, 1, 1, 1, 1, 1, 1, 1, 1, 1, 1, 1, 1, 0, 0, 0, 0]) 103 (mkE 135 [(2, .int .u64 s2), (8, .int .u64 s8), (9, .int .u64 s9), (10, .int .u64 s10), (14, .int .u64 s14), (15, .int .u64 s15), (16, .int .u64 s16), (17, .int .u64 s17), (18, .int .u64 s18)]) [] G (contC Try.prog O lo88 fuel (nav (Try.f88.body.getD .skip) [1, 1, 1, 1, 1, 1, 1, 1, 1, 1, 1, 1, 1, 1, 1, 1, 1, 1, 0, 0, 0]) [0] (kpD lo88 96 0 k)))) = L_zd_5 O fuel (fun (s2 s8 : Int) (s14 s15 : Int) (s17 s18 : Int) (G : GH) => k (.exit 2) (mkE 135 [(2, .int .u64 s2), (8, .int .u64 s8), (14, .int .u64 s14), (15, .int .u64 s15), (17, .int .u64 s17), (18, .int .u64 s18)]) [] G) (fun (s2 s8 : Int) (s9 s10 : Int) (s14 s15 : Int) (s16 s17 s18 : Int) (G : GH) => k .normal (mkE 135 [(2, .int .u64 s2), (8, .int .u64 s8), (9, .int .u64 s9), (10, .int .u64 s10), (14, .int .u64 s14), (15, .int .u64 s15), (16, .int .u64 s16), (17, .int .u64 s17), (18, .int .u64 s18)]) [] G) := by
  funext s2 s8 s9 s10 s14 s15 s16 s17 s18 G
  simp only [L_zd_5, l_zd_5_eq, a_zd_5N_raw, a_zd_52_raw]

def l_zd_4 {R : Type} (O : Ora R) (fuel : Nat) (K2 : Int → Int → Int → Int → Int → Int → GH → Option R) : Nat → Int → Int → Int → Int → Int → Int → Int → Int → Int → GH → Option R
  | 0, _, _, _, _, _, _, _, _, _, _ => none
  | n + 1, s2, s8, s9, s10, s14, s15, s16, s17, s18, G => u_zd_4 O K2 (l_zd_4 O fuel K2 n) (L_zd_5 O fuel K2 (l_zd_4 O fuel K2 n)) s2 s8 s9 s10 s14 s15 s16 s17 s18 G

theorem u_zd_4_raw {R : Type} (O : Ora R) (fuel : Nat) (s2 s8 : Int) (s9 s10 : Int) (s14 s15 : Int) (s16 s17 s18 : Int) (G : GH) (k : KE R) :
  loopD Try.prog O lo88 fuel (nav (Try.f88.body.getD .skip) [1, 1, 1, 1, 1, 1, 1, 1, 1, 1, 1, 1, 1, 1, 1, 1, 1, 1, 0, 0, 0]) 96 (mkE 135 [(2, .int .u64 s2), (8, .int .u64 s8), (9, .int .u64 s9), (10, .int .u64 s10), (14, .int .u64 s14), (15, .int .u64 s15), (16, .int .u64 s16), (17, .int .u64 s17), (18, .int .u64 s18)]) [] G k =
  u_zd_4 O (fun s2 s8 s14 s15 s17 s18 G => k (.exit 2) (mkE 135 [(2, .int .u64 s2), (8, .int .u64 s8), (14, .int .u64 s14), (15, .int .u64 s15), (17, .int .u64 s17), (18, .int .u64 s18)]) [] G) (fun s2 s8 s9 s10 s14 s15 s16 s17 s18 G => k .normal (mkE 135 [(2, .int .u64 s2), (8, .int .u64 s8), (9, .int .u64 s9), (10, .int .u64 s10), (14, .int .u64 s14), (15, .int .u64 s15), (16, .int .u64 s16), (17, .int .u64 s17), (18, .int .u64 s18)]) [] G) (fun s2 s8 s9 s10 s14 s15 s16 s17 s18 G => stepN fuel (loopD Try.prog O lo88 fuel (nav (Try.f88.body.getD .skip) [1, 1, 1, 1, 1, 1, 1, 1, 1, 1, 1, 1, 1, 1, 1, 1, 1, 1, 0, 0, 0, 0]) 103 (mkE 135 [(2, .int .u64 s2), (8, .int .u64 s8), (9, .int .u64 s9), (10, .int .u64 s10), (14, .int .u64 s14), (15, .int .u64 s15), (16, .int .u64 s16), (17, .int .u64 s17), (18, .int .u64 s18)]) [] G (contC Try.prog O lo88 fuel (nav (Try.f88.body.getD .skip) [1, 1, 1, 1, 1, 1, 1, 1, 1, 1, 1, 1, 1, 1, 1, 1, 1, 1, 0, 0, 0]) [0] (kpD lo88 96 0 k)))) s2 s8 s9 s10 s14 s15 s16 s17 s18 G := by kernel_rfl

theorem l_zd_4_eq {R : Type} (O : Ora R) (fuel : Nat) (k : KE R) : ∀ (n : Nat) (s2 s8 : Int) (s9 s10 : Int) (s14 s15 : Int) (s16 s17 s18 : Int) (G : GH),
  loopN (loopD Try.prog O lo88 fuel (nav (Try.f88.body.getD .skip) [1, 1, 1, 1, 1, 1, 1, 1, 1, 1, 1, 1, 1, 1, 1, 1, 1, 1, 0, 0, 0]) 96) n (mkE 135 [(2, .int .u64 s2), (8, .int .u64 s8), (9, .int .u64 s9), (10, .int .u64 s10), (14, .int .u64 s14), (15, .int .u64 s15), (16, .int .u64 s16), (17, .int .u64 s17), (18, .int .u64 s18)]) [] G k = l_zd_4 O fuel (fun s2 s8 s14 s15 s17 s18 G => k (.exit 2) (mkE 135 [(2, .int .u64 s2), (8, .int .u64 s8), (14, .int .u64 s14), (15, .int .u64 s15), (17, .int .u64 s17), (18, .int .u64 s18)]) [] G) n s2 s8 s9 s10 s14 s15 s16 s17 s18 G := by
  intro n
  induction n with
  | zero => intros; rfl
  | succ n ih =>
    intros
    rw [loopN_succ, u_zd_4_raw]
    simp only [l_zd_4, loopK_normal, loopK_exit, loopK_ret, ih, L_zd_5_eq]

def u_zd {R : Type} (O : Ora R) (k : KV R) (L0 : Int → Int → Int → GH → Option R) (p0 p1 p2 : Int) (G : GH) : Option R :=
  L0 p0 p1 p2 G

def a_zd_0N {R : Type} (O : Ora R) (k : KV R) (L1 : Int → Int → Int → GH → Option R) (s0 s1 s2 : Int) (G : GH) : Option R :=
  L1 s0 s1 s2 G

def a_zd_1N {R : Type} (O : Ora R) (k : KV R) (L2 : Int → Int → Int → Int → Int → Int → Int → Int → Int → GH → Option R) (s0 s1 s2 : Int) (G : GH) : Option R :=
  bif (s0 == (0 : Int)) then
  bif s2 == 0 then none else
  bif s2 == 0 then none else
  k (.tuple [.int .u64 (IntKind.wrap .u64 (Int.tdiv s1 s2)), .int .u64 (Int.tmod s1 s2)]) G
  else
  O fn_zC1 [.int .u64 s2] G fun v1 G2 =>
  (ivInt .i64 v1).bind fun x3 =>
  bif decide ((IntKind.wrap .u64 x3) < 0) then none else
  bif decide ((IntKind.wrap .u64 x3) < 0) then none else
  bif decide ((IntKind.wrap .u64 ((64 : Int) - (IntKind.wrap .u64 x3))) < 0) then none else
  bif decide ((IntKind.wrap .u64 x3) < 0) then none else
  bif (shrI .u64 (shlI .u64 s2 (IntKind.wrap .u64 x3)) (32 : Int)) == 0 then none else
  L2 (shlI .u64 s2 (IntKind.wrap .u64 x3)) (IntKind.wrap .u64 x3) (shrI .u64 (shlI .u64 s2 (IntKind.wrap .u64 x3)) (32 : Int)) (andI .u64 (shlI .u64 s2 (IntKind.wrap .u64 x3)) (4294967295 : Int)) (orI .u64 (shlI .u64 s0 (IntKind.wrap .u64 x3)) (shrI .u64 s1 (IntKind.wrap .u64 ((64 : Int) - (IntKind.wrap .u64 x3))))) (shrI .u64 (shlI .u64 s1 (IntKind.wrap .u64 x3)) (32 : Int)) (andI .u64 (shlI .u64 s1 (IntKind.wrap .u64 x3)) (4294967295 : Int)) (IntKind.wrap .u64 (Int.tdiv (orI .u64 (shlI .u64 s0 (IntKind.wrap .u64 x3)) (shrI .u64 s1 (IntKind.wrap .u64 ((64 : Int) - (IntKind.wrap .u64 x3))))) (shrI .u64 (shlI .u64 s2 (IntKind.wrap .u64 x3)) (32 : Int)))) (IntKind.wrap .u64 ((orI .u64 (shlI .u64 s0 (IntKind.wrap .u64 x3)) (shrI .u64 s1 (IntKind.wrap .u64 ((64 : Int) - (IntKind.wrap .u64 x3))))) - (IntKind.wrap .u64 ((IntKind.wrap .u64 (Int.tdiv (orI .u64 (shlI .u64 s0 (IntKind.wrap .u64 x3)) (shrI .u64 s1 (IntKind.wrap .u64 ((64 : Int) - (IntKind.wrap .u64 x3))))) (shrI .u64 (shlI .u64 s2 (IntKind.wrap .u64 x3)) (32 : Int)))) * (shrI .u64 (shlI .u64 s2 (IntKind.wrap .u64 x3)) (32 : Int)))))) G2

def a_zd_20 {R : Type} (O : Ora R) (k : KV R) (L4 : Int → Int → Int → Int → Int → Int → Int → Int → Int → GH → Option R) (s2 s8 : Int) (s9 s10 : Int) (s11 s13 : Int) (s14 s15 : Int) (G : GH) : Option R :=
  bif s9 == 0 then none else
  L4 s2 s8 s9 s10 s14 s15 (IntKind.wrap .u64 ((IntKind.wrap .u64 ((IntKind.wrap .u64 ((IntKind.wrap .u64 (s11 * (4294967296 : Int))) + s13)) - (IntKind.wrap .u64 (s15 * s2)))) - (IntKind.wrap .u64 ((IntKind.wrap .u64 (Int.tdiv (IntKind.wrap .u64 ((IntKind.wrap .u64 ((IntKind.wrap .u64 (s11 * (4294967296 : Int))) + s13)) - (IntKind.wrap .u64 (s15 * s2)))) s9)) * s9)))) (IntKind.wrap .u64 ((IntKind.wrap .u64 ((IntKind.wrap .u64 (s11 * (4294967296 : Int))) + s13)) - (IntKind.wrap .u64 (s15 * s2)))) (IntKind.wrap .u64 (Int.tdiv (IntKind.wrap .u64 ((IntKind.wrap .u64 ((IntKind.wrap .u64 (s11 * (4294967296 : Int))) + s13)) - (IntKind.wrap .u64 (s15 * s2)))) s9)) G

def a_zd_42 {R : Type} (O : Ora R) (k : KV R) (s2 s8 : Int) (s14 s15 : Int) (s17 s18 : Int) (G : GH) : Option R :=
  bif decide (s8 < 0) then none else
  k (.tuple [.int .u64 (IntKind.wrap .u64 ((IntKind.wrap .u64 (s15 * (4294967296 : Int))) + s18)), .int .u64 (shrI .u64 (IntKind.wrap .u64 ((IntKind.wrap .u64 ((IntKind.wrap .u64 (s17 * (4294967296 : Int))) + s14)) - (IntKind.wrap .u64 (s18 * s2)))) s8)]) G

def L_zd_4 {R : Type} (O : Ora R) (fuel : Nat) (k : KV R) : Int → Int → Int → Int → Int → Int → Int → Int → Int → GH → Option R := fun s2 s8 s9 s10 s14 s15 s16 s17 s18 G =>
  l_zd_4 O fuel (a_zd_42 O k) fuel s2 s8 s9 s10 s14 s15 s16 s17 s18 G

theorem a_zd_42_raw {R : Type} (O : Ora R) (fuel : Nat) (s2 s8 : Int) (s14 s15 : Int) (s17 s18 : Int) (G : GH) (k : KV R) :
  contC Try.prog O lo88 fuel (Try.f88.body.getD .skip) [1, 1, 1, 1, 1, 1, 1, 1, 1, 1, 1, 1, 1, 1, 1, 1, 1, 1, 0, 0] (fun e env F G => match e with | .exit _ => none | _ => resC Try.prog Try.f88 env F G k) (.exit 2) (mkE 135 [(2, .int .u64 s2), (8, .int .u64 s8), (14, .int .u64 s14), (15, .int .u64 s15), (17, .int .u64 s17), (18, .int .u64 s18)]) [] G =
  a_zd_42 O k s2 s8 s14 s15 s17 s18 G := by kernel_rfl

theorem L_zd_4_eq {R : Type} (O : Ora R) (fuel : Nat) (k : KV R) :
  (fun (s2 s8 : Int) (s9 s10 : Int) (s14 s15 : Int) (s16 s17 s18 : Int) (G : GH) => loopN (loopD Try.prog O lo88 fuel (nav (Try.f88.body.getD .skip) [1, 1, 1, 1, 1, 1, 1, 1, 1, 1, 1, 1, 1, 1, 1, 1, 1, 1, 0, 0, 0]) 96) fuel (mkE 135 [(2, .int .u64 s2), (8, .int .u64 s8), (9, .int .u64 s9), (10, .int .u64 s10), (14, .int .u64 s14), (15, .int .u64 s15), (16, .int .u64 s16), (17, .int .u64 s17), (18, .int .u64 s18)]) [] G (contC Try.prog O lo88 fuel (Try.f88.body.getD .skip) [1, 1, 1, 1, 1, 1, 1, 1, 1, 1, 1, 1, 1, 1, 1, 1, 1, 1, 0, 0] (fun e env F G => match e with | .exit _ => none | _ => resC Try.prog Try.f88 env F G k))) = L_zd_4 O fuel k := by
  funext s2 s8 s9 s10 s14 s15 s16 s17 s18 G
  simp only [L_zd_4, l_zd_4_eq, a_zd_42_raw]

def L_zd_2 {R : Type} (O : Ora R) (fuel : Nat) (k : KV R) : Int → Int → Int → Int → Int → Int → Int → Int → Int → GH → Option R := fun s2 s8 s9 s10 s11 s13 s14 s15 s16 G =>
  l_zd_2 O fuel (a_zd_20 O k (L_zd_4 O fuel k)) fuel s2 s8 s9 s10 s11 s13 s14 s15 s16 G

theorem a_zd_20_raw {R : Type} (O : Ora R) (fuel : Nat) (s2 s8 : Int) (s9 s10 : Int) (s11 s13 : Int) (s14 s15 : Int) (G : GH) (k : KV R) :
  contC Try.prog O lo88 fuel (Try.f88.body.getD .skip) [1, 1, 1, 1, 1, 1, 1, 1, 1, 1, 1, 1, 1, 1, 0, 0] (fun e env F G => match e with | .exit _ => none | _ => resC Try.prog Try.f88 env F G k) (.exit 0) (mkE 135 [(2, .int .u64 s2), (8, .int .u64 s8), (9, .int .u64 s9), (10, .int .u64 s10), (11, .int .u64 s11), (13, .int .u64 s13), (14, .int .u64 s14), (15, .int .u64 s15)]) [] G =
  a_zd_20 O k (fun s2 s8 s9 s10 s14 s15 s16 s17 s18 G => loopN (loopD Try.prog O lo88 fuel (nav (Try.f88.body.getD .skip) [1, 1, 1, 1, 1, 1, 1, 1, 1, 1, 1, 1, 1, 1, 1, 1, 1, 1, 0, 0, 0]) 96) fuel (mkE 135 [(2, .int .u64 s2), (8, .int .u64 s8), (9, .int .u64 s9), (10, .int .u64 s10), (14, .int .u64 s14), (15, .int .u64 s15), (16, .int .u64 s16), (17, .int .u64 s17), (18, .int .u64 s18)]) [] G (contC Try.prog O lo88 fuel (Try.f88.body.getD .skip) [1, 1, 1, 1, 1, 1, 1, 1, 1, 1, 1, 1, 1, 1, 1, 1, 1, 1, 0, 0] (fun e env F G => match e with | .exit _ => none | _ => resC Try.prog Try.f88 env F G k))) s2 s8 s9 s10 s11 s13 s14 s15 G := by kernel_rfl

theorem L_zd_2_eq {R : Type} (O : Ora R) (fuel : Nat) (k : KV R) :
  (fun (s2 s8 : Int) (s9 s10 : Int) (s11 s13 : Int) (s14 s15 s16 : Int) (G : GH) => loopN (loopD Try.prog O lo88 fuel (nav (Try.f88.body.getD .skip) [1, 1, 1, 1, 1, 1, 1, 1, 1, 1, 1, 1, 1, 1, 0, 0, 0]) 68) fuel (mkE 135 [(2, .int .u64 s2), (8, .int .u64 s8), (9, .int .u64 s9), (10, .int .u64 s10), (11, .int .u64 s11), (13, .int .u64 s13), (14, .int .u64 s14), (15, .int .u64 s15), (16, .int .u64 s16)]) [] G (contC Try.prog O lo88 fuel (Try.f88.body.getD .skip) [1, 1, 1, 1, 1, 1, 1, 1, 1, 1, 1, 1, 1, 1, 0, 0] (fun e env F G => match e with | .exit _ => none | _ => resC Try.prog Try.f88 env F G k))) = L_zd_2 O fuel k := by
  funext s2 s8 s9 s10 s11 s13 s14 s15 s16 G
  simp only [L_zd_2, l_zd_2_eq, a_zd_20_raw, L_zd_4_eq]

def L_zd_1 {R : Type} (O : Ora R) (fuel : Nat) (k : KV R) : Int → Int → Int → GH → Option R := fun s0 s1 s2 G =>
  stepN fuel (l_zd_1 O (a_zd_1N O k (L_zd_2 O fuel k)) s0 s1 s2 G)

theorem a_zd_1N_raw {R : Type} (O : Ora R) (fuel : Nat) (s0 s1 s2 : Int) (G : GH) (k : KV R) :
  contC Try.prog O lo88 fuel (Try.f88.body.getD .skip) [1, 1, 0] (fun e env F G => match e with | .exit _ => none | _ => resC Try.prog Try.f88 env F G k) .normal (mkE 135 [(0, .int .u64 s0), (1, .int .u64 s1), (2, .int .u64 s2)]) [] G =
  a_zd_1N O k (fun s2 s8 s9 s10 s11 s13 s14 s15 s16 G => loopN (loopD Try.prog O lo88 fuel (nav (Try.f88.body.getD .skip) [1, 1, 1, 1, 1, 1, 1, 1, 1, 1, 1, 1, 1, 1, 0, 0, 0]) 68) fuel (mkE 135 [(2, .int .u64 s2), (8, .int .u64 s8), (9, .int .u64 s9), (10, .int .u64 s10), (11, .int .u64 s11), (13, .int .u64 s13), (14, .int .u64 s14), (15, .int .u64 s15), (16, .int .u64 s16)]) [] G (contC Try.prog O lo88 fuel (Try.f88.body.getD .skip) [1, 1, 1, 1, 1, 1, 1, 1, 1, 1, 1, 1, 1, 1, 0, 0] (fun e env F G => match e with | .exit _ => none | _ => resC Try.prog Try.f88 env F G k))) s0 s1 s2 G := by kernel_rfl

theorem L_zd_1_eq {R : Type} (O : Ora R) (fuel : Nat) (k : KV R) :
  (fun (s0 s1 s2 : Int) (G : GH) => stepN fuel (loopD Try.prog O lo88 fuel (nav (Try.f88.body.getD .skip) [1, 1, 0]) 23 (mkE 135 [(0, .int .u64 s0), (1, .int .u64 s1), (2, .int .u64 s2)]) [] G (contC Try.prog O lo88 fuel (Try.f88.body.getD .skip) [1, 1, 0] (fun e env F G => match e with | .exit _ => none | _ => resC Try.prog Try.f88 env F G k)))) = L_zd_1 O fuel k := by
  funext s0 s1 s2 G
  simp only [L_zd_1, l_zd_1_eq, a_zd_1N_raw, L_zd_2_eq]

def L_zd_0 {R : Type} (O : Ora R) (fuel : Nat) (k : KV R) : Int → Int → Int → GH → Option R := fun s0 s1 s2 G =>
  stepN fuel (l_zd_0 O (a_zd_0N O k (L_zd_1 O fuel k)) s0 s1 s2 G)

theorem a_zd_0N_raw {R : Type} (O : Ora R) (fuel : Nat) (s0 s1 s2 : Int) (G : GH) (k : KV R) :
  contC Try.prog O lo88 fuel (Try.f88.body.getD .skip) [1, 0] (fun e env F G => match e with | .exit _ => none | _ => resC Try.prog Try.f88 env F G k) .normal (mkE 135 [(0, .int .u64 s0), (1, .int .u64 s1), (2, .int .u64 s2)]) [] G =
  a_zd_0N O k (fun s0 s1 s2 G => stepN fuel (loopD Try.prog O lo88 fuel (nav (Try.f88.body.getD .skip) [1, 1, 0]) 23 (mkE 135 [(0, .int .u64 s0), (1, .int .u64 s1), (2, .int .u64 s2)]) [] G (contC Try.prog O lo88 fuel (Try.f88.body.getD .skip) [1, 1, 0] (fun e env F G => match e with | .exit _ => none | _ => resC Try.prog Try.f88 env F G k)))) s0 s1 s2 G := by kernel_rfl

theorem L_zd_0_eq {R : Type} (O : Ora R) (fuel : Nat) (k : KV R) :
  (fun (s0 s1 s2 : Int) (G : GH) => stepN fuel (loopD Try.prog O lo88 fuel (nav (Try.f88.body.getD .skip) [1, 0]) 15 (mkE 135 [(0, .int .u64 s0), (1, .int .u64 s1), (2, .int .u64 s2)]) [] G (contC Try.prog O lo88 fuel (Try.f88.body.getD .skip) [1, 0] (fun e env F G => match e with | .exit _ => none | _ => resC Try.prog Try.f88 env F G k)))) = L_zd_0 O fuel k := by
  funext s0 s1 s2 G
  simp only [L_zd_0, l_zd_0_eq, a_zd_0N_raw, L_zd_1_eq]

theorem e_zd_raw {R : Type} (O : Ora R) (fuel : Nat) (p0 p1 p2 : Int) (G : GH) (k : KV R) :
  bodyC Try.prog O lo88 fuel Try.f88 [.int .u64 p0, .int .u64 p1, .int .u64 p2] G k =
  u_zd O k (fun s0 s1 s2 G => stepN fuel (loopD Try.prog O lo88 fuel (nav (Try.f88.body.getD .skip) [1, 0]) 15 (mkE 135 [(0, .int .u64 s0), (1, .int .u64 s1), (2, .int .u64 s2)]) [] G (contC Try.prog O lo88 fuel (Try.f88.body.getD .skip) [1, 0] (fun e env F G => match e with | .exit _ => none | _ => resC Try.prog Try.f88 env F G k)))) p0 p1 p2 G := by kernel_rfl

theorem e_zd {R : Type} (O : Ora R) (fuel : Nat) (p0 p1 p2 : Int) (G : GH) (k : KV R) :
  bodyC Try.prog O lo88 fuel Try.f88 [.int .u64 p0, .int .u64 p1, .int .u64 p2] G k =
  u_zd O k (L_zd_0 O fuel k) p0 p1 p2 G := by
  rw [e_zd_raw, L_zd_0_eq]

theorem r_zd {R : Type} (fuel n : Nat) (p0 p1 p2 : Int) (G : GH) (k : KV R) :
  runC Try.prog lo0 fuel (n + 1) 88 [.int .u64 p0, .int .u64 p1, .int .u64 p2] G k = bodyC Try.prog (runC Try.prog lo0 fuel n) lo88 fuel Try.f88 [.int .u64 p0, .int .u64 p1, .int .u64 p2] G k := run_body Try.func88 rfl rfl

end Go.LI.Film
