/- What the interpreter gives for math: the rest (written by slab.py). -/
import Derived.Test.YtalpjkeiaeobdaaGreatSeatA
namespace Go.LI.Film
open Go.Proofs.YtalpjkeiaeobdaaGreat Go Go.Proofs Go.LI
set_option maxRecDepth 100000
set_option linter.unusedVariables false
set_option linter.unusedSimpArgs false
/-! ### math/bits.Div64 -/
def u_bits_Div64_0 {R : Type} (O : Ora R) (KN : Int → Int → Int → GH → Option R) (s0 s1 s2 : Int) (G : GH) : Option R :=
  bif (s2 == (0 : Int)) then
  none
  else
  KN s0 s1 s2 G

def l_bits_Div64_0 {R : Type} (O : Ora R) (KN : Int → Int → Int → GH → Option R) : Int → Int → Int → GH → Option R := fun s0 s1 s2 G => u_bits_Div64_0 O KN s0 s1 s2 G

theorem u_bits_Div64_0_raw {R : Type} (O : Ora R) (fuel : Nat) (s0 s1 s2 : Int) (G : GH) (k : KE R) :
  loopD Tryz.prog O lo58 fuel (nav (Tryz.f58.body.getD .skip) [1, 0]) 15 (mkE 135 [(0, .int .u64 s0), (1, .int .u64 s1), (2, .int .u64 s2)]) [] G k =
  u_bits_Div64_0 O (fun s0 s1 s2 G => k .normal (mkE 135 [(0, .int .u64 s0), (1, .int .u64 s1), (2, .int .u64 s2)]) [] G) s0 s1 s2 G := by kernel_rfl

theorem l_bits_Div64_0_eq {R : Type} (O : Ora R) (fuel : Nat) (k : KE R) : ∀ (s0 s1 s2 : Int) (G : GH),
  loopD Tryz.prog O lo58 fuel (nav (Tryz.f58.body.getD .skip) [1, 0]) 15 (mkE 135 [(0, .int .u64 s0), (1, .int .u64 s1), (2, .int .u64 s2)]) [] G k = l_bits_Div64_0 O (fun s0 s1 s2 G => k .normal (mkE 135 [(0, .int .u64 s0), (1, .int .u64 s1), (2, .int .u64 s2)]) [] G) s0 s1 s2 G := by
  intros
  rw [u_bits_Div64_0_raw]
  simp only [l_bits_Div64_0]

def u_bits_Div64_1 {R : Type} (O : Ora R) (KN : Int → Int → Int → GH → Option R) (s0 s1 s2 : Int) (G : GH) : Option R :=
  bif (decide (s2 ≤ s0)) then
  none
  else
  KN s0 s1 s2 G

def l_bits_Div64_1 {R : Type} (O : Ora R) (KN : Int → Int → Int → GH → Option R) : Int → Int → Int → GH → Option R := fun s0 s1 s2 G => u_bits_Div64_1 O KN s0 s1 s2 G

theorem u_bits_Div64_1_raw {R : Type} (O : Ora R) (fuel : Nat) (s0 s1 s2 : Int) (G : GH) (k : KE R) :
  loopD Tryz.prog O lo58 fuel (nav (Tryz.f58.body.getD .skip) [1, 1, 0]) 23 (mkE 135 [(0, .int .u64 s0), (1, .int .u64 s1), (2, .int .u64 s2)]) [] G k =
  u_bits_Div64_1 O (fun s0 s1 s2 G => k .normal (mkE 135 [(0, .int .u64 s0), (1, .int .u64 s1), (2, .int .u64 s2)]) [] G) s0 s1 s2 G := by kernel_rfl

theorem l_bits_Div64_1_eq {R : Type} (O : Ora R) (fuel : Nat) (k : KE R) : ∀ (s0 s1 s2 : Int) (G : GH),
  loopD Tryz.prog O lo58 fuel (nav (Tryz.f58.body.getD .skip) [1, 1, 0]) 23 (mkE 135 [(0, .int .u64 s0), (1, .int .u64 s1), (2, .int .u64 s2)]) [] G k = l_bits_Div64_1 O (fun s0 s1 s2 G => k .normal (mkE 135 [(0, .int .u64 s0), (1, .int .u64 s1), (2, .int .u64 s2)]) [] G) s0 s1 s2 G := by
  intros
  rw [u_bits_Div64_1_raw]
  simp only [l_bits_Div64_1]

def u_bits_Div64_3 {R : Type} (O : Ora R) (KN : Int → Int → Int → Int → Int → Int → Int → Int → Int → GH → Option R) (K0 : Int → Int → Int → Int → Int → Int → Int → Int → GH → Option R) (s2 s8 : Int) (s9 s10 : Int) (s11 s13 : Int) (s14 s15 s16 : Int) (G : GH) : Option R :=
  bif (decide (s15 ≥ (4294967296 : Int))) then
  KN s2 s8 s9 s10 s11 s13 s14 s15 s16 G
  else
  bif (decide ((IntKind.wrap .u64 (s15 * s10)) > (IntKind.wrap .u64 ((IntKind.wrap .u64 ((4294967296 : Int) * s16)) + s13)))) then
  KN s2 s8 s9 s10 s11 s13 s14 s15 s16 G
  else
  K0 s2 s8 s9 s10 s11 s13 s14 s15 G

def l_bits_Div64_3 {R : Type} (O : Ora R) (KN : Int → Int → Int → Int → Int → Int → Int → Int → Int → GH → Option R) (K0 : Int → Int → Int → Int → Int → Int → Int → Int → GH → Option R) : Int → Int → Int → Int → Int → Int → Int → Int → Int → GH → Option R := fun s2 s8 s9 s10 s11 s13 s14 s15 s16 G => u_bits_Div64_3 O KN K0 s2 s8 s9 s10 s11 s13 s14 s15 s16 G

theorem u_bits_Div64_3_raw {R : Type} (O : Ora R) (fuel : Nat) (s2 s8 : Int) (s9 s10 : Int) (s11 s13 : Int) (s14 s15 s16 : Int) (G : GH) (k : KE R) :
  loopD Tryz.prog O lo58 fuel (nav (Tryz.f58.body.getD .skip) [1, 1, 1, 1, 1, 1, 1, 1, 1, 1, 1, 1, 1, 1, 0, 0, 0, 0]) 75 (mkE 135 [(2, .int .u64 s2), (8, .int .u64 s8), (9, .int .u64 s9), (10, .int .u64 s10), (11, .int .u64 s11), (13, .int .u64 s13), (14, .int .u64 s14), (15, .int .u64 s15), (16, .int .u64 s16)]) [] G k =
  u_bits_Div64_3 O (fun s2 s8 s9 s10 s11 s13 s14 s15 s16 G => k .normal (mkE 135 [(2, .int .u64 s2), (8, .int .u64 s8), (9, .int .u64 s9), (10, .int .u64 s10), (11, .int .u64 s11), (13, .int .u64 s13), (14, .int .u64 s14), (15, .int .u64 s15), (16, .int .u64 s16)]) [] G) (fun s2 s8 s9 s10 s11 s13 s14 s15 G => k (.exit 0) (mkE 135 [(2, .int .u64 s2), (8, .int .u64 s8), (9, .int .u64 s9), (10, .int .u64 s10), (11, .int .u64 s11), (13, .int .u64 s13), (14, .int .u64 s14), (15, .int .u64 s15)]) [] G) s2 s8 s9 s10 s11 s13 s14 s15 s16 G := by kernel_rfl

theorem l_bits_Div64_3_eq {R : Type} (O : Ora R) (fuel : Nat) (k : KE R) : ∀ (s2 s8 : Int) (s9 s10 : Int) (s11 s13 : Int) (s14 s15 s16 : Int) (G : GH),
  loopD Tryz.prog O lo58 fuel (nav (Tryz.f58.body.getD .skip) [1, 1, 1, 1, 1, 1, 1, 1, 1, 1, 1, 1, 1, 1, 0, 0, 0, 0]) 75 (mkE 135 [(2, .int .u64 s2), (8, .int .u64 s8), (9, .int .u64 s9), (10, .int .u64 s10), (11, .int .u64 s11), (13, .int .u64 s13), (14, .int .u64 s14), (15, .int .u64 s15), (16, .int .u64 s16)]) [] G k = l_bits_Div64_3 O (fun s2 s8 s9 s10 s11 s13 s14 s15 s16 G => k .normal (mkE 135 [(2, .int .u64 s2), (8, .int .u64 s8), (9, .int .u64 s9), (10, .int .u64 s10), (11, .int .u64 s11), (13, .int .u64 s13), (14, .int .u64 s14), (15, .int .u64 s15), (16, .int .u64 s16)]) [] G) (fun s2 s8 s9 s10 s11 s13 s14 s15 G => k (.exit 0) (mkE 135 [(2, .int .u64 s2), (8, .int .u64 s8), (9, .int .u64 s9), (10, .int .u64 s10), (11, .int .u64 s11), (13, .int .u64 s13), (14, .int .u64 s14), (15, .int .u64 s15)]) [] G) s2 s8 s9 s10 s11 s13 s14 s15 s16 G := by
  intros
  rw [u_bits_Div64_3_raw]
  simp only [l_bits_Div64_3]

def u_bits_Div64_2 {R : Type} (O : Ora R) (K0 : Int → Int → Int → Int → Int → Int → Int → Int → GH → Option R) (KN L3 : Int → Int → Int → Int → Int → Int → Int → Int → Int → GH → Option R) (s2 s8 : Int) (s9 s10 : Int) (s11 s13 : Int) (s14 s15 s16 : Int) (G : GH) : Option R :=
  L3 s2 s8 s9 s10 s11 s13 s14 s15 s16 G

def a_bits_Div64_3N {R : Type} (O : Ora R) (K0 : Int → Int → Int → Int → Int → Int → Int → Int → GH → Option R) (KN : Int → Int → Int → Int → Int → Int → Int → Int → Int → GH → Option R) (s2 s8 : Int) (s9 s10 : Int) (s11 s13 : Int) (s14 s15 s16 : Int) (G : GH) : Option R :=
  bif (decide ((IntKind.wrap .u64 (s16 + s9)) ≥ (4294967296 : Int))) then
  K0 s2 s8 s9 s10 s11 s13 s14 (IntKind.wrap .u64 (s15 - (1 : Int))) G
  else
  KN s2 s8 s9 s10 s11 s13 s14 (IntKind.wrap .u64 (s15 - (1 : Int))) (IntKind.wrap .u64 (s16 + s9)) G

def a_bits_Div64_30 {R : Type} (O : Ora R) (K0 : Int → Int → Int → Int → Int → Int → Int → Int → GH → Option R) (KN : Int → Int → Int → Int → Int → Int → Int → Int → Int → GH → Option R) (s2 s8 : Int) (s9 s10 : Int) (s11 s13 : Int) (s14 s15 : Int) (G : GH) : Option R :=
  K0 s2 s8 s9 s10 s11 s13 s14 s15 G

def L_bits_Div64_3 {R : Type} (O : Ora R) (fuel : Nat) (K0 : Int → Int → Int → Int → Int → Int → Int → Int → GH → Option R) (KN : Int → Int → Int → Int → Int → Int → Int → Int → Int → GH → Option R) : Int → Int → Int → Int → Int → Int → Int → Int → Int → GH → Option R := fun s2 s8 s9 s10 s11 s13 s14 s15 s16 G =>
  stepN fuel (l_bits_Div64_3 O (a_bits_Div64_3N O K0 KN) (a_bits_Div64_30 O K0 KN) s2 s8 s9 s10 s11 s13 s14 s15 s16 G)

theorem a_bits_Div64_3N_raw {R : Type} (O : Ora R) (fuel : Nat) (s2 s8 : Int) (s9 s10 : Int) (s11 s13 : Int) (s14 s15 s16 : Int) (G : GH) (k : KE R) :
  contC Tryz.prog O lo58 fuel (nav (Tryz.f58.body.getD .skip) [1, 1, 1, 1, 1, 1, 1, 1, 1, 1, 1, 1, 1, 1, 0, 0, 0]) [0] (kpD lo58 68 0 k) .normal (mkE 135 [(2, .int .u64 s2), (8, .int .u64 s8), (9, .int .u64 s9), (10, .int .u64 s10), (11, .int .u64 s11), (13, .int .u64 s13), (14, .int .u64 s14), (15, .int .u64 s15), (16, .int .u64 s16)]) [] G =
  a_bits_Div64_3N O (fun s2 s8 s9 s10 s11 s13 s14 s15 G => k (.exit 0) (mkE 135 [(2, .int .u64 s2), (8, .int .u64 s8), (9, .int .u64 s9), (10, .int .u64 s10), (11, .int .u64 s11), (13, .int .u64 s13), (14, .int .u64 s14), (15, .int .u64 s15)]) [] G) (fun s2 s8 s9 s10 s11 s13 s14 s15 s16 G => k .normal (mkE 135 [(2, .int .u64 s2), (8, .int .u64 s8), (9, .int .u64 s9), (10, .int .u64 s10), (11, .int .u64 s11), (13, .int .u64 s13), (14, .int .u64 s14), (15, .int .u64 s15), (16, .int .u64 s16)]) [] G) s2 s8 s9 s10 s11 s13 s14 s15 s16 G := by kernel_rfl

theorem a_bits_Div64_30_raw {R : Type} (O : Ora R) (fuel : Nat) (s2 s8 : Int) (s9 s10 : Int) (s11 s13 : Int) (s14 s15 : Int) (G : GH) (k : KE R) :
  contC Tryz.prog O lo58 fuel (nav (Tryz.f58.body.getD .skip) [1, 1, 1, 1, 1, 1, 1, 1, 1, 1, 1, 1, 1, 1, 0, 0, 0]) [0] (kpD lo58 68 0 k) (.exit 0) (mkE 135 [(2, .int .u64 s2), (8, .int .u64 s8), (9, .int .u64 s9), (10, .int .u64 s10), (11, .int .u64 s11), (13, .int .u64 s13), (14, .int .u64 s14), (15, .int .u64 s15)]) [] G =
  a_bits_Div64_30 O (fun s2 s8 s9 s10 s11 s13 s14 s15 G => k (.exit 0) (mkE 135 [(2, .int .u64 s2), (8, .int .u64 s8), (9, .int .u64 s9), (10, .int .u64 s10), (11, .int .u64 s11), (13, .int .u64 s13), (14, .int .u64 s14), (15, .int .u64 s15)]) [] G) (fun s2 s8 s9 s10 s11 s13 s14 s15 s16 G => k .normal (mkE 135 [(2, .int .u64 s2), (8, .int .u64 s8), (9, .int .u64 s9), (10, .int .u64 s10), (11, .int .u64 s11), (13, .int .u64 s13), (14, .int .u64 s14), (15, .int .u64 s15), (16, .int .u64 s16)]) [] G) s2 s8 s9 s10 s11 s13 s14 s15 G := by kernel_rfl

theorem L_bits_Div64_3_eq {R : Type} (O : Ora R) (fuel : Nat) (k : KE R) :
  (fun (s2 s8 : Int) (s9 s10 : Int) (s11 s13 : Int) (s14 s15 s16 : Int) (G : GH) => stepN fuel (loopD Tryz.prog O lo58 fuel (nav (Tryz.f58.body.getD .skip) [1, 1, 1, 1, 1, 1, 1, 1, 1, 1, 1, 1, 1, 1, 0, 0, 0, 0]) 75 (mkE 135 [(2, .int .u64 s2), (8, .int .u64 s8), (9, .int .u64 s9), (10, .int .u64 s10), (11, .int .u64 s11), (13, .int .u64 s13), (14, .int .u64 s14), (15, .int .u64 s15), (16, .int .u64 s16)]) [] G (contC Tryz.prog O lo58 fuel (nav (Tryz.f58.body.getD .skip) [1, 1, 1, 1, 1, 1, 1, 1, 1, 1, 1, 1, 1, 1, 0, 0, 0]) [0] (kpD lo58 68 0 k)))) = L_bits_Div64_3 O fuel (fun (s2 s8 : Int) (s9 s10 : Int) (s11 s13 : Int) (s14 s15 : Int) (G : GH) => k (.exit 0) (mkE 135 [(2, .int .u64 s2), (8, .int .u64 s8), (9, .int .u64 s9), (10, .int .u64 s10), (11, .int .u64 s11), (13, .int .u64 s13), (14, .int .u64 s14), (15, .int .u64 s15)]) [] G) (fun (s2 s8 : Int) (s9 s10 : Int) (s11 s13 : Int) (s14 s15 s16 : Int) (G : GH) => k .normal (mkE 135 [(2, .int .u64 s2), (8, .int .u64 s8), (9, .int .u64 s9), (10, .int .u64 s10), (11, .int .u64 s11), (13, .int .u64 s13), (14, .int .u64 s14), (15, .int .u64 s15), (16, .int .u64 s16)]) [] G) := by
  funext s2 s8 s9 s10 s11 s13 s14 s15 s16 G
  simp only [L_bits_Div64_3, l_bits_Div64_3_eq, a_bits_Div64_3N_raw, a_bits_Div64_30_raw]

def l_bits_Div64_2 {R : Type} (O : Ora R) (fuel : Nat) (K0 : Int → Int → Int → Int → Int → Int → Int → Int → GH → Option R) : Nat → Int → Int → Int → Int → Int → Int → Int → Int → Int → GH → Option R
  | 0, _, _, _, _, _, _, _, _, _, _ => none
  | n + 1, s2, s8, s9, s10, s11, s13, s14, s15, s16, G => u_bits_Div64_2 O K0 (l_bits_Div64_2 O fuel K0 n) (L_bits_Div64_3 O fuel K0 (l_bits_Div64_2 O fuel K0 n)) s2 s8 s9 s10 s11 s13 s14 s15 s16 G

theorem u_bits_Div64_2_raw {R : Type} (O : Ora R) (fuel : Nat) (s2 s8 : Int) (s9 s10 : Int) (s11 s13 : Int) (s14 s15 s16 : Int) (G : GH) (k : KE R) :
  loopD Tryz.prog O lo58 fuel (nav (Tryz.f58.body.getD .skip) [1, 1, 1, 1, 1, 1, 1, 1, 1, 1, 1, 1, 1, 1, 0, 0, 0]) 68 (mkE 135 [(2, .int .u64 s2), (8, .int .u64 s8), (9, .int .u64 s9), (10, .int .u64 s10), (11, .int .u64 s11), (13, .int .u64 s13), (14, .int .u64 s14), (15, .int .u64 s15), (16, .int .u64 s16)]) [] G k =
  u_bits_Div64_2 O (fun s2 s8 s9 s10 s11 s13 s14 s15 G => k (.exit 0) (mkE 135 [(2, .int .u64 s2), (8, .int .u64 s8), (9, .int .u64 s9), (10, .int .u64 s10), (11, .int .u64 s11), (13, .int .u64 s13), (14, .int .u64 s14), (15, .int .u64 s15)]) [] G) (fun s2 s8 s9 s10 s11 s13 s14 s15 s16 G => k .normal (mkE 135 [(2, .int .u64 s2), (8, .int .u64 s8), (9, .int .u64 s9), (10, .int .u64 s10), (11, .int .u64 s11), (13, .int .u64 s13), (14, .int .u64 s14), (15, .int .u64 s15), (16, .int .u64 s16)]) [] G) (fun s2 s8 s9 s10 s11 s13 s14 s15 s16 G => stepN fuel (loopD Tryz.prog O lo58 fuel (nav (Tryz.f58.body.getD .skip) [1, 1, 1, 1, 1, 1, 1, 1, 1, 1, 1, 1, 1, 1, 0, 0, 0, 0]) 75 (mkE 135 [(2, .int .u64 s2), (8, .int .u64 s8), (9, .int .u64 s9), (10, .int .u64 s10), (11, .int .u64 s11), (13, .int .u64 s13), (14, .int .u64 s14), (15, .int .u64 s15), (16, .int .u64 s16)]) [] G (contC Tryz.prog O lo58 fuel (nav (Tryz.f58.body.getD .skip) [1, 1, 1, 1, 1, 1, 1, 1, 1, 1, 1, 1, 1, 1, 0, 0, 0]) [0] (kpD lo58 68 0 k)))) s2 s8 s9 s10 s11 s13 s14 s15 s16 G := by kernel_rfl

theorem l_bits_Div64_2_eq {R : Type} (O : Ora R) (fuel : Nat) (k : KE R) : ∀ (n : Nat) (s2 s8 : Int) (s9 s10 : Int) (s11 s13 : Int) (s14 s15 s16 : Int) (G : GH),
  loopN (loopD Tryz.prog O lo58 fuel (nav (Tryz.f58.body.getD .skip) [1, 1, 1, 1, 1, 1, 1, 1, 1, 1, 1, 1, 1, 1, 0, 0, 0]) 68) n (mkE 135 [(2, .int .u64 s2), (8, .int .u64 s8), (9, .int .u64 s9), (10, .int .u64 s10), (11, .int .u64 s11), (13, .int .u64 s13), (14, .int .u64 s14), (15, .int .u64 s15), (16, .int .u64 s16)]) [] G k = l_bits_Div64_2 O fuel (fun s2 s8 s9 s10 s11 s13 s14 s15 G => k (.exit 0) (mkE 135 [(2, .int .u64 s2), (8, .int .u64 s8), (9, .int .u64 s9), (10, .int .u64 s10), (11, .int .u64 s11), (13, .int .u64 s13), (14, .int .u64 s14), (15, .int .u64 s15)]) [] G) n s2 s8 s9 s10 s11 s13 s14 s15 s16 G := by
  intro n
  induction n with
  | zero => intros; first | rfl | simp only [loopN, l_bits_Div64_2]
  | succ n ih =>
    intros
    rw [loopN_succ, u_bits_Div64_2_raw]
    simp only [l_bits_Div64_2, loopK_normal, loopK_exit, loopK_ret, ih, L_bits_Div64_3_eq]

def u_bits_Div64_5 {R : Type} (O : Ora R) (KN : Int → Int → Int → Int → Int → Int → Int → Int → Int → GH → Option R) (K2 : Int → Int → Int → Int → Int → Int → GH → Option R) (s2 s8 : Int) (s9 s10 : Int) (s14 s15 : Int) (s16 s17 s18 : Int) (G : GH) : Option R :=
  bif (decide (s18 ≥ (4294967296 : Int))) then
  KN s2 s8 s9 s10 s14 s15 s16 s17 s18 G
  else
  bif (decide ((IntKind.wrap .u64 (s18 * s10)) > (IntKind.wrap .u64 ((IntKind.wrap .u64 ((4294967296 : Int) * s16)) + s14)))) then
  KN s2 s8 s9 s10 s14 s15 s16 s17 s18 G
  else
  K2 s2 s8 s14 s15 s17 s18 G

def l_bits_Div64_5 {R : Type} (O : Ora R) (KN : Int → Int → Int → Int → Int → Int → Int → Int → Int → GH → Option R) (K2 : Int → Int → Int → Int → Int → Int → GH → Option R) : Int → Int → Int → Int → Int → Int → Int → Int → Int → GH → Option R := fun s2 s8 s9 s10 s14 s15 s16 s17 s18 G => u_bits_Div64_5 O KN K2 s2 s8 s9 s10 s14 s15 s16 s17 s18 G

theorem u_bits_Div64_5_raw {R : Type} (O : Ora R) (fuel : Nat) (s2 s8 : Int) (s9 s10 : Int) (s14 s15 : Int) (s16 s17 s18 : Int) (G : GH) (k : KE R) :
  loopD Tryz.prog O lo58 fuel (nav (Tryz.f58.body.getD .skip) [1, 1, 1, 1, 1, 1, 1, 1, 1, 1, 1, 1, 1, 1, 1, 1, 1, 1, 0, 0, 0, 0]) 103 (mkE 135 [(2, .int .u64 s2), (8, .int .u64 s8), (9, .int .u64 s9), (10, .int .u64 s10), (14, .int .u64 s14), (15, .int .u64 s15), (16, .int .u64 s16), (17, .int .u64 s17), (18, .int .u64 s18)]) [] G k =
  u_bits_Div64_5 O (fun s2 s8 s9 s10 s14 s15 s16 s17 s18 G => k .normal (mkE 135 [(2, .int .u64 s2), (8, .int .u64 s8), (9, .int .u64 s9), (10, .int .u64 s10), (14, .int .u64 s14), (15, .int .u64 s15), (16, .int .u64 s16), (17, .int .u64 s17), (18, .int .u64 s18)]) [] G) (fun s2 s8 s14 s15 s17 s18 G => k (.exit 2) (mkE 135 [(2, .int .u64 s2), (8, .int .u64 s8), (14, .int .u64 s14), (15, .int .u64 s15), (17, .int .u64 s17), (18, .int .u64 s18)]) [] G) s2 s8 s9 s10 s14 s15 s16 s17 s18 G := by kernel_rfl

theorem l_bits_Div64_5_eq {R : Type} (O : Ora R) (fuel : Nat) (k : KE R) : ∀ (s2 s8 : Int) (s9 s10 : Int) (s14 s15 : Int) (s16 s17 s18 : Int) (G : GH),
  loopD Tryz.prog O lo58 fuel (nav (Tryz.f58.body.getD .skip) [1, 1, 1, 1, 1, 1, 1, 1, 1, 1, 1, 1, 1, 1, 1, 1, 1, 1, 0, 0, 0, 0]) 103 (mkE 135 [(2, .int .u64 s2), (8, .int .u64 s8), (9, .int .u64 s9), (10, .int .u64 s10), (14, .int .u64 s14), (15, .int .u64 s15), (16, .int .u64 s16), (17, .int .u64 s17), (18, .int .u64 s18)]) [] G k = l_bits_Div64_5 O (fun s2 s8 s9 s10 s14 s15 s16 s17 s18 G => k .normal (mkE 135 [(2, .int .u64 s2), (8, .int .u64 s8), (9, .int .u64 s9), (10, .int .u64 s10), (14, .int .u64 s14), (15, .int .u64 s15), (16, .int .u64 s16), (17, .int .u64 s17), (18, .int .u64 s18)]) [] G) (fun s2 s8 s14 s15 s17 s18 G => k (.exit 2) (mkE 135 [(2, .int .u64 s2), (8, .int .u64 s8), (14, .int .u64 s14), (15, .int .u64 s15), (17, .int .u64 s17), (18, .int .u64 s18)]) [] G) s2 s8 s9 s10 s14 s15 s16 s17 s18 G := by
  intros
  rw [u_bits_Div64_5_raw]
  simp only [l_bits_Div64_5]

def u_bits_Div64_4 {R : Type} (O : Ora R) (K2 : Int → Int → Int → Int → Int → Int → GH → Option R) (KN L5 : Int → Int → Int → Int → Int → Int → Int → Int → Int → GH → Option R) (s2 s8 : Int) (s9 s10 : Int) (s14 s15 : Int) (s16 s17 s18 : Int) (G : GH) : Option R :=
  L5 s2 s8 s9 s10 s14 s15 s16 s17 s18 G

def a_bits_Div64_5N {R : Type} (O : Ora R) (K2 : Int → Int → Int → Int → Int → Int → GH → Option R) (KN : Int → Int → Int → Int → Int → Int → Int → Int → Int → GH → Option R) (s2 s8 : Int) (s9 s10 : Int) (s14 s15 : Int) (s16 s17 s18 : Int) (G : GH) : Option R :=
  bif (decide ((IntKind.wrap .u64 (s16 + s9)) ≥ (4294967296 : Int))) then
  K2 s2 s8 s14 s15 s17 (IntKind.wrap .u64 (s18 - (1 : Int))) G
  else
  KN s2 s8 s9 s10 s14 s15 (IntKind.wrap .u64 (s16 + s9)) s17 (IntKind.wrap .u64 (s18 - (1 : Int))) G

def a_bits_Div64_52 {R : Type} (O : Ora R) (K2 : Int → Int → Int → Int → Int → Int → GH → Option R) (KN : Int → Int → Int → Int → Int → Int → Int → Int → Int → GH → Option R) (s2 s8 : Int) (s14 s15 : Int) (s17 s18 : Int) (G : GH) : Option R :=
  K2 s2 s8 s14 s15 s17 s18 G

def L_bits_Div64_5 {R : Type} (O : Ora R) (fuel : Nat) (K2 : Int → Int → Int → Int → Int → Int → GH → Option R) (KN : Int → Int → Int → Int → Int → Int → Int → Int → Int → GH → Option R) : Int → Int → Int → Int → Int → Int → Int → Int → Int → GH → Option R := fun s2 s8 s9 s10 s14 s15 s16 s17 s18 G =>
  stepN fuel (l_bits_Div64_5 O (a_bits_Div64_5N O K2 KN) (a_bits_Div64_52 O K2 KN) s2 s8 s9 s10 s14 s15 s16 s17 s18 G)

theorem a_bits_Div64_5N_raw {R : Type} (O : Ora R) (fuel : Nat) (s2 s8 : Int) (s9 s10 : Int) (s14 s15 : Int) (s16 s17 s18 : Int) (G : GH) (k : KE R) :
  contC Tryz.prog O lo58 fuel (nav (Tryz.f58.body.getD .skip) [1, 1, 1, 1, 1, 1, 1, 1, 1, 1, 1, 1, 1, 1, 1, 1, 1, 1, 0, 0, 0]) [0] (kpD lo58 96 0 k) .normal (mkE 135 [(2, .int .u64 s2), (8, .int .u64 s8), (9, .int .u64 s9), (10, .int .u64 s10), (14, .int .u64 s14), (15, .int .u64 s15), (16, .int .u64 s16), (17, .int .u64 s17), (18, .int .u64 s18)]) [] G =
  a_bits_Div64_5N O (fun s2 s8 s14 s15 s17 s18 G => k (.exit 2) (mkE 135 [(2, .int .u64 s2), (8, .int .u64 s8), (14, .int .u64 s14), (15, .int .u64 s15), (17, .int .u64 s17), (18, .int .u64 s18)]) [] G) (fun s2 s8 s9 s10 s14 s15 s16 s17 s18 G => k .normal (mkE 135 [(2, .int .u64 s2), (8, .int .u64 s8), (9, .int .u64 s9), (10, .int .u64 s10), (14, .int .u64 s14), (15, .int .u64 s15), (16, .int .u64 s16), (17, .int .u64 s17), (18, .int .u64 s18)]) [] G) s2 s8 s9 s10 s14 s15 s16 s17 s18 G := by kernel_rfl

theorem a_bits_Div64_52_raw {R : Type} (O : Ora R) (fuel : Nat) (s2 s8 : Int) (s14 s15 : Int) (s17 s18 : Int) (G : GH) (k : KE R) :
  contC Tryz.prog O lo58 fuel (nav (Tryz.f58.body.getD .skip) [1, 1, 1, 1, 1, 1, 1, 1, 1, 1, 1, 1, 1, 1, 1, 1, 1, 1, 0, 0, 0]) [0] (kpD lo58 96 0 k) (.exit 2) (mkE 135 [(2, .int .u64 s2), (8, .int .u64 s8), (14, .int .u64 s14), (15, .int .u64 s15), (17, .int .u64 s17), (18, .int .u64 s18)]) [] G =
  a_bits_Div64_52 O (fun s2 s8 s14 s15 s17 s18 G => k (.exit 2) (mkE 135 [(2, .int .u64 s2), (8, .int .u64 s8), (14, .int .u64 s14), (15, .int .u64 s15), (17, .int .u64 s17), (18, .int .u64 s18)]) [] G) (fun s2 s8 s9 s10 s14 s15 s16 s17 s18 G => k .normal (mkE 135 [(2, .int .u64 s2), (8, .int .u64 s8), (9, .int .u64 s9), (10, .int .u64 s10), (14, .int .u64 s14), (15, .int .u64 s15), (16, .int .u64 s16), (17, .int .u64 s17), (18, .int .u64 s18)]) [] G) s2 s8 s14 s15 s17 s18 G := by kernel_rfl

theorem L_bits_Div64_5_eq {R : Type} (O : Ora R) (fuel : Nat) (k : KE R) :
  (fun (s2 s8 : Int) (s9 s10 : Int) (s14 s15 : Int) (s16 s17 s18 : Int) (G : GH) => stepN fuel (loopD Tryz.prog O lo58 fuel (nav (Tryz.f58.body.getD .skip) [1, 1, 1, 1, 1, 1, 1, 1, 1, 1, 1, 1, 1, 1, 1, 1, 1, 1, 0, 0, 0, 0]) 103 (mkE 135 [(2, .int .u64 s2), (8, .int .u64 s8), (9, .int .u64 s9), (10, .int .u64 s10), (14, .int .u64 s14), (15, .int .u64 s15), (16, .int .u64 s16), (17, .int .u64 s17), (18, .int .u64 s18)]) [] G (contC Tryz.prog O lo58 fuel (nav (Tryz.f58.body.getD .skip) [1, 1, 1, 1, 1, 1, 1, 1, 1, 1, 1, 1, 1, 1, 1, 1, 1, 1, 0, 0, 0]) [0] (kpD lo58 96 0 k)))) = L_bits_Div64_5 O fuel (fun (s2 s8 : Int) (s14 s15 : Int) (s17 s18 : Int) (G : GH) => k (.exit 2) (mkE 135 [(2, .int .u64 s2), (8, .int .u64 s8), (14, .int .u64 s14), (15, .int .u64 s15), (17, .int .u64 s17), (18, .int .u64 s18)]) [] G) (fun (s2 s8 : Int) (s9 s10 : Int) (s14 s15 : Int) (s16 s17 s18 : Int) (G : GH) => k .normal (mkE 135 [(2, .int .u64 s2), (8, .int .u64 s8), (9, .int .u64 s9), (10, .int .u64 s10), (14, .int .u64 s14), (15, .int .u64 s15), (16, .int .u64 s16), (17, .int .u64 s17), (18, .int .u64 s18)]) [] G) := by
  funext s2 s8 s9 s10 s14 s15 s16 s17 s18 G
  simp only [L_bits_Div64_5, l_bits_Div64_5_eq, a_bits_Div64_5N_raw, a_bits_Div64_52_raw]

def l_bits_Div64_4 {R : Type} (O : Ora R) (fuel : Nat) (K2 : Int → Int → Int → Int → Int → Int → GH → Option R) : Nat → Int → Int → Int → Int → Int → Int → Int → Int → Int → GH → Option R
  | 0, _, _, _, _, _, _, _, _, _, _ => none
  | n + 1, s2, s8, s9, s10, s14, s15, s16, s17, s18, G => u_bits_Div64_4 O K2 (l_bits_Div64_4 O fuel K2 n) (L_bits_Div64_5 O fuel K2 (l_bits_Div64_4 O fuel K2 n)) s2 s8 s9 s10 s14 s15 s16 s17 s18 G

theorem u_bits_Div64_4_raw {R : Type} (O : Ora R) (fuel : Nat) (s2 s8 : Int) (s9 s10 : Int) (s14 s15 : Int) (s16 s17 s18 : Int) (G : GH) (k : KE R) :
  loopD Tryz.prog O lo58 fuel (nav (Tryz.f58.body.getD .skip) [1, 1, 1, 1, 1, 1, 1, 1, 1, 1, 1, 1, 1, 1, 1, 1, 1, 1, 0, 0, 0]) 96 (mkE 135 [(2, .int .u64 s2), (8, .int .u64 s8), (9, .int .u64 s9), (10, .int .u64 s10), (14, .int .u64 s14), (15, .int .u64 s15), (16, .int .u64 s16), (17, .int .u64 s17), (18, .int .u64 s18)]) [] G k =
  u_bits_Div64_4 O (fun s2 s8 s14 s15 s17 s18 G => k (.exit 2) (mkE 135 [(2, .int .u64 s2), (8, .int .u64 s8), (14, .int .u64 s14), (15, .int .u64 s15), (17, .int .u64 s17), (18, .int .u64 s18)]) [] G) (fun s2 s8 s9 s10 s14 s15 s16 s17 s18 G => k .normal (mkE 135 [(2, .int .u64 s2), (8, .int .u64 s8), (9, .int .u64 s9), (10, .int .u64 s10), (14, .int .u64 s14), (15, .int .u64 s15), (16, .int .u64 s16), (17, .int .u64 s17), (18, .int .u64 s18)]) [] G) (fun s2 s8 s9 s10 s14 s15 s16 s17 s18 G => stepN fuel (loopD Tryz.prog O lo58 fuel (nav (Tryz.f58.body.getD .skip) [1, 1, 1, 1, 1, 1, 1, 1, 1, 1, 1, 1, 1, 1, 1, 1, 1, 1, 0, 0, 0, 0]) 103 (mkE 135 [(2, .int .u64 s2), (8, .int .u64 s8), (9, .int .u64 s9), (10, .int .u64 s10), (14, .int .u64 s14), (15, .int .u64 s15), (16, .int .u64 s16), (17, .int .u64 s17), (18, .int .u64 s18)]) [] G (contC Tryz.prog O lo58 fuel (nav (Tryz.f58.body.getD .skip) [1, 1, 1, 1, 1, 1, 1, 1, 1, 1, 1, 1, 1, 1, 1, 1, 1, 1, 0, 0, 0]) [0] (kpD lo58 96 0 k)))) s2 s8 s9 s10 s14 s15 s16 s17 s18 G := by kernel_rfl

theorem l_bits_Div64_4_eq {R : Type} (O : Ora R) (fuel : Nat) (k : KE R) : ∀ (n : Nat) (s2 s8 : Int) (s9 s10 : Int) (s14 s15 : Int) (s16 s17 s18 : Int) (G : GH),
  loopN (loopD Tryz.prog O lo58 fuel (nav (Tryz.f58.body.getD .skip) [1, 1, 1, 1, 1, 1, 1, 1, 1, 1, 1, 1, 1, 1, 1, 1, 1, 1, 0, 0, 0]) 96) n (mkE 135 [(2, .int .u64 s2), (8, .int .u64 s8), (9, .int .u64 s9), (10, .int .u64 s10), (14, .int .u64 s14), (15, .int .u64 s15), (16, .int .u64 s16), (17, .int .u64 s17), (18, .int .u64 s18)]) [] G k = l_bits_Div64_4 O fuel (fun s2 s8 s14 s15 s17 s18 G => k (.exit 2) (mkE 135 [(2, .int .u64 s2), (8, .int .u64 s8), (14, .int .u64 s14), (15, .int .u64 s15), (17, .int .u64 s17), (18, .int .u64 s18)]) [] G) n s2 s8 s9 s10 s14 s15 s16 s17 s18 G := by
  intro n
  induction n with
  | zero => intros; first | rfl | simp only [loopN, l_bits_Div64_4]
  | succ n ih =>
    intros
    rw [loopN_succ, u_bits_Div64_4_raw]
    simp only [l_bits_Div64_4, loopK_normal, loopK_exit, loopK_ret, ih, L_bits_Div64_5_eq]

def u_bits_Div64 {R : Type} (O : Ora R) (k : KV R) (L0 : Int → Int → Int → GH → Option R) (p0 p1 p2 : Int) (G : GH) : Option R :=
  L0 p0 p1 p2 G

def a_bits_Div64_0N {R : Type} (O : Ora R) (k : KV R) (L1 : Int → Int → Int → GH → Option R) (s0 s1 s2 : Int) (G : GH) : Option R :=
  L1 s0 s1 s2 G

def a_bits_Div64_1N {R : Type} (O : Ora R) (k : KV R) (L2 : Int → Int → Int → Int → Int → Int → Int → Int → Int → GH → Option R) (s0 s1 s2 : Int) (G : GH) : Option R :=
  bif (s0 == (0 : Int)) then
  bif s2 == 0 then none else
  bif s2 == 0 then none else
  k (.tuple [.int .u64 (IntKind.wrap .u64 (Int.tdiv s1 s2)), .int .u64 (Int.tmod s1 s2)]) G
  else
  O fn_bits_LeadingZeros64 [.int .u64 s2] G fun v1 G2 =>
  (ivInt .i64 v1).bind fun x3 =>
  bif decide ((IntKind.wrap .u64 x3) < 0) then none else
  bif decide ((IntKind.wrap .u64 x3) < 0) then none else
  bif decide ((IntKind.wrap .u64 ((64 : Int) - (IntKind.wrap .u64 x3))) < 0) then none else
  bif decide ((IntKind.wrap .u64 x3) < 0) then none else
  bif (shrI .u64 (shlI .u64 s2 (IntKind.wrap .u64 x3)) (32 : Int)) == 0 then none else
  L2 (shlI .u64 s2 (IntKind.wrap .u64 x3)) (IntKind.wrap .u64 x3) (shrI .u64 (shlI .u64 s2 (IntKind.wrap .u64 x3)) (32 : Int)) (andI .u64 (shlI .u64 s2 (IntKind.wrap .u64 x3)) (4294967295 : Int)) (orI .u64 (shlI .u64 s0 (IntKind.wrap .u64 x3)) (shrI .u64 s1 (IntKind.wrap .u64 ((64 : Int) - (IntKind.wrap .u64 x3))))) (shrI .u64 (shlI .u64 s1 (IntKind.wrap .u64 x3)) (32 : Int)) (andI .u64 (shlI .u64 s1 (IntKind.wrap .u64 x3)) (4294967295 : Int)) (IntKind.wrap .u64 (Int.tdiv (orI .u64 (shlI .u64 s0 (IntKind.wrap .u64 x3)) (shrI .u64 s1 (IntKind.wrap .u64 ((64 : Int) - (IntKind.wrap .u64 x3))))) (shrI .u64 (shlI .u64 s2 (IntKind.wrap .u64 x3)) (32 : Int)))) (IntKind.wrap .u64 ((orI .u64 (shlI .u64 s0 (IntKind.wrap .u64 x3)) (shrI .u64 s1 (IntKind.wrap .u64 ((64 : Int) - (IntKind.wrap .u64 x3))))) - (IntKind.wrap .u64 ((IntKind.wrap .u64 (Int.tdiv (orI .u64 (shlI .u64 s0 (IntKind.wrap .u64 x3)) (shrI .u64 s1 (IntKind.wrap .u64 ((64 : Int) - (IntKind.wrap .u64 x3))))) (shrI .u64 (shlI .u64 s2 (IntKind.wrap .u64 x3)) (32 : Int)))) * (shrI .u64 (shlI .u64 s2 (IntKind.wrap .u64 x3)) (32 : Int)))))) G2

def a_bits_Div64_20 {R : Type} (O : Ora R) (k : KV R) (L4 : Int → Int → Int → Int → Int → Int → Int → Int → Int → GH → Option R) (s2 s8 : Int) (s9 s10 : Int) (s11 s13 : Int) (s14 s15 : Int) (G : GH) : Option R :=
  bif s9 == 0 then none else
  L4 s2 s8 s9 s10 s14 s15 (IntKind.wrap .u64 ((IntKind.wrap .u64 ((IntKind.wrap .u64 ((IntKind.wrap .u64 (s11 * (4294967296 : Int))) + s13)) - (IntKind.wrap .u64 (s15 * s2)))) - (IntKind.wrap .u64 ((IntKind.wrap .u64 (Int.tdiv (IntKind.wrap .u64 ((IntKind.wrap .u64 ((IntKind.wrap .u64 (s11 * (4294967296 : Int))) + s13)) - (IntKind.wrap .u64 (s15 * s2)))) s9)) * s9)))) (IntKind.wrap .u64 ((IntKind.wrap .u64 ((IntKind.wrap .u64 (s11 * (4294967296 : Int))) + s13)) - (IntKind.wrap .u64 (s15 * s2)))) (IntKind.wrap .u64 (Int.tdiv (IntKind.wrap .u64 ((IntKind.wrap .u64 ((IntKind.wrap .u64 (s11 * (4294967296 : Int))) + s13)) - (IntKind.wrap .u64 (s15 * s2)))) s9)) G

def a_bits_Div64_42 {R : Type} (O : Ora R) (k : KV R) (s2 s8 : Int) (s14 s15 : Int) (s17 s18 : Int) (G : GH) : Option R :=
  bif decide (s8 < 0) then none else
  k (.tuple [.int .u64 (IntKind.wrap .u64 ((IntKind.wrap .u64 (s15 * (4294967296 : Int))) + s18)), .int .u64 (shrI .u64 (IntKind.wrap .u64 ((IntKind.wrap .u64 ((IntKind.wrap .u64 (s17 * (4294967296 : Int))) + s14)) - (IntKind.wrap .u64 (s18 * s2)))) s8)]) G

def L_bits_Div64_4 {R : Type} (O : Ora R) (fuel : Nat) (k : KV R) : Int → Int → Int → Int → Int → Int → Int → Int → Int → GH → Option R := fun s2 s8 s9 s10 s14 s15 s16 s17 s18 G =>
  l_bits_Div64_4 O fuel (a_bits_Div64_42 O k) fuel s2 s8 s9 s10 s14 s15 s16 s17 s18 G

theorem a_bits_Div64_42_raw {R : Type} (O : Ora R) (fuel : Nat) (s2 s8 : Int) (s14 s15 : Int) (s17 s18 : Int) (G : GH) (k : KV R) :
  contC Tryz.prog O lo58 fuel (Tryz.f58.body.getD .skip) [1, 1, 1, 1, 1, 1, 1, 1, 1, 1, 1, 1, 1, 1, 1, 1, 1, 1, 0, 0] (fun e env F G => match e with | .exit _ => none | _ => resC Tryz.prog Tryz.f58 env F G k) (.exit 2) (mkE 135 [(2, .int .u64 s2), (8, .int .u64 s8), (14, .int .u64 s14), (15, .int .u64 s15), (17, .int .u64 s17), (18, .int .u64 s18)]) [] G =
  a_bits_Div64_42 O k s2 s8 s14 s15 s17 s18 G := by kernel_rfl

theorem L_bits_Div64_4_eq {R : Type} (O : Ora R) (fuel : Nat) (k : KV R) :
  (fun (s2 s8 : Int) (s9 s10 : Int) (s14 s15 : Int) (s16 s17 s18 : Int) (G : GH) => loopN (loopD Tryz.prog O lo58 fuel (nav (Tryz.f58.body.getD .skip) [1, 1, 1, 1, 1, 1, 1, 1, 1, 1, 1, 1, 1, 1, 1, 1, 1, 1, 0, 0, 0]) 96) fuel (mkE 135 [(2, .int .u64 s2), (8, .int .u64 s8), (9, .int .u64 s9), (10, .int .u64 s10), (14, .int .u64 s14), (15, .int .u64 s15), (16, .int .u64 s16), (17, .int .u64 s17), (18, .int .u64 s18)]) [] G (contC Tryz.prog O lo58 fuel (Tryz.f58.body.getD .skip) [1, 1, 1, 1, 1, 1, 1, 1, 1, 1, 1, 1, 1, 1, 1, 1, 1, 1, 0, 0] (fun e env F G => match e with | .exit _ => none | _ => resC Tryz.prog Tryz.f58 env F G k))) = L_bits_Div64_4 O fuel k := by
  funext s2 s8 s9 s10 s14 s15 s16 s17 s18 G
  simp only [L_bits_Div64_4, l_bits_Div64_4_eq, a_bits_Div64_42_raw]

def L_bits_Div64_2 {R : Type} (O : Ora R) (fuel : Nat) (k : KV R) : Int → Int → Int → Int → Int → Int → Int → Int → Int → GH → Option R := fun s2 s8 s9 s10 s11 s13 s14 s15 s16 G =>
  l_bits_Div64_2 O fuel (a_bits_Div64_20 O k (L_bits_Div64_4 O fuel k)) fuel s2 s8 s9 s10 s11 s13 s14 s15 s16 G

theorem a_bits_Div64_20_raw {R : Type} (O : Ora R) (fuel : Nat) (s2 s8 : Int) (s9 s10 : Int) (s11 s13 : Int) (s14 s15 : Int) (G : GH) (k : KV R) :
  contC Tryz.prog O lo58 fuel (Tryz.f58.body.getD .skip) [1, 1, 1, 1, 1, 1, 1, 1, 1, 1, 1, 1, 1, 1, 0, 0] (fun e env F G => match e with | .exit _ => none | _ => resC Tryz.prog Tryz.f58 env F G k) (.exit 0) (mkE 135 [(2, .int .u64 s2), (8, .int .u64 s8), (9, .int .u64 s9), (10, .int .u64 s10), (11, .int .u64 s11), (13, .int .u64 s13), (14, .int .u64 s14), (15, .int .u64 s15)]) [] G =
  a_bits_Div64_20 O k (fun s2 s8 s9 s10 s14 s15 s16 s17 s18 G => loopN (loopD Tryz.prog O lo58 fuel (nav (Tryz.f58.body.getD .skip) [1, 1, 1, 1, 1, 1, 1, 1, 1, 1, 1, 1, 1, 1, 1, 1, 1, 1, 0, 0, 0]) 96) fuel (mkE 135 [(2, .int .u64 s2), (8, .int .u64 s8), (9, .int .u64 s9), (10, .int .u64 s10), (14, .int .u64 s14), (15, .int .u64 s15), (16, .int .u64 s16), (17, .int .u64 s17), (18, .int .u64 s18)]) [] G (contC Tryz.prog O lo58 fuel (Tryz.f58.body.getD .skip) [1, 1, 1, 1, 1, 1, 1, 1, 1, 1, 1, 1, 1, 1, 1, 1, 1, 1, 0, 0] (fun e env F G => match e with | .exit _ => none | _ => resC Tryz.prog Tryz.f58 env F G k))) s2 s8 s9 s10 s11 s13 s14 s15 G := by kernel_rfl

theorem L_bits_Div64_2_eq {R : Type} (O : Ora R) (fuel : Nat) (k : KV R) :
  (fun (s2 s8 : Int) (s9 s10 : Int) (s11 s13 : Int) (s14 s15 s16 : Int) (G : GH) => loopN (loopD Tryz.prog O lo58 fuel (nav (Tryz.f58.body.getD .skip) [1, 1, 1, 1, 1, 1, 1, 1, 1, 1, 1, 1, 1, 1, 0, 0, 0]) 68) fuel (mkE 135 [(2, .int .u64 s2), (8, .int .u64 s8), (9, .int .u64 s9), (10, .int .u64 s10), (11, .int .u64 s11), (13, .int .u64 s13), (14, .int .u64 s14), (15, .int .u64 s15), (16, .int .u64 s16)]) [] G (contC Tryz.prog O lo58 fuel (Tryz.f58.body.getD .skip) [1, 1, 1, 1, 1, 1, 1, 1, 1, 1, 1, 1, 1, 1, 0, 0] (fun e env F G => match e with | .exit _ => none | _ => resC Tryz.prog Tryz.f58 env F G k))) = L_bits_Div64_2 O fuel k := by
  funext s2 s8 s9 s10 s11 s13 s14 s15 s16 G
  simp only [L_bits_Div64_2, l_bits_Div64_2_eq, a_bits_Div64_20_raw, L_bits_Div64_4_eq]

def L_bits_Div64_1 {R : Type} (O : Ora R) (fuel : Nat) (k : KV R) : Int → Int → Int → GH → Option R := fun s0 s1 s2 G =>
  stepN fuel (l_bits_Div64_1 O (a_bits_Div64_1N O k (L_bits_Div64_2 O fuel k)) s0 s1 s2 G)

theorem a_bits_Div64_1N_raw {R : Type} (O : Ora R) (fuel : Nat) (s0 s1 s2 : Int) (G : GH) (k : KV R) :
  contC Tryz.prog O lo58 fuel (Tryz.f58.body.getD .skip) [1, 1, 0] (fun e env F G => match e with | .exit _ => none | _ => resC Tryz.prog Tryz.f58 env F G k) .normal (mkE 135 [(0, .int .u64 s0), (1, .int .u64 s1), (2, .int .u64 s2)]) [] G =
  a_bits_Div64_1N O k (fun s2 s8 s9 s10 s11 s13 s14 s15 s16 G => loopN (loopD Tryz.prog O lo58 fuel (nav (Tryz.f58.body.getD .skip) [1, 1, 1, 1, 1, 1, 1, 1, 1, 1, 1, 1, 1, 1, 0, 0, 0]) 68) fuel (mkE 135 [(2, .int .u64 s2), (8, .int .u64 s8), (9, .int .u64 s9), (10, .int .u64 s10), (11, .int .u64 s11), (13, .int .u64 s13), (14, .int .u64 s14), (15, .int .u64 s15), (16, .int .u64 s16)]) [] G (contC Tryz.prog O lo58 fuel (Tryz.f58.body.getD .skip) [1, 1, 1, 1, 1, 1, 1, 1, 1, 1, 1, 1, 1, 1, 0, 0] (fun e env F G => match e with | .exit _ => none | _ => resC Tryz.prog Tryz.f58 env F G k))) s0 s1 s2 G := by kernel_rfl

theorem L_bits_Div64_1_eq {R : Type} (O : Ora R) (fuel : Nat) (k : KV R) :
  (fun (s0 s1 s2 : Int) (G : GH) => stepN fuel (loopD Tryz.prog O lo58 fuel (nav (Tryz.f58.body.getD .skip) [1, 1, 0]) 23 (mkE 135 [(0, .int .u64 s0), (1, .int .u64 s1), (2, .int .u64 s2)]) [] G (contC Tryz.prog O lo58 fuel (Tryz.f58.body.getD .skip) [1, 1, 0] (fun e env F G => match e with | .exit _ => none | _ => resC Tryz.prog Tryz.f58 env F G k)))) = L_bits_Div64_1 O fuel k := by
  funext s0 s1 s2 G
  simp only [L_bits_Div64_1, l_bits_Div64_1_eq, a_bits_Div64_1N_raw, L_bits_Div64_2_eq]

def L_bits_Div64_0 {R : Type} (O : Ora R) (fuel : Nat) (k : KV R) : Int → Int → Int → GH → Option R := fun s0 s1 s2 G =>
  stepN fuel (l_bits_Div64_0 O (a_bits_Div64_0N O k (L_bits_Div64_1 O fuel k)) s0 s1 s2 G)

theorem a_bits_Div64_0N_raw {R : Type} (O : Ora R) (fuel : Nat) (s0 s1 s2 : Int) (G : GH) (k : KV R) :
  contC Tryz.prog O lo58 fuel (Tryz.f58.body.getD .skip) [1, 0] (fun e env F G => match e with | .exit _ => none | _ => resC Tryz.prog Tryz.f58 env F G k) .normal (mkE 135 [(0, .int .u64 s0), (1, .int .u64 s1), (2, .int .u64 s2)]) [] G =
  a_bits_Div64_0N O k (fun s0 s1 s2 G => stepN fuel (loopD Tryz.prog O lo58 fuel (nav (Tryz.f58.body.getD .skip) [1, 1, 0]) 23 (mkE 135 [(0, .int .u64 s0), (1, .int .u64 s1), (2, .int .u64 s2)]) [] G (contC Tryz.prog O lo58 fuel (Tryz.f58.body.getD .skip) [1, 1, 0] (fun e env F G => match e with | .exit _ => none | _ => resC Tryz.prog Tryz.f58 env F G k)))) s0 s1 s2 G := by kernel_rfl

theorem L_bits_Div64_0_eq {R : Type} (O : Ora R) (fuel : Nat) (k : KV R) :
  (fun (s0 s1 s2 : Int) (G : GH) => stepN fuel (loopD Tryz.prog O lo58 fuel (nav (Tryz.f58.body.getD .skip) [1, 0]) 15 (mkE 135 [(0, .int .u64 s0), (1, .int .u64 s1), (2, .int .u64 s2)]) [] G (contC Tryz.prog O lo58 fuel (Tryz.f58.body.getD .skip) [1, 0] (fun e env F G => match e with | .exit _ => none | _ => resC Tryz.prog Tryz.f58 env F G k)))) = L_bits_Div64_0 O fuel k := by
  funext s0 s1 s2 G
  simp only [L_bits_Div64_0, l_bits_Div64_0_eq, a_bits_Div64_0N_raw, L_bits_Div64_1_eq]

theorem e_bits_Div64_raw {R : Type} (O : Ora R) (fuel : Nat) (p0 p1 p2 : Int) (G : GH) (k : KV R) :
  bodyC Tryz.prog O lo58 fuel Tryz.f58 [.int .u64 p0, .int .u64 p1, .int .u64 p2] G k =
  u_bits_Div64 O k (fun s0 s1 s2 G => stepN fuel (loopD Tryz.prog O lo58 fuel (nav (Tryz.f58.body.getD .skip) [1, 0]) 15 (mkE 135 [(0, .int .u64 s0), (1, .int .u64 s1), (2, .int .u64 s2)]) [] G (contC Tryz.prog O lo58 fuel (Tryz.f58.body.getD .skip) [1, 0] (fun e env F G => match e with | .exit _ => none | _ => resC Tryz.prog Tryz.f58 env F G k)))) p0 p1 p2 G := by kernel_rfl

theorem e_bits_Div64 {R : Type} (O : Ora R) (fuel : Nat) (p0 p1 p2 : Int) (G : GH) (k : KV R) :
  bodyC Tryz.prog O lo58 fuel Tryz.f58 [.int .u64 p0, .int .u64 p1, .int .u64 p2] G k =
  u_bits_Div64 O k (L_bits_Div64_0 O fuel k) p0 p1 p2 G := by
  rw [e_bits_Div64_raw, L_bits_Div64_0_eq]

theorem r_bits_Div64 {R : Type} (fuel n : Nat) (p0 p1 p2 : Int) (G : GH) (k : KV R) :
  runC Tryz.prog lo0 fuel (n + 1) 58 [.int .u64 p0, .int .u64 p1, .int .u64 p2] G k = bodyC Tryz.prog (runC Tryz.prog lo0 fuel n) lo58 fuel Tryz.f58 [.int .u64 p0, .int .u64 p1, .int .u64 p2] G k := run_body Tryz.func58 rfl rfl

/-! ### math/bits.Mul64 -/
theorem e_bits_Mul64 {R : Type} (O : Ora R) (fuel : Nat) (p0 p1 : Int) (G : GH) (k : KV R) :
  bodyC Tryz.prog O [777777] fuel Tryz.f134 [.int .u64 p0, .int .u64 p1] G k =
  k (.tuple [.int .u64 (IntKind.wrap .u64 ((IntKind.wrap .u64 ((IntKind.wrap .u64 ((shrI .u64 p0 (32 : Int)) * (shrI .u64 p1 (32 : Int)))) + (shrI .u64 (IntKind.wrap .u64 ((IntKind.wrap .u64 ((shrI .u64 p0 (32 : Int)) * (andI .u64 p1 (4294967295 : Int)))) + (shrI .u64 (IntKind.wrap .u64 ((andI .u64 p0 (4294967295 : Int)) * (andI .u64 p1 (4294967295 : Int)))) (32 : Int)))) (32 : Int)))) + (shrI .u64 (IntKind.wrap .u64 ((andI .u64 (IntKind.wrap .u64 ((IntKind.wrap .u64 ((shrI .u64 p0 (32 : Int)) * (andI .u64 p1 (4294967295 : Int)))) + (shrI .u64 (IntKind.wrap .u64 ((andI .u64 p0 (4294967295 : Int)) * (andI .u64 p1 (4294967295 : Int)))) (32 : Int)))) (4294967295 : Int)) + (IntKind.wrap .u64 ((andI .u64 p0 (4294967295 : Int)) * (shrI .u64 p1 (32 : Int)))))) (32 : Int)))), .int .u64 (IntKind.wrap .u64 (p0 * p1))]) G := by kernel_rfl

theorem r_bits_Mul64 {R : Type} (fuel n : Nat) (p0 p1 : Int) (G : GH) (k : KV R) :
  runC Tryz.prog lo0 fuel (n + 1) 134 [.int .u64 p0, .int .u64 p1] G k = bodyC Tryz.prog (runC Tryz.prog lo0 fuel n) [777777] fuel Tryz.f134 [.int .u64 p0, .int .u64 p1] G k := run_body Tryz.func134 rfl rfl

end Go.LI.Film
