/- What the interpreter gives for the reference of round: Div (written by slab.py). -/
import Derived.Test.YtalpjkeiaeobdaaGreatSeatA
namespace Go.LI.Film
open Go.Proofs.YtalpjkeiaeobdaaGreat Go Go.Proofs Go.LI
set_option maxRecDepth 100000
set_option linter.unusedVariables false
set_option linter.unusedSimpArgs false
/-! ### lantern/lanternref01.Div -/
def u_ref01_Div_0 {R : Type} (O : Ora R) (KN : Nat → Nat → Bool → Bool → GH → Option R) (s0 s1 : Nat) (s2 : Bool) (G : GH) : Option R :=
  O fn_ref01_Number [.float .f64 s0] G fun v1 G2 =>
  (ivBool v1).bind fun x3 =>
  bif (!x3) then
  KN s0 s1 s2 true G2
  else
  O fn_ref01_Number [.float .f64 s1] G2 fun v4 G5 =>
  (ivBool v4).bind fun x6 =>
  KN s0 s1 s2 (!x6) G5

def l_ref01_Div_0 {R : Type} (O : Ora R) (KN : Nat → Nat → Bool → Bool → GH → Option R) : Nat → Nat → Bool → GH → Option R := fun s0 s1 s2 G => u_ref01_Div_0 O KN s0 s1 s2 G

theorem u_ref01_Div_0_raw {R : Type} (O : Ora R) (fuel s0 s1 : Nat) (s2 : Bool) (G : GH) (k : KE R) :
  loopD Tryz.prog O lo43 fuel (nav (Tryz.f43.body.getD .skip) [1, 0, 0]) 11 (mkE 82 [(0, .float .f64 s0), (1, .float .f64 s1), (2, .bool s2)]) [] G k =
  u_ref01_Div_0 O (fun s0 s1 s2 s22 G => k .normal (mkE 82 [(0, .float .f64 s0), (1, .float .f64 s1), (2, .bool s2), (22, .bool s22)]) [] G) s0 s1 s2 G := by kernel_rfl

theorem l_ref01_Div_0_eq {R : Type} (O : Ora R) (fuel : Nat) (k : KE R) : ∀ (s0 s1 : Nat) (s2 : Bool) (G : GH),
  loopD Tryz.prog O lo43 fuel (nav (Tryz.f43.body.getD .skip) [1, 0, 0]) 11 (mkE 82 [(0, .float .f64 s0), (1, .float .f64 s1), (2, .bool s2)]) [] G k = l_ref01_Div_0 O (fun s0 s1 s2 s22 G => k .normal (mkE 82 [(0, .float .f64 s0), (1, .float .f64 s1), (2, .bool s2), (22, .bool s22)]) [] G) s0 s1 s2 G := by
  intros
  rw [u_ref01_Div_0_raw]
  simp only [l_ref01_Div_0]

def u_ref01_Div_2 {R : Type} (O : Ora R) (KN : Bool → Bool → Bool → Int → Int → Int → Int → Int → Int → Bool → Int → Int → Int → Bool → GH → Option R) (s2 s9 s11 : Bool) (s12 s13 : Int) (s14 b0_0 : Int) (b0_1 b0_2 : Int) (b0_3 : Bool) (b1_0 b1_1 b1_2 : Int) (b1_3 : Bool) (G : GH) : Option R :=
  bif (decide (s12 ≥ b1_1)) then
  KN s2 s9 s11 (IntKind.wrap .u64 (s12 - b1_1)) (orI .u64 s13 (1 : Int)) s14 b0_0 b0_1 b0_2 b0_3 b1_0 b1_1 b1_2 b1_3 G
  else
  KN s2 s9 s11 s12 s13 s14 b0_0 b0_1 b0_2 b0_3 b1_0 b1_1 b1_2 b1_3 G

def l_ref01_Div_2 {R : Type} (O : Ora R) (KN : Bool → Bool → Bool → Int → Int → Int → Int → Int → Int → Bool → Int → Int → Int → Bool → GH → Option R) : Bool → Bool → Bool → Int → Int → Int → Int → Int → Int → Bool → Int → Int → Int → Bool → GH → Option R := fun s2 s9 s11 s12 s13 s14 b0_0 b0_1 b0_2 b0_3 b1_0 b1_1 b1_2 b1_3 G => u_ref01_Div_2 O KN s2 s9 s11 s12 s13 s14 b0_0 b0_1 b0_2 b0_3 b1_0 b1_1 b1_2 b1_3 G

theorem u_ref01_Div_2_raw {R : Type} (O : Ora R) (fuel : Nat) (s2 s9 s11 : Bool) (s12 s13 : Int) (s14 b0_0 : Int) (b0_1 b0_2 : Int) (b0_3 : Bool) (b1_0 b1_1 b1_2 : Int) (b1_3 : Bool) (G : GH) (k : KE R) :
  loopD Tryz.prog O lo43 fuel (nav (Tryz.f43.body.getD .skip) [1, 1, 1, 1, 1, 1, 1, 1, 1, 1, 0, 1, 0, 0, 1, 0, 0, 1, 0]) 83 (mkE 82 [(2, .bool s2), (8, .loc 0 0), (9, .bool s9), (10, .loc 1 0), (11, .bool s11), (12, .int .u64 s12), (13, .int .u64 s13), (14, .int .i64 s14)]) [[.int .u64 b0_0, .int .u64 b0_1, .int .i64 b0_2, .bool b0_3], [.int .u64 b1_0, .int .u64 b1_1, .int .i64 b1_2, .bool b1_3]] G k =
  u_ref01_Div_2 O (fun s2 s9 s11 s12 s13 s14 b0_0 b0_1 b0_2 b0_3 b1_0 b1_1 b1_2 b1_3 G => k .normal (mkE 82 [(2, .bool s2), (8, .loc 0 0), (9, .bool s9), (10, .loc 1 0), (11, .bool s11), (12, .int .u64 s12), (13, .int .u64 s13), (14, .int .i64 s14)]) [[.int .u64 b0_0, .int .u64 b0_1, .int .i64 b0_2, .bool b0_3], [.int .u64 b1_0, .int .u64 b1_1, .int .i64 b1_2, .bool b1_3]] G) s2 s9 s11 s12 s13 s14 b0_0 b0_1 b0_2 b0_3 b1_0 b1_1 b1_2 b1_3 G := by kernel_rfl

theorem l_ref01_Div_2_eq {R : Type} (O : Ora R) (fuel : Nat) (k : KE R) : ∀ (s2 s9 s11 : Bool) (s12 s13 : Int) (s14 b0_0 : Int) (b0_1 b0_2 : Int) (b0_3 : Bool) (b1_0 b1_1 b1_2 : Int) (b1_3 : Bool) (G : GH),
  loopD Tryz.prog O lo43 fuel (nav (Tryz.f43.body.getD .skip) [1, 1, 1, 1, 1, 1, 1, 1, 1, 1, 0, 1, 0, 0, 1, 0, 0, 1, 0]) 83 (mkE 82 [(2, .bool s2), (8, .loc 0 0), (9, .bool s9), (10, .loc 1 0), (11, .bool s11), (12, .int .u64 s12), (13, .int .u64 s13), (14, .int .i64 s14)]) [[.int .u64 b0_0, .int .u64 b0_1, .int .i64 b0_2, .bool b0_3], [.int .u64 b1_0, .int .u64 b1_1, .int .i64 b1_2, .bool b1_3]] G k = l_ref01_Div_2 O (fun s2 s9 s11 s12 s13 s14 b0_0 b0_1 b0_2 b0_3 b1_0 b1_1 b1_2 b1_3 G => k .normal (mkE 82 [(2, .bool s2), (8, .loc 0 0), (9, .bool s9), (10, .loc 1 0), (11, .bool s11), (12, .int .u64 s12), (13, .int .u64 s13), (14, .int .i64 s14)]) [[.int .u64 b0_0, .int .u64 b0_1, .int .i64 b0_2, .bool b0_3], [.int .u64 b1_0, .int .u64 b1_1, .int .i64 b1_2, .bool b1_3]] G) s2 s9 s11 s12 s13 s14 b0_0 b0_1 b0_2 b0_3 b1_0 b1_1 b1_2 b1_3 G := by
  intros
  rw [u_ref01_Div_2_raw]
  simp only [l_ref01_Div_2]

def u_ref01_Div_1 {R : Type} (O : Ora R) (KN : Bool → Bool → Bool → Int → Int → Int → Int → Int → Int → Bool → Int → Int → Int → Bool → GH → Option R) (K0 : Bool → Bool → Bool → Int → Int → Int → Int → Int → Bool → Int → Int → Int → Bool → GH → Option R) (L2 : Bool → Bool → Bool → Int → Int → Int → Int → Int → Int → Bool → Int → Int → Int → Bool → GH → Option R) (s2 s9 s11 : Bool) (s12 s13 : Int) (s14 b0_0 : Int) (b0_1 b0_2 : Int) (b0_3 : Bool) (b1_0 b1_1 b1_2 : Int) (b1_3 : Bool) (G : GH) : Option R :=
  bif (decide (s14 < (60 : Int))) then
  L2 s2 s9 s11 s12 (shlI .u64 s13 (1 : Int)) s14 b0_0 b0_1 b0_2 b0_3 b1_0 b1_1 b1_2 b1_3 G
  else
  K0 s2 s9 s11 s12 s13 b0_0 b0_1 b0_2 b0_3 b1_0 b1_1 b1_2 b1_3 G

def a_ref01_Div_2N {R : Type} (O : Ora R) (KN : Bool → Bool → Bool → Int → Int → Int → Int → Int → Int → Bool → Int → Int → Int → Bool → GH → Option R) (K0 : Bool → Bool → Bool → Int → Int → Int → Int → Int → Bool → Int → Int → Int → Bool → GH → Option R) (s2 s9 s11 : Bool) (s12 s13 : Int) (s14 b0_0 : Int) (b0_1 b0_2 : Int) (b0_3 : Bool) (b1_0 b1_1 b1_2 : Int) (b1_3 : Bool) (G : GH) : Option R :=
  KN s2 s9 s11 (shlI .u64 s12 (1 : Int)) s13 (IntKind.wrap .i64 (s14 + (1 : Int))) b0_0 b0_1 b0_2 b0_3 b1_0 b1_1 b1_2 b1_3 G

def L_ref01_Div_2 {R : Type} (O : Ora R) (fuel : Nat) (KN : Bool → Bool → Bool → Int → Int → Int → Int → Int → Int → Bool → Int → Int → Int → Bool → GH → Option R) (K0 : Bool → Bool → Bool → Int → Int → Int → Int → Int → Bool → Int → Int → Int → Bool → GH → Option R) : Bool → Bool → Bool → Int → Int → Int → Int → Int → Int → Bool → Int → Int → Int → Bool → GH → Option R := fun s2 s9 s11 s12 s13 s14 b0_0 b0_1 b0_2 b0_3 b1_0 b1_1 b1_2 b1_3 G =>
  stepN fuel (l_ref01_Div_2 O (a_ref01_Div_2N O KN K0) s2 s9 s11 s12 s13 s14 b0_0 b0_1 b0_2 b0_3 b1_0 b1_1 b1_2 b1_3 G)

theorem a_ref01_Div_2N_raw {R : Type} (O : Ora R) (fuel : Nat) (s2 s9 s11 : Bool) (s12 s13 : Int) (s14 b0_0 : Int) (b0_1 b0_2 : Int) (b0_3 : Bool) (b1_0 b1_1 b1_2 : Int) (b1_3 : Bool) (G : GH) (k : KE R) :
  contC Tryz.prog O lo43 fuel (nav (Tryz.f43.body.getD .skip) [1, 1, 1, 1, 1, 1, 1, 1, 1, 1, 0, 1, 0, 0]) [1, 0, 0, 1, 0] (kpD lo43 56 2 k) .normal (mkE 82 [(2, .bool s2), (8, .loc 0 0), (9, .bool s9), (10, .loc 1 0), (11, .bool s11), (12, .int .u64 s12), (13, .int .u64 s13), (14, .int .i64 s14)]) [[.int .u64 b0_0, .int .u64 b0_1, .int .i64 b0_2, .bool b0_3], [.int .u64 b1_0, .int .u64 b1_1, .int .i64 b1_2, .bool b1_3]] G =
  a_ref01_Div_2N O (fun s2 s9 s11 s12 s13 s14 b0_0 b0_1 b0_2 b0_3 b1_0 b1_1 b1_2 b1_3 G => k .normal (mkE 82 [(2, .bool s2), (8, .loc 0 0), (9, .bool s9), (10, .loc 1 0), (11, .bool s11), (12, .int .u64 s12), (13, .int .u64 s13), (14, .int .i64 s14)]) [[.int .u64 b0_0, .int .u64 b0_1, .int .i64 b0_2, .bool b0_3], [.int .u64 b1_0, .int .u64 b1_1, .int .i64 b1_2, .bool b1_3]] G) (fun s2 s9 s11 s12 s13 b0_0 b0_1 b0_2 b0_3 b1_0 b1_1 b1_2 b1_3 G => k (.exit 0) (mkE 82 [(2, .bool s2), (8, .loc 0 0), (9, .bool s9), (10, .loc 1 0), (11, .bool s11), (12, .int .u64 s12), (13, .int .u64 s13)]) [[.int .u64 b0_0, .int .u64 b0_1, .int .i64 b0_2, .bool b0_3], [.int .u64 b1_0, .int .u64 b1_1, .int .i64 b1_2, .bool b1_3]] G) s2 s9 s11 s12 s13 s14 b0_0 b0_1 b0_2 b0_3 b1_0 b1_1 b1_2 b1_3 G := by kernel_rfl

theorem L_ref01_Div_2_eq {R : Type} (O : Ora R) (fuel : Nat) (k : KE R) :
  (fun (s2 s9 s11 : Bool) (s12 s13 : Int) (s14 b0_0 : Int) (b0_1 b0_2 : Int) (b0_3 : Bool) (b1_0 b1_1 b1_2 : Int) (b1_3 : Bool) (G : GH) => stepN fuel (loopD Tryz.prog O lo43 fuel (nav (Tryz.f43.body.getD .skip) [1, 1, 1, 1, 1, 1, 1, 1, 1, 1, 0, 1, 0, 0, 1, 0, 0, 1, 0]) 83 (mkE 82 [(2, .bool s2), (8, .loc 0 0), (9, .bool s9), (10, .loc 1 0), (11, .bool s11), (12, .int .u64 s12), (13, .int .u64 s13), (14, .int .i64 s14)]) [[.int .u64 b0_0, .int .u64 b0_1, .int .i64 b0_2, .bool b0_3], [.int .u64 b1_0, .int .u64 b1_1, .int .i64 b1_2, .bool b1_3]] G (contC Tryz.prog O lo43 fuel (nav (Tryz.f43.body.getD .skip) [1, 1, 1, 1, 1, 1, 1, 1, 1, 1, 0, 1, 0, 0]) [1, 0, 0, 1, 0] (kpD lo43 56 2 k)))) = L_ref01_Div_2 O fuel (fun (s2 s9 s11 : Bool) (s12 s13 : Int) (s14 b0_0 : Int) (b0_1 b0_2 : Int) (b0_3 : Bool) (b1_0 b1_1 b1_2 : Int) (b1_3 : Bool) (G : GH) => k .normal (mkE 82 [(2, .bool s2), (8, .loc 0 0), (9, .bool s9), (10, .loc 1 0), (11, .bool s11), (12, .int .u64 s12), (13, .int .u64 s13), (14, .int .i64 s14)]) [[.int .u64 b0_0, .int .u64 b0_1, .int .i64 b0_2, .bool b0_3], [.int .u64 b1_0, .int .u64 b1_1, .int .i64 b1_2, .bool b1_3]] G) (fun (s2 s9 s11 : Bool) (s12 s13 : Int) (b0_0 b0_1 b0_2 : Int) (b0_3 : Bool) (b1_0 b1_1 b1_2 : Int) (b1_3 : Bool) (G : GH) => k (.exit 0) (mkE 82 [(2, .bool s2), (8, .loc 0 0), (9, .bool s9), (10, .loc 1 0), (11, .bool s11), (12, .int .u64 s12), (13, .int .u64 s13)]) [[.int .u64 b0_0, .int .u64 b0_1, .int .i64 b0_2, .bool b0_3], [.int .u64 b1_0, .int .u64 b1_1, .int .i64 b1_2, .bool b1_3]] G) := by
  funext s2 s9 s11 s12 s13 s14 b0_0 b0_1 b0_2 b0_3 b1_0 b1_1 b1_2 b1_3 G
  simp only [L_ref01_Div_2, l_ref01_Div_2_eq, a_ref01_Div_2N_raw]

def l_ref01_Div_1 {R : Type} (O : Ora R) (fuel : Nat) (K0 : Bool → Bool → Bool → Int → Int → Int → Int → Int → Bool → Int → Int → Int → Bool → GH → Option R) : Nat → Bool → Bool → Bool → Int → Int → Int → Int → Int → Int → Bool → Int → Int → Int → Bool → GH → Option R
  | 0, _, _, _, _, _, _, _, _, _, _, _, _, _, _, _ => none
  | n + 1, s2, s9, s11, s12, s13, s14, b0_0, b0_1, b0_2, b0_3, b1_0, b1_1, b1_2, b1_3, G => u_ref01_Div_1 O (l_ref01_Div_1 O fuel K0 n) K0 (L_ref01_Div_2 O fuel (l_ref01_Div_1 O fuel K0 n) K0) s2 s9 s11 s12 s13 s14 b0_0 b0_1 b0_2 b0_3 b1_0 b1_1 b1_2 b1_3 G

theorem u_ref01_Div_1_raw {R : Type} (O : Ora R) (fuel : Nat) (s2 s9 s11 : Bool) (s12 s13 : Int) (s14 b0_0 : Int) (b0_1 b0_2 : Int) (b0_3 : Bool) (b1_0 b1_1 b1_2 : Int) (b1_3 : Bool) (G : GH) (k : KE R) :
  loopD Tryz.prog O lo43 fuel (nav (Tryz.f43.body.getD .skip) [1, 1, 1, 1, 1, 1, 1, 1, 1, 1, 0, 1, 0, 0]) 56 (mkE 82 [(2, .bool s2), (8, .loc 0 0), (9, .bool s9), (10, .loc 1 0), (11, .bool s11), (12, .int .u64 s12), (13, .int .u64 s13), (14, .int .i64 s14)]) [[.int .u64 b0_0, .int .u64 b0_1, .int .i64 b0_2, .bool b0_3], [.int .u64 b1_0, .int .u64 b1_1, .int .i64 b1_2, .bool b1_3]] G k =
  u_ref01_Div_1 O (fun s2 s9 s11 s12 s13 s14 b0_0 b0_1 b0_2 b0_3 b1_0 b1_1 b1_2 b1_3 G => k .normal (mkE 82 [(2, .bool s2), (8, .loc 0 0), (9, .bool s9), (10, .loc 1 0), (11, .bool s11), (12, .int .u64 s12), (13, .int .u64 s13), (14, .int .i64 s14)]) [[.int .u64 b0_0, .int .u64 b0_1, .int .i64 b0_2, .bool b0_3], [.int .u64 b1_0, .int .u64 b1_1, .int .i64 b1_2, .bool b1_3]] G) (fun s2 s9 s11 s12 s13 b0_0 b0_1 b0_2 b0_3 b1_0 b1_1 b1_2 b1_3 G => k (.exit 0) (mkE 82 [(2, .bool s2), (8, .loc 0 0), (9, .bool s9), (10, .loc 1 0), (11, .bool s11), (12, .int .u64 s12), (13, .int .u64 s13)]) [[.int .u64 b0_0, .int .u64 b0_1, .int .i64 b0_2, .bool b0_3], [.int .u64 b1_0, .int .u64 b1_1, .int .i64 b1_2, .bool b1_3]] G) (fun s2 s9 s11 s12 s13 s14 b0_0 b0_1 b0_2 b0_3 b1_0 b1_1 b1_2 b1_3 G => stepN fuel (loopD Tryz.prog O lo43 fuel (nav (Tryz.f43.body.getD .skip) [1, 1, 1, 1, 1, 1, 1, 1, 1, 1, 0, 1, 0, 0, 1, 0, 0, 1, 0]) 83 (mkE 82 [(2, .bool s2), (8, .loc 0 0), (9, .bool s9), (10, .loc 1 0), (11, .bool s11), (12, .int .u64 s12), (13, .int .u64 s13), (14, .int .i64 s14)]) [[.int .u64 b0_0, .int .u64 b0_1, .int .i64 b0_2, .bool b0_3], [.int .u64 b1_0, .int .u64 b1_1, .int .i64 b1_2, .bool b1_3]] G (contC Tryz.prog O lo43 fuel (nav (Tryz.f43.body.getD .skip) [1, 1, 1, 1, 1, 1, 1, 1, 1, 1, 0, 1, 0, 0]) [1, 0, 0, 1, 0] (kpD lo43 56 2 k)))) s2 s9 s11 s12 s13 s14 b0_0 b0_1 b0_2 b0_3 b1_0 b1_1 b1_2 b1_3 G := by kernel_rfl

theorem l_ref01_Div_1_eq {R : Type} (O : Ora R) (fuel : Nat) (k : KE R) : ∀ (n : Nat) (s2 s9 s11 : Bool) (s12 s13 : Int) (s14 b0_0 : Int) (b0_1 b0_2 : Int) (b0_3 : Bool) (b1_0 b1_1 b1_2 : Int) (b1_3 : Bool) (G : GH),
  loopN (loopD Tryz.prog O lo43 fuel (nav (Tryz.f43.body.getD .skip) [1, 1, 1, 1, 1, 1, 1, 1, 1, 1, 0, 1, 0, 0]) 56) n (mkE 82 [(2, .bool s2), (8, .loc 0 0), (9, .bool s9), (10, .loc 1 0), (11, .bool s11), (12, .int .u64 s12), (13, .int .u64 s13), (14, .int .i64 s14)]) [[.int .u64 b0_0, .int .u64 b0_1, .int .i64 b0_2, .bool b0_3], [.int .u64 b1_0, .int .u64 b1_1, .int .i64 b1_2, .bool b1_3]] G k = l_ref01_Div_1 O fuel (fun s2 s9 s11 s12 s13 b0_0 b0_1 b0_2 b0_3 b1_0 b1_1 b1_2 b1_3 G => k (.exit 0) (mkE 82 [(2, .bool s2), (8, .loc 0 0), (9, .bool s9), (10, .loc 1 0), (11, .bool s11), (12, .int .u64 s12), (13, .int .u64 s13)]) [[.int .u64 b0_0, .int .u64 b0_1, .int .i64 b0_2, .bool b0_3], [.int .u64 b1_0, .int .u64 b1_1, .int .i64 b1_2, .bool b1_3]] G) n s2 s9 s11 s12 s13 s14 b0_0 b0_1 b0_2 b0_3 b1_0 b1_1 b1_2 b1_3 G := by
  intro n
  induction n with
  | zero => intros; first | rfl | simp only [loopN, l_ref01_Div_1]
  | succ n ih =>
    intros
    rw [loopN_succ, u_ref01_Div_1_raw]
    simp only [l_ref01_Div_1, loopK_normal, loopK_exit, loopK_ret, ih, L_ref01_Div_2_eq]

def u_ref01_Div {R : Type} (O : Ora R) (k : KV R) (L0 : Nat → Nat → Bool → GH → Option R) (p0 p1 : Nat) (p2 : Bool) (G : GH) : Option R :=
  L0 p0 p1 p2 G

def a_ref01_Div_0N {R : Type} (O : Ora R) (k : KV R) (L1 : Bool → Bool → Bool → Int → Int → Int → Int → Int → Int → Bool → Int → Int → Int → Bool → GH → Option R) (s0 s1 : Nat) (s2 s22 : Bool) (G : GH) : Option R :=
  bif s22 then
  k (.tuple [.float .f64 (0 : Nat), .int .i64 (10 : Int)]) G
  else
  bif (feq .f64 s1 (0 : Nat)) then
  k (.tuple [.float .f64 (0 : Nat), .int .i64 (11 : Int)]) G
  else
  bif (feq .f64 s0 (0 : Nat)) then
  k (.tuple [.float .f64 (0 : Nat), .int .i64 (0 : Int)]) G
  else
  O fn_ref01_Part [.float .f64 s0] G fun v1 G2 =>
  (ivTup 2 v1).bind fun c3 =>
  (ivAgg 4 (c3.getD 0 undefI)).bind fun c4 =>
  (ivInt .u64 (c4.getD 0 undefI)).bind fun x5 =>
  (ivInt .u64 (c4.getD 1 undefI)).bind fun x6 =>
  (ivInt .i64 (c4.getD 2 undefI)).bind fun x7 =>
  (ivBool (c4.getD 3 undefI)).bind fun x8 =>
  (ivBool (c3.getD 1 undefI)).bind fun x9 =>
  O fn_ref01_Part [.float .f64 s1] G2 fun v10 G11 =>
  (ivTup 2 v10).bind fun c12 =>
  (ivAgg 4 (c12.getD 0 undefI)).bind fun c13 =>
  (ivInt .u64 (c13.getD 0 undefI)).bind fun x14 =>
  (ivInt .u64 (c13.getD 1 undefI)).bind fun x15 =>
  (ivInt .i64 (c13.getD 2 undefI)).bind fun x16 =>
  (ivBool (c13.getD 3 undefI)).bind fun x17 =>
  (ivBool (c12.getD 1 undefI)).bind fun x18 =>
  O fn_ref01_Length [.agg [.int .u64 x5, .int .u64 x6, .int .i64 x7, .bool x8]] (gfreeze G11) fun v19 _ =>
  (ivInt .i64 v19).bind fun x20 =>
  O fn_ref01_Up [.agg [.int .u64 x5, .int .u64 x6, .int .i64 x7, .bool x8], .int .i64 (IntKind.wrap .i64 ((53 : Int) - x20))] (gfreeze G11) fun v21 _ =>
  (ivAgg 4 v21).bind fun c22 =>
  (ivInt .u64 (c22.getD 0 undefI)).bind fun x23 =>
  (ivInt .u64 (c22.getD 1 undefI)).bind fun x24 =>
  (ivInt .i64 (c22.getD 2 undefI)).bind fun x25 =>
  (ivBool (c22.getD 3 undefI)).bind fun x26 =>
  O fn_ref01_Length [.agg [.int .u64 x14, .int .u64 x15, .int .i64 x16, .bool x17]] (gfreeze G11) fun v27 _ =>
  (ivInt .i64 v27).bind fun x28 =>
  O fn_ref01_Up [.agg [.int .u64 x14, .int .u64 x15, .int .i64 x16, .bool x17], .int .i64 (IntKind.wrap .i64 ((53 : Int) - x28))] (gfreeze G11) fun v29 _ =>
  (ivAgg 4 v29).bind fun c30 =>
  (ivInt .u64 (c30.getD 0 undefI)).bind fun x31 =>
  (ivInt .u64 (c30.getD 1 undefI)).bind fun x32 =>
  (ivInt .i64 (c30.getD 2 undefI)).bind fun x33 =>
  (ivBool (c30.getD 3 undefI)).bind fun x34 =>
  L1 s2 x9 x18 x24 (0 : Int) (0 : Int) x23 x24 x25 x26 x31 x32 x33 x34 G11

def a_ref01_Div_10 {R : Type} (O : Ora R) (k : KV R) (s2 s9 s11 : Bool) (s12 s13 : Int) (b0_0 b0_1 b0_2 : Int) (b0_3 : Bool) (b1_0 b1_1 b1_2 : Int) (b1_3 : Bool) (G : GH) : Option R :=
  O fn_ref01_To [.agg [.int .u64 (0 : Int), .int .u64 s13, .int .i64 (IntKind.wrap .i64 ((IntKind.wrap .i64 (b0_2 - b1_2)) - (59 : Int))), .bool (s12 != (0 : Int))], .bool (!(s9 == s11)), .bool s2] G fun v1 G2 =>
  (ivFloat .f64 v1).bind fun x3 =>
  k (.tuple [.float .f64 x3, .int .i64 (0 : Int)]) G2

def L_ref01_Div_1 {R : Type} (O : Ora R) (fuel : Nat) (k : KV R) : Bool → Bool → Bool → Int → Int → Int → Int → Int → Int → Bool → Int → Int → Int → Bool → GH → Option R := fun s2 s9 s11 s12 s13 s14 b0_0 b0_1 b0_2 b0_3 b1_0 b1_1 b1_2 b1_3 G =>
  l_ref01_Div_1 O fuel (a_ref01_Div_10 O k) fuel s2 s9 s11 s12 s13 s14 b0_0 b0_1 b0_2 b0_3 b1_0 b1_1 b1_2 b1_3 G

theorem a_ref01_Div_10_raw {R : Type} (O : Ora R) (fuel : Nat) (s2 s9 s11 : Bool) (s12 s13 : Int) (b0_0 b0_1 b0_2 : Int) (b0_3 : Bool) (b1_0 b1_1 b1_2 : Int) (b1_3 : Bool) (G : GH) (k : KV R) :
  contC Tryz.prog O lo43 fuel (Tryz.f43.body.getD .skip) [1, 1, 1, 1, 1, 1, 1, 1, 1, 1, 0, 1, 0] (fun e env F G => match e with | .exit _ => none | _ => resC Tryz.prog Tryz.f43 env F G k) (.exit 0) (mkE 82 [(2, .bool s2), (8, .loc 0 0), (9, .bool s9), (10, .loc 1 0), (11, .bool s11), (12, .int .u64 s12), (13, .int .u64 s13)]) [[.int .u64 b0_0, .int .u64 b0_1, .int .i64 b0_2, .bool b0_3], [.int .u64 b1_0, .int .u64 b1_1, .int .i64 b1_2, .bool b1_3]] G =
  a_ref01_Div_10 O k s2 s9 s11 s12 s13 b0_0 b0_1 b0_2 b0_3 b1_0 b1_1 b1_2 b1_3 G := by kernel_rfl

theorem L_ref01_Div_1_eq {R : Type} (O : Ora R) (fuel : Nat) (k : KV R) :
  (fun (s2 s9 s11 : Bool) (s12 s13 : Int) (s14 b0_0 : Int) (b0_1 b0_2 : Int) (b0_3 : Bool) (b1_0 b1_1 b1_2 : Int) (b1_3 : Bool) (G : GH) => loopN (loopD Tryz.prog O lo43 fuel (nav (Tryz.f43.body.getD .skip) [1, 1, 1, 1, 1, 1, 1, 1, 1, 1, 0, 1, 0, 0]) 56) fuel (mkE 82 [(2, .bool s2), (8, .loc 0 0), (9, .bool s9), (10, .loc 1 0), (11, .bool s11), (12, .int .u64 s12), (13, .int .u64 s13), (14, .int .i64 s14)]) [[.int .u64 b0_0, .int .u64 b0_1, .int .i64 b0_2, .bool b0_3], [.int .u64 b1_0, .int .u64 b1_1, .int .i64 b1_2, .bool b1_3]] G (contC Tryz.prog O lo43 fuel (Tryz.f43.body.getD .skip) [1, 1, 1, 1, 1, 1, 1, 1, 1, 1, 0, 1, 0] (fun e env F G => match e with | .exit _ => none | _ => resC Tryz.prog Tryz.f43 env F G k))) = L_ref01_Div_1 O fuel k := by
  funext s2 s9 s11 s12 s13 s14 b0_0 b0_1 b0_2 b0_3 b1_0 b1_1 b1_2 b1_3 G
  simp only [L_ref01_Div_1, l_ref01_Div_1_eq, a_ref01_Div_10_raw]

def L_ref01_Div_0 {R : Type} (O : Ora R) (fuel : Nat) (k : KV R) : Nat → Nat → Bool → GH → Option R := fun s0 s1 s2 G =>
  stepN fuel (l_ref01_Div_0 O (a_ref01_Div_0N O k (L_ref01_Div_1 O fuel k)) s0 s1 s2 G)

theorem a_ref01_Div_0N_raw {R : Type} (O : Ora R) (fuel s0 s1 : Nat) (s2 s22 : Bool) (G : GH) (k : KV R) :
  contC Tryz.prog O lo43 fuel (Tryz.f43.body.getD .skip) [1, 0, 0] (fun e env F G => match e with | .exit _ => none | _ => resC Tryz.prog Tryz.f43 env F G k) .normal (mkE 82 [(0, .float .f64 s0), (1, .float .f64 s1), (2, .bool s2), (22, .bool s22)]) [] G =
  a_ref01_Div_0N O k (fun s2 s9 s11 s12 s13 s14 b0_0 b0_1 b0_2 b0_3 b1_0 b1_1 b1_2 b1_3 G => loopN (loopD Tryz.prog O lo43 fuel (nav (Tryz.f43.body.getD .skip) [1, 1, 1, 1, 1, 1, 1, 1, 1, 1, 0, 1, 0, 0]) 56) fuel (mkE 82 [(2, .bool s2), (8, .loc 0 0), (9, .bool s9), (10, .loc 1 0), (11, .bool s11), (12, .int .u64 s12), (13, .int .u64 s13), (14, .int .i64 s14)]) [[.int .u64 b0_0, .int .u64 b0_1, .int .i64 b0_2, .bool b0_3], [.int .u64 b1_0, .int .u64 b1_1, .int .i64 b1_2, .bool b1_3]] G (contC Tryz.prog O lo43 fuel (Tryz.f43.body.getD .skip) [1, 1, 1, 1, 1, 1, 1, 1, 1, 1, 0, 1, 0] (fun e env F G => match e with | .exit _ => none | _ => resC Tryz.prog Tryz.f43 env F G k))) s0 s1 s2 s22 G := by kernel_rfl

theorem L_ref01_Div_0_eq {R : Type} (O : Ora R) (fuel : Nat) (k : KV R) :
  (fun (s0 s1 : Nat) (s2 : Bool) (G : GH) => stepN fuel (loopD Tryz.prog O lo43 fuel (nav (Tryz.f43.body.getD .skip) [1, 0, 0]) 11 (mkE 82 [(0, .float .f64 s0), (1, .float .f64 s1), (2, .bool s2)]) [] G (contC Tryz.prog O lo43 fuel (Tryz.f43.body.getD .skip) [1, 0, 0] (fun e env F G => match e with | .exit _ => none | _ => resC Tryz.prog Tryz.f43 env F G k)))) = L_ref01_Div_0 O fuel k := by
  funext s0 s1 s2 G
  simp only [L_ref01_Div_0, l_ref01_Div_0_eq, a_ref01_Div_0N_raw, L_ref01_Div_1_eq]

theorem e_ref01_Div_raw {R : Type} (O : Ora R) (fuel p0 p1 : Nat) (p2 : Bool) (G : GH) (k : KV R) :
  bodyC Tryz.prog O lo43 fuel Tryz.f43 [.float .f64 p0, .float .f64 p1, .bool p2] G k =
  u_ref01_Div O k (fun s0 s1 s2 G => stepN fuel (loopD Tryz.prog O lo43 fuel (nav (Tryz.f43.body.getD .skip) [1, 0, 0]) 11 (mkE 82 [(0, .float .f64 s0), (1, .float .f64 s1), (2, .bool s2)]) [] G (contC Tryz.prog O lo43 fuel (Tryz.f43.body.getD .skip) [1, 0, 0] (fun e env F G => match e with | .exit _ => none | _ => resC Tryz.prog Tryz.f43 env F G k)))) p0 p1 p2 G := by kernel_rfl

theorem e_ref01_Div {R : Type} (O : Ora R) (fuel p0 p1 : Nat) (p2 : Bool) (G : GH) (k : KV R) :
  bodyC Tryz.prog O lo43 fuel Tryz.f43 [.float .f64 p0, .float .f64 p1, .bool p2] G k =
  u_ref01_Div O k (L_ref01_Div_0 O fuel k) p0 p1 p2 G := by
  rw [e_ref01_Div_raw, L_ref01_Div_0_eq]

theorem r_ref01_Div {R : Type} (fuel n p0 p1 : Nat) (p2 : Bool) (G : GH) (k : KV R) :
  runC Tryz.prog lo0 fuel (n + 1) 43 [.float .f64 p0, .float .f64 p1, .bool p2] G k = bodyC Tryz.prog (runC Tryz.prog lo0 fuel n) lo43 fuel Tryz.f43 [.float .f64 p0, .float .f64 p1, .bool p2] G k := run_body Tryz.func43 rfl rfl

end Go.LI.Film
