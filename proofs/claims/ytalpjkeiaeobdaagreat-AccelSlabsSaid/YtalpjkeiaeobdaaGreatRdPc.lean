/- What the interpreter gives for the reference of round (written by slab.py). -/
import Derived.Test.YtalpjkeiaeobdaaGreatSeatA
namespace Go.LI.Film
open Go.Proofs.YtalpjkeiaeobdaaGreat Go Go.Proofs Go.LI
set_option maxRecDepth 100000
set_option linter.unusedVariables false
set_option linter.unusedSimpArgs false
/-! ### lantern/lanternref01.Number -/
theorem e_ref01_Number {R : Type} (O : Ora R) (fuel p0 : Nat) (G : GH) (k : KV R) :
  bodyC Tryz.prog O [888888, 777777] fuel Tryz.f63 [.float .f64 p0] G k =
  k (.bool (match (FloatKind.format .f64).sub p0 p0 with | some r => feq .f64 r 0 | none => false)) G := by kernel_rfl

theorem r_ref01_Number {R : Type} (fuel n p0 : Nat) (G : GH) (k : KV R) :
  runC Tryz.prog lo0 fuel (n + 1) 63 [.float .f64 p0] G k = bodyC Tryz.prog (runC Tryz.prog lo0 fuel n) [888888, 777777] fuel Tryz.f63 [.float .f64 p0] G k := run_body Tryz.func63 rfl rfl

/-! ### lantern/lanternref01.Zeroed -/
theorem e_ref01_Zeroed {R : Type} (O : Ora R) (fuel p0 : Nat) (G : GH) (k : KV R) :
  bodyC Tryz.prog O [777777] fuel Tryz.f69 [.float .f64 p0] G k =
  bif (feq .f64 p0 (0 : Nat)) then
  k (.float .f64 (0 : Nat)) G
  else
  k (.float .f64 p0) G := by kernel_rfl

theorem r_ref01_Zeroed {R : Type} (fuel n p0 : Nat) (G : GH) (k : KV R) :
  runC Tryz.prog lo0 fuel (n + 1) 69 [.float .f64 p0] G k = bodyC Tryz.prog (runC Tryz.prog lo0 fuel n) [777777] fuel Tryz.f69 [.float .f64 p0] G k := run_body Tryz.func69 rfl rfl

/-! ### lantern/lanternref01.Inf -/
theorem e_ref01_Inf {R : Type} (O : Ora R) (fuel : Nat)  (G : GH) (k : KV R) :
  bodyC Tryz.prog O [777777] fuel Tryz.f15 [] G k =
  O fn_math_Float64frombits [.int .u64 (9218868437227405312 : Int)] G fun v1 G2 =>
  (ivFloat .f64 v1).bind fun x3 =>
  k (.float .f64 x3) G2 := by kernel_rfl

theorem r_ref01_Inf {R : Type} (fuel n : Nat)  (G : GH) (k : KV R) :
  runC Tryz.prog lo0 fuel (n + 1) 15 [] G k = bodyC Tryz.prog (runC Tryz.prog lo0 fuel n) [777777] fuel Tryz.f15 [] G k := run_body Tryz.func15 rfl rfl

/-! ### lantern/lanternref01.Most -/
theorem e_ref01_Most {R : Type} (O : Ora R) (fuel : Nat)  (G : GH) (k : KV R) :
  bodyC Tryz.prog O [777777] fuel Tryz.f118 [] G k =
  O fn_math_Float64frombits [.int .u64 (9218868437227405311 : Int)] G fun v1 G2 =>
  (ivFloat .f64 v1).bind fun x3 =>
  k (.float .f64 x3) G2 := by kernel_rfl

theorem r_ref01_Most {R : Type} (fuel n : Nat)  (G : GH) (k : KV R) :
  runC Tryz.prog lo0 fuel (n + 1) 118 [] G k = bodyC Tryz.prog (runC Tryz.prog lo0 fuel n) [777777] fuel Tryz.f118 [] G k := run_body Tryz.func118 rfl rfl

/-! ### lantern/lanternref01.Part -/
def u_ref01_Part_0 {R : Type} (O : Ora R) (KN : Int → Int → Int → Int → Int → Int → Bool → GH → Option R) (s4 s5 : Int) (s6 b0_0 : Int) (b0_1 b0_2 : Int) (b0_3 : Bool) (G : GH) : Option R :=
  bif (decide (s5 > (0 : Int))) then
  KN s4 s5 (orI .u64 s6 (4503599627370496 : Int)) b0_0 b0_1 b0_2 b0_3 G
  else
  KN s4 (1 : Int) s6 b0_0 b0_1 b0_2 b0_3 G

def l_ref01_Part_0 {R : Type} (O : Ora R) (KN : Int → Int → Int → Int → Int → Int → Bool → GH → Option R) : Int → Int → Int → Int → Int → Int → Bool → GH → Option R := fun s4 s5 s6 b0_0 b0_1 b0_2 b0_3 G => u_ref01_Part_0 O KN s4 s5 s6 b0_0 b0_1 b0_2 b0_3 G

theorem u_ref01_Part_0_raw {R : Type} (O : Ora R) (fuel : Nat) (s4 s5 : Int) (s6 b0_0 : Int) (b0_1 b0_2 : Int) (b0_3 : Bool) (G : GH) (k : KE R) :
  loopD Tryz.prog O lo64 fuel (nav (Tryz.f64.body.getD .skip) [1, 1, 1, 1, 0]) 31 (mkE 26 [(2, .loc 0 0), (4, .int .u64 s4), (5, .int .i64 s5), (6, .int .u64 s6)]) [[.int .u64 b0_0, .int .u64 b0_1, .int .i64 b0_2, .bool b0_3]] G k =
  u_ref01_Part_0 O (fun s4 s5 s6 b0_0 b0_1 b0_2 b0_3 G => k .normal (mkE 26 [(2, .loc 0 0), (4, .int .u64 s4), (5, .int .i64 s5), (6, .int .u64 s6)]) [[.int .u64 b0_0, .int .u64 b0_1, .int .i64 b0_2, .bool b0_3]] G) s4 s5 s6 b0_0 b0_1 b0_2 b0_3 G := by kernel_rfl

theorem l_ref01_Part_0_eq {R : Type} (O : Ora R) (fuel : Nat) (k : KE R) : ∀ (s4 s5 : Int) (s6 b0_0 : Int) (b0_1 b0_2 : Int) (b0_3 : Bool) (G : GH),
  loopD Tryz.prog O lo64 fuel (nav (Tryz.f64.body.getD .skip) [1, 1, 1, 1, 0]) 31 (mkE 26 [(2, .loc 0 0), (4, .int .u64 s4), (5, .int .i64 s5), (6, .int .u64 s6)]) [[.int .u64 b0_0, .int .u64 b0_1, .int .i64 b0_2, .bool b0_3]] G k = l_ref01_Part_0 O (fun s4 s5 s6 b0_0 b0_1 b0_2 b0_3 G => k .normal (mkE 26 [(2, .loc 0 0), (4, .int .u64 s4), (5, .int .i64 s5), (6, .int .u64 s6)]) [[.int .u64 b0_0, .int .u64 b0_1, .int .i64 b0_2, .bool b0_3]] G) s4 s5 s6 b0_0 b0_1 b0_2 b0_3 G := by
  intros
  rw [u_ref01_Part_0_raw]
  simp only [l_ref01_Part_0]

def u_ref01_Part {R : Type} (O : Ora R) (k : KV R) (L0 : Int → Int → Int → Int → Int → Int → Bool → GH → Option R) (p0 : Nat) (G : GH) : Option R :=
  O fn_math_Float64bits [.float .f64 p0] G fun v1 G2 =>
  (ivInt .u64 v1).bind fun x3 =>
  L0 x3 (IntKind.wrap .i64 (andI .u64 (shrI .u64 x3 (52 : Int)) (2047 : Int))) (andI .u64 x3 (4503599627370495 : Int)) (0 : Int) (0 : Int) (0 : Int) false G2

def a_ref01_Part_0N {R : Type} (O : Ora R) (k : KV R) (s4 s5 : Int) (s6 b0_0 : Int) (b0_1 b0_2 : Int) (b0_3 : Bool) (G : GH) : Option R :=
  k (.tuple [.agg [.int .u64 (0 : Int), .int .u64 s6, .int .i64 (IntKind.wrap .i64 (s5 - (1075 : Int))), .bool false], .bool ((shrI .u64 s4 (63 : Int)) != (0 : Int))]) G

def L_ref01_Part_0 {R : Type} (O : Ora R) (fuel : Nat) (k : KV R) : Int → Int → Int → Int → Int → Int → Bool → GH → Option R := fun s4 s5 s6 b0_0 b0_1 b0_2 b0_3 G =>
  stepN fuel (l_ref01_Part_0 O (a_ref01_Part_0N O k) s4 s5 s6 b0_0 b0_1 b0_2 b0_3 G)

theorem a_ref01_Part_0N_raw {R : Type} (O : Ora R) (fuel : Nat) (s4 s5 : Int) (s6 b0_0 : Int) (b0_1 b0_2 : Int) (b0_3 : Bool) (G : GH) (k : KV R) :
  contC Tryz.prog O lo64 fuel (Tryz.f64.body.getD .skip) [1, 1, 1, 1, 0] (fun e env F G => match e with | .exit _ => none | _ => resC Tryz.prog Tryz.f64 env F G k) .normal (mkE 26 [(2, .loc 0 0), (4, .int .u64 s4), (5, .int .i64 s5), (6, .int .u64 s6)]) [[.int .u64 b0_0, .int .u64 b0_1, .int .i64 b0_2, .bool b0_3]] G =
  a_ref01_Part_0N O k s4 s5 s6 b0_0 b0_1 b0_2 b0_3 G := by kernel_rfl

theorem L_ref01_Part_0_eq {R : Type} (O : Ora R) (fuel : Nat) (k : KV R) :
  (fun (s4 s5 : Int) (s6 b0_0 : Int) (b0_1 b0_2 : Int) (b0_3 : Bool) (G : GH) => stepN fuel (loopD Tryz.prog O lo64 fuel (nav (Tryz.f64.body.getD .skip) [1, 1, 1, 1, 0]) 31 (mkE 26 [(2, .loc 0 0), (4, .int .u64 s4), (5, .int .i64 s5), (6, .int .u64 s6)]) [[.int .u64 b0_0, .int .u64 b0_1, .int .i64 b0_2, .bool b0_3]] G (contC Tryz.prog O lo64 fuel (Tryz.f64.body.getD .skip) [1, 1, 1, 1, 0] (fun e env F G => match e with | .exit _ => none | _ => resC Tryz.prog Tryz.f64 env F G k)))) = L_ref01_Part_0 O fuel k := by
  funext s4 s5 s6 b0_0 b0_1 b0_2 b0_3 G
  simp only [L_ref01_Part_0, l_ref01_Part_0_eq, a_ref01_Part_0N_raw]

theorem e_ref01_Part_raw {R : Type} (O : Ora R) (fuel p0 : Nat) (G : GH) (k : KV R) :
  bodyC Tryz.prog O lo64 fuel Tryz.f64 [.float .f64 p0] G k =
  u_ref01_Part O k (fun s4 s5 s6 b0_0 b0_1 b0_2 b0_3 G => stepN fuel (loopD Tryz.prog O lo64 fuel (nav (Tryz.f64.body.getD .skip) [1, 1, 1, 1, 0]) 31 (mkE 26 [(2, .loc 0 0), (4, .int .u64 s4), (5, .int .i64 s5), (6, .int .u64 s6)]) [[.int .u64 b0_0, .int .u64 b0_1, .int .i64 b0_2, .bool b0_3]] G (contC Tryz.prog O lo64 fuel (Tryz.f64.body.getD .skip) [1, 1, 1, 1, 0] (fun e env F G => match e with | .exit _ => none | _ => resC Tryz.prog Tryz.f64 env F G k)))) p0 G := by kernel_rfl

theorem e_ref01_Part {R : Type} (O : Ora R) (fuel p0 : Nat) (G : GH) (k : KV R) :
  bodyC Tryz.prog O lo64 fuel Tryz.f64 [.float .f64 p0] G k =
  u_ref01_Part O k (L_ref01_Part_0 O fuel k) p0 G := by
  rw [e_ref01_Part_raw, L_ref01_Part_0_eq]

theorem r_ref01_Part {R : Type} (fuel n p0 : Nat) (G : GH) (k : KV R) :
  runC Tryz.prog lo0 fuel (n + 1) 64 [.float .f64 p0] G k = bodyC Tryz.prog (runC Tryz.prog lo0 fuel n) lo64 fuel Tryz.f64 [.float .f64 p0] G k := run_body Tryz.func64 rfl rfl

/-! ### lantern/lanternref01.Length -/
def u_ref01_Length_0 {R : Type} (O : Ora R) (KN : Int → Int → Int → Int → Int → Bool → GH → Option R) (s3 s4 : Int) (b0_0 b0_1 b0_2 : Int) (b0_3 : Bool) (G : GH) : Option R :=
  bif (b0_0 != (0 : Int)) then
  KN (64 : Int) b0_0 b0_0 b0_1 b0_2 b0_3 G
  else
  KN s3 s4 b0_0 b0_1 b0_2 b0_3 G

def l_ref01_Length_0 {R : Type} (O : Ora R) (KN : Int → Int → Int → Int → Int → Bool → GH → Option R) : Int → Int → Int → Int → Int → Bool → GH → Option R := fun s3 s4 b0_0 b0_1 b0_2 b0_3 G => u_ref01_Length_0 O KN s3 s4 b0_0 b0_1 b0_2 b0_3 G

theorem u_ref01_Length_0_raw {R : Type} (O : Ora R) (fuel : Nat) (s3 s4 : Int) (b0_0 b0_1 b0_2 : Int) (b0_3 : Bool) (G : GH) (k : KE R) :
  loopD Tryz.prog O lo66 fuel (nav (Tryz.f66.body.getD .skip) [1, 1, 1, 0]) 27 (mkE 31 [(1, .loc 0 0), (3, .int .i64 s3), (4, .int .u64 s4)]) [[.int .u64 b0_0, .int .u64 b0_1, .int .i64 b0_2, .bool b0_3]] G k =
  u_ref01_Length_0 O (fun s3 s4 b0_0 b0_1 b0_2 b0_3 G => k .normal (mkE 31 [(3, .int .i64 s3), (4, .int .u64 s4)]) [[.int .u64 b0_0, .int .u64 b0_1, .int .i64 b0_2, .bool b0_3]] G) s3 s4 b0_0 b0_1 b0_2 b0_3 G := by kernel_rfl

theorem l_ref01_Length_0_eq {R : Type} (O : Ora R) (fuel : Nat) (k : KE R) : ∀ (s3 s4 : Int) (b0_0 b0_1 b0_2 : Int) (b0_3 : Bool) (G : GH),
  loopD Tryz.prog O lo66 fuel (nav (Tryz.f66.body.getD .skip) [1, 1, 1, 0]) 27 (mkE 31 [(1, .loc 0 0), (3, .int .i64 s3), (4, .int .u64 s4)]) [[.int .u64 b0_0, .int .u64 b0_1, .int .i64 b0_2, .bool b0_3]] G k = l_ref01_Length_0 O (fun s3 s4 b0_0 b0_1 b0_2 b0_3 G => k .normal (mkE 31 [(3, .int .i64 s3), (4, .int .u64 s4)]) [[.int .u64 b0_0, .int .u64 b0_1, .int .i64 b0_2, .bool b0_3]] G) s3 s4 b0_0 b0_1 b0_2 b0_3 G := by
  intros
  rw [u_ref01_Length_0_raw]
  simp only [l_ref01_Length_0]

def u_ref01_Length_2 {R : Type} (O : Ora R) (KN : Int → Int → Int → Int → Int → Int → Bool → GH → Option R) (s3 s4 : Int) (s5 b0_0 : Int) (b0_1 b0_2 : Int) (b0_3 : Bool) (G : GH) : Option R :=
  bif decide (s5 < 0) then none else
  bif ((shrI .u64 s4 s5) != (0 : Int)) then
  bif decide (s5 < 0) then none else
  KN (IntKind.wrap .i64 (s3 + s5)) (shrI .u64 s4 s5) s5 b0_0 b0_1 b0_2 b0_3 G
  else
  KN s3 s4 s5 b0_0 b0_1 b0_2 b0_3 G

def l_ref01_Length_2 {R : Type} (O : Ora R) (KN : Int → Int → Int → Int → Int → Int → Bool → GH → Option R) : Int → Int → Int → Int → Int → Int → Bool → GH → Option R := fun s3 s4 s5 b0_0 b0_1 b0_2 b0_3 G => u_ref01_Length_2 O KN s3 s4 s5 b0_0 b0_1 b0_2 b0_3 G

theorem u_ref01_Length_2_raw {R : Type} (O : Ora R) (fuel : Nat) (s3 s4 : Int) (s5 b0_0 : Int) (b0_1 b0_2 : Int) (b0_3 : Bool) (G : GH) (k : KE R) :
  loopD Tryz.prog O lo66 fuel (nav (Tryz.f66.body.getD .skip) [1, 1, 1, 1, 0, 1, 0, 0, 1, 0]) 35 (mkE 31 [(3, .int .i64 s3), (4, .int .u64 s4), (5, .int .i64 s5)]) [[.int .u64 b0_0, .int .u64 b0_1, .int .i64 b0_2, .bool b0_3]] G k =
  u_ref01_Length_2 O (fun s3 s4 s5 b0_0 b0_1 b0_2 b0_3 G => k .normal (mkE 31 [(3, .int .i64 s3), (4, .int .u64 s4), (5, .int .i64 s5)]) [[.int .u64 b0_0, .int .u64 b0_1, .int .i64 b0_2, .bool b0_3]] G) s3 s4 s5 b0_0 b0_1 b0_2 b0_3 G := by kernel_rfl

theorem l_ref01_Length_2_eq {R : Type} (O : Ora R) (fuel : Nat) (k : KE R) : ∀ (s3 s4 : Int) (s5 b0_0 : Int) (b0_1 b0_2 : Int) (b0_3 : Bool) (G : GH),
  loopD Tryz.prog O lo66 fuel (nav (Tryz.f66.body.getD .skip) [1, 1, 1, 1, 0, 1, 0, 0, 1, 0]) 35 (mkE 31 [(3, .int .i64 s3), (4, .int .u64 s4), (5, .int .i64 s5)]) [[.int .u64 b0_0, .int .u64 b0_1, .int .i64 b0_2, .bool b0_3]] G k = l_ref01_Length_2 O (fun s3 s4 s5 b0_0 b0_1 b0_2 b0_3 G => k .normal (mkE 31 [(3, .int .i64 s3), (4, .int .u64 s4), (5, .int .i64 s5)]) [[.int .u64 b0_0, .int .u64 b0_1, .int .i64 b0_2, .bool b0_3]] G) s3 s4 s5 b0_0 b0_1 b0_2 b0_3 G := by
  intros
  rw [u_ref01_Length_2_raw]
  simp only [l_ref01_Length_2]

def u_ref01_Length_1 {R : Type} (O : Ora R) (KN : Int → Int → Int → Int → Int → Int → Bool → GH → Option R) (K0 : Int → Int → Int → Int → Int → Bool → GH → Option R) (L2 : Int → Int → Int → Int → Int → Int → Bool → GH → Option R) (s3 s4 : Int) (s5 b0_0 : Int) (b0_1 b0_2 : Int) (b0_3 : Bool) (G : GH) : Option R :=
  bif (decide (s5 > (0 : Int))) then
  L2 s3 s4 s5 b0_0 b0_1 b0_2 b0_3 G
  else
  K0 s3 s4 b0_0 b0_1 b0_2 b0_3 G

def a_ref01_Length_2N {R : Type} (O : Ora R) (KN : Int → Int → Int → Int → Int → Int → Bool → GH → Option R) (K0 : Int → Int → Int → Int → Int → Bool → GH → Option R) (s3 s4 : Int) (s5 b0_0 : Int) (b0_1 b0_2 : Int) (b0_3 : Bool) (G : GH) : Option R :=
  KN s3 s4 (IntKind.wrap .i64 (Int.tdiv s5 (2 : Int))) b0_0 b0_1 b0_2 b0_3 G

def L_ref01_Length_2 {R : Type} (O : Ora R) (fuel : Nat) (KN : Int → Int → Int → Int → Int → Int → Bool → GH → Option R) (K0 : Int → Int → Int → Int → Int → Bool → GH → Option R) : Int → Int → Int → Int → Int → Int → Bool → GH → Option R := fun s3 s4 s5 b0_0 b0_1 b0_2 b0_3 G =>
  stepN fuel (l_ref01_Length_2 O (a_ref01_Length_2N O KN K0) s3 s4 s5 b0_0 b0_1 b0_2 b0_3 G)

theorem a_ref01_Length_2N_raw {R : Type} (O : Ora R) (fuel : Nat) (s3 s4 : Int) (s5 b0_0 : Int) (b0_1 b0_2 : Int) (b0_3 : Bool) (G : GH) (k : KE R) :
  contC Tryz.prog O lo66 fuel (nav (Tryz.f66.body.getD .skip) [1, 1, 1, 1, 0, 1, 0, 0]) [1, 0] (kpD lo66 28 1 k) .normal (mkE 31 [(3, .int .i64 s3), (4, .int .u64 s4), (5, .int .i64 s5)]) [[.int .u64 b0_0, .int .u64 b0_1, .int .i64 b0_2, .bool b0_3]] G =
  a_ref01_Length_2N O (fun s3 s4 s5 b0_0 b0_1 b0_2 b0_3 G => k .normal (mkE 31 [(3, .int .i64 s3), (4, .int .u64 s4), (5, .int .i64 s5)]) [[.int .u64 b0_0, .int .u64 b0_1, .int .i64 b0_2, .bool b0_3]] G) (fun s3 s4 b0_0 b0_1 b0_2 b0_3 G => k (.exit 0) (mkE 31 [(3, .int .i64 s3), (4, .int .u64 s4)]) [[.int .u64 b0_0, .int .u64 b0_1, .int .i64 b0_2, .bool b0_3]] G) s3 s4 s5 b0_0 b0_1 b0_2 b0_3 G := by kernel_rfl

theorem L_ref01_Length_2_eq {R : Type} (O : Ora R) (fuel : Nat) (k : KE R) :
  (fun (s3 s4 : Int) (s5 b0_0 : Int) (b0_1 b0_2 : Int) (b0_3 : Bool) (G : GH) => stepN fuel (loopD Tryz.prog O lo66 fuel (nav (Tryz.f66.body.getD .skip) [1, 1, 1, 1, 0, 1, 0, 0, 1, 0]) 35 (mkE 31 [(3, .int .i64 s3), (4, .int .u64 s4), (5, .int .i64 s5)]) [[.int .u64 b0_0, .int .u64 b0_1, .int .i64 b0_2, .bool b0_3]] G (contC Tryz.prog O lo66 fuel (nav (Tryz.f66.body.getD .skip) [1, 1, 1, 1, 0, 1, 0, 0]) [1, 0] (kpD lo66 28 1 k)))) = L_ref01_Length_2 O fuel (fun (s3 s4 : Int) (s5 b0_0 : Int) (b0_1 b0_2 : Int) (b0_3 : Bool) (G : GH) => k .normal (mkE 31 [(3, .int .i64 s3), (4, .int .u64 s4), (5, .int .i64 s5)]) [[.int .u64 b0_0, .int .u64 b0_1, .int .i64 b0_2, .bool b0_3]] G) (fun (s3 s4 : Int) (b0_0 b0_1 b0_2 : Int) (b0_3 : Bool) (G : GH) => k (.exit 0) (mkE 31 [(3, .int .i64 s3), (4, .int .u64 s4)]) [[.int .u64 b0_0, .int .u64 b0_1, .int .i64 b0_2, .bool b0_3]] G) := by
  funext s3 s4 s5 b0_0 b0_1 b0_2 b0_3 G
  simp only [L_ref01_Length_2, l_ref01_Length_2_eq, a_ref01_Length_2N_raw]

def l_ref01_Length_1 {R : Type} (O : Ora R) (fuel : Nat) (K0 : Int → Int → Int → Int → Int → Bool → GH → Option R) : Nat → Int → Int → Int → Int → Int → Int → Bool → GH → Option R
  | 0, _, _, _, _, _, _, _, _ => none
  | n + 1, s3, s4, s5, b0_0, b0_1, b0_2, b0_3, G => u_ref01_Length_1 O (l_ref01_Length_1 O fuel K0 n) K0 (L_ref01_Length_2 O fuel (l_ref01_Length_1 O fuel K0 n) K0) s3 s4 s5 b0_0 b0_1 b0_2 b0_3 G

theorem u_ref01_Length_1_raw {R : Type} (O : Ora R) (fuel : Nat) (s3 s4 : Int) (s5 b0_0 : Int) (b0_1 b0_2 : Int) (b0_3 : Bool) (G : GH) (k : KE R) :
  loopD Tryz.prog O lo66 fuel (nav (Tryz.f66.body.getD .skip) [1, 1, 1, 1, 0, 1, 0, 0]) 28 (mkE 31 [(3, .int .i64 s3), (4, .int .u64 s4), (5, .int .i64 s5)]) [[.int .u64 b0_0, .int .u64 b0_1, .int .i64 b0_2, .bool b0_3]] G k =
  u_ref01_Length_1 O (fun s3 s4 s5 b0_0 b0_1 b0_2 b0_3 G => k .normal (mkE 31 [(3, .int .i64 s3), (4, .int .u64 s4), (5, .int .i64 s5)]) [[.int .u64 b0_0, .int .u64 b0_1, .int .i64 b0_2, .bool b0_3]] G) (fun s3 s4 b0_0 b0_1 b0_2 b0_3 G => k (.exit 0) (mkE 31 [(3, .int .i64 s3), (4, .int .u64 s4)]) [[.int .u64 b0_0, .int .u64 b0_1, .int .i64 b0_2, .bool b0_3]] G) (fun s3 s4 s5 b0_0 b0_1 b0_2 b0_3 G => stepN fuel (loopD Tryz.prog O lo66 fuel (nav (Tryz.f66.body.getD .skip) [1, 1, 1, 1, 0, 1, 0, 0, 1, 0]) 35 (mkE 31 [(3, .int .i64 s3), (4, .int .u64 s4), (5, .int .i64 s5)]) [[.int .u64 b0_0, .int .u64 b0_1, .int .i64 b0_2, .bool b0_3]] G (contC Tryz.prog O lo66 fuel (nav (Tryz.f66.body.getD .skip) [1, 1, 1, 1, 0, 1, 0, 0]) [1, 0] (kpD lo66 28 1 k)))) s3 s4 s5 b0_0 b0_1 b0_2 b0_3 G := by kernel_rfl

theorem l_ref01_Length_1_eq {R : Type} (O : Ora R) (fuel : Nat) (k : KE R) : ∀ (n : Nat) (s3 s4 : Int) (s5 b0_0 : Int) (b0_1 b0_2 : Int) (b0_3 : Bool) (G : GH),
  loopN (loopD Tryz.prog O lo66 fuel (nav (Tryz.f66.body.getD .skip) [1, 1, 1, 1, 0, 1, 0, 0]) 28) n (mkE 31 [(3, .int .i64 s3), (4, .int .u64 s4), (5, .int .i64 s5)]) [[.int .u64 b0_0, .int .u64 b0_1, .int .i64 b0_2, .bool b0_3]] G k = l_ref01_Length_1 O fuel (fun s3 s4 b0_0 b0_1 b0_2 b0_3 G => k (.exit 0) (mkE 31 [(3, .int .i64 s3), (4, .int .u64 s4)]) [[.int .u64 b0_0, .int .u64 b0_1, .int .i64 b0_2, .bool b0_3]] G) n s3 s4 s5 b0_0 b0_1 b0_2 b0_3 G := by
  intro n
  induction n with
  | zero => intros; first | rfl | simp only [loopN, l_ref01_Length_1]
  | succ n ih =>
    intros
    rw [loopN_succ, u_ref01_Length_1_raw]
    simp only [l_ref01_Length_1, loopK_normal, loopK_exit, loopK_ret, ih, L_ref01_Length_2_eq]

def u_ref01_Length {R : Type} (O : Ora R) (k : KV R) (L0 : Int → Int → Int → Int → Int → Bool → GH → Option R) (p0_0 p0_1 p0_2 : Int) (p0_3 : Bool) (G : GH) : Option R :=
  L0 (0 : Int) p0_1 p0_0 p0_1 p0_2 p0_3 G

def a_ref01_Length_0N {R : Type} (O : Ora R) (k : KV R) (L1 : Int → Int → Int → Int → Int → Int → Bool → GH → Option R) (s3 s4 : Int) (b0_0 b0_1 b0_2 : Int) (b0_3 : Bool) (G : GH) : Option R :=
  L1 s3 s4 (32 : Int) b0_0 b0_1 b0_2 b0_3 G

def a_ref01_Length_10 {R : Type} (O : Ora R) (k : KV R) (s3 s4 : Int) (b0_0 b0_1 b0_2 : Int) (b0_3 : Bool) (G : GH) : Option R :=
  k (.int .i64 (IntKind.wrap .i64 (s3 + (IntKind.wrap .i64 s4)))) G

def L_ref01_Length_1 {R : Type} (O : Ora R) (fuel : Nat) (k : KV R) : Int → Int → Int → Int → Int → Int → Bool → GH → Option R := fun s3 s4 s5 b0_0 b0_1 b0_2 b0_3 G =>
  l_ref01_Length_1 O fuel (a_ref01_Length_10 O k) fuel s3 s4 s5 b0_0 b0_1 b0_2 b0_3 G

theorem a_ref01_Length_10_raw {R : Type} (O : Ora R) (fuel : Nat) (s3 s4 : Int) (b0_0 b0_1 b0_2 : Int) (b0_3 : Bool) (G : GH) (k : KV R) :
  contC Tryz.prog O lo66 fuel (Tryz.f66.body.getD .skip) [1, 1, 1, 1, 0, 1, 0] (fun e env F G => match e with | .exit _ => none | _ => resC Tryz.prog Tryz.f66 env F G k) (.exit 0) (mkE 31 [(3, .int .i64 s3), (4, .int .u64 s4)]) [[.int .u64 b0_0, .int .u64 b0_1, .int .i64 b0_2, .bool b0_3]] G =
  a_ref01_Length_10 O k s3 s4 b0_0 b0_1 b0_2 b0_3 G := by kernel_rfl

theorem L_ref01_Length_1_eq {R : Type} (O : Ora R) (fuel : Nat) (k : KV R) :
  (fun (s3 s4 : Int) (s5 b0_0 : Int) (b0_1 b0_2 : Int) (b0_3 : Bool) (G : GH) => loopN (loopD Tryz.prog O lo66 fuel (nav (Tryz.f66.body.getD .skip) [1, 1, 1, 1, 0, 1, 0, 0]) 28) fuel (mkE 31 [(3, .int .i64 s3), (4, .int .u64 s4), (5, .int .i64 s5)]) [[.int .u64 b0_0, .int .u64 b0_1, .int .i64 b0_2, .bool b0_3]] G (contC Tryz.prog O lo66 fuel (Tryz.f66.body.getD .skip) [1, 1, 1, 1, 0, 1, 0] (fun e env F G => match e with | .exit _ => none | _ => resC Tryz.prog Tryz.f66 env F G k))) = L_ref01_Length_1 O fuel k := by
  funext s3 s4 s5 b0_0 b0_1 b0_2 b0_3 G
  simp only [L_ref01_Length_1, l_ref01_Length_1_eq, a_ref01_Length_10_raw]

def L_ref01_Length_0 {R : Type} (O : Ora R) (fuel : Nat) (k : KV R) : Int → Int → Int → Int → Int → Bool → GH → Option R := fun s3 s4 b0_0 b0_1 b0_2 b0_3 G =>
  stepN fuel (l_ref01_Length_0 O (a_ref01_Length_0N O k (L_ref01_Length_1 O fuel k)) s3 s4 b0_0 b0_1 b0_2 b0_3 G)

theorem a_ref01_Length_0N_raw {R : Type} (O : Ora R) (fuel : Nat) (s3 s4 : Int) (b0_0 b0_1 b0_2 : Int) (b0_3 : Bool) (G : GH) (k : KV R) :
  contC Tryz.prog O lo66 fuel (Tryz.f66.body.getD .skip) [1, 1, 1, 0] (fun e env F G => match e with | .exit _ => none | _ => resC Tryz.prog Tryz.f66 env F G k) .normal (mkE 31 [(3, .int .i64 s3), (4, .int .u64 s4)]) [[.int .u64 b0_0, .int .u64 b0_1, .int .i64 b0_2, .bool b0_3]] G =
  a_ref01_Length_0N O k (fun s3 s4 s5 b0_0 b0_1 b0_2 b0_3 G => loopN (loopD Tryz.prog O lo66 fuel (nav (Tryz.f66.body.getD .skip) [1, 1, 1, 1, 0, 1, 0, 0]) 28) fuel (mkE 31 [(3, .int .i64 s3), (4, .int .u64 s4), (5, .int .i64 s5)]) [[.int .u64 b0_0, .int .u64 b0_1, .int .i64 b0_2, .bool b0_3]] G (contC Tryz.prog O lo66 fuel (Tryz.f66.body.getD .skip) [1, 1, 1, 1, 0, 1, 0] (fun e env F G => match e with | .exit _ => none | _ => resC Tryz.prog Tryz.f66 env F G k))) s3 s4 b0_0 b0_1 b0_2 b0_3 G := by kernel_rfl

theorem L_ref01_Length_0_eq {R : Type} (O : Ora R) (fuel : Nat) (k : KV R) :
  (fun (s3 s4 : Int) (b0_0 b0_1 b0_2 : Int) (b0_3 : Bool) (G : GH) => stepN fuel (loopD Tryz.prog O lo66 fuel (nav (Tryz.f66.body.getD .skip) [1, 1, 1, 0]) 27 (mkE 31 [(1, .loc 0 0), (3, .int .i64 s3), (4, .int .u64 s4)]) [[.int .u64 b0_0, .int .u64 b0_1, .int .i64 b0_2, .bool b0_3]] G (contC Tryz.prog O lo66 fuel (Tryz.f66.body.getD .skip) [1, 1, 1, 0] (fun e env F G => match e with | .exit _ => none | _ => resC Tryz.prog Tryz.f66 env F G k)))) = L_ref01_Length_0 O fuel k := by
  funext s3 s4 b0_0 b0_1 b0_2 b0_3 G
  simp only [L_ref01_Length_0, l_ref01_Length_0_eq, a_ref01_Length_0N_raw, L_ref01_Length_1_eq]

theorem e_ref01_Length_raw {R : Type} (O : Ora R) (fuel : Nat) (p0_0 p0_1 p0_2 : Int) (p0_3 : Bool) (G : GH) (k : KV R) :
  bodyC Tryz.prog O lo66 fuel Tryz.f66 [.agg [.int .u64 p0_0, .int .u64 p0_1, .int .i64 p0_2, .bool p0_3]] G k =
  u_ref01_Length O k (fun s3 s4 b0_0 b0_1 b0_2 b0_3 G => stepN fuel (loopD Tryz.prog O lo66 fuel (nav (Tryz.f66.body.getD .skip) [1, 1, 1, 0]) 27 (mkE 31 [(1, .loc 0 0), (3, .int .i64 s3), (4, .int .u64 s4)]) [[.int .u64 b0_0, .int .u64 b0_1, .int .i64 b0_2, .bool b0_3]] G (contC Tryz.prog O lo66 fuel (Tryz.f66.body.getD .skip) [1, 1, 1, 0] (fun e env F G => match e with | .exit _ => none | _ => resC Tryz.prog Tryz.f66 env F G k)))) p0_0 p0_1 p0_2 p0_3 G := by kernel_rfl

theorem e_ref01_Length {R : Type} (O : Ora R) (fuel : Nat) (p0_0 p0_1 p0_2 : Int) (p0_3 : Bool) (G : GH) (k : KV R) :
  bodyC Tryz.prog O lo66 fuel Tryz.f66 [.agg [.int .u64 p0_0, .int .u64 p0_1, .int .i64 p0_2, .bool p0_3]] G k =
  u_ref01_Length O k (L_ref01_Length_0 O fuel k) p0_0 p0_1 p0_2 p0_3 G := by
  rw [e_ref01_Length_raw, L_ref01_Length_0_eq]

theorem r_ref01_Length {R : Type} (fuel n : Nat) (p0_0 p0_1 p0_2 : Int) (p0_3 : Bool) (G : GH) (k : KV R) :
  runC Tryz.prog lo0 fuel (n + 1) 66 [.agg [.int .u64 p0_0, .int .u64 p0_1, .int .i64 p0_2, .bool p0_3]] G k = bodyC Tryz.prog (runC Tryz.prog lo0 fuel n) lo66 fuel Tryz.f66 [.agg [.int .u64 p0_0, .int .u64 p0_1, .int .i64 p0_2, .bool p0_3]] G k := run_body Tryz.func66 rfl rfl

/-! ### lantern/lanternref01.Up -/
def u_ref01_Up_0 {R : Type} (O : Ora R) (KN : Int → Int → Int → Int → Bool → Int → Int → Int → Bool → GH → Option R) (s1 b0_0 : Int) (b0_1 b0_2 : Int) (b0_3 : Bool) (b1_0 b1_1 b1_2 : Int) (b1_3 : Bool) (G : GH) : Option R :=
  bif (decide (s1 ≥ (64 : Int))) then
  bif decide ((IntKind.wrap .i64 (s1 - (64 : Int))) < 0) then none else
  KN s1 (shlI .u64 b0_1 (IntKind.wrap .i64 (s1 - (64 : Int)))) (0 : Int) b0_2 b0_3 b1_0 b1_1 b1_2 b1_3 G
  else
  bif (decide (s1 > (0 : Int))) then
  bif decide (s1 < 0) then none else
  bif decide ((IntKind.wrap .i64 ((64 : Int) - s1)) < 0) then none else
  bif decide (s1 < 0) then none else
  KN s1 (orI .u64 (shlI .u64 b0_0 s1) (shrI .u64 b0_1 (IntKind.wrap .i64 ((64 : Int) - s1)))) (shlI .u64 b0_1 s1) b0_2 b0_3 b1_0 b1_1 b1_2 b1_3 G
  else
  KN s1 b0_0 b0_1 b0_2 b0_3 b1_0 b1_1 b1_2 b1_3 G

def l_ref01_Up_0 {R : Type} (O : Ora R) (KN : Int → Int → Int → Int → Bool → Int → Int → Int → Bool → GH → Option R) : Int → Int → Int → Int → Bool → Int → Int → Int → Bool → GH → Option R := fun s1 b0_0 b0_1 b0_2 b0_3 b1_0 b1_1 b1_2 b1_3 G => u_ref01_Up_0 O KN s1 b0_0 b0_1 b0_2 b0_3 b1_0 b1_1 b1_2 b1_3 G

theorem u_ref01_Up_0_raw {R : Type} (O : Ora R) (fuel : Nat) (s1 b0_0 : Int) (b0_1 b0_2 : Int) (b0_3 : Bool) (b1_0 b1_1 b1_2 : Int) (b1_3 : Bool) (G : GH) (k : KE R) :
  loopD Tryz.prog O lo65 fuel (nav (Tryz.f65.body.getD .skip) [1, 0]) 31 (mkE 38 [(1, .int .i64 s1), (2, .loc 0 0), (4, .loc 1 0)]) [[.int .u64 b0_0, .int .u64 b0_1, .int .i64 b0_2, .bool b0_3], [.int .u64 b1_0, .int .u64 b1_1, .int .i64 b1_2, .bool b1_3]] G k =
  u_ref01_Up_0 O (fun s1 b0_0 b0_1 b0_2 b0_3 b1_0 b1_1 b1_2 b1_3 G => k .normal (mkE 38 [(1, .int .i64 s1), (2, .loc 0 0), (4, .loc 1 0)]) [[.int .u64 b0_0, .int .u64 b0_1, .int .i64 b0_2, .bool b0_3], [.int .u64 b1_0, .int .u64 b1_1, .int .i64 b1_2, .bool b1_3]] G) s1 b0_0 b0_1 b0_2 b0_3 b1_0 b1_1 b1_2 b1_3 G := by kernel_rfl

theorem l_ref01_Up_0_eq {R : Type} (O : Ora R) (fuel : Nat) (k : KE R) : ∀ (s1 b0_0 : Int) (b0_1 b0_2 : Int) (b0_3 : Bool) (b1_0 b1_1 b1_2 : Int) (b1_3 : Bool) (G : GH),
  loopD Tryz.prog O lo65 fuel (nav (Tryz.f65.body.getD .skip) [1, 0]) 31 (mkE 38 [(1, .int .i64 s1), (2, .loc 0 0), (4, .loc 1 0)]) [[.int .u64 b0_0, .int .u64 b0_1, .int .i64 b0_2, .bool b0_3], [.int .u64 b1_0, .int .u64 b1_1, .int .i64 b1_2, .bool b1_3]] G k = l_ref01_Up_0 O (fun s1 b0_0 b0_1 b0_2 b0_3 b1_0 b1_1 b1_2 b1_3 G => k .normal (mkE 38 [(1, .int .i64 s1), (2, .loc 0 0), (4, .loc 1 0)]) [[.int .u64 b0_0, .int .u64 b0_1, .int .i64 b0_2, .bool b0_3], [.int .u64 b1_0, .int .u64 b1_1, .int .i64 b1_2, .bool b1_3]] G) s1 b0_0 b0_1 b0_2 b0_3 b1_0 b1_1 b1_2 b1_3 G := by
  intros
  rw [u_ref01_Up_0_raw]
  simp only [l_ref01_Up_0]

def u_ref01_Up {R : Type} (O : Ora R) (k : KV R) (L0 : Int → Int → Int → Int → Bool → Int → Int → Int → Bool → GH → Option R) (p0_0 p0_1 p0_2 : Int) (p0_3 : Bool) (p1 : Int) (G : GH) : Option R :=
  L0 p1 p0_0 p0_1 p0_2 p0_3 (0 : Int) (0 : Int) (0 : Int) false G

def a_ref01_Up_0N {R : Type} (O : Ora R) (k : KV R) (s1 b0_0 : Int) (b0_1 b0_2 : Int) (b0_3 : Bool) (b1_0 b1_1 b1_2 : Int) (b1_3 : Bool) (G : GH) : Option R :=
  k (.agg [.int .u64 b0_0, .int .u64 b0_1, .int .i64 (IntKind.wrap .i64 (b0_2 - s1)), .bool b0_3]) G

def L_ref01_Up_0 {R : Type} (O : Ora R) (fuel : Nat) (k : KV R) : Int → Int → Int → Int → Bool → Int → Int → Int → Bool → GH → Option R := fun s1 b0_0 b0_1 b0_2 b0_3 b1_0 b1_1 b1_2 b1_3 G =>
  stepN fuel (l_ref01_Up_0 O (a_ref01_Up_0N O k) s1 b0_0 b0_1 b0_2 b0_3 b1_0 b1_1 b1_2 b1_3 G)

theorem a_ref01_Up_0N_raw {R : Type} (O : Ora R) (fuel : Nat) (s1 b0_0 : Int) (b0_1 b0_2 : Int) (b0_3 : Bool) (b1_0 b1_1 b1_2 : Int) (b1_3 : Bool) (G : GH) (k : KV R) :
  contC Tryz.prog O lo65 fuel (Tryz.f65.body.getD .skip) [1, 0] (fun e env F G => match e with | .exit _ => none | _ => resC Tryz.prog Tryz.f65 env F G k) .normal (mkE 38 [(1, .int .i64 s1), (2, .loc 0 0), (4, .loc 1 0)]) [[.int .u64 b0_0, .int .u64 b0_1, .int .i64 b0_2, .bool b0_3], [.int .u64 b1_0, .int .u64 b1_1, .int .i64 b1_2, .bool b1_3]] G =
  a_ref01_Up_0N O k s1 b0_0 b0_1 b0_2 b0_3 b1_0 b1_1 b1_2 b1_3 G := by kernel_rfl

theorem L_ref01_Up_0_eq {R : Type} (O : Ora R) (fuel : Nat) (k : KV R) :
  (fun (s1 b0_0 : Int) (b0_1 b0_2 : Int) (b0_3 : Bool) (b1_0 b1_1 b1_2 : Int) (b1_3 : Bool) (G : GH) => stepN fuel (loopD Tryz.prog O lo65 fuel (nav (Tryz.f65.body.getD .skip) [1, 0]) 31 (mkE 38 [(1, .int .i64 s1), (2, .loc 0 0), (4, .loc 1 0)]) [[.int .u64 b0_0, .int .u64 b0_1, .int .i64 b0_2, .bool b0_3], [.int .u64 b1_0, .int .u64 b1_1, .int .i64 b1_2, .bool b1_3]] G (contC Tryz.prog O lo65 fuel (Tryz.f65.body.getD .skip) [1, 0] (fun e env F G => match e with | .exit _ => none | _ => resC Tryz.prog Tryz.f65 env F G k)))) = L_ref01_Up_0 O fuel k := by
  funext s1 b0_0 b0_1 b0_2 b0_3 b1_0 b1_1 b1_2 b1_3 G
  simp only [L_ref01_Up_0, l_ref01_Up_0_eq, a_ref01_Up_0N_raw]

theorem e_ref01_Up_raw {R : Type} (O : Ora R) (fuel : Nat) (p0_0 p0_1 p0_2 : Int) (p0_3 : Bool) (p1 : Int) (G : GH) (k : KV R) :
  bodyC Tryz.prog O lo65 fuel Tryz.f65 [.agg [.int .u64 p0_0, .int .u64 p0_1, .int .i64 p0_2, .bool p0_3], .int .i64 p1] G k =
  u_ref01_Up O k (fun s1 b0_0 b0_1 b0_2 b0_3 b1_0 b1_1 b1_2 b1_3 G => stepN fuel (loopD Tryz.prog O lo65 fuel (nav (Tryz.f65.body.getD .skip) [1, 0]) 31 (mkE 38 [(1, .int .i64 s1), (2, .loc 0 0), (4, .loc 1 0)]) [[.int .u64 b0_0, .int .u64 b0_1, .int .i64 b0_2, .bool b0_3], [.int .u64 b1_0, .int .u64 b1_1, .int .i64 b1_2, .bool b1_3]] G (contC Tryz.prog O lo65 fuel (Tryz.f65.body.getD .skip) [1, 0] (fun e env F G => match e with | .exit _ => none | _ => resC Tryz.prog Tryz.f65 env F G k)))) p0_0 p0_1 p0_2 p0_3 p1 G := by kernel_rfl

theorem e_ref01_Up {R : Type} (O : Ora R) (fuel : Nat) (p0_0 p0_1 p0_2 : Int) (p0_3 : Bool) (p1 : Int) (G : GH) (k : KV R) :
  bodyC Tryz.prog O lo65 fuel Tryz.f65 [.agg [.int .u64 p0_0, .int .u64 p0_1, .int .i64 p0_2, .bool p0_3], .int .i64 p1] G k =
  u_ref01_Up O k (L_ref01_Up_0 O fuel k) p0_0 p0_1 p0_2 p0_3 p1 G := by
  rw [e_ref01_Up_raw, L_ref01_Up_0_eq]

theorem r_ref01_Up {R : Type} (fuel n : Nat) (p0_0 p0_1 p0_2 : Int) (p0_3 : Bool) (p1 : Int) (G : GH) (k : KV R) :
  runC Tryz.prog lo0 fuel (n + 1) 65 [.agg [.int .u64 p0_0, .int .u64 p0_1, .int .i64 p0_2, .bool p0_3], .int .i64 p1] G k = bodyC Tryz.prog (runC Tryz.prog lo0 fuel n) lo65 fuel Tryz.f65 [.agg [.int .u64 p0_0, .int .u64 p0_1, .int .i64 p0_2, .bool p0_3], .int .i64 p1] G k := run_body Tryz.func65 rfl rfl

/-! ### lantern/lanternref01.Down -/
def u_ref01_Down_1 {R : Type} (O : Ora R) (KN : Int → Int → Int → Int → Bool → Int → Int → Int → Bool → GH → Option R) (s1 b0_0 : Int) (b0_1 b0_2 : Int) (b0_3 : Bool) (b1_0 b1_1 b1_2 : Int) (b1_3 : Bool) (G : GH) : Option R :=
  bif b0_3 then
  KN s1 b0_0 b0_1 b0_2 true b1_0 b1_1 b1_2 b1_3 G
  else
  KN s1 b0_0 b0_1 b0_2 (b0_1 != (0 : Int)) b1_0 b1_1 b1_2 b1_3 G

def l_ref01_Down_1 {R : Type} (O : Ora R) (KN : Int → Int → Int → Int → Bool → Int → Int → Int → Bool → GH → Option R) : Int → Int → Int → Int → Bool → Int → Int → Int → Bool → GH → Option R := fun s1 b0_0 b0_1 b0_2 b0_3 b1_0 b1_1 b1_2 b1_3 G => u_ref01_Down_1 O KN s1 b0_0 b0_1 b0_2 b0_3 b1_0 b1_1 b1_2 b1_3 G

theorem u_ref01_Down_1_raw {R : Type} (O : Ora R) (fuel : Nat) (s1 b0_0 : Int) (b0_1 b0_2 : Int) (b0_3 : Bool) (b1_0 b1_1 b1_2 : Int) (b1_3 : Bool) (G : GH) (k : KE R) :
  loopD Tryz.prog O lo93 fuel (nav (Tryz.f93.body.getD .skip) [1, 1, 1, 0, 0, 0, 1, 0, 0]) 27 (mkE 63 [(1, .int .i64 s1), (2, .loc 0 0), (4, .loc 1 0)]) [[.int .u64 b0_0, .int .u64 b0_1, .int .i64 b0_2, .bool b0_3], [.int .u64 b1_0, .int .u64 b1_1, .int .i64 b1_2, .bool b1_3]] G k =
  u_ref01_Down_1 O (fun s1 b0_0 b0_1 b0_2 b0_3 b1_0 b1_1 b1_2 b1_3 G => k .normal (mkE 63 [(1, .int .i64 s1), (2, .loc 0 0), (4, .loc 1 0)]) [[.int .u64 b0_0, .int .u64 b0_1, .int .i64 b0_2, .bool b0_3], [.int .u64 b1_0, .int .u64 b1_1, .int .i64 b1_2, .bool b1_3]] G) s1 b0_0 b0_1 b0_2 b0_3 b1_0 b1_1 b1_2 b1_3 G := by kernel_rfl

theorem l_ref01_Down_1_eq {R : Type} (O : Ora R) (fuel : Nat) (k : KE R) : ∀ (s1 b0_0 : Int) (b0_1 b0_2 : Int) (b0_3 : Bool) (b1_0 b1_1 b1_2 : Int) (b1_3 : Bool) (G : GH),
  loopD Tryz.prog O lo93 fuel (nav (Tryz.f93.body.getD .skip) [1, 1, 1, 0, 0, 0, 1, 0, 0]) 27 (mkE 63 [(1, .int .i64 s1), (2, .loc 0 0), (4, .loc 1 0)]) [[.int .u64 b0_0, .int .u64 b0_1, .int .i64 b0_2, .bool b0_3], [.int .u64 b1_0, .int .u64 b1_1, .int .i64 b1_2, .bool b1_3]] G k = l_ref01_Down_1 O (fun s1 b0_0 b0_1 b0_2 b0_3 b1_0 b1_1 b1_2 b1_3 G => k .normal (mkE 63 [(1, .int .i64 s1), (2, .loc 0 0), (4, .loc 1 0)]) [[.int .u64 b0_0, .int .u64 b0_1, .int .i64 b0_2, .bool b0_3], [.int .u64 b1_0, .int .u64 b1_1, .int .i64 b1_2, .bool b1_3]] G) s1 b0_0 b0_1 b0_2 b0_3 b1_0 b1_1 b1_2 b1_3 G := by
  intros
  rw [u_ref01_Down_1_raw]
  simp only [l_ref01_Down_1]

def u_ref01_Down_0 {R : Type} (O : Ora R) (Kret : Int → Int → Int → Bool → Int → Int → Int → Bool → GH → Option R) (KN K0 L1 : Int → Int → Int → Int → Bool → Int → Int → Int → Bool → GH → Option R) (s1 b0_0 : Int) (b0_1 b0_2 : Int) (b0_3 : Bool) (b1_0 b1_1 b1_2 : Int) (b1_3 : Bool) (G : GH) : Option R :=
  bif (decide (s1 ≥ (64 : Int))) then
  L1 s1 b0_0 b0_1 b0_2 b0_3 b1_0 b1_1 b1_2 b1_3 G
  else
  K0 s1 b0_0 b0_1 b0_2 b0_3 b1_0 b1_1 b1_2 b1_3 G

def a_ref01_Down_1N {R : Type} (O : Ora R) (Kret : Int → Int → Int → Bool → Int → Int → Int → Bool → GH → Option R) (KN K0 : Int → Int → Int → Int → Bool → Int → Int → Int → Bool → GH → Option R) (s1 b0_0 : Int) (b0_1 b0_2 : Int) (b0_3 : Bool) (b1_0 b1_1 b1_2 : Int) (b1_3 : Bool) (G : GH) : Option R :=
  bif (b0_0 == (0 : Int)) then
  Kret (0 : Int) b0_0 b0_2 b0_3 (0 : Int) b0_0 b0_2 b0_3 G
  else
  KN (IntKind.wrap .i64 (s1 - (64 : Int))) (0 : Int) b0_0 b0_2 b0_3 b1_0 b1_1 b1_2 b1_3 G

def L_ref01_Down_1 {R : Type} (O : Ora R) (fuel : Nat) (Kret : Int → Int → Int → Bool → Int → Int → Int → Bool → GH → Option R) (KN K0 : Int → Int → Int → Int → Bool → Int → Int → Int → Bool → GH → Option R) : Int → Int → Int → Int → Bool → Int → Int → Int → Bool → GH → Option R := fun s1 b0_0 b0_1 b0_2 b0_3 b1_0 b1_1 b1_2 b1_3 G =>
  stepN fuel (l_ref01_Down_1 O (a_ref01_Down_1N O Kret KN K0) s1 b0_0 b0_1 b0_2 b0_3 b1_0 b1_1 b1_2 b1_3 G)

theorem a_ref01_Down_1N_raw {R : Type} (O : Ora R) (fuel : Nat) (s1 b0_0 : Int) (b0_1 b0_2 : Int) (b0_3 : Bool) (b1_0 b1_1 b1_2 : Int) (b1_3 : Bool) (G : GH) (k : KE R) :
  contC Tryz.prog O lo93 fuel (nav (Tryz.f93.body.getD .skip) [1, 1, 1, 0, 0, 0]) [1, 0, 0] (kpD lo93 16 2 k) .normal (mkE 63 [(1, .int .i64 s1), (2, .loc 0 0), (4, .loc 1 0)]) [[.int .u64 b0_0, .int .u64 b0_1, .int .i64 b0_2, .bool b0_3], [.int .u64 b1_0, .int .u64 b1_1, .int .i64 b1_2, .bool b1_3]] G =
  a_ref01_Down_1N O (fun b0_0 b0_1 b0_2 b0_3 b1_0 b1_1 b1_2 b1_3 G => k .ret (mkE 63 [(4, .loc 1 0)]) [[.int .u64 b0_0, .int .u64 b0_1, .int .i64 b0_2, .bool b0_3], [.int .u64 b1_0, .int .u64 b1_1, .int .i64 b1_2, .bool b1_3]] G) (fun s1 b0_0 b0_1 b0_2 b0_3 b1_0 b1_1 b1_2 b1_3 G => k .normal (mkE 63 [(1, .int .i64 s1), (2, .loc 0 0), (4, .loc 1 0)]) [[.int .u64 b0_0, .int .u64 b0_1, .int .i64 b0_2, .bool b0_3], [.int .u64 b1_0, .int .u64 b1_1, .int .i64 b1_2, .bool b1_3]] G) (fun s1 b0_0 b0_1 b0_2 b0_3 b1_0 b1_1 b1_2 b1_3 G => k (.exit 0) (mkE 63 [(1, .int .i64 s1), (2, .loc 0 0), (4, .loc 1 0)]) [[.int .u64 b0_0, .int .u64 b0_1, .int .i64 b0_2, .bool b0_3], [.int .u64 b1_0, .int .u64 b1_1, .int .i64 b1_2, .bool b1_3]] G) s1 b0_0 b0_1 b0_2 b0_3 b1_0 b1_1 b1_2 b1_3 G := by kernel_rfl

theorem L_ref01_Down_1_eq {R : Type} (O : Ora R) (fuel : Nat) (k : KE R) :
  (fun (s1 b0_0 : Int) (b0_1 b0_2 : Int) (b0_3 : Bool) (b1_0 b1_1 b1_2 : Int) (b1_3 : Bool) (G : GH) => stepN fuel (loopD Tryz.prog O lo93 fuel (nav (Tryz.f93.body.getD .skip) [1, 1, 1, 0, 0, 0, 1, 0, 0]) 27 (mkE 63 [(1, .int .i64 s1), (2, .loc 0 0), (4, .loc 1 0)]) [[.int .u64 b0_0, .int .u64 b0_1, .int .i64 b0_2, .bool b0_3], [.int .u64 b1_0, .int .u64 b1_1, .int .i64 b1_2, .bool b1_3]] G (contC Tryz.prog O lo93 fuel (nav (Tryz.f93.body.getD .skip) [1, 1, 1, 0, 0, 0]) [1, 0, 0] (kpD lo93 16 2 k)))) = L_ref01_Down_1 O fuel (fun (b0_0 b0_1 b0_2 : Int) (b0_3 : Bool) (b1_0 b1_1 b1_2 : Int) (b1_3 : Bool) (G : GH) => k .ret (mkE 63 [(4, .loc 1 0)]) [[.int .u64 b0_0, .int .u64 b0_1, .int .i64 b0_2, .bool b0_3], [.int .u64 b1_0, .int .u64 b1_1, .int .i64 b1_2, .bool b1_3]] G) (fun (s1 b0_0 : Int) (b0_1 b0_2 : Int) (b0_3 : Bool) (b1_0 b1_1 b1_2 : Int) (b1_3 : Bool) (G : GH) => k .normal (mkE 63 [(1, .int .i64 s1), (2, .loc 0 0), (4, .loc 1 0)]) [[.int .u64 b0_0, .int .u64 b0_1, .int .i64 b0_2, .bool b0_3], [.int .u64 b1_0, .int .u64 b1_1, .int .i64 b1_2, .bool b1_3]] G) (fun (s1 b0_0 : Int) (b0_1 b0_2 : Int) (b0_3 : Bool) (b1_0 b1_1 b1_2 : Int) (b1_3 : Bool) (G : GH) => k (.exit 0) (mkE 63 [(1, .int .i64 s1), (2, .loc 0 0), (4, .loc 1 0)]) [[.int .u64 b0_0, .int .u64 b0_1, .int .i64 b0_2, .bool b0_3], [.int .u64 b1_0, .int .u64 b1_1, .int .i64 b1_2, .bool b1_3]] G) := by
  funext s1 b0_0 b0_1 b0_2 b0_3 b1_0 b1_1 b1_2 b1_3 G
  simp only [L_ref01_Down_1, l_ref01_Down_1_eq, a_ref01_Down_1N_raw]

def l_ref01_Down_0 {R : Type} (O : Ora R) (fuel : Nat) (Kret : Int → Int → Int → Bool → Int → Int → Int → Bool → GH → Option R) (K0 : Int → Int → Int → Int → Bool → Int → Int → Int → Bool → GH → Option R) : Nat → Int → Int → Int → Int → Bool → Int → Int → Int → Bool → GH → Option R
  | 0, _, _, _, _, _, _, _, _, _, _ => none
  | n + 1, s1, b0_0, b0_1, b0_2, b0_3, b1_0, b1_1, b1_2, b1_3, G => u_ref01_Down_0 O Kret (l_ref01_Down_0 O fuel Kret K0 n) K0 (L_ref01_Down_1 O fuel Kret (l_ref01_Down_0 O fuel Kret K0 n) K0) s1 b0_0 b0_1 b0_2 b0_3 b1_0 b1_1 b1_2 b1_3 G

theorem u_ref01_Down_0_raw {R : Type} (O : Ora R) (fuel : Nat) (s1 b0_0 : Int) (b0_1 b0_2 : Int) (b0_3 : Bool) (b1_0 b1_1 b1_2 : Int) (b1_3 : Bool) (G : GH) (k : KE R) :
  loopD Tryz.prog O lo93 fuel (nav (Tryz.f93.body.getD .skip) [1, 1, 1, 0, 0, 0]) 16 (mkE 63 [(1, .int .i64 s1), (2, .loc 0 0), (4, .loc 1 0)]) [[.int .u64 b0_0, .int .u64 b0_1, .int .i64 b0_2, .bool b0_3], [.int .u64 b1_0, .int .u64 b1_1, .int .i64 b1_2, .bool b1_3]] G k =
  u_ref01_Down_0 O (fun b0_0 b0_1 b0_2 b0_3 b1_0 b1_1 b1_2 b1_3 G => k .ret (mkE 63 [(4, .loc 1 0)]) [[.int .u64 b0_0, .int .u64 b0_1, .int .i64 b0_2, .bool b0_3], [.int .u64 b1_0, .int .u64 b1_1, .int .i64 b1_2, .bool b1_3]] G) (fun s1 b0_0 b0_1 b0_2 b0_3 b1_0 b1_1 b1_2 b1_3 G => k .normal (mkE 63 [(1, .int .i64 s1), (2, .loc 0 0), (4, .loc 1 0)]) [[.int .u64 b0_0, .int .u64 b0_1, .int .i64 b0_2, .bool b0_3], [.int .u64 b1_0, .int .u64 b1_1, .int .i64 b1_2, .bool b1_3]] G) (fun s1 b0_0 b0_1 b0_2 b0_3 b1_0 b1_1 b1_2 b1_3 G => k (.exit 0) (mkE 63 [(1, .int .i64 s1), (2, .loc 0 0), (4, .loc 1 0)]) [[.int .u64 b0_0, .int .u64 b0_1, .int .i64 b0_2, .bool b0_3], [.int .u64 b1_0, .int .u64 b1_1, .int .i64 b1_2, .bool b1_3]] G) (fun s1 b0_0 b0_1 b0_2 b0_3 b1_0 b1_1 b1_2 b1_3 G => stepN fuel (loopD Tryz.prog O lo93 fuel (nav (Tryz.f93.body.getD .skip) [1, 1, 1, 0, 0, 0, 1, 0, 0]) 27 (mkE 63 [(1, .int .i64 s1), (2, .loc 0 0), (4, .loc 1 0)]) [[.int .u64 b0_0, .int .u64 b0_1, .int .i64 b0_2, .bool b0_3], [.int .u64 b1_0, .int .u64 b1_1, .int .i64 b1_2, .bool b1_3]] G (contC Tryz.prog O lo93 fuel (nav (Tryz.f93.body.getD .skip) [1, 1, 1, 0, 0, 0]) [1, 0, 0] (kpD lo93 16 2 k)))) s1 b0_0 b0_1 b0_2 b0_3 b1_0 b1_1 b1_2 b1_3 G := by kernel_rfl

theorem l_ref01_Down_0_eq {R : Type} (O : Ora R) (fuel : Nat) (k : KE R) : ∀ (n : Nat) (s1 b0_0 : Int) (b0_1 b0_2 : Int) (b0_3 : Bool) (b1_0 b1_1 b1_2 : Int) (b1_3 : Bool) (G : GH),
  loopN (loopD Tryz.prog O lo93 fuel (nav (Tryz.f93.body.getD .skip) [1, 1, 1, 0, 0, 0]) 16) n (mkE 63 [(1, .int .i64 s1), (2, .loc 0 0), (4, .loc 1 0)]) [[.int .u64 b0_0, .int .u64 b0_1, .int .i64 b0_2, .bool b0_3], [.int .u64 b1_0, .int .u64 b1_1, .int .i64 b1_2, .bool b1_3]] G k = l_ref01_Down_0 O fuel (fun b0_0 b0_1 b0_2 b0_3 b1_0 b1_1 b1_2 b1_3 G => k .ret (mkE 63 [(4, .loc 1 0)]) [[.int .u64 b0_0, .int .u64 b0_1, .int .i64 b0_2, .bool b0_3], [.int .u64 b1_0, .int .u64 b1_1, .int .i64 b1_2, .bool b1_3]] G) (fun s1 b0_0 b0_1 b0_2 b0_3 b1_0 b1_1 b1_2 b1_3 G => k (.exit 0) (mkE 63 [(1, .int .i64 s1), (2, .loc 0 0), (4, .loc 1 0)]) [[.int .u64 b0_0, .int .u64 b0_1, .int .i64 b0_2, .bool b0_3], [.int .u64 b1_0, .int .u64 b1_1, .int .i64 b1_2, .bool b1_3]] G) n s1 b0_0 b0_1 b0_2 b0_3 b1_0 b1_1 b1_2 b1_3 G := by
  intro n
  induction n with
  | zero => intros; first | rfl | simp only [loopN, l_ref01_Down_0]
  | succ n ih =>
    intros
    rw [loopN_succ, u_ref01_Down_0_raw]
    simp only [l_ref01_Down_0, loopK_normal, loopK_exit, loopK_ret, ih, L_ref01_Down_1_eq]

def u_ref01_Down_2 {R : Type} (O : Ora R) (KN : Int → Int → Int → Int → Bool → Int → Int → Int → Bool → GH → Option R) (s1 b0_0 : Int) (b0_1 b0_2 : Int) (b0_3 : Bool) (b1_0 b1_1 b1_2 : Int) (b1_3 : Bool) (G : GH) : Option R :=
  bif b0_3 then
  KN s1 b0_0 b0_1 b0_2 true b1_0 b1_1 b1_2 b1_3 G
  else
  bif decide ((IntKind.wrap .i64 ((64 : Int) - s1)) < 0) then none else
  KN s1 b0_0 b0_1 b0_2 ((shlI .u64 b0_1 (IntKind.wrap .i64 ((64 : Int) - s1))) != (0 : Int)) b1_0 b1_1 b1_2 b1_3 G

def l_ref01_Down_2 {R : Type} (O : Ora R) (KN : Int → Int → Int → Int → Bool → Int → Int → Int → Bool → GH → Option R) : Int → Int → Int → Int → Bool → Int → Int → Int → Bool → GH → Option R := fun s1 b0_0 b0_1 b0_2 b0_3 b1_0 b1_1 b1_2 b1_3 G => u_ref01_Down_2 O KN s1 b0_0 b0_1 b0_2 b0_3 b1_0 b1_1 b1_2 b1_3 G

theorem u_ref01_Down_2_raw {R : Type} (O : Ora R) (fuel : Nat) (s1 b0_0 : Int) (b0_1 b0_2 : Int) (b0_3 : Bool) (b1_0 b1_1 b1_2 : Int) (b1_3 : Bool) (G : GH) (k : KE R) :
  loopD Tryz.prog O lo93 fuel (nav (Tryz.f93.body.getD .skip) [1, 1, 1, 1, 0, 1, 0, 0]) 55 (mkE 63 [(1, .int .i64 s1), (2, .loc 0 0), (4, .loc 1 0)]) [[.int .u64 b0_0, .int .u64 b0_1, .int .i64 b0_2, .bool b0_3], [.int .u64 b1_0, .int .u64 b1_1, .int .i64 b1_2, .bool b1_3]] G k =
  u_ref01_Down_2 O (fun s1 b0_0 b0_1 b0_2 b0_3 b1_0 b1_1 b1_2 b1_3 G => k .normal (mkE 63 [(1, .int .i64 s1), (2, .loc 0 0), (4, .loc 1 0)]) [[.int .u64 b0_0, .int .u64 b0_1, .int .i64 b0_2, .bool b0_3], [.int .u64 b1_0, .int .u64 b1_1, .int .i64 b1_2, .bool b1_3]] G) s1 b0_0 b0_1 b0_2 b0_3 b1_0 b1_1 b1_2 b1_3 G := by kernel_rfl

theorem l_ref01_Down_2_eq {R : Type} (O : Ora R) (fuel : Nat) (k : KE R) : ∀ (s1 b0_0 : Int) (b0_1 b0_2 : Int) (b0_3 : Bool) (b1_0 b1_1 b1_2 : Int) (b1_3 : Bool) (G : GH),
  loopD Tryz.prog O lo93 fuel (nav (Tryz.f93.body.getD .skip) [1, 1, 1, 1, 0, 1, 0, 0]) 55 (mkE 63 [(1, .int .i64 s1), (2, .loc 0 0), (4, .loc 1 0)]) [[.int .u64 b0_0, .int .u64 b0_1, .int .i64 b0_2, .bool b0_3], [.int .u64 b1_0, .int .u64 b1_1, .int .i64 b1_2, .bool b1_3]] G k = l_ref01_Down_2 O (fun s1 b0_0 b0_1 b0_2 b0_3 b1_0 b1_1 b1_2 b1_3 G => k .normal (mkE 63 [(1, .int .i64 s1), (2, .loc 0 0), (4, .loc 1 0)]) [[.int .u64 b0_0, .int .u64 b0_1, .int .i64 b0_2, .bool b0_3], [.int .u64 b1_0, .int .u64 b1_1, .int .i64 b1_2, .bool b1_3]] G) s1 b0_0 b0_1 b0_2 b0_3 b1_0 b1_1 b1_2 b1_3 G := by
  intros
  rw [u_ref01_Down_2_raw]
  simp only [l_ref01_Down_2]

def u_ref01_Down {R : Type} (O : Ora R) (k : KV R) (L0 : Int → Int → Int → Int → Bool → Int → Int → Int → Bool → GH → Option R) (p0_0 p0_1 p0_2 : Int) (p0_3 : Bool) (p1 : Int) (G : GH) : Option R :=
  bif (decide (p1 ≤ (0 : Int))) then
  k (.agg [.int .u64 p0_0, .int .u64 p0_1, .int .i64 p0_2, .bool p0_3]) G
  else
  L0 p1 p0_0 p0_1 (IntKind.wrap .i64 (p0_2 + p1)) p0_3 (0 : Int) (0 : Int) (0 : Int) false G

def a_ref01_Down_0ret {R : Type} (O : Ora R) (k : KV R) (b0_0 b0_1 b0_2 : Int) (b0_3 : Bool) (b1_0 b1_1 b1_2 : Int) (b1_3 : Bool) (G : GH) : Option R :=
  k (.agg [.int .u64 b1_0, .int .u64 b1_1, .int .i64 b1_2, .bool b1_3]) G

def a_ref01_Down_00 {R : Type} (O : Ora R) (k : KV R) (L2 : Int → Int → Int → Int → Bool → Int → Int → Int → Bool → GH → Option R) (s1 b0_0 : Int) (b0_1 b0_2 : Int) (b0_3 : Bool) (b1_0 b1_1 b1_2 : Int) (b1_3 : Bool) (G : GH) : Option R :=
  bif (decide (s1 > (0 : Int))) then
  L2 s1 b0_0 b0_1 b0_2 b0_3 b1_0 b1_1 b1_2 b1_3 G
  else
  k (.agg [.int .u64 b0_0, .int .u64 b0_1, .int .i64 b0_2, .bool b0_3]) G

def a_ref01_Down_2N {R : Type} (O : Ora R) (k : KV R) (s1 b0_0 : Int) (b0_1 b0_2 : Int) (b0_3 : Bool) (b1_0 b1_1 b1_2 : Int) (b1_3 : Bool) (G : GH) : Option R :=
  bif decide (s1 < 0) then none else
  bif decide ((IntKind.wrap .i64 ((64 : Int) - s1)) < 0) then none else
  bif decide (s1 < 0) then none else
  k (.agg [.int .u64 (shrI .u64 b0_0 s1), .int .u64 (orI .u64 (shrI .u64 b0_1 s1) (shlI .u64 b0_0 (IntKind.wrap .i64 ((64 : Int) - s1)))), .int .i64 b0_2, .bool b0_3]) G

def L_ref01_Down_2 {R : Type} (O : Ora R) (fuel : Nat) (k : KV R) : Int → Int → Int → Int → Bool → Int → Int → Int → Bool → GH → Option R := fun s1 b0_0 b0_1 b0_2 b0_3 b1_0 b1_1 b1_2 b1_3 G =>
  stepN fuel (l_ref01_Down_2 O (a_ref01_Down_2N O k) s1 b0_0 b0_1 b0_2 b0_3 b1_0 b1_1 b1_2 b1_3 G)

theorem a_ref01_Down_2N_raw {R : Type} (O : Ora R) (fuel : Nat) (s1 b0_0 : Int) (b0_1 b0_2 : Int) (b0_3 : Bool) (b1_0 b1_1 b1_2 : Int) (b1_3 : Bool) (G : GH) (k : KV R) :
  contC Tryz.prog O lo93 fuel (Tryz.f93.body.getD .skip) [1, 1, 1, 1, 0, 1, 0, 0] (fun e env F G => match e with | .exit _ => none | _ => resC Tryz.prog Tryz.f93 env F G k) .normal (mkE 63 [(1, .int .i64 s1), (2, .loc 0 0), (4, .loc 1 0)]) [[.int .u64 b0_0, .int .u64 b0_1, .int .i64 b0_2, .bool b0_3], [.int .u64 b1_0, .int .u64 b1_1, .int .i64 b1_2, .bool b1_3]] G =
  a_ref01_Down_2N O k s1 b0_0 b0_1 b0_2 b0_3 b1_0 b1_1 b1_2 b1_3 G := by kernel_rfl

theorem L_ref01_Down_2_eq {R : Type} (O : Ora R) (fuel : Nat) (k : KV R) :
  (fun (s1 b0_0 : Int) (b0_1 b0_2 : Int) (b0_3 : Bool) (b1_0 b1_1 b1_2 : Int) (b1_3 : Bool) (G : GH) => stepN fuel (loopD Tryz.prog O lo93 fuel (nav (Tryz.f93.body.getD .skip) [1, 1, 1, 1, 0, 1, 0, 0]) 55 (mkE 63 [(1, .int .i64 s1), (2, .loc 0 0), (4, .loc 1 0)]) [[.int .u64 b0_0, .int .u64 b0_1, .int .i64 b0_2, .bool b0_3], [.int .u64 b1_0, .int .u64 b1_1, .int .i64 b1_2, .bool b1_3]] G (contC Tryz.prog O lo93 fuel (Tryz.f93.body.getD .skip) [1, 1, 1, 1, 0, 1, 0, 0] (fun e env F G => match e with | .exit _ => none | _ => resC Tryz.prog Tryz.f93 env F G k)))) = L_ref01_Down_2 O fuel k := by
  funext s1 b0_0 b0_1 b0_2 b0_3 b1_0 b1_1 b1_2 b1_3 G
  simp only [L_ref01_Down_2, l_ref01_Down_2_eq, a_ref01_Down_2N_raw]

def L_ref01_Down_0 {R : Type} (O : Ora R) (fuel : Nat) (k : KV R) : Int → Int → Int → Int → Bool → Int → Int → Int → Bool → GH → Option R := fun s1 b0_0 b0_1 b0_2 b0_3 b1_0 b1_1 b1_2 b1_3 G =>
  l_ref01_Down_0 O fuel (a_ref01_Down_0ret O k) (a_ref01_Down_00 O k (L_ref01_Down_2 O fuel k)) fuel s1 b0_0 b0_1 b0_2 b0_3 b1_0 b1_1 b1_2 b1_3 G

theorem a_ref01_Down_0ret_raw {R : Type} (O : Ora R) (fuel : Nat) (b0_0 b0_1 b0_2 : Int) (b0_3 : Bool) (b1_0 b1_1 b1_2 : Int) (b1_3 : Bool) (G : GH) (k : KV R) :
  contC Tryz.prog O lo93 fuel (Tryz.f93.body.getD .skip) [1, 1, 1, 0, 0] (fun e env F G => match e with | .exit _ => none | _ => resC Tryz.prog Tryz.f93 env F G k) .ret (mkE 63 [(4, .loc 1 0)]) [[.int .u64 b0_0, .int .u64 b0_1, .int .i64 b0_2, .bool b0_3], [.int .u64 b1_0, .int .u64 b1_1, .int .i64 b1_2, .bool b1_3]] G =
  a_ref01_Down_0ret O k b0_0 b0_1 b0_2 b0_3 b1_0 b1_1 b1_2 b1_3 G := by kernel_rfl

theorem a_ref01_Down_00_raw {R : Type} (O : Ora R) (fuel : Nat) (s1 b0_0 : Int) (b0_1 b0_2 : Int) (b0_3 : Bool) (b1_0 b1_1 b1_2 : Int) (b1_3 : Bool) (G : GH) (k : KV R) :
  contC Tryz.prog O lo93 fuel (Tryz.f93.body.getD .skip) [1, 1, 1, 0, 0] (fun e env F G => match e with | .exit _ => none | _ => resC Tryz.prog Tryz.f93 env F G k) (.exit 0) (mkE 63 [(1, .int .i64 s1), (2, .loc 0 0), (4, .loc 1 0)]) [[.int .u64 b0_0, .int .u64 b0_1, .int .i64 b0_2, .bool b0_3], [.int .u64 b1_0, .int .u64 b1_1, .int .i64 b1_2, .bool b1_3]] G =
  a_ref01_Down_00 O k (fun s1 b0_0 b0_1 b0_2 b0_3 b1_0 b1_1 b1_2 b1_3 G => stepN fuel (loopD Tryz.prog O lo93 fuel (nav (Tryz.f93.body.getD .skip) [1, 1, 1, 1, 0, 1, 0, 0]) 55 (mkE 63 [(1, .int .i64 s1), (2, .loc 0 0), (4, .loc 1 0)]) [[.int .u64 b0_0, .int .u64 b0_1, .int .i64 b0_2, .bool b0_3], [.int .u64 b1_0, .int .u64 b1_1, .int .i64 b1_2, .bool b1_3]] G (contC Tryz.prog O lo93 fuel (Tryz.f93.body.getD .skip) [1, 1, 1, 1, 0, 1, 0, 0] (fun e env F G => match e with | .exit _ => none | _ => resC Tryz.prog Tryz.f93 env F G k)))) s1 b0_0 b0_1 b0_2 b0_3 b1_0 b1_1 b1_2 b1_3 G := by kernel_rfl

theorem L_ref01_Down_0_eq {R : Type} (O : Ora R) (fuel : Nat) (k : KV R) :
  (fun (s1 b0_0 : Int) (b0_1 b0_2 : Int) (b0_3 : Bool) (b1_0 b1_1 b1_2 : Int) (b1_3 : Bool) (G : GH) => loopN (loopD Tryz.prog O lo93 fuel (nav (Tryz.f93.body.getD .skip) [1, 1, 1, 0, 0, 0]) 16) fuel (mkE 63 [(1, .int .i64 s1), (2, .loc 0 0), (4, .loc 1 0)]) [[.int .u64 b0_0, .int .u64 b0_1, .int .i64 b0_2, .bool b0_3], [.int .u64 b1_0, .int .u64 b1_1, .int .i64 b1_2, .bool b1_3]] G (contC Tryz.prog O lo93 fuel (Tryz.f93.body.getD .skip) [1, 1, 1, 0, 0] (fun e env F G => match e with | .exit _ => none | _ => resC Tryz.prog Tryz.f93 env F G k))) = L_ref01_Down_0 O fuel k := by
  funext s1 b0_0 b0_1 b0_2 b0_3 b1_0 b1_1 b1_2 b1_3 G
  simp only [L_ref01_Down_0, l_ref01_Down_0_eq, a_ref01_Down_0ret_raw, a_ref01_Down_00_raw, L_ref01_Down_2_eq]

theorem e_ref01_Down_raw {R : Type} (O : Ora R) (fuel : Nat) (p0_0 p0_1 p0_2 : Int) (p0_3 : Bool) (p1 : Int) (G : GH) (k : KV R) :
  bodyC Tryz.prog O lo93 fuel Tryz.f93 [.agg [.int .u64 p0_0, .int .u64 p0_1, .int .i64 p0_2, .bool p0_3], .int .i64 p1] G k =
  u_ref01_Down O k (fun s1 b0_0 b0_1 b0_2 b0_3 b1_0 b1_1 b1_2 b1_3 G => loopN (loopD Tryz.prog O lo93 fuel (nav (Tryz.f93.body.getD .skip) [1, 1, 1, 0, 0, 0]) 16) fuel (mkE 63 [(1, .int .i64 s1), (2, .loc 0 0), (4, .loc 1 0)]) [[.int .u64 b0_0, .int .u64 b0_1, .int .i64 b0_2, .bool b0_3], [.int .u64 b1_0, .int .u64 b1_1, .int .i64 b1_2, .bool b1_3]] G (contC Tryz.prog O lo93 fuel (Tryz.f93.body.getD .skip) [1, 1, 1, 0, 0] (fun e env F G => match e with | .exit _ => none | _ => resC Tryz.prog Tryz.f93 env F G k))) p0_0 p0_1 p0_2 p0_3 p1 G := by kernel_rfl

theorem e_ref01_Down {R : Type} (O : Ora R) (fuel : Nat) (p0_0 p0_1 p0_2 : Int) (p0_3 : Bool) (p1 : Int) (G : GH) (k : KV R) :
  bodyC Tryz.prog O lo93 fuel Tryz.f93 [.agg [.int .u64 p0_0, .int .u64 p0_1, .int .i64 p0_2, .bool p0_3], .int .i64 p1] G k =
  u_ref01_Down O k (L_ref01_Down_0 O fuel k) p0_0 p0_1 p0_2 p0_3 p1 G := by
  rw [e_ref01_Down_raw, L_ref01_Down_0_eq]

theorem r_ref01_Down {R : Type} (fuel n : Nat) (p0_0 p0_1 p0_2 : Int) (p0_3 : Bool) (p1 : Int) (G : GH) (k : KV R) :
  runC Tryz.prog lo0 fuel (n + 1) 93 [.agg [.int .u64 p0_0, .int .u64 p0_1, .int .i64 p0_2, .bool p0_3], .int .i64 p1] G k = bodyC Tryz.prog (runC Tryz.prog lo0 fuel n) lo93 fuel Tryz.f93 [.agg [.int .u64 p0_0, .int .u64 p0_1, .int .i64 p0_2, .bool p0_3], .int .i64 p1] G k := run_body Tryz.func93 rfl rfl

/-! ### lantern/lanternref01.power -/
theorem e_ref01_power {R : Type} (O : Ora R) (fuel : Nat) (p0 : Int) (G : GH) (k : KV R) :
  bodyC Tryz.prog O [777777] fuel Tryz.f119 [.int .i64 p0] G k =
  bif (decide (p0 ≥ ((-1022 : Int)))) then
  O fn_math_Float64frombits [.int .u64 (shlI .u64 (IntKind.wrap .u64 (IntKind.wrap .i64 (p0 + (1023 : Int)))) (52 : Int))] G fun v1 G2 =>
  (ivFloat .f64 v1).bind fun x3 =>
  k (.float .f64 x3) G2
  else
  bif decide ((IntKind.wrap .i64 (p0 + (1074 : Int))) < 0) then none else
  O fn_math_Float64frombits [.int .u64 (shlI .u64 (1 : Int) (IntKind.wrap .i64 (p0 + (1074 : Int))))] G fun v4 G5 =>
  (ivFloat .f64 v4).bind fun x6 =>
  k (.float .f64 x6) G5 := by kernel_rfl

theorem r_ref01_power {R : Type} (fuel n : Nat) (p0 : Int) (G : GH) (k : KV R) :
  runC Tryz.prog lo0 fuel (n + 1) 119 [.int .i64 p0] G k = bodyC Tryz.prog (runC Tryz.prog lo0 fuel n) [777777] fuel Tryz.f119 [.int .i64 p0] G k := run_body Tryz.func119 rfl rfl

/-! ### lantern/lanternref01.Near -/
def u_ref01_Near_0 {R : Type} (O : Ora R) (KN : Bool → Int → Int → Int → Int → Bool → GH → Option R) (s1 : Bool) (s5 b0_0 : Int) (b0_1 b0_2 : Int) (b0_3 : Bool) (G : GH) : Option R :=
  bif (decide ((IntKind.wrap .i64 (((-1074 : Int)) - b0_2)) > s5)) then
  KN s1 (IntKind.wrap .i64 (((-1074 : Int)) - b0_2)) b0_0 b0_1 b0_2 b0_3 G
  else
  KN s1 s5 b0_0 b0_1 b0_2 b0_3 G

def l_ref01_Near_0 {R : Type} (O : Ora R) (KN : Bool → Int → Int → Int → Int → Bool → GH → Option R) : Bool → Int → Int → Int → Int → Bool → GH → Option R := fun s1 s5 b0_0 b0_1 b0_2 b0_3 G => u_ref01_Near_0 O KN s1 s5 b0_0 b0_1 b0_2 b0_3 G

theorem u_ref01_Near_0_raw {R : Type} (O : Ora R) (fuel : Nat) (s1 : Bool) (s5 b0_0 : Int) (b0_1 b0_2 : Int) (b0_3 : Bool) (G : GH) (k : KE R) :
  loopD Tryz.prog O lo92 fuel (nav (Tryz.f92.body.getD .skip) [1, 1, 0]) 19 (mkE 83 [(1, .bool s1), (2, .loc 0 0), (5, .int .i64 s5)]) [[.int .u64 b0_0, .int .u64 b0_1, .int .i64 b0_2, .bool b0_3]] G k =
  u_ref01_Near_0 O (fun s1 s5 b0_0 b0_1 b0_2 b0_3 G => k .normal (mkE 83 [(1, .bool s1), (2, .loc 0 0), (5, .int .i64 s5)]) [[.int .u64 b0_0, .int .u64 b0_1, .int .i64 b0_2, .bool b0_3]] G) s1 s5 b0_0 b0_1 b0_2 b0_3 G := by kernel_rfl

theorem l_ref01_Near_0_eq {R : Type} (O : Ora R) (fuel : Nat) (k : KE R) : ∀ (s1 : Bool) (s5 b0_0 : Int) (b0_1 b0_2 : Int) (b0_3 : Bool) (G : GH),
  loopD Tryz.prog O lo92 fuel (nav (Tryz.f92.body.getD .skip) [1, 1, 0]) 19 (mkE 83 [(1, .bool s1), (2, .loc 0 0), (5, .int .i64 s5)]) [[.int .u64 b0_0, .int .u64 b0_1, .int .i64 b0_2, .bool b0_3]] G k = l_ref01_Near_0 O (fun s1 s5 b0_0 b0_1 b0_2 b0_3 G => k .normal (mkE 83 [(1, .bool s1), (2, .loc 0 0), (5, .int .i64 s5)]) [[.int .u64 b0_0, .int .u64 b0_1, .int .i64 b0_2, .bool b0_3]] G) s1 s5 b0_0 b0_1 b0_2 b0_3 G := by
  intros
  rw [u_ref01_Near_0_raw]
  simp only [l_ref01_Near_0]

def u_ref01_Near_2 {R : Type} (O : Ora R) (KN : Bool → Int → Bool → Int → Int → Int → Bool → GH → Option R) (s1 : Bool) (s6 b0_0 : Int) (b0_1 b0_2 : Int) (b0_3 : Bool) (G : GH) : Option R :=
  bif b0_3 then
  KN s1 s6 s1 b0_0 b0_1 b0_2 b0_3 G
  else
  KN s1 s6 false b0_0 b0_1 b0_2 b0_3 G

def l_ref01_Near_2 {R : Type} (O : Ora R) (KN : Bool → Int → Bool → Int → Int → Int → Bool → GH → Option R) : Bool → Int → Int → Int → Int → Bool → GH → Option R := fun s1 s6 b0_0 b0_1 b0_2 b0_3 G => u_ref01_Near_2 O KN s1 s6 b0_0 b0_1 b0_2 b0_3 G

theorem u_ref01_Near_2_raw {R : Type} (O : Ora R) (fuel : Nat) (s1 : Bool) (s6 b0_0 : Int) (b0_1 b0_2 : Int) (b0_3 : Bool) (G : GH) (k : KE R) :
  loopD Tryz.prog O lo92 fuel (nav (Tryz.f92.body.getD .skip) [1, 1, 1, 1, 1, 0, 0]) 31 (mkE 83 [(1, .bool s1), (2, .loc 0 0), (6, .int .u64 s6)]) [[.int .u64 b0_0, .int .u64 b0_1, .int .i64 b0_2, .bool b0_3]] G k =
  u_ref01_Near_2 O (fun s1 s6 s28 b0_0 b0_1 b0_2 b0_3 G => k .normal (mkE 83 [(1, .bool s1), (2, .loc 0 0), (6, .int .u64 s6), (28, .bool s28)]) [[.int .u64 b0_0, .int .u64 b0_1, .int .i64 b0_2, .bool b0_3]] G) s1 s6 b0_0 b0_1 b0_2 b0_3 G := by kernel_rfl

theorem l_ref01_Near_2_eq {R : Type} (O : Ora R) (fuel : Nat) (k : KE R) : ∀ (s1 : Bool) (s6 b0_0 : Int) (b0_1 b0_2 : Int) (b0_3 : Bool) (G : GH),
  loopD Tryz.prog O lo92 fuel (nav (Tryz.f92.body.getD .skip) [1, 1, 1, 1, 1, 0, 0]) 31 (mkE 83 [(1, .bool s1), (2, .loc 0 0), (6, .int .u64 s6)]) [[.int .u64 b0_0, .int .u64 b0_1, .int .i64 b0_2, .bool b0_3]] G k = l_ref01_Near_2 O (fun s1 s6 s28 b0_0 b0_1 b0_2 b0_3 G => k .normal (mkE 83 [(1, .bool s1), (2, .loc 0 0), (6, .int .u64 s6), (28, .bool s28)]) [[.int .u64 b0_0, .int .u64 b0_1, .int .i64 b0_2, .bool b0_3]] G) s1 s6 b0_0 b0_1 b0_2 b0_3 G := by
  intros
  rw [u_ref01_Near_2_raw]
  simp only [l_ref01_Near_2]

def u_ref01_Near_1 {R : Type} (O : Ora R) (KN L2 : Bool → Int → Int → Int → Int → Bool → GH → Option R) (s1 : Bool) (s6 b0_0 : Int) (b0_1 b0_2 : Int) (b0_3 : Bool) (G : GH) : Option R :=
  L2 s1 s6 b0_0 b0_1 b0_2 b0_3 G

def a_ref01_Near_2N {R : Type} (O : Ora R) (KN : Bool → Int → Int → Int → Int → Bool → GH → Option R) (s1 : Bool) (s6 : Int) (s28 : Bool) (b0_0 b0_1 b0_2 : Int) (b0_3 : Bool) (G : GH) : Option R :=
  bif s28 then
  KN s1 (IntKind.wrap .u64 (s6 + (1 : Int))) b0_0 b0_1 b0_2 b0_3 G
  else
  KN s1 s6 b0_0 b0_1 b0_2 b0_3 G

def L_ref01_Near_2 {R : Type} (O : Ora R) (fuel : Nat) (KN : Bool → Int → Int → Int → Int → Bool → GH → Option R) : Bool → Int → Int → Int → Int → Bool → GH → Option R := fun s1 s6 b0_0 b0_1 b0_2 b0_3 G =>
  stepN fuel (l_ref01_Near_2 O (a_ref01_Near_2N O KN) s1 s6 b0_0 b0_1 b0_2 b0_3 G)

theorem a_ref01_Near_2N_raw {R : Type} (O : Ora R) (fuel : Nat) (s1 : Bool) (s6 : Int) (s28 : Bool) (b0_0 b0_1 b0_2 : Int) (b0_3 : Bool) (G : GH) (k : KE R) :
  contC Tryz.prog O lo92 fuel (nav (Tryz.f92.body.getD .skip) [1, 1, 1, 1, 1, 0]) [0] (kpD lo92 35 1 k) .normal (mkE 83 [(1, .bool s1), (2, .loc 0 0), (6, .int .u64 s6), (28, .bool s28)]) [[.int .u64 b0_0, .int .u64 b0_1, .int .i64 b0_2, .bool b0_3]] G =
  a_ref01_Near_2N O (fun s1 s6 b0_0 b0_1 b0_2 b0_3 G => k .normal (mkE 83 [(1, .bool s1), (2, .loc 0 0), (6, .int .u64 s6)]) [[.int .u64 b0_0, .int .u64 b0_1, .int .i64 b0_2, .bool b0_3]] G) s1 s6 s28 b0_0 b0_1 b0_2 b0_3 G := by kernel_rfl

theorem L_ref01_Near_2_eq {R : Type} (O : Ora R) (fuel : Nat) (k : KE R) :
  (fun (s1 : Bool) (s6 b0_0 : Int) (b0_1 b0_2 : Int) (b0_3 : Bool) (G : GH) => stepN fuel (loopD Tryz.prog O lo92 fuel (nav (Tryz.f92.body.getD .skip) [1, 1, 1, 1, 1, 0, 0]) 31 (mkE 83 [(1, .bool s1), (2, .loc 0 0), (6, .int .u64 s6)]) [[.int .u64 b0_0, .int .u64 b0_1, .int .i64 b0_2, .bool b0_3]] G (contC Tryz.prog O lo92 fuel (nav (Tryz.f92.body.getD .skip) [1, 1, 1, 1, 1, 0]) [0] (kpD lo92 35 1 k)))) = L_ref01_Near_2 O fuel (fun (s1 : Bool) (s6 b0_0 : Int) (b0_1 b0_2 : Int) (b0_3 : Bool) (G : GH) => k .normal (mkE 83 [(1, .bool s1), (2, .loc 0 0), (6, .int .u64 s6)]) [[.int .u64 b0_0, .int .u64 b0_1, .int .i64 b0_2, .bool b0_3]] G) := by
  funext s1 s6 b0_0 b0_1 b0_2 b0_3 G
  simp only [L_ref01_Near_2, l_ref01_Near_2_eq, a_ref01_Near_2N_raw]

def l_ref01_Near_1 {R : Type} (O : Ora R) (fuel : Nat) (KN : Bool → Int → Int → Int → Int → Bool → GH → Option R) : Bool → Int → Int → Int → Int → Bool → GH → Option R := fun s1 s6 b0_0 b0_1 b0_2 b0_3 G => u_ref01_Near_1 O KN (L_ref01_Near_2 O fuel KN) s1 s6 b0_0 b0_1 b0_2 b0_3 G

theorem u_ref01_Near_1_raw {R : Type} (O : Ora R) (fuel : Nat) (s1 : Bool) (s6 b0_0 : Int) (b0_1 b0_2 : Int) (b0_3 : Bool) (G : GH) (k : KE R) :
  loopD Tryz.prog O lo92 fuel (nav (Tryz.f92.body.getD .skip) [1, 1, 1, 1, 1, 0]) 35 (mkE 83 [(1, .bool s1), (2, .loc 0 0), (6, .int .u64 s6)]) [[.int .u64 b0_0, .int .u64 b0_1, .int .i64 b0_2, .bool b0_3]] G k =
  u_ref01_Near_1 O (fun s1 s6 b0_0 b0_1 b0_2 b0_3 G => k .normal (mkE 83 [(1, .bool s1), (2, .loc 0 0), (6, .int .u64 s6)]) [[.int .u64 b0_0, .int .u64 b0_1, .int .i64 b0_2, .bool b0_3]] G) (fun s1 s6 b0_0 b0_1 b0_2 b0_3 G => stepN fuel (loopD Tryz.prog O lo92 fuel (nav (Tryz.f92.body.getD .skip) [1, 1, 1, 1, 1, 0, 0]) 31 (mkE 83 [(1, .bool s1), (2, .loc 0 0), (6, .int .u64 s6)]) [[.int .u64 b0_0, .int .u64 b0_1, .int .i64 b0_2, .bool b0_3]] G (contC Tryz.prog O lo92 fuel (nav (Tryz.f92.body.getD .skip) [1, 1, 1, 1, 1, 0]) [0] (kpD lo92 35 1 k)))) s1 s6 b0_0 b0_1 b0_2 b0_3 G := by kernel_rfl

theorem l_ref01_Near_1_eq {R : Type} (O : Ora R) (fuel : Nat) (k : KE R) : ∀ (s1 : Bool) (s6 b0_0 : Int) (b0_1 b0_2 : Int) (b0_3 : Bool) (G : GH),
  loopD Tryz.prog O lo92 fuel (nav (Tryz.f92.body.getD .skip) [1, 1, 1, 1, 1, 0]) 35 (mkE 83 [(1, .bool s1), (2, .loc 0 0), (6, .int .u64 s6)]) [[.int .u64 b0_0, .int .u64 b0_1, .int .i64 b0_2, .bool b0_3]] G k = l_ref01_Near_1 O fuel (fun s1 s6 b0_0 b0_1 b0_2 b0_3 G => k .normal (mkE 83 [(1, .bool s1), (2, .loc 0 0), (6, .int .u64 s6)]) [[.int .u64 b0_0, .int .u64 b0_1, .int .i64 b0_2, .bool b0_3]] G) s1 s6 b0_0 b0_1 b0_2 b0_3 G := by
  intros
  rw [u_ref01_Near_1_raw]
  simp only [l_ref01_Near_1, L_ref01_Near_2_eq]

def u_ref01_Near_3 {R : Type} (O : Ora R) (KN : Int → Bool → Int → Int → Int → Bool → GH → Option R) (s6 b0_0 : Int) (b0_1 b0_2 : Int) (b0_3 : Bool) (G : GH) : Option R :=
  bif (decide (b0_2 ≥ ((-1074 : Int)))) then
  KN s6 (decide (b0_2 ≤ (971 : Int))) b0_0 b0_1 b0_2 b0_3 G
  else
  KN s6 false b0_0 b0_1 b0_2 b0_3 G

def l_ref01_Near_3 {R : Type} (O : Ora R) (KN : Int → Bool → Int → Int → Int → Bool → GH → Option R) : Int → Int → Int → Int → Bool → GH → Option R := fun s6 b0_0 b0_1 b0_2 b0_3 G => u_ref01_Near_3 O KN s6 b0_0 b0_1 b0_2 b0_3 G

theorem u_ref01_Near_3_raw {R : Type} (O : Ora R) (fuel : Nat) (s6 b0_0 : Int) (b0_1 b0_2 : Int) (b0_3 : Bool) (G : GH) (k : KE R) :
  loopD Tryz.prog O lo92 fuel (nav (Tryz.f92.body.getD .skip) [1, 1, 1, 1, 1, 1, 1, 1, 1, 0, 0]) 67 (mkE 83 [(2, .loc 0 0), (6, .int .u64 s6)]) [[.int .u64 b0_0, .int .u64 b0_1, .int .i64 b0_2, .bool b0_3]] G k =
  u_ref01_Near_3 O (fun s6 s52 b0_0 b0_1 b0_2 b0_3 G => k .normal (mkE 83 [(2, .loc 0 0), (6, .int .u64 s6), (52, .bool s52)]) [[.int .u64 b0_0, .int .u64 b0_1, .int .i64 b0_2, .bool b0_3]] G) s6 b0_0 b0_1 b0_2 b0_3 G := by kernel_rfl

theorem l_ref01_Near_3_eq {R : Type} (O : Ora R) (fuel : Nat) (k : KE R) : ∀ (s6 b0_0 : Int) (b0_1 b0_2 : Int) (b0_3 : Bool) (G : GH),
  loopD Tryz.prog O lo92 fuel (nav (Tryz.f92.body.getD .skip) [1, 1, 1, 1, 1, 1, 1, 1, 1, 0, 0]) 67 (mkE 83 [(2, .loc 0 0), (6, .int .u64 s6)]) [[.int .u64 b0_0, .int .u64 b0_1, .int .i64 b0_2, .bool b0_3]] G k = l_ref01_Near_3 O (fun s6 s52 b0_0 b0_1 b0_2 b0_3 G => k .normal (mkE 83 [(2, .loc 0 0), (6, .int .u64 s6), (52, .bool s52)]) [[.int .u64 b0_0, .int .u64 b0_1, .int .i64 b0_2, .bool b0_3]] G) s6 b0_0 b0_1 b0_2 b0_3 G := by
  intros
  rw [u_ref01_Near_3_raw]
  simp only [l_ref01_Near_3]

def u_ref01_Near_4 {R : Type} (O : Ora R) (KN K0 : Int → Int → Int → Int → Bool → GH → Option R) (s6 b0_0 : Int) (b0_1 b0_2 : Int) (b0_3 : Bool) (G : GH) : Option R :=
  bif (decide (b0_2 > (971 : Int))) then
  KN (shlI .u64 s6 (1 : Int)) b0_0 b0_1 (IntKind.wrap .i64 (b0_2 - (1 : Int))) b0_3 G
  else
  K0 s6 b0_0 b0_1 b0_2 b0_3 G

def l_ref01_Near_4 {R : Type} (O : Ora R) (K0 : Int → Int → Int → Int → Bool → GH → Option R) : Nat → Int → Int → Int → Int → Bool → GH → Option R
  | 0, _, _, _, _, _, _ => none
  | n + 1, s6, b0_0, b0_1, b0_2, b0_3, G => u_ref01_Near_4 O (l_ref01_Near_4 O K0 n) K0 s6 b0_0 b0_1 b0_2 b0_3 G

theorem u_ref01_Near_4_raw {R : Type} (O : Ora R) (fuel : Nat) (s6 b0_0 : Int) (b0_1 b0_2 : Int) (b0_3 : Bool) (G : GH) (k : KE R) :
  loopD Tryz.prog O lo92 fuel (nav (Tryz.f92.body.getD .skip) [1, 1, 1, 1, 1, 1, 1, 1, 1, 1, 0, 0, 0]) 68 (mkE 83 [(2, .loc 0 0), (6, .int .u64 s6)]) [[.int .u64 b0_0, .int .u64 b0_1, .int .i64 b0_2, .bool b0_3]] G k =
  u_ref01_Near_4 O (fun s6 b0_0 b0_1 b0_2 b0_3 G => k .normal (mkE 83 [(2, .loc 0 0), (6, .int .u64 s6)]) [[.int .u64 b0_0, .int .u64 b0_1, .int .i64 b0_2, .bool b0_3]] G) (fun s6 b0_0 b0_1 b0_2 b0_3 G => k (.exit 0) (mkE 83 [(2, .loc 0 0), (6, .int .u64 s6)]) [[.int .u64 b0_0, .int .u64 b0_1, .int .i64 b0_2, .bool b0_3]] G) s6 b0_0 b0_1 b0_2 b0_3 G := by kernel_rfl

theorem l_ref01_Near_4_eq {R : Type} (O : Ora R) (fuel : Nat) (k : KE R) : ∀ (n : Nat) (s6 b0_0 : Int) (b0_1 b0_2 : Int) (b0_3 : Bool) (G : GH),
  loopN (loopD Tryz.prog O lo92 fuel (nav (Tryz.f92.body.getD .skip) [1, 1, 1, 1, 1, 1, 1, 1, 1, 1, 0, 0, 0]) 68) n (mkE 83 [(2, .loc 0 0), (6, .int .u64 s6)]) [[.int .u64 b0_0, .int .u64 b0_1, .int .i64 b0_2, .bool b0_3]] G k = l_ref01_Near_4 O (fun s6 b0_0 b0_1 b0_2 b0_3 G => k (.exit 0) (mkE 83 [(2, .loc 0 0), (6, .int .u64 s6)]) [[.int .u64 b0_0, .int .u64 b0_1, .int .i64 b0_2, .bool b0_3]] G) n s6 b0_0 b0_1 b0_2 b0_3 G := by
  intro n
  induction n with
  | zero => intros; first | rfl | simp only [loopN, l_ref01_Near_4]
  | succ n ih =>
    intros
    rw [loopN_succ, u_ref01_Near_4_raw]
    simp only [l_ref01_Near_4, loopK_normal, loopK_exit, loopK_ret, ih]

def u_ref01_Near_5 {R : Type} (O : Ora R) (KN K2 : Int → Int → Int → Int → Bool → GH → Option R) (s6 b0_0 : Int) (b0_1 b0_2 : Int) (b0_3 : Bool) (G : GH) : Option R :=
  bif (decide (b0_2 < ((-1074 : Int)))) then
  KN (shrI .u64 s6 (1 : Int)) b0_0 b0_1 (IntKind.wrap .i64 (b0_2 + (1 : Int))) b0_3 G
  else
  K2 s6 b0_0 b0_1 b0_2 b0_3 G

def l_ref01_Near_5 {R : Type} (O : Ora R) (K2 : Int → Int → Int → Int → Bool → GH → Option R) : Nat → Int → Int → Int → Int → Bool → GH → Option R
  | 0, _, _, _, _, _, _ => none
  | n + 1, s6, b0_0, b0_1, b0_2, b0_3, G => u_ref01_Near_5 O (l_ref01_Near_5 O K2 n) K2 s6 b0_0 b0_1 b0_2 b0_3 G

theorem u_ref01_Near_5_raw {R : Type} (O : Ora R) (fuel : Nat) (s6 b0_0 : Int) (b0_1 b0_2 : Int) (b0_3 : Bool) (G : GH) (k : KE R) :
  loopD Tryz.prog O lo92 fuel (nav (Tryz.f92.body.getD .skip) [1, 1, 1, 1, 1, 1, 1, 1, 1, 1, 1, 0, 0, 0]) 80 (mkE 83 [(2, .loc 0 0), (6, .int .u64 s6)]) [[.int .u64 b0_0, .int .u64 b0_1, .int .i64 b0_2, .bool b0_3]] G k =
  u_ref01_Near_5 O (fun s6 b0_0 b0_1 b0_2 b0_3 G => k .normal (mkE 83 [(2, .loc 0 0), (6, .int .u64 s6)]) [[.int .u64 b0_0, .int .u64 b0_1, .int .i64 b0_2, .bool b0_3]] G) (fun s6 b0_0 b0_1 b0_2 b0_3 G => k (.exit 2) (mkE 83 [(2, .loc 0 0), (6, .int .u64 s6)]) [[.int .u64 b0_0, .int .u64 b0_1, .int .i64 b0_2, .bool b0_3]] G) s6 b0_0 b0_1 b0_2 b0_3 G := by kernel_rfl

theorem l_ref01_Near_5_eq {R : Type} (O : Ora R) (fuel : Nat) (k : KE R) : ∀ (n : Nat) (s6 b0_0 : Int) (b0_1 b0_2 : Int) (b0_3 : Bool) (G : GH),
  loopN (loopD Tryz.prog O lo92 fuel (nav (Tryz.f92.body.getD .skip) [1, 1, 1, 1, 1, 1, 1, 1, 1, 1, 1, 0, 0, 0]) 80) n (mkE 83 [(2, .loc 0 0), (6, .int .u64 s6)]) [[.int .u64 b0_0, .int .u64 b0_1, .int .i64 b0_2, .bool b0_3]] G k = l_ref01_Near_5 O (fun s6 b0_0 b0_1 b0_2 b0_3 G => k (.exit 2) (mkE 83 [(2, .loc 0 0), (6, .int .u64 s6)]) [[.int .u64 b0_0, .int .u64 b0_1, .int .i64 b0_2, .bool b0_3]] G) n s6 b0_0 b0_1 b0_2 b0_3 G := by
  intro n
  induction n with
  | zero => intros; first | rfl | simp only [loopN, l_ref01_Near_5]
  | succ n ih =>
    intros
    rw [loopN_succ, u_ref01_Near_5_raw]
    simp only [l_ref01_Near_5, loopK_normal, loopK_exit, loopK_ret, ih]

def u_ref01_Near {R : Type} (O : Ora R) (k : KV R) (L0 : Bool → Int → Int → Int → Int → Bool → GH → Option R) (p0_0 p0_1 p0_2 : Int) (p0_3 p1 : Bool) (G : GH) : Option R :=
  O fn_ref01_Length [.agg [.int .u64 p0_0, .int .u64 p0_1, .int .i64 p0_2, .bool p0_3]] G fun v1 G2 =>
  (ivInt .i64 v1).bind fun x3 =>
  L0 p1 (IntKind.wrap .i64 (x3 - (53 : Int))) p0_0 p0_1 p0_2 p0_3 G2

def a_ref01_Near_0N {R : Type} (O : Ora R) (k : KV R) (L1 : Bool → Int → Int → Int → Int → Bool → GH → Option R) (s1 : Bool) (s5 b0_0 : Int) (b0_1 b0_2 : Int) (b0_3 : Bool) (G : GH) : Option R :=
  O fn_ref01_Down [.agg [.int .u64 b0_0, .int .u64 b0_1, .int .i64 b0_2, .bool b0_3], .int .i64 s5] G fun v1 G2 =>
  (ivAgg 4 v1).bind fun c3 =>
  (ivInt .u64 (c3.getD 0 undefI)).bind fun x4 =>
  (ivInt .u64 (c3.getD 1 undefI)).bind fun x5 =>
  (ivInt .i64 (c3.getD 2 undefI)).bind fun x6 =>
  (ivBool (c3.getD 3 undefI)).bind fun x7 =>
  L1 s1 x5 x4 x5 x6 x7 G2

def a_ref01_Near_1N {R : Type} (O : Ora R) (k : KV R) (L3 : Int → Int → Int → Int → Bool → GH → Option R) (s1 : Bool) (s6 b0_0 : Int) (b0_1 b0_2 : Int) (b0_3 : Bool) (G : GH) : Option R :=
  bif (s6 == (0 : Int)) then
  k (.float .f64 (0 : Nat)) G
  else
  O fn_ref01_Length [.agg [.int .u64 (0 : Int), .int .u64 s6, .int .i64 (0 : Int), .bool false]] (gfreeze G) fun v1 _ =>
  (ivInt .i64 v1).bind fun x2 =>
  bif (decide ((IntKind.wrap .i64 ((IntKind.wrap .i64 (x2 - (1 : Int))) + b0_2)) > (1023 : Int))) then
  bif s1 then
  O fn_ref01_Inf [] G fun v3 G4 =>
  (ivFloat .f64 v3).bind fun x5 =>
  k (.float .f64 x5) G4
  else
  O fn_ref01_Most [] G fun v6 G7 =>
  (ivFloat .f64 v6).bind fun x8 =>
  k (.float .f64 x8) G7
  else
  L3 s6 b0_0 b0_1 b0_2 b0_3 G

def a_ref01_Near_3N {R : Type} (O : Ora R) (k : KV R) (L4 : Int → Int → Int → Int → Bool → GH → Option R) (s6 : Int) (s52 : Bool) (b0_0 b0_1 b0_2 : Int) (b0_3 : Bool) (G : GH) : Option R :=
  bif s52 then
  O fn_ref01_power [.int .i64 b0_2] G fun v1 G2 =>
  (ivFloat .f64 v1).bind fun x3 =>
  ((FloatKind.format .f64).mul (FloatKind.nearest .f64 s6) x3).bind fun r4 =>
  k (.float .f64 r4) G2
  else
  L4 s6 b0_0 b0_1 b0_2 b0_3 G

def a_ref01_Near_40 {R : Type} (O : Ora R) (k : KV R) (L5 : Int → Int → Int → Int → Bool → GH → Option R) (s6 b0_0 : Int) (b0_1 b0_2 : Int) (b0_3 : Bool) (G : GH) : Option R :=
  L5 s6 b0_0 b0_1 b0_2 b0_3 G

def a_ref01_Near_52 {R : Type} (O : Ora R) (k : KV R) (s6 b0_0 : Int) (b0_1 b0_2 : Int) (b0_3 : Bool) (G : GH) : Option R :=
  O fn_ref01_power [.int .i64 b0_2] G fun v1 G2 =>
  (ivFloat .f64 v1).bind fun x3 =>
  ((FloatKind.format .f64).mul (FloatKind.nearest .f64 s6) x3).bind fun r4 =>
  k (.float .f64 r4) G2

def L_ref01_Near_5 {R : Type} (O : Ora R) (fuel : Nat) (k : KV R) : Int → Int → Int → Int → Bool → GH → Option R := fun s6 b0_0 b0_1 b0_2 b0_3 G =>
  l_ref01_Near_5 O (a_ref01_Near_52 O k) fuel s6 b0_0 b0_1 b0_2 b0_3 G

theorem a_ref01_Near_52_raw {R : Type} (O : Ora R) (fuel : Nat) (s6 b0_0 : Int) (b0_1 b0_2 : Int) (b0_3 : Bool) (G : GH) (k : KV R) :
  contC Tryz.prog O lo92 fuel (Tryz.f92.body.getD .skip) [1, 1, 1, 1, 1, 1, 1, 1, 1, 1, 1, 0, 0] (fun e env F G => match e with | .exit _ => none | _ => resC Tryz.prog Tryz.f92 env F G k) (.exit 2) (mkE 83 [(2, .loc 0 0), (6, .int .u64 s6)]) [[.int .u64 b0_0, .int .u64 b0_1, .int .i64 b0_2, .bool b0_3]] G =
  a_ref01_Near_52 O k s6 b0_0 b0_1 b0_2 b0_3 G := by kernel_rfl

theorem L_ref01_Near_5_eq {R : Type} (O : Ora R) (fuel : Nat) (k : KV R) :
  (fun (s6 b0_0 : Int) (b0_1 b0_2 : Int) (b0_3 : Bool) (G : GH) => loopN (loopD Tryz.prog O lo92 fuel (nav (Tryz.f92.body.getD .skip) [1, 1, 1, 1, 1, 1, 1, 1, 1, 1, 1, 0, 0, 0]) 80) fuel (mkE 83 [(2, .loc 0 0), (6, .int .u64 s6)]) [[.int .u64 b0_0, .int .u64 b0_1, .int .i64 b0_2, .bool b0_3]] G (contC Tryz.prog O lo92 fuel (Tryz.f92.body.getD .skip) [1, 1, 1, 1, 1, 1, 1, 1, 1, 1, 1, 0, 0] (fun e env F G => match e with | .exit _ => none | _ => resC Tryz.prog Tryz.f92 env F G k))) = L_ref01_Near_5 O fuel k := by
  funext s6 b0_0 b0_1 b0_2 b0_3 G
  simp only [L_ref01_Near_5, l_ref01_Near_5_eq, a_ref01_Near_52_raw]

def L_ref01_Near_4 {R : Type} (O : Ora R) (fuel : Nat) (k : KV R) : Int → Int → Int → Int → Bool → GH → Option R := fun s6 b0_0 b0_1 b0_2 b0_3 G =>
  l_ref01_Near_4 O (a_ref01_Near_40 O k (L_ref01_Near_5 O fuel k)) fuel s6 b0_0 b0_1 b0_2 b0_3 G

theorem a_ref01_Near_40_raw {R : Type} (O : Ora R) (fuel : Nat) (s6 b0_0 : Int) (b0_1 b0_2 : Int) (b0_3 : Bool) (G : GH) (k : KV R) :
  contC Tryz.prog O lo92 fuel (Tryz.f92.body.getD .skip) [1, 1, 1, 1, 1, 1, 1, 1, 1, 1, 0, 0] (fun e env F G => match e with | .exit _ => none | _ => resC Tryz.prog Tryz.f92 env F G k) (.exit 0) (mkE 83 [(2, .loc 0 0), (6, .int .u64 s6)]) [[.int .u64 b0_0, .int .u64 b0_1, .int .i64 b0_2, .bool b0_3]] G =
  a_ref01_Near_40 O k (fun s6 b0_0 b0_1 b0_2 b0_3 G => loopN (loopD Tryz.prog O lo92 fuel (nav (Tryz.f92.body.getD .skip) [1, 1, 1, 1, 1, 1, 1, 1, 1, 1, 1, 0, 0, 0]) 80) fuel (mkE 83 [(2, .loc 0 0), (6, .int .u64 s6)]) [[.int .u64 b0_0, .int .u64 b0_1, .int .i64 b0_2, .bool b0_3]] G (contC Tryz.prog O lo92 fuel (Tryz.f92.body.getD .skip) [1, 1, 1, 1, 1, 1, 1, 1, 1, 1, 1, 0, 0] (fun e env F G => match e with | .exit _ => none | _ => resC Tryz.prog Tryz.f92 env F G k))) s6 b0_0 b0_1 b0_2 b0_3 G := by kernel_rfl

theorem L_ref01_Near_4_eq {R : Type} (O : Ora R) (fuel : Nat) (k : KV R) :
  (fun (s6 b0_0 : Int) (b0_1 b0_2 : Int) (b0_3 : Bool) (G : GH) => loopN (loopD Tryz.prog O lo92 fuel (nav (Tryz.f92.body.getD .skip) [1, 1, 1, 1, 1, 1, 1, 1, 1, 1, 0, 0, 0]) 68) fuel (mkE 83 [(2, .loc 0 0), (6, .int .u64 s6)]) [[.int .u64 b0_0, .int .u64 b0_1, .int .i64 b0_2, .bool b0_3]] G (contC Tryz.prog O lo92 fuel (Tryz.f92.body.getD .skip) [1, 1, 1, 1, 1, 1, 1, 1, 1, 1, 0, 0] (fun e env F G => match e with | .exit _ => none | _ => resC Tryz.prog Tryz.f92 env F G k))) = L_ref01_Near_4 O fuel k := by
  funext s6 b0_0 b0_1 b0_2 b0_3 G
  simp only [L_ref01_Near_4, l_ref01_Near_4_eq, a_ref01_Near_40_raw, L_ref01_Near_5_eq]

def L_ref01_Near_3 {R : Type} (O : Ora R) (fuel : Nat) (k : KV R) : Int → Int → Int → Int → Bool → GH → Option R := fun s6 b0_0 b0_1 b0_2 b0_3 G =>
  stepN fuel (l_ref01_Near_3 O (a_ref01_Near_3N O k (L_ref01_Near_4 O fuel k)) s6 b0_0 b0_1 b0_2 b0_3 G)

theorem a_ref01_Near_3N_raw {R : Type} (O : Ora R) (fuel : Nat) (s6 : Int) (s52 : Bool) (b0_0 b0_1 b0_2 : Int) (b0_3 : Bool) (G : GH) (k : KV R) :
  contC Tryz.prog O lo92 fuel (Tryz.f92.body.getD .skip) [1, 1, 1, 1, 1, 1, 1, 1, 1, 0, 0] (fun e env F G => match e with | .exit _ => none | _ => resC Tryz.prog Tryz.f92 env F G k) .normal (mkE 83 [(2, .loc 0 0), (6, .int .u64 s6), (52, .bool s52)]) [[.int .u64 b0_0, .int .u64 b0_1, .int .i64 b0_2, .bool b0_3]] G =
  a_ref01_Near_3N O k (fun s6 b0_0 b0_1 b0_2 b0_3 G => loopN (loopD Tryz.prog O lo92 fuel (nav (Tryz.f92.body.getD .skip) [1, 1, 1, 1, 1, 1, 1, 1, 1, 1, 0, 0, 0]) 68) fuel (mkE 83 [(2, .loc 0 0), (6, .int .u64 s6)]) [[.int .u64 b0_0, .int .u64 b0_1, .int .i64 b0_2, .bool b0_3]] G (contC Tryz.prog O lo92 fuel (Tryz.f92.body.getD .skip) [1, 1, 1, 1, 1, 1, 1, 1, 1, 1, 0, 0] (fun e env F G => match e with | .exit _ => none | _ => resC Tryz.prog Tryz.f92 env F G k))) s6 s52 b0_0 b0_1 b0_2 b0_3 G := by kernel_rfl

theorem L_ref01_Near_3_eq {R : Type} (O : Ora R) (fuel : Nat) (k : KV R) :
  (fun (s6 b0_0 : Int) (b0_1 b0_2 : Int) (b0_3 : Bool) (G : GH) => stepN fuel (loopD Tryz.prog O lo92 fuel (nav (Tryz.f92.body.getD .skip) [1, 1, 1, 1, 1, 1, 1, 1, 1, 0, 0]) 67 (mkE 83 [(2, .loc 0 0), (6, .int .u64 s6)]) [[.int .u64 b0_0, .int .u64 b0_1, .int .i64 b0_2, .bool b0_3]] G (contC Tryz.prog O lo92 fuel (Tryz.f92.body.getD .skip) [1, 1, 1, 1, 1, 1, 1, 1, 1, 0, 0] (fun e env F G => match e with | .exit _ => none | _ => resC Tryz.prog Tryz.f92 env F G k)))) = L_ref01_Near_3 O fuel k := by
  funext s6 b0_0 b0_1 b0_2 b0_3 G
  simp only [L_ref01_Near_3, l_ref01_Near_3_eq, a_ref01_Near_3N_raw, L_ref01_Near_4_eq]

def L_ref01_Near_1 {R : Type} (O : Ora R) (fuel : Nat) (k : KV R) : Bool → Int → Int → Int → Int → Bool → GH → Option R := fun s1 s6 b0_0 b0_1 b0_2 b0_3 G =>
  stepN fuel (l_ref01_Near_1 O fuel (a_ref01_Near_1N O k (L_ref01_Near_3 O fuel k)) s1 s6 b0_0 b0_1 b0_2 b0_3 G)

theorem a_ref01_Near_1N_raw {R : Type} (O : Ora R) (fuel : Nat) (s1 : Bool) (s6 b0_0 : Int) (b0_1 b0_2 : Int) (b0_3 : Bool) (G : GH) (k : KV R) :
  contC Tryz.prog O lo92 fuel (Tryz.f92.body.getD .skip) [1, 1, 1, 1, 1, 0] (fun e env F G => match e with | .exit _ => none | _ => resC Tryz.prog Tryz.f92 env F G k) .normal (mkE 83 [(1, .bool s1), (2, .loc 0 0), (6, .int .u64 s6)]) [[.int .u64 b0_0, .int .u64 b0_1, .int .i64 b0_2, .bool b0_3]] G =
  a_ref01_Near_1N O k (fun s6 b0_0 b0_1 b0_2 b0_3 G => stepN fuel (loopD Tryz.prog O lo92 fuel (nav (Tryz.f92.body.getD .skip) [1, 1, 1, 1, 1, 1, 1, 1, 1, 0, 0]) 67 (mkE 83 [(2, .loc 0 0), (6, .int .u64 s6)]) [[.int .u64 b0_0, .int .u64 b0_1, .int .i64 b0_2, .bool b0_3]] G (contC Tryz.prog O lo92 fuel (Tryz.f92.body.getD .skip) [1, 1, 1, 1, 1, 1, 1, 1, 1, 0, 0] (fun e env F G => match e with | .exit _ => none | _ => resC Tryz.prog Tryz.f92 env F G k)))) s1 s6 b0_0 b0_1 b0_2 b0_3 G := by kernel_rfl

theorem L_ref01_Near_1_eq {R : Type} (O : Ora R) (fuel : Nat) (k : KV R) :
  (fun (s1 : Bool) (s6 b0_0 : Int) (b0_1 b0_2 : Int) (b0_3 : Bool) (G : GH) => stepN fuel (loopD Tryz.prog O lo92 fuel (nav (Tryz.f92.body.getD .skip) [1, 1, 1, 1, 1, 0]) 35 (mkE 83 [(1, .bool s1), (2, .loc 0 0), (6, .int .u64 s6)]) [[.int .u64 b0_0, .int .u64 b0_1, .int .i64 b0_2, .bool b0_3]] G (contC Tryz.prog O lo92 fuel (Tryz.f92.body.getD .skip) [1, 1, 1, 1, 1, 0] (fun e env F G => match e with | .exit _ => none | _ => resC Tryz.prog Tryz.f92 env F G k)))) = L_ref01_Near_1 O fuel k := by
  funext s1 s6 b0_0 b0_1 b0_2 b0_3 G
  simp only [L_ref01_Near_1, l_ref01_Near_1_eq, a_ref01_Near_1N_raw, L_ref01_Near_3_eq]

def L_ref01_Near_0 {R : Type} (O : Ora R) (fuel : Nat) (k : KV R) : Bool → Int → Int → Int → Int → Bool → GH → Option R := fun s1 s5 b0_0 b0_1 b0_2 b0_3 G =>
  stepN fuel (l_ref01_Near_0 O (a_ref01_Near_0N O k (L_ref01_Near_1 O fuel k)) s1 s5 b0_0 b0_1 b0_2 b0_3 G)

theorem a_ref01_Near_0N_raw {R : Type} (O : Ora R) (fuel : Nat) (s1 : Bool) (s5 b0_0 : Int) (b0_1 b0_2 : Int) (b0_3 : Bool) (G : GH) (k : KV R) :
  contC Tryz.prog O lo92 fuel (Tryz.f92.body.getD .skip) [1, 1, 0] (fun e env F G => match e with | .exit _ => none | _ => resC Tryz.prog Tryz.f92 env F G k) .normal (mkE 83 [(1, .bool s1), (2, .loc 0 0), (5, .int .i64 s5)]) [[.int .u64 b0_0, .int .u64 b0_1, .int .i64 b0_2, .bool b0_3]] G =
  a_ref01_Near_0N O k (fun s1 s6 b0_0 b0_1 b0_2 b0_3 G => stepN fuel (loopD Tryz.prog O lo92 fuel (nav (Tryz.f92.body.getD .skip) [1, 1, 1, 1, 1, 0]) 35 (mkE 83 [(1, .bool s1), (2, .loc 0 0), (6, .int .u64 s6)]) [[.int .u64 b0_0, .int .u64 b0_1, .int .i64 b0_2, .bool b0_3]] G (contC Tryz.prog O lo92 fuel (Tryz.f92.body.getD .skip) [1, 1, 1, 1, 1, 0] (fun e env F G => match e with | .exit _ => none | _ => resC Tryz.prog Tryz.f92 env F G k)))) s1 s5 b0_0 b0_1 b0_2 b0_3 G := by kernel_rfl

theorem L_ref01_Near_0_eq {R : Type} (O : Ora R) (fuel : Nat) (k : KV R) :
  (fun (s1 : Bool) (s5 b0_0 : Int) (b0_1 b0_2 : Int) (b0_3 : Bool) (G : GH) => stepN fuel (loopD Tryz.prog O lo92 fuel (nav (Tryz.f92.body.getD .skip) [1, 1, 0]) 19 (mkE 83 [(1, .bool s1), (2, .loc 0 0), (5, .int .i64 s5)]) [[.int .u64 b0_0, .int .u64 b0_1, .int .i64 b0_2, .bool b0_3]] G (contC Tryz.prog O lo92 fuel (Tryz.f92.body.getD .skip) [1, 1, 0] (fun e env F G => match e with | .exit _ => none | _ => resC Tryz.prog Tryz.f92 env F G k)))) = L_ref01_Near_0 O fuel k := by
  funext s1 s5 b0_0 b0_1 b0_2 b0_3 G
  simp only [L_ref01_Near_0, l_ref01_Near_0_eq, a_ref01_Near_0N_raw, L_ref01_Near_1_eq]

theorem e_ref01_Near_raw {R : Type} (O : Ora R) (fuel : Nat) (p0_0 p0_1 p0_2 : Int) (p0_3 p1 : Bool) (G : GH) (k : KV R) :
  bodyC Tryz.prog O lo92 fuel Tryz.f92 [.agg [.int .u64 p0_0, .int .u64 p0_1, .int .i64 p0_2, .bool p0_3], .bool p1] G k =
  u_ref01_Near O k (fun s1 s5 b0_0 b0_1 b0_2 b0_3 G => stepN fuel (loopD Tryz.prog O lo92 fuel (nav (Tryz.f92.body.getD .skip) [1, 1, 0]) 19 (mkE 83 [(1, .bool s1), (2, .loc 0 0), (5, .int .i64 s5)]) [[.int .u64 b0_0, .int .u64 b0_1, .int .i64 b0_2, .bool b0_3]] G (contC Tryz.prog O lo92 fuel (Tryz.f92.body.getD .skip) [1, 1, 0] (fun e env F G => match e with | .exit _ => none | _ => resC Tryz.prog Tryz.f92 env F G k)))) p0_0 p0_1 p0_2 p0_3 p1 G := by kernel_rfl

theorem e_ref01_Near {R : Type} (O : Ora R) (fuel : Nat) (p0_0 p0_1 p0_2 : Int) (p0_3 p1 : Bool) (G : GH) (k : KV R) :
  bodyC Tryz.prog O lo92 fuel Tryz.f92 [.agg [.int .u64 p0_0, .int .u64 p0_1, .int .i64 p0_2, .bool p0_3], .bool p1] G k =
  u_ref01_Near O k (L_ref01_Near_0 O fuel k) p0_0 p0_1 p0_2 p0_3 p1 G := by
  rw [e_ref01_Near_raw, L_ref01_Near_0_eq]

theorem r_ref01_Near {R : Type} (fuel n : Nat) (p0_0 p0_1 p0_2 : Int) (p0_3 p1 : Bool) (G : GH) (k : KV R) :
  runC Tryz.prog lo0 fuel (n + 1) 92 [.agg [.int .u64 p0_0, .int .u64 p0_1, .int .i64 p0_2, .bool p0_3], .bool p1] G k = bodyC Tryz.prog (runC Tryz.prog lo0 fuel n) lo92 fuel Tryz.f92 [.agg [.int .u64 p0_0, .int .u64 p0_1, .int .i64 p0_2, .bool p0_3], .bool p1] G k := run_body Tryz.func92 rfl rfl

/-! ### lantern/lanternref01.To -/
theorem e_ref01_To {R : Type} (O : Ora R) (fuel : Nat) (p0_0 p0_1 p0_2 : Int) (p0_3 p1 p2 : Bool) (G : GH) (k : KV R) :
  bodyC Tryz.prog O [3, 777777] fuel Tryz.f67 [.agg [.int .u64 p0_0, .int .u64 p0_1, .int .i64 p0_2, .bool p0_3], .bool p1, .bool p2] G k =
  O fn_ref01_Near [.agg [.int .u64 p0_0, .int .u64 p0_1, .int .i64 p0_2, .bool p0_3], .bool (p1 == p2)] G fun v1 G2 =>
  (ivFloat .f64 v1).bind fun x3 =>
  bif p1 then
  ((FloatKind.format .f64).sub (0 : Nat) x3).bind fun r4 =>
  O fn_ref01_Zeroed [.float .f64 r4] G2 fun v5 G6 =>
  (ivFloat .f64 v5).bind fun x7 =>
  k (.float .f64 x7) G6
  else
  k (.float .f64 x3) G2 := by kernel_rfl

theorem r_ref01_To {R : Type} (fuel n : Nat) (p0_0 p0_1 p0_2 : Int) (p0_3 p1 p2 : Bool) (G : GH) (k : KV R) :
  runC Tryz.prog lo0 fuel (n + 1) 67 [.agg [.int .u64 p0_0, .int .u64 p0_1, .int .i64 p0_2, .bool p0_3], .bool p1, .bool p2] G k = bodyC Tryz.prog (runC Tryz.prog lo0 fuel n) [3, 777777] fuel Tryz.f67 [.agg [.int .u64 p0_0, .int .u64 p0_1, .int .i64 p0_2, .bool p0_3], .bool p1, .bool p2] G k := run_body Tryz.func67 rfl rfl

/-! ### lantern/lanternref01.plus -/
def u_ref01_plus_0 {R : Type} (O : Ora R) (KN : Int → Int → Int → Bool → Int → Int → Int → Bool → Int → Int → Int → Bool → Int → Int → Int → Bool → GH → Option R) (b0_0 b0_1 b0_2 : Int) (b0_3 : Bool) (b1_0 b1_1 b1_2 : Int) (b1_3 : Bool) (b2_0 b2_1 b2_2 : Int) (b2_3 : Bool) (G : GH) : Option R :=
  bif b0_3 then
  KN b0_0 b0_1 b0_2 b0_3 b1_0 b1_1 b1_2 b1_3 b2_0 b2_1 b2_2 b2_3 (IntKind.wrap .u64 (b0_0 + b1_0)) (IntKind.wrap .u64 (b0_1 + b1_1)) b0_2 true G
  else
  KN b0_0 b0_1 b0_2 b0_3 b1_0 b1_1 b1_2 b1_3 b2_0 b2_1 b2_2 b2_3 (IntKind.wrap .u64 (b0_0 + b1_0)) (IntKind.wrap .u64 (b0_1 + b1_1)) b0_2 b1_3 G

def l_ref01_plus_0 {R : Type} (O : Ora R) (KN : Int → Int → Int → Bool → Int → Int → Int → Bool → Int → Int → Int → Bool → Int → Int → Int → Bool → GH → Option R) : Int → Int → Int → Bool → Int → Int → Int → Bool → Int → Int → Int → Bool → GH → Option R := fun b0_0 b0_1 b0_2 b0_3 b1_0 b1_1 b1_2 b1_3 b2_0 b2_1 b2_2 b2_3 G => u_ref01_plus_0 O KN b0_0 b0_1 b0_2 b0_3 b1_0 b1_1 b1_2 b1_3 b2_0 b2_1 b2_2 b2_3 G

theorem u_ref01_plus_0_raw {R : Type} (O : Ora R) (fuel : Nat) (b0_0 b0_1 b0_2 : Int) (b0_3 : Bool) (b1_0 b1_1 b1_2 : Int) (b1_3 : Bool) (b2_0 b2_1 b2_2 : Int) (b2_3 : Bool) (G : GH) (k : KE R) :
  loopD Tryz.prog O lo94 fuel (nav (Tryz.f94.body.getD .skip) [1, 0]) 11 (mkE 35 [(2, .loc 0 0), (3, .loc 1 0), (4, .loc 2 0)]) [[.int .u64 b0_0, .int .u64 b0_1, .int .i64 b0_2, .bool b0_3], [.int .u64 b1_0, .int .u64 b1_1, .int .i64 b1_2, .bool b1_3], [.int .u64 b2_0, .int .u64 b2_1, .int .i64 b2_2, .bool b2_3]] G k =
  u_ref01_plus_0 O (fun b0_0 b0_1 b0_2 b0_3 b1_0 b1_1 b1_2 b1_3 b2_0 b2_1 b2_2 b2_3 b3_0 b3_1 b3_2 b3_3 G => k .normal (mkE 35 [(2, .loc 0 0), (4, .loc 2 0), (5, .loc 3 0)]) [[.int .u64 b0_0, .int .u64 b0_1, .int .i64 b0_2, .bool b0_3], [.int .u64 b1_0, .int .u64 b1_1, .int .i64 b1_2, .bool b1_3], [.int .u64 b2_0, .int .u64 b2_1, .int .i64 b2_2, .bool b2_3], [.int .u64 b3_0, .int .u64 b3_1, .int .i64 b3_2, .bool b3_3]] G) b0_0 b0_1 b0_2 b0_3 b1_0 b1_1 b1_2 b1_3 b2_0 b2_1 b2_2 b2_3 G := by kernel_rfl

theorem l_ref01_plus_0_eq {R : Type} (O : Ora R) (fuel : Nat) (k : KE R) : ∀ (b0_0 b0_1 b0_2 : Int) (b0_3 : Bool) (b1_0 b1_1 b1_2 : Int) (b1_3 : Bool) (b2_0 b2_1 b2_2 : Int) (b2_3 : Bool) (G : GH),
  loopD Tryz.prog O lo94 fuel (nav (Tryz.f94.body.getD .skip) [1, 0]) 11 (mkE 35 [(2, .loc 0 0), (3, .loc 1 0), (4, .loc 2 0)]) [[.int .u64 b0_0, .int .u64 b0_1, .int .i64 b0_2, .bool b0_3], [.int .u64 b1_0, .int .u64 b1_1, .int .i64 b1_2, .bool b1_3], [.int .u64 b2_0, .int .u64 b2_1, .int .i64 b2_2, .bool b2_3]] G k = l_ref01_plus_0 O (fun b0_0 b0_1 b0_2 b0_3 b1_0 b1_1 b1_2 b1_3 b2_0 b2_1 b2_2 b2_3 b3_0 b3_1 b3_2 b3_3 G => k .normal (mkE 35 [(2, .loc 0 0), (4, .loc 2 0), (5, .loc 3 0)]) [[.int .u64 b0_0, .int .u64 b0_1, .int .i64 b0_2, .bool b0_3], [.int .u64 b1_0, .int .u64 b1_1, .int .i64 b1_2, .bool b1_3], [.int .u64 b2_0, .int .u64 b2_1, .int .i64 b2_2, .bool b2_3], [.int .u64 b3_0, .int .u64 b3_1, .int .i64 b3_2, .bool b3_3]] G) b0_0 b0_1 b0_2 b0_3 b1_0 b1_1 b1_2 b1_3 b2_0 b2_1 b2_2 b2_3 G := by
  intros
  rw [u_ref01_plus_0_raw]
  simp only [l_ref01_plus_0]

def u_ref01_plus {R : Type} (O : Ora R) (k : KV R) (L0 : Int → Int → Int → Bool → Int → Int → Int → Bool → Int → Int → Int → Bool → GH → Option R) (p0_0 p0_1 p0_2 : Int) (p0_3 : Bool) (p1_0 p1_1 p1_2 : Int) (p1_3 : Bool) (G : GH) : Option R :=
  L0 p0_0 p0_1 p0_2 p0_3 p1_0 p1_1 p1_2 p1_3 (0 : Int) (0 : Int) (0 : Int) false G

def a_ref01_plus_0N {R : Type} (O : Ora R) (k : KV R) (b0_0 b0_1 b0_2 : Int) (b0_3 : Bool) (b1_0 b1_1 b1_2 : Int) (b1_3 : Bool) (b2_0 b2_1 b2_2 : Int) (b2_3 : Bool) (b3_0 b3_1 b3_2 : Int) (b3_3 : Bool) (G : GH) : Option R :=
  bif (decide (b3_1 < b0_1)) then
  k (.agg [.int .u64 (IntKind.wrap .u64 (b3_0 + (1 : Int))), .int .u64 b3_1, .int .i64 b3_2, .bool b3_3]) G
  else
  k (.agg [.int .u64 b3_0, .int .u64 b3_1, .int .i64 b3_2, .bool b3_3]) G

def L_ref01_plus_0 {R : Type} (O : Ora R) (fuel : Nat) (k : KV R) : Int → Int → Int → Bool → Int → Int → Int → Bool → Int → Int → Int → Bool → GH → Option R := fun b0_0 b0_1 b0_2 b0_3 b1_0 b1_1 b1_2 b1_3 b2_0 b2_1 b2_2 b2_3 G =>
  stepN fuel (l_ref01_plus_0 O (a_ref01_plus_0N O k) b0_0 b0_1 b0_2 b0_3 b1_0 b1_1 b1_2 b1_3 b2_0 b2_1 b2_2 b2_3 G)

theorem a_ref01_plus_0N_raw {R : Type} (O : Ora R) (fuel : Nat) (b0_0 b0_1 b0_2 : Int) (b0_3 : Bool) (b1_0 b1_1 b1_2 : Int) (b1_3 : Bool) (b2_0 b2_1 b2_2 : Int) (b2_3 : Bool) (b3_0 b3_1 b3_2 : Int) (b3_3 : Bool) (G : GH) (k : KV R) :
  contC Tryz.prog O lo94 fuel (Tryz.f94.body.getD .skip) [1, 0] (fun e env F G => match e with | .exit _ => none | _ => resC Tryz.prog Tryz.f94 env F G k) .normal (mkE 35 [(2, .loc 0 0), (4, .loc 2 0), (5, .loc 3 0)]) [[.int .u64 b0_0, .int .u64 b0_1, .int .i64 b0_2, .bool b0_3], [.int .u64 b1_0, .int .u64 b1_1, .int .i64 b1_2, .bool b1_3], [.int .u64 b2_0, .int .u64 b2_1, .int .i64 b2_2, .bool b2_3], [.int .u64 b3_0, .int .u64 b3_1, .int .i64 b3_2, .bool b3_3]] G =
  a_ref01_plus_0N O k b0_0 b0_1 b0_2 b0_3 b1_0 b1_1 b1_2 b1_3 b2_0 b2_1 b2_2 b2_3 b3_0 b3_1 b3_2 b3_3 G := by kernel_rfl

theorem L_ref01_plus_0_eq {R : Type} (O : Ora R) (fuel : Nat) (k : KV R) :
  (fun (b0_0 b0_1 b0_2 : Int) (b0_3 : Bool) (b1_0 b1_1 b1_2 : Int) (b1_3 : Bool) (b2_0 b2_1 b2_2 : Int) (b2_3 : Bool) (G : GH) => stepN fuel (loopD Tryz.prog O lo94 fuel (nav (Tryz.f94.body.getD .skip) [1, 0]) 11 (mkE 35 [(2, .loc 0 0), (3, .loc 1 0), (4, .loc 2 0)]) [[.int .u64 b0_0, .int .u64 b0_1, .int .i64 b0_2, .bool b0_3], [.int .u64 b1_0, .int .u64 b1_1, .int .i64 b1_2, .bool b1_3], [.int .u64 b2_0, .int .u64 b2_1, .int .i64 b2_2, .bool b2_3]] G (contC Tryz.prog O lo94 fuel (Tryz.f94.body.getD .skip) [1, 0] (fun e env F G => match e with | .exit _ => none | _ => resC Tryz.prog Tryz.f94 env F G k)))) = L_ref01_plus_0 O fuel k := by
  funext b0_0 b0_1 b0_2 b0_3 b1_0 b1_1 b1_2 b1_3 b2_0 b2_1 b2_2 b2_3 G
  simp only [L_ref01_plus_0, l_ref01_plus_0_eq, a_ref01_plus_0N_raw]

theorem e_ref01_plus_raw {R : Type} (O : Ora R) (fuel : Nat) (p0_0 p0_1 p0_2 : Int) (p0_3 : Bool) (p1_0 p1_1 p1_2 : Int) (p1_3 : Bool) (G : GH) (k : KV R) :
  bodyC Tryz.prog O lo94 fuel Tryz.f94 [.agg [.int .u64 p0_0, .int .u64 p0_1, .int .i64 p0_2, .bool p0_3], .agg [.int .u64 p1_0, .int .u64 p1_1, .int .i64 p1_2, .bool p1_3]] G k =
  u_ref01_plus O k (fun b0_0 b0_1 b0_2 b0_3 b1_0 b1_1 b1_2 b1_3 b2_0 b2_1 b2_2 b2_3 G => stepN fuel (loopD Tryz.prog O lo94 fuel (nav (Tryz.f94.body.getD .skip) [1, 0]) 11 (mkE 35 [(2, .loc 0 0), (3, .loc 1 0), (4, .loc 2 0)]) [[.int .u64 b0_0, .int .u64 b0_1, .int .i64 b0_2, .bool b0_3], [.int .u64 b1_0, .int .u64 b1_1, .int .i64 b1_2, .bool b1_3], [.int .u64 b2_0, .int .u64 b2_1, .int .i64 b2_2, .bool b2_3]] G (contC Tryz.prog O lo94 fuel (Tryz.f94.body.getD .skip) [1, 0] (fun e env F G => match e with | .exit _ => none | _ => resC Tryz.prog Tryz.f94 env F G k)))) p0_0 p0_1 p0_2 p0_3 p1_0 p1_1 p1_2 p1_3 G := by kernel_rfl

theorem e_ref01_plus {R : Type} (O : Ora R) (fuel : Nat) (p0_0 p0_1 p0_2 : Int) (p0_3 : Bool) (p1_0 p1_1 p1_2 : Int) (p1_3 : Bool) (G : GH) (k : KV R) :
  bodyC Tryz.prog O lo94 fuel Tryz.f94 [.agg [.int .u64 p0_0, .int .u64 p0_1, .int .i64 p0_2, .bool p0_3], .agg [.int .u64 p1_0, .int .u64 p1_1, .int .i64 p1_2, .bool p1_3]] G k =
  u_ref01_plus O k (L_ref01_plus_0 O fuel k) p0_0 p0_1 p0_2 p0_3 p1_0 p1_1 p1_2 p1_3 G := by
  rw [e_ref01_plus_raw, L_ref01_plus_0_eq]

theorem r_ref01_plus {R : Type} (fuel n : Nat) (p0_0 p0_1 p0_2 : Int) (p0_3 : Bool) (p1_0 p1_1 p1_2 : Int) (p1_3 : Bool) (G : GH) (k : KV R) :
  runC Tryz.prog lo0 fuel (n + 1) 94 [.agg [.int .u64 p0_0, .int .u64 p0_1, .int .i64 p0_2, .bool p0_3], .agg [.int .u64 p1_0, .int .u64 p1_1, .int .i64 p1_2, .bool p1_3]] G k = bodyC Tryz.prog (runC Tryz.prog lo0 fuel n) lo94 fuel Tryz.f94 [.agg [.int .u64 p0_0, .int .u64 p0_1, .int .i64 p0_2, .bool p0_3], .agg [.int .u64 p1_0, .int .u64 p1_1, .int .i64 p1_2, .bool p1_3]] G k := run_body Tryz.func94 rfl rfl

/-! ### lantern/lanternref01.below -/
theorem e_ref01_below {R : Type} (O : Ora R) (fuel : Nat) (p0_0 p0_1 p0_2 : Int) (p0_3 : Bool) (p1_0 p1_1 p1_2 : Int) (p1_3 : Bool) (G : GH) (k : KV R) :
  bodyC Tryz.prog O [2, 3, 777777] fuel Tryz.f95 [.agg [.int .u64 p0_0, .int .u64 p0_1, .int .i64 p0_2, .bool p0_3], .agg [.int .u64 p1_0, .int .u64 p1_1, .int .i64 p1_2, .bool p1_3]] G k =
  bif (decide (p0_0 < p1_0)) then
  k (.bool true) G
  else
  bif (p0_0 == p1_0) then
  k (.bool (decide (p0_1 < p1_1))) G
  else
  k (.bool false) G := by kernel_rfl

theorem r_ref01_below {R : Type} (fuel n : Nat) (p0_0 p0_1 p0_2 : Int) (p0_3 : Bool) (p1_0 p1_1 p1_2 : Int) (p1_3 : Bool) (G : GH) (k : KV R) :
  runC Tryz.prog lo0 fuel (n + 1) 95 [.agg [.int .u64 p0_0, .int .u64 p0_1, .int .i64 p0_2, .bool p0_3], .agg [.int .u64 p1_0, .int .u64 p1_1, .int .i64 p1_2, .bool p1_3]] G k = bodyC Tryz.prog (runC Tryz.prog lo0 fuel n) [2, 3, 777777] fuel Tryz.f95 [.agg [.int .u64 p0_0, .int .u64 p0_1, .int .i64 p0_2, .bool p0_3], .agg [.int .u64 p1_0, .int .u64 p1_1, .int .i64 p1_2, .bool p1_3]] G k := run_body Tryz.func95 rfl rfl

/-! ### lantern/lanternref01.minus -/
theorem e_ref01_minus {R : Type} (O : Ora R) (fuel : Nat) (p0_0 p0_1 p0_2 : Int) (p0_3 : Bool) (p1_0 p1_1 p1_2 : Int) (p1_3 : Bool) (G : GH) (k : KV R) :
  bodyC Tryz.prog O [2, 3, 4, 5, 777777] fuel Tryz.f96 [.agg [.int .u64 p0_0, .int .u64 p0_1, .int .i64 p0_2, .bool p0_3], .agg [.int .u64 p1_0, .int .u64 p1_1, .int .i64 p1_2, .bool p1_3]] G k =
  bif (decide (p0_1 < p1_1)) then
  k (.agg [.int .u64 (IntKind.wrap .u64 ((IntKind.wrap .u64 (p0_0 - p1_0)) - (1 : Int))), .int .u64 (IntKind.wrap .u64 (p0_1 - p1_1)), .int .i64 p0_2, .bool false]) G
  else
  k (.agg [.int .u64 (IntKind.wrap .u64 (p0_0 - p1_0)), .int .u64 (IntKind.wrap .u64 (p0_1 - p1_1)), .int .i64 p0_2, .bool false]) G := by kernel_rfl

theorem r_ref01_minus {R : Type} (fuel n : Nat) (p0_0 p0_1 p0_2 : Int) (p0_3 : Bool) (p1_0 p1_1 p1_2 : Int) (p1_3 : Bool) (G : GH) (k : KV R) :
  runC Tryz.prog lo0 fuel (n + 1) 96 [.agg [.int .u64 p0_0, .int .u64 p0_1, .int .i64 p0_2, .bool p0_3], .agg [.int .u64 p1_0, .int .u64 p1_1, .int .i64 p1_2, .bool p1_3]] G k = bodyC Tryz.prog (runC Tryz.prog lo0 fuel n) [2, 3, 4, 5, 777777] fuel Tryz.f96 [.agg [.int .u64 p0_0, .int .u64 p0_1, .int .i64 p0_2, .bool p0_3], .agg [.int .u64 p1_0, .int .u64 p1_1, .int .i64 p1_2, .bool p1_3]] G k := run_body Tryz.func96 rfl rfl

/-! ### lantern/lanternref01.Add -/
def u_ref01_Add_0 {R : Type} (O : Ora R) (KN : Nat → Nat → Bool → Bool → GH → Option R) (s0 s1 : Nat) (s2 : Bool) (G : GH) : Option R :=
  O fn_ref01_Number [.float .f64 s0] G fun v1 G2 =>
  (ivBool v1).bind fun x3 =>
  bif (!x3) then
  KN s0 s1 s2 true G2
  else
  O fn_ref01_Number [.float .f64 s1] G2 fun v4 G5 =>
  (ivBool v4).bind fun x6 =>
  KN s0 s1 s2 (!x6) G5

def l_ref01_Add_0 {R : Type} (O : Ora R) (KN : Nat → Nat → Bool → Bool → GH → Option R) : Nat → Nat → Bool → GH → Option R := fun s0 s1 s2 G => u_ref01_Add_0 O KN s0 s1 s2 G

theorem u_ref01_Add_0_raw {R : Type} (O : Ora R) (fuel s0 s1 : Nat) (s2 : Bool) (G : GH) (k : KE R) :
  loopD Tryz.prog O lo68 fuel (nav (Tryz.f68.body.getD .skip) [1, 0, 0]) 11 (mkE 116 [(0, .float .f64 s0), (1, .float .f64 s1), (2, .bool s2)]) [] G k =
  u_ref01_Add_0 O (fun s0 s1 s2 s20 G => k .normal (mkE 116 [(0, .float .f64 s0), (1, .float .f64 s1), (2, .bool s2), (20, .bool s20)]) [] G) s0 s1 s2 G := by kernel_rfl

theorem l_ref01_Add_0_eq {R : Type} (O : Ora R) (fuel : Nat) (k : KE R) : ∀ (s0 s1 : Nat) (s2 : Bool) (G : GH),
  loopD Tryz.prog O lo68 fuel (nav (Tryz.f68.body.getD .skip) [1, 0, 0]) 11 (mkE 116 [(0, .float .f64 s0), (1, .float .f64 s1), (2, .bool s2)]) [] G k = l_ref01_Add_0 O (fun s0 s1 s2 s20 G => k .normal (mkE 116 [(0, .float .f64 s0), (1, .float .f64 s1), (2, .bool s2), (20, .bool s20)]) [] G) s0 s1 s2 G := by
  intros
  rw [u_ref01_Add_0_raw]
  simp only [l_ref01_Add_0]

def u_ref01_Add_1 {R : Type} (O : Ora R) (KN : Bool → Bool → Bool → Int → Int → Int → Bool → Int → Int → Int → Bool → GH → Option R) (s2 s9 s11 : Bool) (b0_0 b0_1 b0_2 : Int) (b0_3 : Bool) (b1_0 b1_1 b1_2 : Int) (b1_3 : Bool) (G : GH) : Option R :=
  O fn_ref01_Length [.agg [.int .u64 b0_0, .int .u64 b0_1, .int .i64 b0_2, .bool b0_3]] (gfreeze G) fun v1 _ =>
  (ivInt .i64 v1).bind fun x2 =>
  O fn_ref01_Length [.agg [.int .u64 b1_0, .int .u64 b1_1, .int .i64 b1_2, .bool b1_3]] (gfreeze G) fun v3 _ =>
  (ivInt .i64 v3).bind fun x4 =>
  bif (decide ((IntKind.wrap .i64 (x2 + b0_2)) < (IntKind.wrap .i64 (x4 + b1_2)))) then
  KN s2 s11 s9 b1_0 b1_1 b1_2 b1_3 b0_0 b0_1 b0_2 b0_3 G
  else
  KN s2 s9 s11 b0_0 b0_1 b0_2 b0_3 b1_0 b1_1 b1_2 b1_3 G

def l_ref01_Add_1 {R : Type} (O : Ora R) (KN : Bool → Bool → Bool → Int → Int → Int → Bool → Int → Int → Int → Bool → GH → Option R) : Bool → Bool → Bool → Int → Int → Int → Bool → Int → Int → Int → Bool → GH → Option R := fun s2 s9 s11 b0_0 b0_1 b0_2 b0_3 b1_0 b1_1 b1_2 b1_3 G => u_ref01_Add_1 O KN s2 s9 s11 b0_0 b0_1 b0_2 b0_3 b1_0 b1_1 b1_2 b1_3 G

theorem u_ref01_Add_1_raw {R : Type} (O : Ora R) (fuel : Nat) (s2 s9 s11 : Bool) (b0_0 b0_1 b0_2 : Int) (b0_3 : Bool) (b1_0 b1_1 b1_2 : Int) (b1_3 : Bool) (G : GH) (k : KE R) :
  loopD Tryz.prog O lo68 fuel (nav (Tryz.f68.body.getD .skip) [1, 1, 1, 1, 1, 1, 0]) 51 (mkE 116 [(2, .bool s2), (8, .loc 0 0), (9, .bool s9), (10, .loc 1 0), (11, .bool s11)]) [[.int .u64 b0_0, .int .u64 b0_1, .int .i64 b0_2, .bool b0_3], [.int .u64 b1_0, .int .u64 b1_1, .int .i64 b1_2, .bool b1_3]] G k =
  u_ref01_Add_1 O (fun s2 s9 s11 b0_0 b0_1 b0_2 b0_3 b1_0 b1_1 b1_2 b1_3 G => k .normal (mkE 116 [(2, .bool s2), (8, .loc 0 0), (9, .bool s9), (10, .loc 1 0), (11, .bool s11)]) [[.int .u64 b0_0, .int .u64 b0_1, .int .i64 b0_2, .bool b0_3], [.int .u64 b1_0, .int .u64 b1_1, .int .i64 b1_2, .bool b1_3]] G) s2 s9 s11 b0_0 b0_1 b0_2 b0_3 b1_0 b1_1 b1_2 b1_3 G := by kernel_rfl

theorem l_ref01_Add_1_eq {R : Type} (O : Ora R) (fuel : Nat) (k : KE R) : ∀ (s2 s9 s11 : Bool) (b0_0 b0_1 b0_2 : Int) (b0_3 : Bool) (b1_0 b1_1 b1_2 : Int) (b1_3 : Bool) (G : GH),
  loopD Tryz.prog O lo68 fuel (nav (Tryz.f68.body.getD .skip) [1, 1, 1, 1, 1, 1, 0]) 51 (mkE 116 [(2, .bool s2), (8, .loc 0 0), (9, .bool s9), (10, .loc 1 0), (11, .bool s11)]) [[.int .u64 b0_0, .int .u64 b0_1, .int .i64 b0_2, .bool b0_3], [.int .u64 b1_0, .int .u64 b1_1, .int .i64 b1_2, .bool b1_3]] G k = l_ref01_Add_1 O (fun s2 s9 s11 b0_0 b0_1 b0_2 b0_3 b1_0 b1_1 b1_2 b1_3 G => k .normal (mkE 116 [(2, .bool s2), (8, .loc 0 0), (9, .bool s9), (10, .loc 1 0), (11, .bool s11)]) [[.int .u64 b0_0, .int .u64 b0_1, .int .i64 b0_2, .bool b0_3], [.int .u64 b1_0, .int .u64 b1_1, .int .i64 b1_2, .bool b1_3]] G) s2 s9 s11 b0_0 b0_1 b0_2 b0_3 b1_0 b1_1 b1_2 b1_3 G := by
  intros
  rw [u_ref01_Add_1_raw]
  simp only [l_ref01_Add_1]

def u_ref01_Add_2 {R : Type} (O : Ora R) (KN : Bool → Bool → Bool → Int → Int → Int → Bool → Int → Int → Int → Bool → GH → Option R) (s2 s9 s11 : Bool) (b0_0 b0_1 b0_2 : Int) (b0_3 : Bool) (b1_0 b1_1 b1_2 : Int) (b1_3 : Bool) (G : GH) : Option R :=
  bif (decide (b1_2 ≥ b0_2)) then
  O fn_ref01_Up [.agg [.int .u64 b1_0, .int .u64 b1_1, .int .i64 b1_2, .bool b1_3], .int .i64 (IntKind.wrap .i64 (b1_2 - b0_2))] G fun v1 G2 =>
  (ivAgg 4 v1).bind fun c3 =>
  (ivInt .u64 (c3.getD 0 undefI)).bind fun x4 =>
  (ivInt .u64 (c3.getD 1 undefI)).bind fun x5 =>
  (ivInt .i64 (c3.getD 2 undefI)).bind fun x6 =>
  (ivBool (c3.getD 3 undefI)).bind fun x7 =>
  KN s2 s9 s11 b0_0 b0_1 b0_2 b0_3 x4 x5 x6 x7 G2
  else
  O fn_ref01_Down [.agg [.int .u64 b1_0, .int .u64 b1_1, .int .i64 b1_2, .bool b1_3], .int .i64 (IntKind.wrap .i64 (b0_2 - b1_2))] G fun v8 G9 =>
  (ivAgg 4 v8).bind fun c10 =>
  (ivInt .u64 (c10.getD 0 undefI)).bind fun x11 =>
  (ivInt .u64 (c10.getD 1 undefI)).bind fun x12 =>
  (ivInt .i64 (c10.getD 2 undefI)).bind fun x13 =>
  (ivBool (c10.getD 3 undefI)).bind fun x14 =>
  KN s2 s9 s11 b0_0 b0_1 b0_2 b0_3 x11 x12 x13 x14 G9

def l_ref01_Add_2 {R : Type} (O : Ora R) (KN : Bool → Bool → Bool → Int → Int → Int → Bool → Int → Int → Int → Bool → GH → Option R) : Bool → Bool → Bool → Int → Int → Int → Bool → Int → Int → Int → Bool → GH → Option R := fun s2 s9 s11 b0_0 b0_1 b0_2 b0_3 b1_0 b1_1 b1_2 b1_3 G => u_ref01_Add_2 O KN s2 s9 s11 b0_0 b0_1 b0_2 b0_3 b1_0 b1_1 b1_2 b1_3 G

theorem u_ref01_Add_2_raw {R : Type} (O : Ora R) (fuel : Nat) (s2 s9 s11 : Bool) (b0_0 b0_1 b0_2 : Int) (b0_3 : Bool) (b1_0 b1_1 b1_2 : Int) (b1_3 : Bool) (G : GH) (k : KE R) :
  loopD Tryz.prog O lo68 fuel (nav (Tryz.f68.body.getD .skip) [1, 1, 1, 1, 1, 1, 1, 1, 0]) 67 (mkE 116 [(2, .bool s2), (8, .loc 0 0), (9, .bool s9), (10, .loc 1 0), (11, .bool s11)]) [[.int .u64 b0_0, .int .u64 b0_1, .int .i64 b0_2, .bool b0_3], [.int .u64 b1_0, .int .u64 b1_1, .int .i64 b1_2, .bool b1_3]] G k =
  u_ref01_Add_2 O (fun s2 s9 s11 b0_0 b0_1 b0_2 b0_3 b1_0 b1_1 b1_2 b1_3 G => k .normal (mkE 116 [(2, .bool s2), (8, .loc 0 0), (9, .bool s9), (10, .loc 1 0), (11, .bool s11)]) [[.int .u64 b0_0, .int .u64 b0_1, .int .i64 b0_2, .bool b0_3], [.int .u64 b1_0, .int .u64 b1_1, .int .i64 b1_2, .bool b1_3]] G) s2 s9 s11 b0_0 b0_1 b0_2 b0_3 b1_0 b1_1 b1_2 b1_3 G := by kernel_rfl

theorem l_ref01_Add_2_eq {R : Type} (O : Ora R) (fuel : Nat) (k : KE R) : ∀ (s2 s9 s11 : Bool) (b0_0 b0_1 b0_2 : Int) (b0_3 : Bool) (b1_0 b1_1 b1_2 : Int) (b1_3 : Bool) (G : GH),
  loopD Tryz.prog O lo68 fuel (nav (Tryz.f68.body.getD .skip) [1, 1, 1, 1, 1, 1, 1, 1, 0]) 67 (mkE 116 [(2, .bool s2), (8, .loc 0 0), (9, .bool s9), (10, .loc 1 0), (11, .bool s11)]) [[.int .u64 b0_0, .int .u64 b0_1, .int .i64 b0_2, .bool b0_3], [.int .u64 b1_0, .int .u64 b1_1, .int .i64 b1_2, .bool b1_3]] G k = l_ref01_Add_2 O (fun s2 s9 s11 b0_0 b0_1 b0_2 b0_3 b1_0 b1_1 b1_2 b1_3 G => k .normal (mkE 116 [(2, .bool s2), (8, .loc 0 0), (9, .bool s9), (10, .loc 1 0), (11, .bool s11)]) [[.int .u64 b0_0, .int .u64 b0_1, .int .i64 b0_2, .bool b0_3], [.int .u64 b1_0, .int .u64 b1_1, .int .i64 b1_2, .bool b1_3]] G) s2 s9 s11 b0_0 b0_1 b0_2 b0_3 b1_0 b1_1 b1_2 b1_3 G := by
  intros
  rw [u_ref01_Add_2_raw]
  simp only [l_ref01_Add_2]

def u_ref01_Add_3 {R : Type} (O : Ora R) (KN : Bool → Bool → Bool → Bool → Int → Int → Int → Bool → Int → Int → Int → Bool → GH → Option R) (s2 s9 s11 : Bool) (b0_0 b0_1 b0_2 : Int) (b0_3 : Bool) (b1_0 b1_1 b1_2 : Int) (b1_3 : Bool) (G : GH) : Option R :=
  bif (!b1_3) then
  O fn_ref01_below [.agg [.int .u64 b0_0, .int .u64 b0_1, .int .i64 b0_2, .bool b0_3], .agg [.int .u64 b1_0, .int .u64 b1_1, .int .i64 b1_2, .bool b1_3]] G fun v1 G2 =>
  (ivBool v1).bind fun x3 =>
  KN s2 s9 s11 x3 b0_0 b0_1 b0_2 b0_3 b1_0 b1_1 b1_2 b1_3 G2
  else
  KN s2 s9 s11 false b0_0 b0_1 b0_2 b0_3 b1_0 b1_1 b1_2 b1_3 G

def l_ref01_Add_3 {R : Type} (O : Ora R) (KN : Bool → Bool → Bool → Bool → Int → Int → Int → Bool → Int → Int → Int → Bool → GH → Option R) : Bool → Bool → Bool → Int → Int → Int → Bool → Int → Int → Int → Bool → GH → Option R := fun s2 s9 s11 b0_0 b0_1 b0_2 b0_3 b1_0 b1_1 b1_2 b1_3 G => u_ref01_Add_3 O KN s2 s9 s11 b0_0 b0_1 b0_2 b0_3 b1_0 b1_1 b1_2 b1_3 G

theorem u_ref01_Add_3_raw {R : Type} (O : Ora R) (fuel : Nat) (s2 s9 s11 : Bool) (b0_0 b0_1 b0_2 : Int) (b0_3 : Bool) (b1_0 b1_1 b1_2 : Int) (b1_3 : Bool) (G : GH) (k : KE R) :
  loopD Tryz.prog O lo68 fuel (nav (Tryz.f68.body.getD .skip) [1, 1, 1, 1, 1, 1, 1, 1, 1, 1, 0, 0]) 79 (mkE 116 [(2, .bool s2), (8, .loc 0 0), (9, .bool s9), (10, .loc 1 0), (11, .bool s11)]) [[.int .u64 b0_0, .int .u64 b0_1, .int .i64 b0_2, .bool b0_3], [.int .u64 b1_0, .int .u64 b1_1, .int .i64 b1_2, .bool b1_3]] G k =
  u_ref01_Add_3 O (fun s2 s9 s11 s93 b0_0 b0_1 b0_2 b0_3 b1_0 b1_1 b1_2 b1_3 G => k .normal (mkE 116 [(2, .bool s2), (8, .loc 0 0), (9, .bool s9), (10, .loc 1 0), (11, .bool s11), (93, .bool s93)]) [[.int .u64 b0_0, .int .u64 b0_1, .int .i64 b0_2, .bool b0_3], [.int .u64 b1_0, .int .u64 b1_1, .int .i64 b1_2, .bool b1_3]] G) s2 s9 s11 b0_0 b0_1 b0_2 b0_3 b1_0 b1_1 b1_2 b1_3 G := by kernel_rfl

theorem l_ref01_Add_3_eq {R : Type} (O : Ora R) (fuel : Nat) (k : KE R) : ∀ (s2 s9 s11 : Bool) (b0_0 b0_1 b0_2 : Int) (b0_3 : Bool) (b1_0 b1_1 b1_2 : Int) (b1_3 : Bool) (G : GH),
  loopD Tryz.prog O lo68 fuel (nav (Tryz.f68.body.getD .skip) [1, 1, 1, 1, 1, 1, 1, 1, 1, 1, 0, 0]) 79 (mkE 116 [(2, .bool s2), (8, .loc 0 0), (9, .bool s9), (10, .loc 1 0), (11, .bool s11)]) [[.int .u64 b0_0, .int .u64 b0_1, .int .i64 b0_2, .bool b0_3], [.int .u64 b1_0, .int .u64 b1_1, .int .i64 b1_2, .bool b1_3]] G k = l_ref01_Add_3 O (fun s2 s9 s11 s93 b0_0 b0_1 b0_2 b0_3 b1_0 b1_1 b1_2 b1_3 G => k .normal (mkE 116 [(2, .bool s2), (8, .loc 0 0), (9, .bool s9), (10, .loc 1 0), (11, .bool s11), (93, .bool s93)]) [[.int .u64 b0_0, .int .u64 b0_1, .int .i64 b0_2, .bool b0_3], [.int .u64 b1_0, .int .u64 b1_1, .int .i64 b1_2, .bool b1_3]] G) s2 s9 s11 b0_0 b0_1 b0_2 b0_3 b1_0 b1_1 b1_2 b1_3 G := by
  intros
  rw [u_ref01_Add_3_raw]
  simp only [l_ref01_Add_3]

def u_ref01_Add_4 {R : Type} (O : Ora R) (KN : Bool → Bool → Int → Int → Int → Bool → Int → Int → Int → Bool → Int → Int → Int → Bool → GH → Option R) (s2 s9 : Bool) (b0_0 b0_1 b0_2 : Int) (b0_3 : Bool) (b1_0 b1_1 b1_2 : Int) (b1_3 : Bool) (b2_0 b2_1 b2_2 : Int) (b2_3 : Bool) (G : GH) : Option R :=
  bif b1_3 then
  O fn_ref01_minus [.agg [.int .u64 b2_0, .int .u64 b2_1, .int .i64 b2_2, .bool b2_3], .agg [.int .u64 (0 : Int), .int .u64 (1 : Int), .int .i64 (0 : Int), .bool false]] G fun v1 G2 =>
  (ivAgg 4 v1).bind fun c3 =>
  (ivInt .u64 (c3.getD 0 undefI)).bind fun x4 =>
  (ivInt .u64 (c3.getD 1 undefI)).bind fun x5 =>
  (ivInt .i64 (c3.getD 2 undefI)).bind fun x6 =>
  (ivBool (c3.getD 3 undefI)).bind fun x7 =>
  KN s2 s9 b0_0 b0_1 b0_2 b0_3 b1_0 b1_1 b1_2 b1_3 x4 x5 b0_2 true G2
  else
  KN s2 s9 b0_0 b0_1 b0_2 b0_3 b1_0 b1_1 b1_2 b1_3 b2_0 b2_1 b2_2 b2_3 G

def l_ref01_Add_4 {R : Type} (O : Ora R) (KN : Bool → Bool → Int → Int → Int → Bool → Int → Int → Int → Bool → Int → Int → Int → Bool → GH → Option R) : Bool → Bool → Int → Int → Int → Bool → Int → Int → Int → Bool → Int → Int → Int → Bool → GH → Option R := fun s2 s9 b0_0 b0_1 b0_2 b0_3 b1_0 b1_1 b1_2 b1_3 b2_0 b2_1 b2_2 b2_3 G => u_ref01_Add_4 O KN s2 s9 b0_0 b0_1 b0_2 b0_3 b1_0 b1_1 b1_2 b1_3 b2_0 b2_1 b2_2 b2_3 G

theorem u_ref01_Add_4_raw {R : Type} (O : Ora R) (fuel : Nat) (s2 s9 : Bool) (b0_0 b0_1 b0_2 : Int) (b0_3 : Bool) (b1_0 b1_1 b1_2 : Int) (b1_3 : Bool) (b2_0 b2_1 b2_2 : Int) (b2_3 : Bool) (G : GH) (k : KE R) :
  loopD Tryz.prog O lo68 fuel (nav (Tryz.f68.body.getD .skip) [1, 1, 1, 1, 1, 1, 1, 1, 1, 1, 1, 1, 0]) 103 (mkE 116 [(2, .bool s2), (8, .loc 0 0), (9, .bool s9), (10, .loc 1 0), (12, .loc 2 0)]) [[.int .u64 b0_0, .int .u64 b0_1, .int .i64 b0_2, .bool b0_3], [.int .u64 b1_0, .int .u64 b1_1, .int .i64 b1_2, .bool b1_3], [.int .u64 b2_0, .int .u64 b2_1, .int .i64 b2_2, .bool b2_3]] G k =
  u_ref01_Add_4 O (fun s2 s9 b0_0 b0_1 b0_2 b0_3 b1_0 b1_1 b1_2 b1_3 b2_0 b2_1 b2_2 b2_3 G => k .normal (mkE 116 [(2, .bool s2), (9, .bool s9), (12, .loc 2 0)]) [[.int .u64 b0_0, .int .u64 b0_1, .int .i64 b0_2, .bool b0_3], [.int .u64 b1_0, .int .u64 b1_1, .int .i64 b1_2, .bool b1_3], [.int .u64 b2_0, .int .u64 b2_1, .int .i64 b2_2, .bool b2_3]] G) s2 s9 b0_0 b0_1 b0_2 b0_3 b1_0 b1_1 b1_2 b1_3 b2_0 b2_1 b2_2 b2_3 G := by kernel_rfl

theorem l_ref01_Add_4_eq {R : Type} (O : Ora R) (fuel : Nat) (k : KE R) : ∀ (s2 s9 : Bool) (b0_0 b0_1 b0_2 : Int) (b0_3 : Bool) (b1_0 b1_1 b1_2 : Int) (b1_3 : Bool) (b2_0 b2_1 b2_2 : Int) (b2_3 : Bool) (G : GH),
  loopD Tryz.prog O lo68 fuel (nav (Tryz.f68.body.getD .skip) [1, 1, 1, 1, 1, 1, 1, 1, 1, 1, 1, 1, 0]) 103 (mkE 116 [(2, .bool s2), (8, .loc 0 0), (9, .bool s9), (10, .loc 1 0), (12, .loc 2 0)]) [[.int .u64 b0_0, .int .u64 b0_1, .int .i64 b0_2, .bool b0_3], [.int .u64 b1_0, .int .u64 b1_1, .int .i64 b1_2, .bool b1_3], [.int .u64 b2_0, .int .u64 b2_1, .int .i64 b2_2, .bool b2_3]] G k = l_ref01_Add_4 O (fun s2 s9 b0_0 b0_1 b0_2 b0_3 b1_0 b1_1 b1_2 b1_3 b2_0 b2_1 b2_2 b2_3 G => k .normal (mkE 116 [(2, .bool s2), (9, .bool s9), (12, .loc 2 0)]) [[.int .u64 b0_0, .int .u64 b0_1, .int .i64 b0_2, .bool b0_3], [.int .u64 b1_0, .int .u64 b1_1, .int .i64 b1_2, .bool b1_3], [.int .u64 b2_0, .int .u64 b2_1, .int .i64 b2_2, .bool b2_3]] G) s2 s9 b0_0 b0_1 b0_2 b0_3 b1_0 b1_1 b1_2 b1_3 b2_0 b2_1 b2_2 b2_3 G := by
  intros
  rw [u_ref01_Add_4_raw]
  simp only [l_ref01_Add_4]

def u_ref01_Add {R : Type} (O : Ora R) (k : KV R) (L0 : Nat → Nat → Bool → GH → Option R) (p0 p1 : Nat) (p2 : Bool) (G : GH) : Option R :=
  L0 p0 p1 p2 G

def a_ref01_Add_0N {R : Type} (O : Ora R) (k : KV R) (L1 : Bool → Bool → Bool → Int → Int → Int → Bool → Int → Int → Int → Bool → GH → Option R) (s0 s1 : Nat) (s2 s20 : Bool) (G : GH) : Option R :=
  bif s20 then
  k (.tuple [.float .f64 (0 : Nat), .int .i64 (10 : Int)]) G
  else
  bif (feq .f64 s1 (0 : Nat)) then
  O fn_ref01_Zeroed [.float .f64 s0] G fun v1 G2 =>
  (ivFloat .f64 v1).bind fun x3 =>
  k (.tuple [.float .f64 x3, .int .i64 (0 : Int)]) G2
  else
  bif (feq .f64 s0 (0 : Nat)) then
  k (.tuple [.float .f64 s1, .int .i64 (0 : Int)]) G
  else
  O fn_ref01_Part [.float .f64 s0] G fun v4 G5 =>
  (ivTup 2 v4).bind fun c6 =>
  (ivAgg 4 (c6.getD 0 undefI)).bind fun c7 =>
  (ivInt .u64 (c7.getD 0 undefI)).bind fun x8 =>
  (ivInt .u64 (c7.getD 1 undefI)).bind fun x9 =>
  (ivInt .i64 (c7.getD 2 undefI)).bind fun x10 =>
  (ivBool (c7.getD 3 undefI)).bind fun x11 =>
  (ivBool (c6.getD 1 undefI)).bind fun x12 =>
  O fn_ref01_Part [.float .f64 s1] G5 fun v13 G14 =>
  (ivTup 2 v13).bind fun c15 =>
  (ivAgg 4 (c15.getD 0 undefI)).bind fun c16 =>
  (ivInt .u64 (c16.getD 0 undefI)).bind fun x17 =>
  (ivInt .u64 (c16.getD 1 undefI)).bind fun x18 =>
  (ivInt .i64 (c16.getD 2 undefI)).bind fun x19 =>
  (ivBool (c16.getD 3 undefI)).bind fun x20 =>
  (ivBool (c15.getD 1 undefI)).bind fun x21 =>
  L1 s2 x12 x21 x8 x9 x10 x11 x17 x18 x19 x20 G14

def a_ref01_Add_1N {R : Type} (O : Ora R) (k : KV R) (L2 : Bool → Bool → Bool → Int → Int → Int → Bool → Int → Int → Int → Bool → GH → Option R) (s2 s9 s11 : Bool) (b0_0 b0_1 b0_2 : Int) (b0_3 : Bool) (b1_0 b1_1 b1_2 : Int) (b1_3 : Bool) (G : GH) : Option R :=
  O fn_ref01_Length [.agg [.int .u64 b0_0, .int .u64 b0_1, .int .i64 b0_2, .bool b0_3]] (gfreeze G) fun v1 _ =>
  (ivInt .i64 v1).bind fun x2 =>
  O fn_ref01_Up [.agg [.int .u64 b0_0, .int .u64 b0_1, .int .i64 b0_2, .bool b0_3], .int .i64 (IntKind.wrap .i64 ((126 : Int) - x2))] (gfreeze G) fun v3 _ =>
  (ivAgg 4 v3).bind fun c4 =>
  (ivInt .u64 (c4.getD 0 undefI)).bind fun x5 =>
  (ivInt .u64 (c4.getD 1 undefI)).bind fun x6 =>
  (ivInt .i64 (c4.getD 2 undefI)).bind fun x7 =>
  (ivBool (c4.getD 3 undefI)).bind fun x8 =>
  L2 s2 s9 s11 x5 x6 x7 x8 b1_0 b1_1 b1_2 b1_3 G

def a_ref01_Add_2N {R : Type} (O : Ora R) (k : KV R) (L3 : Bool → Bool → Bool → Int → Int → Int → Bool → Int → Int → Int → Bool → GH → Option R) (s2 s9 s11 : Bool) (b0_0 b0_1 b0_2 : Int) (b0_3 : Bool) (b1_0 b1_1 b1_2 : Int) (b1_3 : Bool) (G : GH) : Option R :=
  bif (s9 == s11) then
  O fn_ref01_plus [.agg [.int .u64 b0_0, .int .u64 b0_1, .int .i64 b0_2, .bool b0_3], .agg [.int .u64 b1_0, .int .u64 b1_1, .int .i64 b1_2, .bool b1_3]] G fun v1 G2 =>
  (ivAgg 4 v1).bind fun c3 =>
  (ivInt .u64 (c3.getD 0 undefI)).bind fun x4 =>
  (ivInt .u64 (c3.getD 1 undefI)).bind fun x5 =>
  (ivInt .i64 (c3.getD 2 undefI)).bind fun x6 =>
  (ivBool (c3.getD 3 undefI)).bind fun x7 =>
  O fn_ref01_To [.agg [.int .u64 x4, .int .u64 x5, .int .i64 x6, .bool x7], .bool s9, .bool s2] G2 fun v8 G9 =>
  (ivFloat .f64 v8).bind fun x10 =>
  k (.tuple [.float .f64 x10, .int .i64 (0 : Int)]) G9
  else
  L3 s2 s9 s11 b0_0 b0_1 b0_2 b0_3 b1_0 b1_1 b1_2 b1_3 G

def a_ref01_Add_3N {R : Type} (O : Ora R) (k : KV R) (L4 : Bool → Bool → Int → Int → Int → Bool → Int → Int → Int → Bool → Int → Int → Int → Bool → GH → Option R) (s2 s9 : Bool) (s11 s93 : Bool) (b0_0 b0_1 b0_2 : Int) (b0_3 : Bool) (b1_0 b1_1 b1_2 : Int) (b1_3 : Bool) (G : GH) : Option R :=
  bif s93 then
  O fn_ref01_minus [.agg [.int .u64 b1_0, .int .u64 b1_1, .int .i64 b1_2, .bool b1_3], .agg [.int .u64 b0_0, .int .u64 b0_1, .int .i64 b0_2, .bool b0_3]] G fun v1 G2 =>
  (ivAgg 4 v1).bind fun c3 =>
  (ivInt .u64 (c3.getD 0 undefI)).bind fun x4 =>
  (ivInt .u64 (c3.getD 1 undefI)).bind fun x5 =>
  (ivInt .i64 (c3.getD 2 undefI)).bind fun x6 =>
  (ivBool (c3.getD 3 undefI)).bind fun x7 =>
  O fn_ref01_To [.agg [.int .u64 x4, .int .u64 x5, .int .i64 x6, .bool x7], .bool s11, .bool s2] G2 fun v8 G9 =>
  (ivFloat .f64 v8).bind fun x10 =>
  k (.tuple [.float .f64 x10, .int .i64 (0 : Int)]) G9
  else
  O fn_ref01_minus [.agg [.int .u64 b0_0, .int .u64 b0_1, .int .i64 b0_2, .bool b0_3], .agg [.int .u64 b1_0, .int .u64 b1_1, .int .i64 b1_2, .bool b1_3]] G fun v11 G12 =>
  (ivAgg 4 v11).bind fun c13 =>
  (ivInt .u64 (c13.getD 0 undefI)).bind fun x14 =>
  (ivInt .u64 (c13.getD 1 undefI)).bind fun x15 =>
  (ivInt .i64 (c13.getD 2 undefI)).bind fun x16 =>
  (ivBool (c13.getD 3 undefI)).bind fun x17 =>
  L4 s2 s9 b0_0 b0_1 b0_2 b0_3 b1_0 b1_1 b1_2 b1_3 x14 x15 x16 x17 G12

def a_ref01_Add_4N {R : Type} (O : Ora R) (k : KV R) (s2 s9 : Bool) (b0_0 b0_1 b0_2 : Int) (b0_3 : Bool) (b1_0 b1_1 b1_2 : Int) (b1_3 : Bool) (b2_0 b2_1 b2_2 : Int) (b2_3 : Bool) (G : GH) : Option R :=
  O fn_ref01_To [.agg [.int .u64 b2_0, .int .u64 b2_1, .int .i64 b2_2, .bool b2_3], .bool s9, .bool s2] G fun v1 G2 =>
  (ivFloat .f64 v1).bind fun x3 =>
  k (.tuple [.float .f64 x3, .int .i64 (0 : Int)]) G2

def L_ref01_Add_4 {R : Type} (O : Ora R) (fuel : Nat) (k : KV R) : Bool → Bool → Int → Int → Int → Bool → Int → Int → Int → Bool → Int → Int → Int → Bool → GH → Option R := fun s2 s9 b0_0 b0_1 b0_2 b0_3 b1_0 b1_1 b1_2 b1_3 b2_0 b2_1 b2_2 b2_3 G =>
  stepN fuel (l_ref01_Add_4 O (a_ref01_Add_4N O k) s2 s9 b0_0 b0_1 b0_2 b0_3 b1_0 b1_1 b1_2 b1_3 b2_0 b2_1 b2_2 b2_3 G)

theorem a_ref01_Add_4N_raw {R : Type} (O : Ora R) (fuel : Nat) (s2 s9 : Bool) (b0_0 b0_1 b0_2 : Int) (b0_3 : Bool) (b1_0 b1_1 b1_2 : Int) (b1_3 : Bool) (b2_0 b2_1 b2_2 : Int) (b2_3 : Bool) (G : GH) (k : KV R) :
  contC Tryz.prog O lo68 fuel (Tryz.f68.body.getD .skip) [1, 1, 1, 1, 1, 1, 1, 1, 1, 1, 1, 1, 0] (fun e env F G => match e with | .exit _ => none | _ => resC Tryz.prog Tryz.f68 env F G k) .normal (mkE 116 [(2, .bool s2), (9, .bool s9), (12, .loc 2 0)]) [[.int .u64 b0_0, .int .u64 b0_1, .int .i64 b0_2, .bool b0_3], [.int .u64 b1_0, .int .u64 b1_1, .int .i64 b1_2, .bool b1_3], [.int .u64 b2_0, .int .u64 b2_1, .int .i64 b2_2, .bool b2_3]] G =
  a_ref01_Add_4N O k s2 s9 b0_0 b0_1 b0_2 b0_3 b1_0 b1_1 b1_2 b1_3 b2_0 b2_1 b2_2 b2_3 G := by kernel_rfl

theorem L_ref01_Add_4_eq {R : Type} (O : Ora R) (fuel : Nat) (k : KV R) :
  (fun (s2 s9 : Bool) (b0_0 b0_1 b0_2 : Int) (b0_3 : Bool) (b1_0 b1_1 b1_2 : Int) (b1_3 : Bool) (b2_0 b2_1 b2_2 : Int) (b2_3 : Bool) (G : GH) => stepN fuel (loopD Tryz.prog O lo68 fuel (nav (Tryz.f68.body.getD .skip) [1, 1, 1, 1, 1, 1, 1, 1, 1, 1, 1, 1, 0]) 103 (mkE 116 [(2, .bool s2), (8, .loc 0 0), (9, .bool s9), (10, .loc 1 0), (12, .loc 2 0)]) [[.int .u64 b0_0, .int .u64 b0_1, .int .i64 b0_2, .bool b0_3], [.int .u64 b1_0, .int .u64 b1_1, .int .i64 b1_2, .bool b1_3], [.int .u64 b2_0, .int .u64 b2_1, .int .i64 b2_2, .bool b2_3]] G (contC Tryz.prog O lo68 fuel (Tryz.f68.body.getD .skip) [1, 1, 1, 1, 1, 1, 1, 1, 1, 1, 1, 1, 0] (fun e env F G => match e with | .exit _ => none | _ => resC Tryz.prog Tryz.f68 env F G k)))) = L_ref01_Add_4 O fuel k := by
  funext s2 s9 b0_0 b0_1 b0_2 b0_3 b1_0 b1_1 b1_2 b1_3 b2_0 b2_1 b2_2 b2_3 G
  simp only [L_ref01_Add_4, l_ref01_Add_4_eq, a_ref01_Add_4N_raw]

def L_ref01_Add_3 {R : Type} (O : Ora R) (fuel : Nat) (k : KV R) : Bool → Bool → Bool → Int → Int → Int → Bool → Int → Int → Int → Bool → GH → Option R := fun s2 s9 s11 b0_0 b0_1 b0_2 b0_3 b1_0 b1_1 b1_2 b1_3 G =>
  stepN fuel (l_ref01_Add_3 O (a_ref01_Add_3N O k (L_ref01_Add_4 O fuel k)) s2 s9 s11 b0_0 b0_1 b0_2 b0_3 b1_0 b1_1 b1_2 b1_3 G)

theorem a_ref01_Add_3N_raw {R : Type} (O : Ora R) (fuel : Nat) (s2 s9 : Bool) (s11 s93 : Bool) (b0_0 b0_1 b0_2 : Int) (b0_3 : Bool) (b1_0 b1_1 b1_2 : Int) (b1_3 : Bool) (G : GH) (k : KV R) :
  contC Tryz.prog O lo68 fuel (Tryz.f68.body.getD .skip) [1, 1, 1, 1, 1, 1, 1, 1, 1, 1, 0, 0] (fun e env F G => match e with | .exit _ => none | _ => resC Tryz.prog Tryz.f68 env F G k) .normal (mkE 116 [(2, .bool s2), (8, .loc 0 0), (9, .bool s9), (10, .loc 1 0), (11, .bool s11), (93, .bool s93)]) [[.int .u64 b0_0, .int .u64 b0_1, .int .i64 b0_2, .bool b0_3], [.int .u64 b1_0, .int .u64 b1_1, .int .i64 b1_2, .bool b1_3]] G =
  a_ref01_Add_3N O k (fun s2 s9 b0_0 b0_1 b0_2 b0_3 b1_0 b1_1 b1_2 b1_3 b2_0 b2_1 b2_2 b2_3 G => stepN fuel (loopD Tryz.prog O lo68 fuel (nav (Tryz.f68.body.getD .skip) [1, 1, 1, 1, 1, 1, 1, 1, 1, 1, 1, 1, 0]) 103 (mkE 116 [(2, .bool s2), (8, .loc 0 0), (9, .bool s9), (10, .loc 1 0), (12, .loc 2 0)]) [[.int .u64 b0_0, .int .u64 b0_1, .int .i64 b0_2, .bool b0_3], [.int .u64 b1_0, .int .u64 b1_1, .int .i64 b1_2, .bool b1_3], [.int .u64 b2_0, .int .u64 b2_1, .int .i64 b2_2, .bool b2_3]] G (contC Tryz.prog O lo68 fuel (Tryz.f68.body.getD .skip) [1, 1, 1, 1, 1, 1, 1, 1, 1, 1, 1, 1, 0] (fun e env F G => match e with | .exit _ => none | _ => resC Tryz.prog Tryz.f68 env F G k)))) s2 s9 s11 s93 b0_0 b0_1 b0_2 b0_3 b1_0 b1_1 b1_2 b1_3 G := by kernel_rfl

theorem L_ref01_Add_3_eq {R : Type} (O : Ora R) (fuel : Nat) (k : KV R) :
  (fun (s2 s9 s11 : Bool) (b0_0 b0_1 b0_2 : Int) (b0_3 : Bool) (b1_0 b1_1 b1_2 : Int) (b1_3 : Bool) (G : GH) => stepN fuel (loopD Tryz.prog O lo68 fuel (nav (Tryz.f68.body.getD .skip) [1, 1, 1, 1, 1, 1, 1, 1, 1, 1, 0, 0]) 79 (mkE 116 [(2, .bool s2), (8, .loc 0 0), (9, .bool s9), (10, .loc 1 0), (11, .bool s11)]) [[.int .u64 b0_0, .int .u64 b0_1, .int .i64 b0_2, .bool b0_3], [.int .u64 b1_0, .int .u64 b1_1, .int .i64 b1_2, .bool b1_3]] G (contC Tryz.prog O lo68 fuel (Tryz.f68.body.getD .skip) [1, 1, 1, 1, 1, 1, 1, 1, 1, 1, 0, 0] (fun e env F G => match e with | .exit _ => none | _ => resC Tryz.prog Tryz.f68 env F G k)))) = L_ref01_Add_3 O fuel k := by
  funext s2 s9 s11 b0_0 b0_1 b0_2 b0_3 b1_0 b1_1 b1_2 b1_3 G
  simp only [L_ref01_Add_3, l_ref01_Add_3_eq, a_ref01_Add_3N_raw, L_ref01_Add_4_eq]

def L_ref01_Add_2 {R : Type} (O : Ora R) (fuel : Nat) (k : KV R) : Bool → Bool → Bool → Int → Int → Int → Bool → Int → Int → Int → Bool → GH → Option R := fun s2 s9 s11 b0_0 b0_1 b0_2 b0_3 b1_0 b1_1 b1_2 b1_3 G =>
  stepN fuel (l_ref01_Add_2 O (a_ref01_Add_2N O k (L_ref01_Add_3 O fuel k)) s2 s9 s11 b0_0 b0_1 b0_2 b0_3 b1_0 b1_1 b1_2 b1_3 G)

theorem a_ref01_Add_2N_raw {R : Type} (O : Ora R) (fuel : Nat) (s2 s9 s11 : Bool) (b0_0 b0_1 b0_2 : Int) (b0_3 : Bool) (b1_0 b1_1 b1_2 : Int) (b1_3 : Bool) (G : GH) (k : KV R) :
  contC Tryz.prog O lo68 fuel (Tryz.f68.body.getD .skip) [1, 1, 1, 1, 1, 1, 1, 1, 0] (fun e env F G => match e with | .exit _ => none | _ => resC Tryz.prog Tryz.f68 env F G k) .normal (mkE 116 [(2, .bool s2), (8, .loc 0 0), (9, .bool s9), (10, .loc 1 0), (11, .bool s11)]) [[.int .u64 b0_0, .int .u64 b0_1, .int .i64 b0_2, .bool b0_3], [.int .u64 b1_0, .int .u64 b1_1, .int .i64 b1_2, .bool b1_3]] G =
  a_ref01_Add_2N O k (fun s2 s9 s11 b0_0 b0_1 b0_2 b0_3 b1_0 b1_1 b1_2 b1_3 G => stepN fuel (loopD Tryz.prog O lo68 fuel (nav (Tryz.f68.body.getD .skip) [1, 1, 1, 1, 1, 1, 1, 1, 1, 1, 0, 0]) 79 (mkE 116 [(2, .bool s2), (8, .loc 0 0), (9, .bool s9), (10, .loc 1 0), (11, .bool s11)]) [[.int .u64 b0_0, .int .u64 b0_1, .int .i64 b0_2, .bool b0_3], [.int .u64 b1_0, .int .u64 b1_1, .int .i64 b1_2, .bool b1_3]] G (contC Tryz.prog O lo68 fuel (Tryz.f68.body.getD .skip) [1, 1, 1, 1, 1, 1, 1, 1, 1, 1, 0, 0] (fun e env F G => match e with | .exit _ => none | _ => resC Tryz.prog Tryz.f68 env F G k)))) s2 s9 s11 b0_0 b0_1 b0_2 b0_3 b1_0 b1_1 b1_2 b1_3 G := by kernel_rfl

theorem L_ref01_Add_2_eq {R : Type} (O : Ora R) (fuel : Nat) (k : KV R) :
  (fun (s2 s9 s11 : Bool) (b0_0 b0_1 b0_2 : Int) (b0_3 : Bool) (b1_0 b1_1 b1_2 : Int) (b1_3 : Bool) (G : GH) => stepN fuel (loopD Tryz.prog O lo68 fuel (nav (Tryz.f68.body.getD .skip) [1, 1, 1, 1, 1, 1, 1, 1, 0]) 67 (mkE 116 [(2, .bool s2), (8, .loc 0 0), (9, .bool s9), (10, .loc 1 0), (11, .bool s11)]) [[.int .u64 b0_0, .int .u64 b0_1, .int .i64 b0_2, .bool b0_3], [.int .u64 b1_0, .int .u64 b1_1, .int .i64 b1_2, .bool b1_3]] G (contC Tryz.prog O lo68 fuel (Tryz.f68.body.getD .skip) [1, 1, 1, 1, 1, 1, 1, 1, 0] (fun e env F G => match e with | .exit _ => none | _ => resC Tryz.prog Tryz.f68 env F G k)))) = L_ref01_Add_2 O fuel k := by
  funext s2 s9 s11 b0_0 b0_1 b0_2 b0_3 b1_0 b1_1 b1_2 b1_3 G
  simp only [L_ref01_Add_2, l_ref01_Add_2_eq, a_ref01_Add_2N_raw, L_ref01_Add_3_eq]

def L_ref01_Add_1 {R : Type} (O : Ora R) (fuel : Nat) (k : KV R) : Bool → Bool → Bool → Int → Int → Int → Bool → Int → Int → Int → Bool → GH → Option R := fun s2 s9 s11 b0_0 b0_1 b0_2 b0_3 b1_0 b1_1 b1_2 b1_3 G =>
  stepN fuel (l_ref01_Add_1 O (a_ref01_Add_1N O k (L_ref01_Add_2 O fuel k)) s2 s9 s11 b0_0 b0_1 b0_2 b0_3 b1_0 b1_1 b1_2 b1_3 G)

theorem a_ref01_Add_1N_raw {R : Type} (O : Ora R) (fuel : Nat) (s2 s9 s11 : Bool) (b0_0 b0_1 b0_2 : Int) (b0_3 : Bool) (b1_0 b1_1 b1_2 : Int) (b1_3 : Bool) (G : GH) (k : KV R) :
  contC Tryz.prog O lo68 fuel (Tryz.f68.body.getD .skip) [1, 1, 1, 1, 1, 1, 0] (fun e env F G => match e with | .exit _ => none | _ => resC Tryz.prog Tryz.f68 env F G k) .normal (mkE 116 [(2, .bool s2), (8, .loc 0 0), (9, .bool s9), (10, .loc 1 0), (11, .bool s11)]) [[.int .u64 b0_0, .int .u64 b0_1, .int .i64 b0_2, .bool b0_3], [.int .u64 b1_0, .int .u64 b1_1, .int .i64 b1_2, .bool b1_3]] G =
  a_ref01_Add_1N O k (fun s2 s9 s11 b0_0 b0_1 b0_2 b0_3 b1_0 b1_1 b1_2 b1_3 G => stepN fuel (loopD Tryz.prog O lo68 fuel (nav (Tryz.f68.body.getD .skip) [1, 1, 1, 1, 1, 1, 1, 1, 0]) 67 (mkE 116 [(2, .bool s2), (8, .loc 0 0), (9, .bool s9), (10, .loc 1 0), (11, .bool s11)]) [[.int .u64 b0_0, .int .u64 b0_1, .int .i64 b0_2, .bool b0_3], [.int .u64 b1_0, .int .u64 b1_1, .int .i64 b1_2, .bool b1_3]] G (contC Tryz.prog O lo68 fuel (Tryz.f68.body.getD .skip) [1, 1, 1, 1, 1, 1, 1, 1, 0] (fun e env F G => match e with | .exit _ => none | _ => resC Tryz.prog Tryz.f68 env F G k)))) s2 s9 s11 b0_0 b0_1 b0_2 b0_3 b1_0 b1_1 b1_2 b1_3 G := by kernel_rfl

theorem L_ref01_Add_1_eq {R : Type} (O : Ora R) (fuel : Nat) (k : KV R) :
  (fun (s2 s9 s11 : Bool) (b0_0 b0_1 b0_2 : Int) (b0_3 : Bool) (b1_0 b1_1 b1_2 : Int) (b1_3 : Bool) (G : GH) => stepN fuel (loopD Tryz.prog O lo68 fuel (nav (Tryz.f68.body.getD .skip) [1, 1, 1, 1, 1, 1, 0]) 51 (mkE 116 [(2, .bool s2), (8, .loc 0 0), (9, .bool s9), (10, .loc 1 0), (11, .bool s11)]) [[.int .u64 b0_0, .int .u64 b0_1, .int .i64 b0_2, .bool b0_3], [.int .u64 b1_0, .int .u64 b1_1, .int .i64 b1_2, .bool b1_3]] G (contC Tryz.prog O lo68 fuel (Tryz.f68.body.getD .skip) [1, 1, 1, 1, 1, 1, 0] (fun e env F G => match e with | .exit _ => none | _ => resC Tryz.prog Tryz.f68 env F G k)))) = L_ref01_Add_1 O fuel k := by
  funext s2 s9 s11 b0_0 b0_1 b0_2 b0_3 b1_0 b1_1 b1_2 b1_3 G
  simp only [L_ref01_Add_1, l_ref01_Add_1_eq, a_ref01_Add_1N_raw, L_ref01_Add_2_eq]

def L_ref01_Add_0 {R : Type} (O : Ora R) (fuel : Nat) (k : KV R) : Nat → Nat → Bool → GH → Option R := fun s0 s1 s2 G =>
  stepN fuel (l_ref01_Add_0 O (a_ref01_Add_0N O k (L_ref01_Add_1 O fuel k)) s0 s1 s2 G)

theorem a_ref01_Add_0N_raw {R : Type} (O : Ora R) (fuel s0 s1 : Nat) (s2 s20 : Bool) (G : GH) (k : KV R) :
  contC Tryz.prog O lo68 fuel (Tryz.f68.body.getD .skip) [1, 0, 0] (fun e env F G => match e with | .exit _ => none | _ => resC Tryz.prog Tryz.f68 env F G k) .normal (mkE 116 [(0, .float .f64 s0), (1, .float .f64 s1), (2, .bool s2), (20, .bool s20)]) [] G =
  a_ref01_Add_0N O k (fun s2 s9 s11 b0_0 b0_1 b0_2 b0_3 b1_0 b1_1 b1_2 b1_3 G => stepN fuel (loopD Tryz.prog O lo68 fuel (nav (Tryz.f68.body.getD .skip) [1, 1, 1, 1, 1, 1, 0]) 51 (mkE 116 [(2, .bool s2), (8, .loc 0 0), (9, .bool s9), (10, .loc 1 0), (11, .bool s11)]) [[.int .u64 b0_0, .int .u64 b0_1, .int .i64 b0_2, .bool b0_3], [.int .u64 b1_0, .int .u64 b1_1, .int .i64 b1_2, .bool b1_3]] G (contC Tryz.prog O lo68 fuel (Tryz.f68.body.getD .skip) [1, 1, 1, 1, 1, 1, 0] (fun e env F G => match e with | .exit _ => none | _ => resC Tryz.prog Tryz.f68 env F G k)))) s0 s1 s2 s20 G := by kernel_rfl

theorem L_ref01_Add_0_eq {R : Type} (O : Ora R) (fuel : Nat) (k : KV R) :
  (fun (s0 s1 : Nat) (s2 : Bool) (G : GH) => stepN fuel (loopD Tryz.prog O lo68 fuel (nav (Tryz.f68.body.getD .skip) [1, 0, 0]) 11 (mkE 116 [(0, .float .f64 s0), (1, .float .f64 s1), (2, .bool s2)]) [] G (contC Tryz.prog O lo68 fuel (Tryz.f68.body.getD .skip) [1, 0, 0] (fun e env F G => match e with | .exit _ => none | _ => resC Tryz.prog Tryz.f68 env F G k)))) = L_ref01_Add_0 O fuel k := by
  funext s0 s1 s2 G
  simp only [L_ref01_Add_0, l_ref01_Add_0_eq, a_ref01_Add_0N_raw, L_ref01_Add_1_eq]

theorem e_ref01_Add_raw {R : Type} (O : Ora R) (fuel p0 p1 : Nat) (p2 : Bool) (G : GH) (k : KV R) :
  bodyC Tryz.prog O lo68 fuel Tryz.f68 [.float .f64 p0, .float .f64 p1, .bool p2] G k =
  u_ref01_Add O k (fun s0 s1 s2 G => stepN fuel (loopD Tryz.prog O lo68 fuel (nav (Tryz.f68.body.getD .skip) [1, 0, 0]) 11 (mkE 116 [(0, .float .f64 s0), (1, .float .f64 s1), (2, .bool s2)]) [] G (contC Tryz.prog O lo68 fuel (Tryz.f68.body.getD .skip) [1, 0, 0] (fun e env F G => match e with | .exit _ => none | _ => resC Tryz.prog Tryz.f68 env F G k)))) p0 p1 p2 G := by kernel_rfl

theorem e_ref01_Add {R : Type} (O : Ora R) (fuel p0 p1 : Nat) (p2 : Bool) (G : GH) (k : KV R) :
  bodyC Tryz.prog O lo68 fuel Tryz.f68 [.float .f64 p0, .float .f64 p1, .bool p2] G k =
  u_ref01_Add O k (L_ref01_Add_0 O fuel k) p0 p1 p2 G := by
  rw [e_ref01_Add_raw, L_ref01_Add_0_eq]

theorem r_ref01_Add {R : Type} (fuel n p0 p1 : Nat) (p2 : Bool) (G : GH) (k : KV R) :
  runC Tryz.prog lo0 fuel (n + 1) 68 [.float .f64 p0, .float .f64 p1, .bool p2] G k = bodyC Tryz.prog (runC Tryz.prog lo0 fuel n) lo68 fuel Tryz.f68 [.float .f64 p0, .float .f64 p1, .bool p2] G k := run_body Tryz.func68 rfl rfl

end Go.LI.Film
