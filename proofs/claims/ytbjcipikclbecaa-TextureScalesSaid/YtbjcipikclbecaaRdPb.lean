/- What the interpreter gives for math (written by tex.py). -/
import Derived.Test.YtbjcipikclbecaaSeatA
namespace Go.LI.Film
open Go.Proofs.Ytbjcipikclbecaa Go Go.Proofs Go.LI
set_option maxRecDepth 100000
set_option linter.unusedVariables false
set_option linter.unusedSimpArgs false
/-! ### math.Ldexp -/
theorem e_math_Ldexp {R : Type} (O : Ora R) (fuel p0 : Nat) (p1 : Int) (G : GH) (k : KV R) :
  bodyC Try.prog O [777777] fuel Try.f82 [.float .f64 p0, .int .i64 p1] G k =
  O fn_math_ldexp [.float .f64 p0, .int .i64 p1] G fun v1 G2 =>
  (ivFloat .f64 v1).bind fun x3 =>
  k (.float .f64 x3) G2 := by kernel_rfl

theorem r_math_Ldexp {R : Type} (fuel n p0 : Nat) (p1 : Int) (G : GH) (k : KV R) :
  runC Try.prog lo0 fuel (n + 1) 82 [.float .f64 p0, .int .i64 p1] G k = bodyC Try.prog (runC Try.prog lo0 fuel n) [777777] fuel Try.f82 [.float .f64 p0, .int .i64 p1] G k := run_body Try.func82 rfl rfl

/-! ### math.ldexp -/
def u_math_ldexp_0 {R : Type} (O : Ora R) (KN : Nat → Int → Bool → GH → Option R) (s0 : Nat) (s1 : Int) (G : GH) : Option R :=
  O fn_math_IsInf [.float .f64 s0, .int .i64 (0 : Int)] G fun v1 G2 =>
  (ivBool v1).bind fun x3 =>
  bif x3 then
  KN s0 s1 true G2
  else
  O fn_math_IsNaN [.float .f64 s0] G2 fun v4 G5 =>
  (ivBool v4).bind fun x6 =>
  KN s0 s1 x6 G5

def l_math_ldexp_0 {R : Type} (O : Ora R) (KN : Nat → Int → Bool → GH → Option R) : Nat → Int → GH → Option R := fun s0 s1 G => u_math_ldexp_0 O KN s0 s1 G

theorem u_math_ldexp_0_raw {R : Type} (O : Ora R) (fuel s0 : Nat) (s1 : Int) (G : GH) (k : KE R) :
  loopD Try.prog O lo88 fuel (nav (Try.f88.body.getD .skip) [1, 0, 0, 1, 1, 0]) 19 (mkE 63 [(0, .float .f64 s0), (1, .int .i64 s1)]) [] G k =
  u_math_ldexp_0 O (fun s0 s1 s12 G => k .normal (mkE 63 [(0, .float .f64 s0), (1, .int .i64 s1), (12, .bool s12)]) [] G) s0 s1 G := by kernel_rfl

theorem l_math_ldexp_0_eq {R : Type} (O : Ora R) (fuel : Nat) (k : KE R) : ∀ (s0 : Nat) (s1 : Int) (G : GH),
  loopD Try.prog O lo88 fuel (nav (Try.f88.body.getD .skip) [1, 0, 0, 1, 1, 0]) 19 (mkE 63 [(0, .float .f64 s0), (1, .int .i64 s1)]) [] G k = l_math_ldexp_0 O (fun s0 s1 s12 G => k .normal (mkE 63 [(0, .float .f64 s0), (1, .int .i64 s1), (12, .bool s12)]) [] G) s0 s1 G := by
  intros
  rw [u_math_ldexp_0_raw]
  simp only [l_math_ldexp_0]

def u_math_ldexp_1 {R : Type} (O : Ora R) (KN : Int → Int → Nat → GH → Option R) (s1 s6 : Int) (s7 : Nat) (G : GH) : Option R :=
  bif (decide (s1 < ((-1022 : Int)))) then
  KN (IntKind.wrap .i64 (s1 + (53 : Int))) s6 (4368491638549381120 : Nat) G
  else
  KN s1 s6 s7 G

def l_math_ldexp_1 {R : Type} (O : Ora R) (KN : Int → Int → Nat → GH → Option R) : Int → Int → Nat → GH → Option R := fun s1 s6 s7 G => u_math_ldexp_1 O KN s1 s6 s7 G

theorem u_math_ldexp_1_raw {R : Type} (O : Ora R) (fuel : Nat) (s1 s6 : Int) (s7 : Nat) (G : GH) (k : KE R) :
  loopD Try.prog O lo88 fuel (nav (Try.f88.body.getD .skip) [1, 1, 1, 1, 1, 1, 1, 1, 1, 0]) 79 (mkE 63 [(1, .int .i64 s1), (6, .int .u64 s6), (7, .float .f64 s7)]) [] G k =
  u_math_ldexp_1 O (fun s1 s6 s7 G => k .normal (mkE 63 [(1, .int .i64 s1), (6, .int .u64 s6), (7, .float .f64 s7)]) [] G) s1 s6 s7 G := by kernel_rfl

theorem l_math_ldexp_1_eq {R : Type} (O : Ora R) (fuel : Nat) (k : KE R) : ∀ (s1 s6 : Int) (s7 : Nat) (G : GH),
  loopD Try.prog O lo88 fuel (nav (Try.f88.body.getD .skip) [1, 1, 1, 1, 1, 1, 1, 1, 1, 0]) 79 (mkE 63 [(1, .int .i64 s1), (6, .int .u64 s6), (7, .float .f64 s7)]) [] G k = l_math_ldexp_1 O (fun s1 s6 s7 G => k .normal (mkE 63 [(1, .int .i64 s1), (6, .int .u64 s6), (7, .float .f64 s7)]) [] G) s1 s6 s7 G := by
  intros
  rw [u_math_ldexp_1_raw]
  simp only [l_math_ldexp_1]

def u_math_ldexp {R : Type} (O : Ora R) (k : KV R) (L0 : Nat → Int → GH → Option R) (p0 : Nat) (p1 : Int) (G : GH) : Option R :=
  bif (feq .f64 p0 (0 : Nat)) then
  k (.float .f64 p0) G
  else
  L0 p0 p1 G

def a_math_ldexp_0N {R : Type} (O : Ora R) (k : KV R) (L1 : Int → Int → Nat → GH → Option R) (s0 : Nat) (s1 : Int) (s12 : Bool) (G : GH) : Option R :=
  bif s12 then
  k (.float .f64 s0) G
  else
  O fn_math_normalize [.float .f64 s0] G fun v1 G2 =>
  (ivTup 2 v1).bind fun c3 =>
  (ivFloat .f64 (c3.getD 0 undefI)).bind fun x4 =>
  (ivInt .i64 (c3.getD 1 undefI)).bind fun x5 =>
  O fn_math_Float64bits [.float .f64 x4] G2 fun v6 G7 =>
  (ivInt .u64 v6).bind fun x8 =>
  bif (decide ((IntKind.wrap .i64 ((IntKind.wrap .i64 (s1 + x5)) + (IntKind.wrap .i64 ((andI .i64 (IntKind.wrap .i64 (shrI .u64 x8 (52 : Int))) (2047 : Int)) - (1023 : Int))))) < ((-1075 : Int)))) then
  O fn_math_Copysign [.float .f64 (0 : Nat), .float .f64 x4] G7 fun v9 G10 =>
  (ivFloat .f64 v9).bind fun x11 =>
  k (.float .f64 x11) G10
  else
  bif (decide ((IntKind.wrap .i64 ((IntKind.wrap .i64 (s1 + x5)) + (IntKind.wrap .i64 ((andI .i64 (IntKind.wrap .i64 (shrI .u64 x8 (52 : Int))) (2047 : Int)) - (1023 : Int))))) > (1023 : Int))) then
  bif (flt .f64 x4 (0 : Nat)) then
  O fn_math_Inf [.int .i64 ((-1 : Int))] G7 fun v12 G13 =>
  (ivFloat .f64 v12).bind fun x14 =>
  k (.float .f64 x14) G13
  else
  O fn_math_Inf [.int .i64 (1 : Int)] G7 fun v15 G16 =>
  (ivFloat .f64 v15).bind fun x17 =>
  k (.float .f64 x17) G16
  else
  L1 (IntKind.wrap .i64 ((IntKind.wrap .i64 (s1 + x5)) + (IntKind.wrap .i64 ((andI .i64 (IntKind.wrap .i64 (shrI .u64 x8 (52 : Int))) (2047 : Int)) - (1023 : Int))))) x8 (4607182418800017408 : Nat) G7

def a_math_ldexp_1N {R : Type} (O : Ora R) (k : KV R) (s1 s6 : Int) (s7 : Nat) (G : GH) : Option R :=
  O fn_math_Float64frombits [.int .u64 (orI .u64 (notI .u64 s6 (9218868437227405312 : Int)) (shlI .u64 (IntKind.wrap .u64 (IntKind.wrap .i64 (s1 + (1023 : Int)))) (52 : Int)))] G fun v1 G2 =>
  (ivFloat .f64 v1).bind fun x3 =>
  ((FloatKind.format .f64).mul s7 x3).bind fun r4 =>
  k (.float .f64 r4) G2

def L_math_ldexp_1 {R : Type} (O : Ora R) (fuel : Nat) (k : KV R) : Int → Int → Nat → GH → Option R := fun s1 s6 s7 G =>
  stepN fuel (l_math_ldexp_1 O (a_math_ldexp_1N O k) s1 s6 s7 G)

theorem a_math_ldexp_1N_raw {R : Type} (O : Ora R) (fuel : Nat) (s1 s6 : Int) (s7 : Nat) (G : GH) (k : KV R) :
  contC Try.prog O lo88 fuel (Try.f88.body.getD .skip) [1, 1, 1, 1, 1, 1, 1, 1, 1, 0] (fun e env F G => match e with | .exit _ => none | _ => resC Try.prog Try.f88 env F G k) .normal (mkE 63 [(1, .int .i64 s1), (6, .int .u64 s6), (7, .float .f64 s7)]) [] G =
  a_math_ldexp_1N O k s1 s6 s7 G := by kernel_rfl

theorem L_math_ldexp_1_eq {R : Type} (O : Ora R) (fuel : Nat) (k : KV R) :
  (fun (s1 s6 : Int) (s7 : Nat) (G : GH) => stepN fuel (loopD Try.prog O lo88 fuel (nav (Try.f88.body.getD .skip) [1, 1, 1, 1, 1, 1, 1, 1, 1, 0]) 79 (mkE 63 [(1, .int .i64 s1), (6, .int .u64 s6), (7, .float .f64 s7)]) [] G (contC Try.prog O lo88 fuel (Try.f88.body.getD .skip) [1, 1, 1, 1, 1, 1, 1, 1, 1, 0] (fun e env F G => match e with | .exit _ => none | _ => resC Try.prog Try.f88 env F G k)))) = L_math_ldexp_1 O fuel k := by
  funext s1 s6 s7 G
  simp only [L_math_ldexp_1, l_math_ldexp_1_eq, a_math_ldexp_1N_raw]

def L_math_ldexp_0 {R : Type} (O : Ora R) (fuel : Nat) (k : KV R) : Nat → Int → GH → Option R := fun s0 s1 G =>
  stepN fuel (l_math_ldexp_0 O (a_math_ldexp_0N O k (L_math_ldexp_1 O fuel k)) s0 s1 G)

theorem a_math_ldexp_0N_raw {R : Type} (O : Ora R) (fuel s0 : Nat) (s1 : Int) (s12 : Bool) (G : GH) (k : KV R) :
  contC Try.prog O lo88 fuel (Try.f88.body.getD .skip) [1, 0, 0, 1, 1, 0] (fun e env F G => match e with | .exit _ => none | _ => resC Try.prog Try.f88 env F G k) .normal (mkE 63 [(0, .float .f64 s0), (1, .int .i64 s1), (12, .bool s12)]) [] G =
  a_math_ldexp_0N O k (fun s1 s6 s7 G => stepN fuel (loopD Try.prog O lo88 fuel (nav (Try.f88.body.getD .skip) [1, 1, 1, 1, 1, 1, 1, 1, 1, 0]) 79 (mkE 63 [(1, .int .i64 s1), (6, .int .u64 s6), (7, .float .f64 s7)]) [] G (contC Try.prog O lo88 fuel (Try.f88.body.getD .skip) [1, 1, 1, 1, 1, 1, 1, 1, 1, 0] (fun e env F G => match e with | .exit _ => none | _ => resC Try.prog Try.f88 env F G k)))) s0 s1 s12 G := by kernel_rfl

theorem L_math_ldexp_0_eq {R : Type} (O : Ora R) (fuel : Nat) (k : KV R) :
  (fun (s0 : Nat) (s1 : Int) (G : GH) => stepN fuel (loopD Try.prog O lo88 fuel (nav (Try.f88.body.getD .skip) [1, 0, 0, 1, 1, 0]) 19 (mkE 63 [(0, .float .f64 s0), (1, .int .i64 s1)]) [] G (contC Try.prog O lo88 fuel (Try.f88.body.getD .skip) [1, 0, 0, 1, 1, 0] (fun e env F G => match e with | .exit _ => none | _ => resC Try.prog Try.f88 env F G k)))) = L_math_ldexp_0 O fuel k := by
  funext s0 s1 G
  simp only [L_math_ldexp_0, l_math_ldexp_0_eq, a_math_ldexp_0N_raw, L_math_ldexp_1_eq]

theorem e_math_ldexp_raw {R : Type} (O : Ora R) (fuel p0 : Nat) (p1 : Int) (G : GH) (k : KV R) :
  bodyC Try.prog O lo88 fuel Try.f88 [.float .f64 p0, .int .i64 p1] G k =
  u_math_ldexp O k (fun s0 s1 G => stepN fuel (loopD Try.prog O lo88 fuel (nav (Try.f88.body.getD .skip) [1, 0, 0, 1, 1, 0]) 19 (mkE 63 [(0, .float .f64 s0), (1, .int .i64 s1)]) [] G (contC Try.prog O lo88 fuel (Try.f88.body.getD .skip) [1, 0, 0, 1, 1, 0] (fun e env F G => match e with | .exit _ => none | _ => resC Try.prog Try.f88 env F G k)))) p0 p1 G := by kernel_rfl

theorem e_math_ldexp {R : Type} (O : Ora R) (fuel p0 : Nat) (p1 : Int) (G : GH) (k : KV R) :
  bodyC Try.prog O lo88 fuel Try.f88 [.float .f64 p0, .int .i64 p1] G k =
  u_math_ldexp O k (L_math_ldexp_0 O fuel k) p0 p1 G := by
  rw [e_math_ldexp_raw, L_math_ldexp_0_eq]

theorem r_math_ldexp {R : Type} (fuel n p0 : Nat) (p1 : Int) (G : GH) (k : KV R) :
  runC Try.prog lo0 fuel (n + 1) 88 [.float .f64 p0, .int .i64 p1] G k = bodyC Try.prog (runC Try.prog lo0 fuel n) lo88 fuel Try.f88 [.float .f64 p0, .int .i64 p1] G k := run_body Try.func88 rfl rfl

/-! ### math.normalize -/
theorem e_math_normalize {R : Type} (O : Ora R) (fuel p0 : Nat) (G : GH) (k : KV R) :
  bodyC Try.prog O [777777] fuel Try.f94 [.float .f64 p0] G k =
  O fn_math_Abs [.float .f64 p0] G fun v1 G2 =>
  (ivFloat .f64 v1).bind fun x3 =>
  bif (flt .f64 x3 (4503599627370496 : Nat)) then
  ((FloatKind.format .f64).mul p0 (4841369599423283200 : Nat)).bind fun r4 =>
  k (.tuple [.float .f64 r4, .int .i64 ((-52 : Int))]) G2
  else
  k (.tuple [.float .f64 p0, .int .i64 (0 : Int)]) G2 := by kernel_rfl

theorem r_math_normalize {R : Type} (fuel n p0 : Nat) (G : GH) (k : KV R) :
  runC Try.prog lo0 fuel (n + 1) 94 [.float .f64 p0] G k = bodyC Try.prog (runC Try.prog lo0 fuel n) [777777] fuel Try.f94 [.float .f64 p0] G k := run_body Try.func94 rfl rfl

/-! ### math.Abs -/
theorem e_math_Abs {R : Type} (O : Ora R) (fuel p0 : Nat) (G : GH) (k : KV R) :
  bodyC Try.prog O [777777] fuel Try.f66 [.float .f64 p0] G k =
  O fn_math_Float64bits [.float .f64 p0] G fun v1 G2 =>
  (ivInt .u64 v1).bind fun x3 =>
  O fn_math_Float64frombits [.int .u64 (notI .u64 x3 (9223372036854775808 : Int))] G2 fun v4 G5 =>
  (ivFloat .f64 v4).bind fun x6 =>
  k (.float .f64 x6) G5 := by kernel_rfl

theorem r_math_Abs {R : Type} (fuel n p0 : Nat) (G : GH) (k : KV R) :
  runC Try.prog lo0 fuel (n + 1) 66 [.float .f64 p0] G k = bodyC Try.prog (runC Try.prog lo0 fuel n) [777777] fuel Try.f66 [.float .f64 p0] G k := run_body Try.func66 rfl rfl

/-! ### math.IsInf -/
def u_math_IsInf_0 {R : Type} (O : Ora R) (KN : Nat → GH → Option R) (s0 : Nat) (s1 : Int) (G : GH) : Option R :=
  bif (s1 == (0 : Int)) then
  O fn_math_Abs [.float .f64 s0] G fun v1 G2 =>
  (ivFloat .f64 v1).bind fun x3 =>
  KN x3 G2
  else
  bif (decide (s1 < (0 : Int))) then
  KN (Op.negFloat .f64 s0) G
  else
  KN s0 G

def l_math_IsInf_0 {R : Type} (O : Ora R) (KN : Nat → GH → Option R) : Nat → Int → GH → Option R := fun s0 s1 G => u_math_IsInf_0 O KN s0 s1 G

theorem u_math_IsInf_0_raw {R : Type} (O : Ora R) (fuel s0 : Nat) (s1 : Int) (G : GH) (k : KE R) :
  loopD Try.prog O lo55 fuel (nav (Try.f55.body.getD .skip) [1, 0]) 23 (mkE 15 [(0, .float .f64 s0), (1, .int .i64 s1)]) [] G k =
  u_math_IsInf_0 O (fun s0 G => k .normal (mkE 15 [(0, .float .f64 s0)]) [] G) s0 s1 G := by kernel_rfl

theorem l_math_IsInf_0_eq {R : Type} (O : Ora R) (fuel : Nat) (k : KE R) : ∀ (s0 : Nat) (s1 : Int) (G : GH),
  loopD Try.prog O lo55 fuel (nav (Try.f55.body.getD .skip) [1, 0]) 23 (mkE 15 [(0, .float .f64 s0), (1, .int .i64 s1)]) [] G k = l_math_IsInf_0 O (fun s0 G => k .normal (mkE 15 [(0, .float .f64 s0)]) [] G) s0 s1 G := by
  intros
  rw [u_math_IsInf_0_raw]
  simp only [l_math_IsInf_0]

def u_math_IsInf {R : Type} (O : Ora R) (k : KV R) (L0 : Nat → Int → GH → Option R) (p0 : Nat) (p1 : Int) (G : GH) : Option R :=
  L0 p0 p1 G

def a_math_IsInf_0N {R : Type} (O : Ora R) (k : KV R) (s0 : Nat) (G : GH) : Option R :=
  k (.bool (fgt .f64 s0 (9218868437227405311 : Nat))) G

def L_math_IsInf_0 {R : Type} (O : Ora R) (fuel : Nat) (k : KV R) : Nat → Int → GH → Option R := fun s0 s1 G =>
  stepN fuel (l_math_IsInf_0 O (a_math_IsInf_0N O k) s0 s1 G)

theorem a_math_IsInf_0N_raw {R : Type} (O : Ora R) (fuel s0 : Nat) (G : GH) (k : KV R) :
  contC Try.prog O lo55 fuel (Try.f55.body.getD .skip) [1, 0] (fun e env F G => match e with | .exit _ => none | _ => resC Try.prog Try.f55 env F G k) .normal (mkE 15 [(0, .float .f64 s0)]) [] G =
  a_math_IsInf_0N O k s0 G := by kernel_rfl

theorem L_math_IsInf_0_eq {R : Type} (O : Ora R) (fuel : Nat) (k : KV R) :
  (fun (s0 : Nat) (s1 : Int) (G : GH) => stepN fuel (loopD Try.prog O lo55 fuel (nav (Try.f55.body.getD .skip) [1, 0]) 23 (mkE 15 [(0, .float .f64 s0), (1, .int .i64 s1)]) [] G (contC Try.prog O lo55 fuel (Try.f55.body.getD .skip) [1, 0] (fun e env F G => match e with | .exit _ => none | _ => resC Try.prog Try.f55 env F G k)))) = L_math_IsInf_0 O fuel k := by
  funext s0 s1 G
  simp only [L_math_IsInf_0, l_math_IsInf_0_eq, a_math_IsInf_0N_raw]

theorem e_math_IsInf_raw {R : Type} (O : Ora R) (fuel p0 : Nat) (p1 : Int) (G : GH) (k : KV R) :
  bodyC Try.prog O lo55 fuel Try.f55 [.float .f64 p0, .int .i64 p1] G k =
  u_math_IsInf O k (fun s0 s1 G => stepN fuel (loopD Try.prog O lo55 fuel (nav (Try.f55.body.getD .skip) [1, 0]) 23 (mkE 15 [(0, .float .f64 s0), (1, .int .i64 s1)]) [] G (contC Try.prog O lo55 fuel (Try.f55.body.getD .skip) [1, 0] (fun e env F G => match e with | .exit _ => none | _ => resC Try.prog Try.f55 env F G k)))) p0 p1 G := by kernel_rfl

theorem e_math_IsInf {R : Type} (O : Ora R) (fuel p0 : Nat) (p1 : Int) (G : GH) (k : KV R) :
  bodyC Try.prog O lo55 fuel Try.f55 [.float .f64 p0, .int .i64 p1] G k =
  u_math_IsInf O k (L_math_IsInf_0 O fuel k) p0 p1 G := by
  rw [e_math_IsInf_raw, L_math_IsInf_0_eq]

theorem r_math_IsInf {R : Type} (fuel n p0 : Nat) (p1 : Int) (G : GH) (k : KV R) :
  runC Try.prog lo0 fuel (n + 1) 55 [.float .f64 p0, .int .i64 p1] G k = bodyC Try.prog (runC Try.prog lo0 fuel n) lo55 fuel Try.f55 [.float .f64 p0, .int .i64 p1] G k := run_body Try.func55 rfl rfl

/-! ### math.IsNaN -/
theorem e_math_IsNaN {R : Type} (O : Ora R) (fuel p0 : Nat) (G : GH) (k : KV R) :
  bodyC Try.prog O [777777] fuel Try.f54 [.float .f64 p0] G k =
  k (.bool (!feq .f64 p0 p0)) G := by kernel_rfl

theorem r_math_IsNaN {R : Type} (fuel n p0 : Nat) (G : GH) (k : KV R) :
  runC Try.prog lo0 fuel (n + 1) 54 [.float .f64 p0] G k = bodyC Try.prog (runC Try.prog lo0 fuel n) [777777] fuel Try.f54 [.float .f64 p0] G k := run_body Try.func54 rfl rfl

/-! ### math.Inf -/
def u_math_Inf_0 {R : Type} (O : Ora R) (KN : Int → GH → Option R) (s0 : Int) (G : GH) : Option R :=
  bif (decide (s0 ≥ (0 : Int))) then
  KN (9218868437227405312 : Int) G
  else
  KN (18442240474082181120 : Int) G

def l_math_Inf_0 {R : Type} (O : Ora R) (KN : Int → GH → Option R) : Int → GH → Option R := fun s0 G => u_math_Inf_0 O KN s0 G

theorem u_math_Inf_0_raw {R : Type} (O : Ora R) (fuel : Nat) (s0 : Int) (G : GH) (k : KE R) :
  loopD Try.prog O lo59 fuel (nav (Try.f59.body.getD .skip) [1, 1, 0]) 23 (mkE 8 [(0, .int .i64 s0)]) [] G k =
  u_math_Inf_0 O (fun s3 G => k .normal (mkE 8 [(3, .int .u64 s3)]) [] G) s0 G := by kernel_rfl

theorem l_math_Inf_0_eq {R : Type} (O : Ora R) (fuel : Nat) (k : KE R) : ∀ (s0 : Int) (G : GH),
  loopD Try.prog O lo59 fuel (nav (Try.f59.body.getD .skip) [1, 1, 0]) 23 (mkE 8 [(0, .int .i64 s0)]) [] G k = l_math_Inf_0 O (fun s3 G => k .normal (mkE 8 [(3, .int .u64 s3)]) [] G) s0 G := by
  intros
  rw [u_math_Inf_0_raw]
  simp only [l_math_Inf_0]

def u_math_Inf {R : Type} (O : Ora R) (k : KV R) (L0 : Int → GH → Option R) (p0 : Int) (G : GH) : Option R :=
  L0 p0 G

def a_math_Inf_0N {R : Type} (O : Ora R) (k : KV R) (s3 : Int) (G : GH) : Option R :=
  O fn_math_Float64frombits [.int .u64 s3] G fun v1 G2 =>
  (ivFloat .f64 v1).bind fun x3 =>
  k (.float .f64 x3) G2

def L_math_Inf_0 {R : Type} (O : Ora R) (fuel : Nat) (k : KV R) : Int → GH → Option R := fun s0 G =>
  stepN fuel (l_math_Inf_0 O (a_math_Inf_0N O k) s0 G)

theorem a_math_Inf_0N_raw {R : Type} (O : Ora R) (fuel : Nat) (s3 : Int) (G : GH) (k : KV R) :
  contC Try.prog O lo59 fuel (Try.f59.body.getD .skip) [1, 1, 0] (fun e env F G => match e with | .exit _ => none | _ => resC Try.prog Try.f59 env F G k) .normal (mkE 8 [(3, .int .u64 s3)]) [] G =
  a_math_Inf_0N O k s3 G := by kernel_rfl

theorem L_math_Inf_0_eq {R : Type} (O : Ora R) (fuel : Nat) (k : KV R) :
  (fun (s0 : Int) (G : GH) => stepN fuel (loopD Try.prog O lo59 fuel (nav (Try.f59.body.getD .skip) [1, 1, 0]) 23 (mkE 8 [(0, .int .i64 s0)]) [] G (contC Try.prog O lo59 fuel (Try.f59.body.getD .skip) [1, 1, 0] (fun e env F G => match e with | .exit _ => none | _ => resC Try.prog Try.f59 env F G k)))) = L_math_Inf_0 O fuel k := by
  funext s0 G
  simp only [L_math_Inf_0, l_math_Inf_0_eq, a_math_Inf_0N_raw]

theorem e_math_Inf_raw {R : Type} (O : Ora R) (fuel : Nat) (p0 : Int) (G : GH) (k : KV R) :
  bodyC Try.prog O lo59 fuel Try.f59 [.int .i64 p0] G k =
  u_math_Inf O k (fun s0 G => stepN fuel (loopD Try.prog O lo59 fuel (nav (Try.f59.body.getD .skip) [1, 1, 0]) 23 (mkE 8 [(0, .int .i64 s0)]) [] G (contC Try.prog O lo59 fuel (Try.f59.body.getD .skip) [1, 1, 0] (fun e env F G => match e with | .exit _ => none | _ => resC Try.prog Try.f59 env F G k)))) p0 G := by kernel_rfl

theorem e_math_Inf {R : Type} (O : Ora R) (fuel : Nat) (p0 : Int) (G : GH) (k : KV R) :
  bodyC Try.prog O lo59 fuel Try.f59 [.int .i64 p0] G k =
  u_math_Inf O k (L_math_Inf_0 O fuel k) p0 G := by
  rw [e_math_Inf_raw, L_math_Inf_0_eq]

theorem r_math_Inf {R : Type} (fuel n : Nat) (p0 : Int) (G : GH) (k : KV R) :
  runC Try.prog lo0 fuel (n + 1) 59 [.int .i64 p0] G k = bodyC Try.prog (runC Try.prog lo0 fuel n) lo59 fuel Try.f59 [.int .i64 p0] G k := run_body Try.func59 rfl rfl

/-! ### math/bits.Len64 -/
def u_bits_Len64_0 {R : Type} (O : Ora R) (KN : Int → Int → GH → Option R) (s0 s2 : Int) (G : GH) : Option R :=
  bif (decide (s0 ≥ (4294967296 : Int))) then
  KN (shrI .u64 s0 (32 : Int)) (32 : Int) G
  else
  KN s0 s2 G

def l_bits_Len64_0 {R : Type} (O : Ora R) (KN : Int → Int → GH → Option R) : Int → Int → GH → Option R := fun s0 s2 G => u_bits_Len64_0 O KN s0 s2 G

theorem u_bits_Len64_0_raw {R : Type} (O : Ora R) (fuel : Nat) (s0 s2 : Int) (G : GH) (k : KE R) :
  loopD Try.prog O lo85 fuel (nav (Try.f85.body.getD .skip) [1, 0]) 19 (mkE 25 [(0, .int .u64 s0), (2, .int .i64 s2)]) [] G k =
  u_bits_Len64_0 O (fun s0 s2 G => k .normal (mkE 25 [(0, .int .u64 s0), (2, .int .i64 s2)]) [] G) s0 s2 G := by kernel_rfl

theorem l_bits_Len64_0_eq {R : Type} (O : Ora R) (fuel : Nat) (k : KE R) : ∀ (s0 s2 : Int) (G : GH),
  loopD Try.prog O lo85 fuel (nav (Try.f85.body.getD .skip) [1, 0]) 19 (mkE 25 [(0, .int .u64 s0), (2, .int .i64 s2)]) [] G k = l_bits_Len64_0 O (fun s0 s2 G => k .normal (mkE 25 [(0, .int .u64 s0), (2, .int .i64 s2)]) [] G) s0 s2 G := by
  intros
  rw [u_bits_Len64_0_raw]
  simp only [l_bits_Len64_0]

def u_bits_Len64_1 {R : Type} (O : Ora R) (KN : Int → Int → GH → Option R) (s0 s2 : Int) (G : GH) : Option R :=
  bif (decide (s0 ≥ (65536 : Int))) then
  KN (shrI .u64 s0 (16 : Int)) (IntKind.wrap .i64 (s2 + (16 : Int))) G
  else
  KN s0 s2 G

def l_bits_Len64_1 {R : Type} (O : Ora R) (KN : Int → Int → GH → Option R) : Int → Int → GH → Option R := fun s0 s2 G => u_bits_Len64_1 O KN s0 s2 G

theorem u_bits_Len64_1_raw {R : Type} (O : Ora R) (fuel : Nat) (s0 s2 : Int) (G : GH) (k : KE R) :
  loopD Try.prog O lo85 fuel (nav (Try.f85.body.getD .skip) [1, 1, 0]) 31 (mkE 25 [(0, .int .u64 s0), (2, .int .i64 s2)]) [] G k =
  u_bits_Len64_1 O (fun s0 s2 G => k .normal (mkE 25 [(0, .int .u64 s0), (2, .int .i64 s2)]) [] G) s0 s2 G := by kernel_rfl

theorem l_bits_Len64_1_eq {R : Type} (O : Ora R) (fuel : Nat) (k : KE R) : ∀ (s0 s2 : Int) (G : GH),
  loopD Try.prog O lo85 fuel (nav (Try.f85.body.getD .skip) [1, 1, 0]) 31 (mkE 25 [(0, .int .u64 s0), (2, .int .i64 s2)]) [] G k = l_bits_Len64_1 O (fun s0 s2 G => k .normal (mkE 25 [(0, .int .u64 s0), (2, .int .i64 s2)]) [] G) s0 s2 G := by
  intros
  rw [u_bits_Len64_1_raw]
  simp only [l_bits_Len64_1]

def u_bits_Len64_2 {R : Type} (O : Ora R) (KN : Int → Int → GH → Option R) (s0 s2 : Int) (G : GH) : Option R :=
  bif (decide (s0 ≥ (256 : Int))) then
  KN (shrI .u64 s0 (8 : Int)) (IntKind.wrap .i64 (s2 + (8 : Int))) G
  else
  KN s0 s2 G

def l_bits_Len64_2 {R : Type} (O : Ora R) (KN : Int → Int → GH → Option R) : Int → Int → GH → Option R := fun s0 s2 G => u_bits_Len64_2 O KN s0 s2 G

theorem u_bits_Len64_2_raw {R : Type} (O : Ora R) (fuel : Nat) (s0 s2 : Int) (G : GH) (k : KE R) :
  loopD Try.prog O lo85 fuel (nav (Try.f85.body.getD .skip) [1, 1, 1, 0]) 43 (mkE 25 [(0, .int .u64 s0), (2, .int .i64 s2)]) [] G k =
  u_bits_Len64_2 O (fun s0 s2 G => k .normal (mkE 25 [(0, .int .u64 s0), (2, .int .i64 s2)]) [] G) s0 s2 G := by kernel_rfl

theorem l_bits_Len64_2_eq {R : Type} (O : Ora R) (fuel : Nat) (k : KE R) : ∀ (s0 s2 : Int) (G : GH),
  loopD Try.prog O lo85 fuel (nav (Try.f85.body.getD .skip) [1, 1, 1, 0]) 43 (mkE 25 [(0, .int .u64 s0), (2, .int .i64 s2)]) [] G k = l_bits_Len64_2 O (fun s0 s2 G => k .normal (mkE 25 [(0, .int .u64 s0), (2, .int .i64 s2)]) [] G) s0 s2 G := by
  intros
  rw [u_bits_Len64_2_raw]
  simp only [l_bits_Len64_2]

def u_bits_Len64 {R : Type} (O : Ora R) (k : KV R) (L0 : Int → Int → GH → Option R) (p0 : Int) (G : GH) : Option R :=
  L0 p0 (0 : Int) G

def a_bits_Len64_0N {R : Type} (O : Ora R) (k : KV R) (L1 : Int → Int → GH → Option R) (s0 s2 : Int) (G : GH) : Option R :=
  L1 s0 s2 G

def a_bits_Len64_1N {R : Type} (O : Ora R) (k : KV R) (L2 : Int → Int → GH → Option R) (s0 s2 : Int) (G : GH) : Option R :=
  L2 s0 s2 G

def a_bits_Len64_2N {R : Type} (O : Ora R) (k : KV R) (s0 s2 : Int) (G : GH) : Option R :=
  bif decide (0 ≤ (IntKind.wrap .u8 s0) ∧ (IntKind.wrap .u8 s0) < (([0, 1, 2, 2, 3, 3, 3, 3, 4, 4, 4, 4, 4, 4, 4, 4, 5, 5, 5, 5, 5, 5, 5, 5, 5, 5, 5, 5, 5, 5, 5, 5, 6, 6, 6, 6, 6, 6, 6, 6, 6, 6, 6, 6, 6, 6, 6, 6, 6, 6, 6, 6, 6, 6, 6, 6, 6, 6, 6, 6, 6, 6, 6, 6, 7, 7, 7, 7, 7, 7, 7, 7, 7, 7, 7, 7, 7, 7, 7, 7, 7, 7, 7, 7, 7, 7, 7, 7, 7, 7, 7, 7, 7, 7, 7, 7, 7, 7, 7, 7, 7, 7, 7, 7, 7, 7, 7, 7, 7, 7, 7, 7, 7, 7, 7, 7, 7, 7, 7, 7, 7, 7, 7, 7, 7, 7, 7, 7, 8, 8, 8, 8, 8, 8, 8, 8, 8, 8, 8, 8, 8, 8, 8, 8, 8, 8, 8, 8, 8, 8, 8, 8, 8, 8, 8, 8, 8, 8, 8, 8, 8, 8, 8, 8, 8, 8, 8, 8, 8, 8, 8, 8, 8, 8, 8, 8, 8, 8, 8, 8, 8, 8, 8, 8, 8, 8, 8, 8, 8, 8, 8, 8, 8, 8, 8, 8, 8, 8, 8, 8, 8, 8, 8, 8, 8, 8, 8, 8, 8, 8, 8, 8, 8, 8, 8, 8, 8, 8, 8, 8, 8, 8, 8, 8, 8, 8, 8, 8, 8, 8, 8, 8, 8, 8, 8, 8, 8, 8, 8, 8, 8, 8, 8, 8, 8, 8, 8, 8, 8, 8, 8, 8, 8, 8, 8, 8] : List UInt8).length : Int)) then
  k (.int .i64 (IntKind.wrap .i64 (s2 + (IntKind.wrap .i64 ((([0, 1, 2, 2, 3, 3, 3, 3, 4, 4, 4, 4, 4, 4, 4, 4, 5, 5, 5, 5, 5, 5, 5, 5, 5, 5, 5, 5, 5, 5, 5, 5, 6, 6, 6, 6, 6, 6, 6, 6, 6, 6, 6, 6, 6, 6, 6, 6, 6, 6, 6, 6, 6, 6, 6, 6, 6, 6, 6, 6, 6, 6, 6, 6, 7, 7, 7, 7, 7, 7, 7, 7, 7, 7, 7, 7, 7, 7, 7, 7, 7, 7, 7, 7, 7, 7, 7, 7, 7, 7, 7, 7, 7, 7, 7, 7, 7, 7, 7, 7, 7, 7, 7, 7, 7, 7, 7, 7, 7, 7, 7, 7, 7, 7, 7, 7, 7, 7, 7, 7, 7, 7, 7, 7, 7, 7, 7, 7, 8, 8, 8, 8, 8, 8, 8, 8, 8, 8, 8, 8, 8, 8, 8, 8, 8, 8, 8, 8, 8, 8, 8, 8, 8, 8, 8, 8, 8, 8, 8, 8, 8, 8, 8, 8, 8, 8, 8, 8, 8, 8, 8, 8, 8, 8, 8, 8, 8, 8, 8, 8, 8, 8, 8, 8, 8, 8, 8, 8, 8, 8, 8, 8, 8, 8, 8, 8, 8, 8, 8, 8, 8, 8, 8, 8, 8, 8, 8, 8, 8, 8, 8, 8, 8, 8, 8, 8, 8, 8, 8, 8, 8, 8, 8, 8, 8, 8, 8, 8, 8, 8, 8, 8, 8, 8, 8, 8, 8, 8, 8, 8, 8, 8, 8, 8, 8, 8, 8, 8, 8, 8, 8, 8, 8, 8, 8, 8] : List UInt8).getD (Int.toNat (IntKind.wrap .u8 s0)) 0).toNat : Int))))) G
  else none

def L_bits_Len64_2 {R : Type} (O : Ora R) (fuel : Nat) (k : KV R) : Int → Int → GH → Option R := fun s0 s2 G =>
  stepN fuel (l_bits_Len64_2 O (a_bits_Len64_2N O k) s0 s2 G)

theorem a_bits_Len64_2N_raw {R : Type} (O : Ora R) (fuel : Nat) (s0 s2 : Int) (G : GH) (k : KV R) :
  contC Try.prog O lo85 fuel (Try.f85.body.getD .skip) [1, 1, 1, 0] (fun e env F G => match e with | .exit _ => none | _ => resC Try.prog Try.f85 env F G k) .normal (mkE 25 [(0, .int .u64 s0), (2, .int .i64 s2)]) [] G =
  a_bits_Len64_2N O k s0 s2 G := by kernel_rfl

theorem L_bits_Len64_2_eq {R : Type} (O : Ora R) (fuel : Nat) (k : KV R) :
  (fun (s0 s2 : Int) (G : GH) => stepN fuel (loopD Try.prog O lo85 fuel (nav (Try.f85.body.getD .skip) [1, 1, 1, 0]) 43 (mkE 25 [(0, .int .u64 s0), (2, .int .i64 s2)]) [] G (contC Try.prog O lo85 fuel (Try.f85.body.getD .skip) [1, 1, 1, 0] (fun e env F G => match e with | .exit _ => none | _ => resC Try.prog Try.f85 env F G k)))) = L_bits_Len64_2 O fuel k := by
  funext s0 s2 G
  simp only [L_bits_Len64_2, l_bits_Len64_2_eq, a_bits_Len64_2N_raw]

def L_bits_Len64_1 {R : Type} (O : Ora R) (fuel : Nat) (k : KV R) : Int → Int → GH → Option R := fun s0 s2 G =>
  stepN fuel (l_bits_Len64_1 O (a_bits_Len64_1N O k (L_bits_Len64_2 O fuel k)) s0 s2 G)

theorem a_bits_Len64_1N_raw {R : Type} (O : Ora R) (fuel : Nat) (s0 s2 : Int) (G : GH) (k : KV R) :
  contC Try.prog O lo85 fuel (Try.f85.body.getD .skip) [1, 1, 0] (fun e env F G => match e with | .exit _ => none | _ => resC Try.prog Try.f85 env F G k) .normal (mkE 25 [(0, .int .u64 s0), (2, .int .i64 s2)]) [] G =
  a_bits_Len64_1N O k (fun s0 s2 G => stepN fuel (loopD Try.prog O lo85 fuel (nav (Try.f85.body.getD .skip) [1, 1, 1, 0]) 43 (mkE 25 [(0, .int .u64 s0), (2, .int .i64 s2)]) [] G (contC Try.prog O lo85 fuel (Try.f85.body.getD .skip) [1, 1, 1, 0] (fun e env F G => match e with | .exit _ => none | _ => resC Try.prog Try.f85 env F G k)))) s0 s2 G := by kernel_rfl

theorem L_bits_Len64_1_eq {R : Type} (O : Ora R) (fuel : Nat) (k : KV R) :
  (fun (s0 s2 : Int) (G : GH) => stepN fuel (loopD Try.prog O lo85 fuel (nav (Try.f85.body.getD .skip) [1, 1, 0]) 31 (mkE 25 [(0, .int .u64 s0), (2, .int .i64 s2)]) [] G (contC Try.prog O lo85 fuel (Try.f85.body.getD .skip) [1, 1, 0] (fun e env F G => match e with | .exit _ => none | _ => resC Try.prog Try.f85 env F G k)))) = L_bits_Len64_1 O fuel k := by
  funext s0 s2 G
  simp only [L_bits_Len64_1, l_bits_Len64_1_eq, a_bits_Len64_1N_raw, L_bits_Len64_2_eq]

def L_bits_Len64_0 {R : Type} (O : Ora R) (fuel : Nat) (k : KV R) : Int → Int → GH → Option R := fun s0 s2 G =>
  stepN fuel (l_bits_Len64_0 O (a_bits_Len64_0N O k (L_bits_Len64_1 O fuel k)) s0 s2 G)

theorem a_bits_Len64_0N_raw {R : Type} (O : Ora R) (fuel : Nat) (s0 s2 : Int) (G : GH) (k : KV R) :
  contC Try.prog O lo85 fuel (Try.f85.body.getD .skip) [1, 0] (fun e env F G => match e with | .exit _ => none | _ => resC Try.prog Try.f85 env F G k) .normal (mkE 25 [(0, .int .u64 s0), (2, .int .i64 s2)]) [] G =
  a_bits_Len64_0N O k (fun s0 s2 G => stepN fuel (loopD Try.prog O lo85 fuel (nav (Try.f85.body.getD .skip) [1, 1, 0]) 31 (mkE 25 [(0, .int .u64 s0), (2, .int .i64 s2)]) [] G (contC Try.prog O lo85 fuel (Try.f85.body.getD .skip) [1, 1, 0] (fun e env F G => match e with | .exit _ => none | _ => resC Try.prog Try.f85 env F G k)))) s0 s2 G := by kernel_rfl

theorem L_bits_Len64_0_eq {R : Type} (O : Ora R) (fuel : Nat) (k : KV R) :
  (fun (s0 s2 : Int) (G : GH) => stepN fuel (loopD Try.prog O lo85 fuel (nav (Try.f85.body.getD .skip) [1, 0]) 19 (mkE 25 [(0, .int .u64 s0), (2, .int .i64 s2)]) [] G (contC Try.prog O lo85 fuel (Try.f85.body.getD .skip) [1, 0] (fun e env F G => match e with | .exit _ => none | _ => resC Try.prog Try.f85 env F G k)))) = L_bits_Len64_0 O fuel k := by
  funext s0 s2 G
  simp only [L_bits_Len64_0, l_bits_Len64_0_eq, a_bits_Len64_0N_raw, L_bits_Len64_1_eq]

theorem e_bits_Len64_raw {R : Type} (O : Ora R) (fuel : Nat) (p0 : Int) (G : GH) (k : KV R) :
  bodyC Try.prog O lo85 fuel Try.f85 [.int .u64 p0] G k =
  u_bits_Len64 O k (fun s0 s2 G => stepN fuel (loopD Try.prog O lo85 fuel (nav (Try.f85.body.getD .skip) [1, 0]) 19 (mkE 25 [(0, .int .u64 s0), (2, .int .i64 s2)]) [] G (contC Try.prog O lo85 fuel (Try.f85.body.getD .skip) [1, 0] (fun e env F G => match e with | .exit _ => none | _ => resC Try.prog Try.f85 env F G k)))) p0 G := by kernel_rfl

theorem e_bits_Len64 {R : Type} (O : Ora R) (fuel : Nat) (p0 : Int) (G : GH) (k : KV R) :
  bodyC Try.prog O lo85 fuel Try.f85 [.int .u64 p0] G k =
  u_bits_Len64 O k (L_bits_Len64_0 O fuel k) p0 G := by
  rw [e_bits_Len64_raw, L_bits_Len64_0_eq]

theorem r_bits_Len64 {R : Type} (fuel n : Nat) (p0 : Int) (G : GH) (k : KV R) :
  runC Try.prog lo0 fuel (n + 1) 85 [.int .u64 p0] G k = bodyC Try.prog (runC Try.prog lo0 fuel n) lo85 fuel Try.f85 [.int .u64 p0] G k := run_body Try.func85 rfl rfl

end Go.LI.Film
