/- What the interpreter gives for round (written by tex.py). -/
import Derived.Test.YtbjcipikclbecaaSeatA
namespace Go.LI.Film
open Go.Proofs.Ytbjcipikclbecaa Go Go.Proofs Go.LI
set_option maxRecDepth 100000
set_option linter.unusedVariables false
set_option linter.unusedSimpArgs false
/-! ### lantern/round.Number -/
theorem e_round_Number {R : Type} (O : Ora R) (fuel p0 : Nat) (G : GH) (k : KV R) :
  bodyC Try.prog O [777777] fuel Try.f40 [.float .f64 p0] G k =
  O fn_math_IsNaN [.float .f64 p0] G fun v1 G2 =>
  (ivBool v1).bind fun x3 =>
  bif (!x3) then
  O fn_math_IsInf [.float .f64 p0, .int .i64 (0 : Int)] G2 fun v4 G5 =>
  (ivBool v4).bind fun x6 =>
  k (.bool (!x6)) G5
  else
  k (.bool false) G2 := by kernel_rfl

theorem r_round_Number {R : Type} (fuel n p0 : Nat) (G : GH) (k : KV R) :
  runC Try.prog lo0 fuel (n + 1) 40 [.float .f64 p0] G k = bodyC Try.prog (runC Try.prog lo0 fuel n) [777777] fuel Try.f40 [.float .f64 p0] G k := run_body Try.func40 rfl rfl

/-! ### lantern/round.plain -/
theorem e_round_plain {R : Type} (O : Ora R) (fuel p0 : Nat) (G : GH) (k : KV R) :
  bodyC Try.prog O [777777] fuel Try.f67 [.float .f64 p0] G k =
  ((FloatKind.format .f64).add p0 (0 : Nat)).bind fun r1 =>
  k (.float .f64 r1) G := by kernel_rfl

theorem r_round_plain {R : Type} (fuel n p0 : Nat) (G : GH) (k : KV R) :
  runC Try.prog lo0 fuel (n + 1) 67 [.float .f64 p0] G k = bodyC Try.prog (runC Try.prog lo0 fuel n) [777777] fuel Try.f67 [.float .f64 p0] G k := run_body Try.func67 rfl rfl

/-! ### lantern/round.two -/
theorem e_round_two {R : Type} (O : Ora R) (fuel p0 p1 : Nat) (G : GH) (k : KV R) :
  bodyC Try.prog O [777777] fuel Try.f69 [.float .f64 p0, .float .f64 p1] G k =
  O fn_round_Number [.float .f64 p0] G fun v1 G2 =>
  (ivBool v1).bind fun x3 =>
  bif x3 then
  O fn_round_Number [.float .f64 p1] G2 fun v4 G5 =>
  (ivBool v4).bind fun x6 =>
  k (.bool x6) G5
  else
  k (.bool false) G2 := by kernel_rfl

theorem r_round_two {R : Type} (fuel n p0 p1 : Nat) (G : GH) (k : KV R) :
  runC Try.prog lo0 fuel (n + 1) 69 [.float .f64 p0, .float .f64 p1] G k = bodyC Try.prog (runC Try.prog lo0 fuel n) [777777] fuel Try.f69 [.float .f64 p0, .float .f64 p1] G k := run_body Try.func69 rfl rfl

/-! ### lantern/round.split -/
theorem e_round_split {R : Type} (O : Ora R) (fuel p0 : Nat) (G : GH) (k : KV R) :
  bodyC Try.prog O [2, 777777] fuel Try.f70 [.float .f64 p0] G k =
  O fn_math_Float64bits [.float .f64 p0] G fun v1 G2 =>
  (ivInt .u64 v1).bind fun x3 =>
  bif ((IntKind.wrap .i64 (andI .u64 (shrI .u64 x3 (52 : Int)) (2047 : Int))) == (0 : Int)) then
  k (.agg [.bool ((shrI .u64 x3 (63 : Int)) != (0 : Int)), .int .u64 (0 : Int), .int .u64 (andI .u64 x3 (4503599627370495 : Int)), .int .i64 ((-1074 : Int)), .bool false]) G2
  else
  k (.agg [.bool ((shrI .u64 x3 (63 : Int)) != (0 : Int)), .int .u64 (0 : Int), .int .u64 (orI .u64 (andI .u64 x3 (4503599627370495 : Int)) (4503599627370496 : Int)), .int .i64 (IntKind.wrap .i64 ((IntKind.wrap .i64 (andI .u64 (shrI .u64 x3 (52 : Int)) (2047 : Int))) - (1075 : Int))), .bool false]) G2 := by kernel_rfl

theorem r_round_split {R : Type} (fuel n p0 : Nat) (G : GH) (k : KV R) :
  runC Try.prog lo0 fuel (n + 1) 70 [.float .f64 p0] G k = bodyC Try.prog (runC Try.prog lo0 fuel n) [2, 777777] fuel Try.f70 [.float .f64 p0] G k := run_body Try.func70 rfl rfl

/-! ### (lantern/round.exact).zero -/
theorem e_round_exact_zero {R : Type} (O : Ora R) (fuel : Nat) (p0_0 : Bool) (p0_1 p0_2 p0_3 : Int) (p0_4 : Bool) (G : GH) (k : KV R) :
  bodyC Try.prog O [1, 777777] fuel Try.f86 [.agg [.bool p0_0, .int .u64 p0_1, .int .u64 p0_2, .int .i64 p0_3, .bool p0_4]] G k =
  bif (p0_1 == (0 : Int)) then
  k (.bool (p0_2 == (0 : Int))) G
  else
  k (.bool false) G := by kernel_rfl

theorem r_round_exact_zero {R : Type} (fuel n : Nat) (p0_0 : Bool) (p0_1 p0_2 p0_3 : Int) (p0_4 : Bool) (G : GH) (k : KV R) :
  runC Try.prog lo0 fuel (n + 1) 86 [.agg [.bool p0_0, .int .u64 p0_1, .int .u64 p0_2, .int .i64 p0_3, .bool p0_4]] G k = bodyC Try.prog (runC Try.prog lo0 fuel n) [1, 777777] fuel Try.f86 [.agg [.bool p0_0, .int .u64 p0_1, .int .u64 p0_2, .int .i64 p0_3, .bool p0_4]] G k := run_body Try.func86 rfl rfl

/-! ### (lantern/round.exact).length -/
theorem e_round_exact_length {R : Type} (O : Ora R) (fuel : Nat) (p0_0 : Bool) (p0_1 p0_2 p0_3 : Int) (p0_4 : Bool) (G : GH) (k : KV R) :
  bodyC Try.prog O [1, 777777] fuel Try.f80 [.agg [.bool p0_0, .int .u64 p0_1, .int .u64 p0_2, .int .i64 p0_3, .bool p0_4]] G k =
  bif (p0_1 != (0 : Int)) then
  O fn_bits_Len64 [.int .u64 p0_1] G fun v1 G2 =>
  (ivInt .i64 v1).bind fun x3 =>
  k (.int .i64 (IntKind.wrap .i64 ((64 : Int) + x3))) G2
  else
  O fn_bits_Len64 [.int .u64 p0_2] G fun v4 G5 =>
  (ivInt .i64 v4).bind fun x6 =>
  k (.int .i64 x6) G5 := by kernel_rfl

theorem r_round_exact_length {R : Type} (fuel n : Nat) (p0_0 : Bool) (p0_1 p0_2 p0_3 : Int) (p0_4 : Bool) (G : GH) (k : KV R) :
  runC Try.prog lo0 fuel (n + 1) 80 [.agg [.bool p0_0, .int .u64 p0_1, .int .u64 p0_2, .int .i64 p0_3, .bool p0_4]] G k = bodyC Try.prog (runC Try.prog lo0 fuel n) [1, 777777] fuel Try.f80 [.agg [.bool p0_0, .int .u64 p0_1, .int .u64 p0_2, .int .i64 p0_3, .bool p0_4]] G k := run_body Try.func80 rfl rfl

/-! ### (lantern/round.exact).left -/
def u_round_exact_left_0 {R : Type} (O : Ora R) (KN : Int → Bool → Int → Int → Int → Bool → Bool → Int → Int → Int → Bool → GH → Option R) (s1 : Int) (b0_0 : Bool) (b0_1 b0_2 b0_3 : Int) (b0_4 b1_0 : Bool) (b1_1 b1_2 b1_3 : Int) (b1_4 : Bool) (G : GH) : Option R :=
  bif (decide (s1 ≥ (64 : Int))) then
  bif decide ((IntKind.wrap .i64 (s1 - (64 : Int))) < 0) then none else
  KN s1 b0_0 (shlI .u64 b0_2 (IntKind.wrap .i64 (s1 - (64 : Int)))) (0 : Int) b0_3 b0_4 b1_0 b1_1 b1_2 b1_3 b1_4 G
  else
  bif (decide (s1 > (0 : Int))) then
  bif decide (s1 < 0) then none else
  bif decide ((IntKind.wrap .i64 ((64 : Int) - s1)) < 0) then none else
  bif decide (s1 < 0) then none else
  KN s1 b0_0 (orI .u64 (shlI .u64 b0_1 s1) (shrI .u64 b0_2 (IntKind.wrap .i64 ((64 : Int) - s1)))) (shlI .u64 b0_2 s1) b0_3 b0_4 b1_0 b1_1 b1_2 b1_3 b1_4 G
  else
  KN s1 b0_0 b0_1 b0_2 b0_3 b0_4 b1_0 b1_1 b1_2 b1_3 b1_4 G

def l_round_exact_left_0 {R : Type} (O : Ora R) (KN : Int → Bool → Int → Int → Int → Bool → Bool → Int → Int → Int → Bool → GH → Option R) : Int → Bool → Int → Int → Int → Bool → Bool → Int → Int → Int → Bool → GH → Option R := fun s1 b0_0 b0_1 b0_2 b0_3 b0_4 b1_0 b1_1 b1_2 b1_3 b1_4 G => u_round_exact_left_0 O KN s1 b0_0 b0_1 b0_2 b0_3 b0_4 b1_0 b1_1 b1_2 b1_3 b1_4 G

theorem u_round_exact_left_0_raw {R : Type} (O : Ora R) (fuel : Nat) (s1 : Int) (b0_0 : Bool) (b0_1 b0_2 b0_3 : Int) (b0_4 b1_0 : Bool) (b1_1 b1_2 b1_3 : Int) (b1_4 : Bool) (G : GH) (k : KE R) :
  loopD Try.prog O lo89 fuel (nav (Try.f89.body.getD .skip) [1, 0]) 23 (mkE 40 [(1, .int .i64 s1), (2, .loc 0 0), (4, .loc 1 0)]) [[.bool b0_0, .int .u64 b0_1, .int .u64 b0_2, .int .i64 b0_3, .bool b0_4], [.bool b1_0, .int .u64 b1_1, .int .u64 b1_2, .int .i64 b1_3, .bool b1_4]] G k =
  u_round_exact_left_0 O (fun s1 b0_0 b0_1 b0_2 b0_3 b0_4 b1_0 b1_1 b1_2 b1_3 b1_4 G => k .normal (mkE 40 [(1, .int .i64 s1), (2, .loc 0 0), (4, .loc 1 0)]) [[.bool b0_0, .int .u64 b0_1, .int .u64 b0_2, .int .i64 b0_3, .bool b0_4], [.bool b1_0, .int .u64 b1_1, .int .u64 b1_2, .int .i64 b1_3, .bool b1_4]] G) s1 b0_0 b0_1 b0_2 b0_3 b0_4 b1_0 b1_1 b1_2 b1_3 b1_4 G := by kernel_rfl

theorem l_round_exact_left_0_eq {R : Type} (O : Ora R) (fuel : Nat) (k : KE R) : ∀ (s1 : Int) (b0_0 : Bool) (b0_1 b0_2 b0_3 : Int) (b0_4 b1_0 : Bool) (b1_1 b1_2 b1_3 : Int) (b1_4 : Bool) (G : GH),
  loopD Try.prog O lo89 fuel (nav (Try.f89.body.getD .skip) [1, 0]) 23 (mkE 40 [(1, .int .i64 s1), (2, .loc 0 0), (4, .loc 1 0)]) [[.bool b0_0, .int .u64 b0_1, .int .u64 b0_2, .int .i64 b0_3, .bool b0_4], [.bool b1_0, .int .u64 b1_1, .int .u64 b1_2, .int .i64 b1_3, .bool b1_4]] G k = l_round_exact_left_0 O (fun s1 b0_0 b0_1 b0_2 b0_3 b0_4 b1_0 b1_1 b1_2 b1_3 b1_4 G => k .normal (mkE 40 [(1, .int .i64 s1), (2, .loc 0 0), (4, .loc 1 0)]) [[.bool b0_0, .int .u64 b0_1, .int .u64 b0_2, .int .i64 b0_3, .bool b0_4], [.bool b1_0, .int .u64 b1_1, .int .u64 b1_2, .int .i64 b1_3, .bool b1_4]] G) s1 b0_0 b0_1 b0_2 b0_3 b0_4 b1_0 b1_1 b1_2 b1_3 b1_4 G := by
  intros
  rw [u_round_exact_left_0_raw]
  simp only [l_round_exact_left_0]

def u_round_exact_left {R : Type} (O : Ora R) (k : KV R) (L0 : Int → Bool → Int → Int → Int → Bool → Bool → Int → Int → Int → Bool → GH → Option R) (p0_0 : Bool) (p0_1 p0_2 p0_3 : Int) (p0_4 : Bool) (p1 : Int) (G : GH) : Option R :=
  L0 p1 p0_0 p0_1 p0_2 p0_3 p0_4 false (0 : Int) (0 : Int) (0 : Int) false G

def a_round_exact_left_0N {R : Type} (O : Ora R) (k : KV R) (s1 : Int) (b0_0 : Bool) (b0_1 b0_2 b0_3 : Int) (b0_4 b1_0 : Bool) (b1_1 b1_2 b1_3 : Int) (b1_4 : Bool) (G : GH) : Option R :=
  k (.agg [.bool b0_0, .int .u64 b0_1, .int .u64 b0_2, .int .i64 (IntKind.wrap .i64 (b0_3 - s1)), .bool b0_4]) G

def L_round_exact_left_0 {R : Type} (O : Ora R) (fuel : Nat) (k : KV R) : Int → Bool → Int → Int → Int → Bool → Bool → Int → Int → Int → Bool → GH → Option R := fun s1 b0_0 b0_1 b0_2 b0_3 b0_4 b1_0 b1_1 b1_2 b1_3 b1_4 G =>
  stepN fuel (l_round_exact_left_0 O (a_round_exact_left_0N O k) s1 b0_0 b0_1 b0_2 b0_3 b0_4 b1_0 b1_1 b1_2 b1_3 b1_4 G)

theorem a_round_exact_left_0N_raw {R : Type} (O : Ora R) (fuel : Nat) (s1 : Int) (b0_0 : Bool) (b0_1 b0_2 b0_3 : Int) (b0_4 b1_0 : Bool) (b1_1 b1_2 b1_3 : Int) (b1_4 : Bool) (G : GH) (k : KV R) :
  contC Try.prog O lo89 fuel (Try.f89.body.getD .skip) [1, 0] (fun e env F G => match e with | .exit _ => none | _ => resC Try.prog Try.f89 env F G k) .normal (mkE 40 [(1, .int .i64 s1), (2, .loc 0 0), (4, .loc 1 0)]) [[.bool b0_0, .int .u64 b0_1, .int .u64 b0_2, .int .i64 b0_3, .bool b0_4], [.bool b1_0, .int .u64 b1_1, .int .u64 b1_2, .int .i64 b1_3, .bool b1_4]] G =
  a_round_exact_left_0N O k s1 b0_0 b0_1 b0_2 b0_3 b0_4 b1_0 b1_1 b1_2 b1_3 b1_4 G := by kernel_rfl

theorem L_round_exact_left_0_eq {R : Type} (O : Ora R) (fuel : Nat) (k : KV R) :
  (fun (s1 : Int) (b0_0 : Bool) (b0_1 b0_2 b0_3 : Int) (b0_4 b1_0 : Bool) (b1_1 b1_2 b1_3 : Int) (b1_4 : Bool) (G : GH) => stepN fuel (loopD Try.prog O lo89 fuel (nav (Try.f89.body.getD .skip) [1, 0]) 23 (mkE 40 [(1, .int .i64 s1), (2, .loc 0 0), (4, .loc 1 0)]) [[.bool b0_0, .int .u64 b0_1, .int .u64 b0_2, .int .i64 b0_3, .bool b0_4], [.bool b1_0, .int .u64 b1_1, .int .u64 b1_2, .int .i64 b1_3, .bool b1_4]] G (contC Try.prog O lo89 fuel (Try.f89.body.getD .skip) [1, 0] (fun e env F G => match e with | .exit _ => none | _ => resC Try.prog Try.f89 env F G k)))) = L_round_exact_left_0 O fuel k := by
  funext s1 b0_0 b0_1 b0_2 b0_3 b0_4 b1_0 b1_1 b1_2 b1_3 b1_4 G
  simp only [L_round_exact_left_0, l_round_exact_left_0_eq, a_round_exact_left_0N_raw]

theorem e_round_exact_left_raw {R : Type} (O : Ora R) (fuel : Nat) (p0_0 : Bool) (p0_1 p0_2 p0_3 : Int) (p0_4 : Bool) (p1 : Int) (G : GH) (k : KV R) :
  bodyC Try.prog O lo89 fuel Try.f89 [.agg [.bool p0_0, .int .u64 p0_1, .int .u64 p0_2, .int .i64 p0_3, .bool p0_4], .int .i64 p1] G k =
  u_round_exact_left O k (fun s1 b0_0 b0_1 b0_2 b0_3 b0_4 b1_0 b1_1 b1_2 b1_3 b1_4 G => stepN fuel (loopD Try.prog O lo89 fuel (nav (Try.f89.body.getD .skip) [1, 0]) 23 (mkE 40 [(1, .int .i64 s1), (2, .loc 0 0), (4, .loc 1 0)]) [[.bool b0_0, .int .u64 b0_1, .int .u64 b0_2, .int .i64 b0_3, .bool b0_4], [.bool b1_0, .int .u64 b1_1, .int .u64 b1_2, .int .i64 b1_3, .bool b1_4]] G (contC Try.prog O lo89 fuel (Try.f89.body.getD .skip) [1, 0] (fun e env F G => match e with | .exit _ => none | _ => resC Try.prog Try.f89 env F G k)))) p0_0 p0_1 p0_2 p0_3 p0_4 p1 G := by kernel_rfl

theorem e_round_exact_left {R : Type} (O : Ora R) (fuel : Nat) (p0_0 : Bool) (p0_1 p0_2 p0_3 : Int) (p0_4 : Bool) (p1 : Int) (G : GH) (k : KV R) :
  bodyC Try.prog O lo89 fuel Try.f89 [.agg [.bool p0_0, .int .u64 p0_1, .int .u64 p0_2, .int .i64 p0_3, .bool p0_4], .int .i64 p1] G k =
  u_round_exact_left O k (L_round_exact_left_0 O fuel k) p0_0 p0_1 p0_2 p0_3 p0_4 p1 G := by
  rw [e_round_exact_left_raw, L_round_exact_left_0_eq]

theorem r_round_exact_left {R : Type} (fuel n : Nat) (p0_0 : Bool) (p0_1 p0_2 p0_3 : Int) (p0_4 : Bool) (p1 : Int) (G : GH) (k : KV R) :
  runC Try.prog lo0 fuel (n + 1) 89 [.agg [.bool p0_0, .int .u64 p0_1, .int .u64 p0_2, .int .i64 p0_3, .bool p0_4], .int .i64 p1] G k = bodyC Try.prog (runC Try.prog lo0 fuel n) lo89 fuel Try.f89 [.agg [.bool p0_0, .int .u64 p0_1, .int .u64 p0_2, .int .i64 p0_3, .bool p0_4], .int .i64 p1] G k := run_body Try.func89 rfl rfl

/-! ### (lantern/round.exact).right -/
def u_round_exact_right_0 {R : Type} (O : Ora R) (KN : Bool → Int → Int → Int → Bool → Bool → Int → Int → Int → Bool → GH → Option R) (b0_0 : Bool) (b0_1 b0_2 b0_3 : Int) (b0_4 b1_0 : Bool) (b1_1 b1_2 b1_3 : Int) (b1_4 : Bool) (G : GH) : Option R :=
  bif b0_4 then
  KN b0_0 b0_1 b0_2 b0_3 true b1_0 b1_1 b1_2 b1_3 b1_4 G
  else
  O fn_round_exact_zero [.agg [.bool b0_0, .int .u64 b0_1, .int .u64 b0_2, .int .i64 b0_3, .bool b0_4]] G fun v1 G2 =>
  (ivBool v1).bind fun x3 =>
  KN b0_0 b0_1 b0_2 b0_3 (!x3) b1_0 b1_1 b1_2 b1_3 b1_4 G2

def l_round_exact_right_0 {R : Type} (O : Ora R) (KN : Bool → Int → Int → Int → Bool → Bool → Int → Int → Int → Bool → GH → Option R) : Bool → Int → Int → Int → Bool → Bool → Int → Int → Int → Bool → GH → Option R := fun b0_0 b0_1 b0_2 b0_3 b0_4 b1_0 b1_1 b1_2 b1_3 b1_4 G => u_round_exact_right_0 O KN b0_0 b0_1 b0_2 b0_3 b0_4 b1_0 b1_1 b1_2 b1_3 b1_4 G

theorem u_round_exact_right_0_raw {R : Type} (O : Ora R) (fuel : Nat) (b0_0 : Bool) (b0_1 b0_2 b0_3 : Int) (b0_4 b1_0 : Bool) (b1_1 b1_2 b1_3 : Int) (b1_4 : Bool) (G : GH) (k : KE R) :
  loopD Try.prog O lo81 fuel (nav (Try.f81.body.getD .skip) [1, 1, 0, 0, 1, 1, 1, 0, 0]) 39 (mkE 90 [(2, .loc 0 0), (4, .loc 1 0)]) [[.bool b0_0, .int .u64 b0_1, .int .u64 b0_2, .int .i64 b0_3, .bool b0_4], [.bool b1_0, .int .u64 b1_1, .int .u64 b1_2, .int .i64 b1_3, .bool b1_4]] G k =
  u_round_exact_right_0 O (fun b0_0 b0_1 b0_2 b0_3 b0_4 b1_0 b1_1 b1_2 b1_3 b1_4 G => k .normal (mkE 90 [(2, .loc 0 0), (4, .loc 1 0)]) [[.bool b0_0, .int .u64 b0_1, .int .u64 b0_2, .int .i64 b0_3, .bool b0_4], [.bool b1_0, .int .u64 b1_1, .int .u64 b1_2, .int .i64 b1_3, .bool b1_4]] G) b0_0 b0_1 b0_2 b0_3 b0_4 b1_0 b1_1 b1_2 b1_3 b1_4 G := by kernel_rfl

theorem l_round_exact_right_0_eq {R : Type} (O : Ora R) (fuel : Nat) (k : KE R) : ∀ (b0_0 : Bool) (b0_1 b0_2 b0_3 : Int) (b0_4 b1_0 : Bool) (b1_1 b1_2 b1_3 : Int) (b1_4 : Bool) (G : GH),
  loopD Try.prog O lo81 fuel (nav (Try.f81.body.getD .skip) [1, 1, 0, 0, 1, 1, 1, 0, 0]) 39 (mkE 90 [(2, .loc 0 0), (4, .loc 1 0)]) [[.bool b0_0, .int .u64 b0_1, .int .u64 b0_2, .int .i64 b0_3, .bool b0_4], [.bool b1_0, .int .u64 b1_1, .int .u64 b1_2, .int .i64 b1_3, .bool b1_4]] G k = l_round_exact_right_0 O (fun b0_0 b0_1 b0_2 b0_3 b0_4 b1_0 b1_1 b1_2 b1_3 b1_4 G => k .normal (mkE 90 [(2, .loc 0 0), (4, .loc 1 0)]) [[.bool b0_0, .int .u64 b0_1, .int .u64 b0_2, .int .i64 b0_3, .bool b0_4], [.bool b1_0, .int .u64 b1_1, .int .u64 b1_2, .int .i64 b1_3, .bool b1_4]] G) b0_0 b0_1 b0_2 b0_3 b0_4 b1_0 b1_1 b1_2 b1_3 b1_4 G := by
  intros
  rw [u_round_exact_right_0_raw]
  simp only [l_round_exact_right_0]

def u_round_exact_right_1 {R : Type} (O : Ora R) (KN : Int → Bool → Int → Int → Int → Bool → Bool → Int → Int → Int → Bool → GH → Option R) (s1 : Int) (b0_0 : Bool) (b0_1 b0_2 b0_3 : Int) (b0_4 b1_0 : Bool) (b1_1 b1_2 b1_3 : Int) (b1_4 : Bool) (G : GH) : Option R :=
  bif b0_4 then
  KN s1 b0_0 b0_1 b0_2 b0_3 true b1_0 b1_1 b1_2 b1_3 b1_4 G
  else
  bif (b0_2 != (0 : Int)) then
  KN s1 b0_0 b0_1 b0_2 b0_3 true b1_0 b1_1 b1_2 b1_3 b1_4 G
  else
  bif decide ((IntKind.wrap .i64 ((128 : Int) - s1)) < 0) then none else
  bif ((shlI .u64 b0_1 (IntKind.wrap .i64 ((128 : Int) - s1))) != (0 : Int)) then
  KN s1 b0_0 b0_1 b0_2 b0_3 (decide (s1 > (64 : Int))) b1_0 b1_1 b1_2 b1_3 b1_4 G
  else
  KN s1 b0_0 b0_1 b0_2 b0_3 false b1_0 b1_1 b1_2 b1_3 b1_4 G

def l_round_exact_right_1 {R : Type} (O : Ora R) (KN : Int → Bool → Int → Int → Int → Bool → Bool → Int → Int → Int → Bool → GH → Option R) : Int → Bool → Int → Int → Int → Bool → Bool → Int → Int → Int → Bool → GH → Option R := fun s1 b0_0 b0_1 b0_2 b0_3 b0_4 b1_0 b1_1 b1_2 b1_3 b1_4 G => u_round_exact_right_1 O KN s1 b0_0 b0_1 b0_2 b0_3 b0_4 b1_0 b1_1 b1_2 b1_3 b1_4 G

theorem u_round_exact_right_1_raw {R : Type} (O : Ora R) (fuel : Nat) (s1 : Int) (b0_0 : Bool) (b0_1 b0_2 b0_3 : Int) (b0_4 b1_0 : Bool) (b1_1 b1_2 b1_3 : Int) (b1_4 : Bool) (G : GH) (k : KE R) :
  loopD Try.prog O lo81 fuel (nav (Try.f81.body.getD .skip) [1, 1, 0, 0, 1, 1, 1, 1, 1, 0, 0]) 51 (mkE 90 [(1, .int .i64 s1), (2, .loc 0 0), (4, .loc 1 0)]) [[.bool b0_0, .int .u64 b0_1, .int .u64 b0_2, .int .i64 b0_3, .bool b0_4], [.bool b1_0, .int .u64 b1_1, .int .u64 b1_2, .int .i64 b1_3, .bool b1_4]] G k =
  u_round_exact_right_1 O (fun s1 b0_0 b0_1 b0_2 b0_3 b0_4 b1_0 b1_1 b1_2 b1_3 b1_4 G => k .normal (mkE 90 [(1, .int .i64 s1), (2, .loc 0 0), (4, .loc 1 0)]) [[.bool b0_0, .int .u64 b0_1, .int .u64 b0_2, .int .i64 b0_3, .bool b0_4], [.bool b1_0, .int .u64 b1_1, .int .u64 b1_2, .int .i64 b1_3, .bool b1_4]] G) s1 b0_0 b0_1 b0_2 b0_3 b0_4 b1_0 b1_1 b1_2 b1_3 b1_4 G := by kernel_rfl

theorem l_round_exact_right_1_eq {R : Type} (O : Ora R) (fuel : Nat) (k : KE R) : ∀ (s1 : Int) (b0_0 : Bool) (b0_1 b0_2 b0_3 : Int) (b0_4 b1_0 : Bool) (b1_1 b1_2 b1_3 : Int) (b1_4 : Bool) (G : GH),
  loopD Try.prog O lo81 fuel (nav (Try.f81.body.getD .skip) [1, 1, 0, 0, 1, 1, 1, 1, 1, 0, 0]) 51 (mkE 90 [(1, .int .i64 s1), (2, .loc 0 0), (4, .loc 1 0)]) [[.bool b0_0, .int .u64 b0_1, .int .u64 b0_2, .int .i64 b0_3, .bool b0_4], [.bool b1_0, .int .u64 b1_1, .int .u64 b1_2, .int .i64 b1_3, .bool b1_4]] G k = l_round_exact_right_1 O (fun s1 b0_0 b0_1 b0_2 b0_3 b0_4 b1_0 b1_1 b1_2 b1_3 b1_4 G => k .normal (mkE 90 [(1, .int .i64 s1), (2, .loc 0 0), (4, .loc 1 0)]) [[.bool b0_0, .int .u64 b0_1, .int .u64 b0_2, .int .i64 b0_3, .bool b0_4], [.bool b1_0, .int .u64 b1_1, .int .u64 b1_2, .int .i64 b1_3, .bool b1_4]] G) s1 b0_0 b0_1 b0_2 b0_3 b0_4 b1_0 b1_1 b1_2 b1_3 b1_4 G := by
  intros
  rw [u_round_exact_right_1_raw]
  simp only [l_round_exact_right_1]

def u_round_exact_right_2 {R : Type} (O : Ora R) (KN : Int → Bool → Int → Int → Int → Bool → Bool → Int → Int → Int → Bool → GH → Option R) (s1 : Int) (b0_0 : Bool) (b0_1 b0_2 b0_3 : Int) (b0_4 b1_0 : Bool) (b1_1 b1_2 b1_3 : Int) (b1_4 : Bool) (G : GH) : Option R :=
  bif b0_4 then
  KN s1 b0_0 b0_1 b0_2 b0_3 true b1_0 b1_1 b1_2 b1_3 b1_4 G
  else
  bif decide ((IntKind.wrap .i64 ((64 : Int) - s1)) < 0) then none else
  KN s1 b0_0 b0_1 b0_2 b0_3 ((shlI .u64 b0_2 (IntKind.wrap .i64 ((64 : Int) - s1))) != (0 : Int)) b1_0 b1_1 b1_2 b1_3 b1_4 G

def l_round_exact_right_2 {R : Type} (O : Ora R) (KN : Int → Bool → Int → Int → Int → Bool → Bool → Int → Int → Int → Bool → GH → Option R) : Int → Bool → Int → Int → Int → Bool → Bool → Int → Int → Int → Bool → GH → Option R := fun s1 b0_0 b0_1 b0_2 b0_3 b0_4 b1_0 b1_1 b1_2 b1_3 b1_4 G => u_round_exact_right_2 O KN s1 b0_0 b0_1 b0_2 b0_3 b0_4 b1_0 b1_1 b1_2 b1_3 b1_4 G

theorem u_round_exact_right_2_raw {R : Type} (O : Ora R) (fuel : Nat) (s1 : Int) (b0_0 : Bool) (b0_1 b0_2 b0_3 : Int) (b0_4 b1_0 : Bool) (b1_1 b1_2 b1_3 : Int) (b1_4 : Bool) (G : GH) (k : KE R) :
  loopD Try.prog O lo81 fuel (nav (Try.f81.body.getD .skip) [1, 1, 0, 0, 1, 1, 1, 1, 1, 1, 0]) 15 (mkE 90 [(1, .int .i64 s1), (2, .loc 0 0), (4, .loc 1 0)]) [[.bool b0_0, .int .u64 b0_1, .int .u64 b0_2, .int .i64 b0_3, .bool b0_4], [.bool b1_0, .int .u64 b1_1, .int .u64 b1_2, .int .i64 b1_3, .bool b1_4]] G k =
  u_round_exact_right_2 O (fun s1 b0_0 b0_1 b0_2 b0_3 b0_4 b1_0 b1_1 b1_2 b1_3 b1_4 G => k .normal (mkE 90 [(1, .int .i64 s1), (2, .loc 0 0), (4, .loc 1 0)]) [[.bool b0_0, .int .u64 b0_1, .int .u64 b0_2, .int .i64 b0_3, .bool b0_4], [.bool b1_0, .int .u64 b1_1, .int .u64 b1_2, .int .i64 b1_3, .bool b1_4]] G) s1 b0_0 b0_1 b0_2 b0_3 b0_4 b1_0 b1_1 b1_2 b1_3 b1_4 G := by kernel_rfl

theorem l_round_exact_right_2_eq {R : Type} (O : Ora R) (fuel : Nat) (k : KE R) : ∀ (s1 : Int) (b0_0 : Bool) (b0_1 b0_2 b0_3 : Int) (b0_4 b1_0 : Bool) (b1_1 b1_2 b1_3 : Int) (b1_4 : Bool) (G : GH),
  loopD Try.prog O lo81 fuel (nav (Try.f81.body.getD .skip) [1, 1, 0, 0, 1, 1, 1, 1, 1, 1, 0]) 15 (mkE 90 [(1, .int .i64 s1), (2, .loc 0 0), (4, .loc 1 0)]) [[.bool b0_0, .int .u64 b0_1, .int .u64 b0_2, .int .i64 b0_3, .bool b0_4], [.bool b1_0, .int .u64 b1_1, .int .u64 b1_2, .int .i64 b1_3, .bool b1_4]] G k = l_round_exact_right_2 O (fun s1 b0_0 b0_1 b0_2 b0_3 b0_4 b1_0 b1_1 b1_2 b1_3 b1_4 G => k .normal (mkE 90 [(1, .int .i64 s1), (2, .loc 0 0), (4, .loc 1 0)]) [[.bool b0_0, .int .u64 b0_1, .int .u64 b0_2, .int .i64 b0_3, .bool b0_4], [.bool b1_0, .int .u64 b1_1, .int .u64 b1_2, .int .i64 b1_3, .bool b1_4]] G) s1 b0_0 b0_1 b0_2 b0_3 b0_4 b1_0 b1_1 b1_2 b1_3 b1_4 G := by
  intros
  rw [u_round_exact_right_2_raw]
  simp only [l_round_exact_right_2]

def u_round_exact_right {R : Type} (O : Ora R) (k : KV R) (L0 : Bool → Int → Int → Int → Bool → Bool → Int → Int → Int → Bool → GH → Option R) (L1 L2 : Int → Bool → Int → Int → Int → Bool → Bool → Int → Int → Int → Bool → GH → Option R) (p0_0 : Bool) (p0_1 p0_2 p0_3 : Int) (p0_4 : Bool) (p1 : Int) (G : GH) : Option R :=
  bif (decide (p1 ≤ (0 : Int))) then
  k (.agg [.bool p0_0, .int .u64 p0_1, .int .u64 p0_2, .int .i64 (IntKind.wrap .i64 ((IntKind.wrap .i64 (p0_3 + p1)) - p1)), .bool p0_4]) G
  else
  bif (decide (p1 ≥ (128 : Int))) then
  L0 p0_0 p0_1 p0_2 (IntKind.wrap .i64 (p0_3 + p1)) p0_4 false (0 : Int) (0 : Int) (0 : Int) false G
  else
  bif (decide (p1 ≥ (64 : Int))) then
  L1 p1 p0_0 p0_1 p0_2 (IntKind.wrap .i64 (p0_3 + p1)) p0_4 false (0 : Int) (0 : Int) (0 : Int) false G
  else
  L2 p1 p0_0 p0_1 p0_2 (IntKind.wrap .i64 (p0_3 + p1)) p0_4 false (0 : Int) (0 : Int) (0 : Int) false G

def a_round_exact_right_0N {R : Type} (O : Ora R) (k : KV R) (b0_0 : Bool) (b0_1 b0_2 b0_3 : Int) (b0_4 b1_0 : Bool) (b1_1 b1_2 b1_3 : Int) (b1_4 : Bool) (G : GH) : Option R :=
  k (.agg [.bool b0_0, .int .u64 (0 : Int), .int .u64 (0 : Int), .int .i64 b0_3, .bool b0_4]) G

def a_round_exact_right_1N {R : Type} (O : Ora R) (k : KV R) (s1 : Int) (b0_0 : Bool) (b0_1 b0_2 b0_3 : Int) (b0_4 b1_0 : Bool) (b1_1 b1_2 b1_3 : Int) (b1_4 : Bool) (G : GH) : Option R :=
  bif decide ((IntKind.wrap .i64 (s1 - (64 : Int))) < 0) then none else
  k (.agg [.bool b0_0, .int .u64 (0 : Int), .int .u64 (shrI .u64 b0_1 (IntKind.wrap .i64 (s1 - (64 : Int)))), .int .i64 b0_3, .bool b0_4]) G

def a_round_exact_right_2N {R : Type} (O : Ora R) (k : KV R) (s1 : Int) (b0_0 : Bool) (b0_1 b0_2 b0_3 : Int) (b0_4 b1_0 : Bool) (b1_1 b1_2 b1_3 : Int) (b1_4 : Bool) (G : GH) : Option R :=
  bif decide (s1 < 0) then none else
  bif decide (s1 < 0) then none else
  bif decide ((IntKind.wrap .i64 ((64 : Int) - s1)) < 0) then none else
  k (.agg [.bool b0_0, .int .u64 (shrI .u64 b0_1 s1), .int .u64 (orI .u64 (shrI .u64 b0_2 s1) (shlI .u64 b0_1 (IntKind.wrap .i64 ((64 : Int) - s1)))), .int .i64 b0_3, .bool b0_4]) G

def L_round_exact_right_2 {R : Type} (O : Ora R) (fuel : Nat) (k : KV R) : Int → Bool → Int → Int → Int → Bool → Bool → Int → Int → Int → Bool → GH → Option R := fun s1 b0_0 b0_1 b0_2 b0_3 b0_4 b1_0 b1_1 b1_2 b1_3 b1_4 G =>
  stepN fuel (l_round_exact_right_2 O (a_round_exact_right_2N O k) s1 b0_0 b0_1 b0_2 b0_3 b0_4 b1_0 b1_1 b1_2 b1_3 b1_4 G)

theorem a_round_exact_right_2N_raw {R : Type} (O : Ora R) (fuel : Nat) (s1 : Int) (b0_0 : Bool) (b0_1 b0_2 b0_3 : Int) (b0_4 b1_0 : Bool) (b1_1 b1_2 b1_3 : Int) (b1_4 : Bool) (G : GH) (k : KV R) :
  contC Try.prog O lo81 fuel (Try.f81.body.getD .skip) [1, 1, 0, 0, 1, 1, 1, 1, 1, 1, 0] (fun e env F G => match e with | .exit _ => none | _ => resC Try.prog Try.f81 env F G k) .normal (mkE 90 [(1, .int .i64 s1), (2, .loc 0 0), (4, .loc 1 0)]) [[.bool b0_0, .int .u64 b0_1, .int .u64 b0_2, .int .i64 b0_3, .bool b0_4], [.bool b1_0, .int .u64 b1_1, .int .u64 b1_2, .int .i64 b1_3, .bool b1_4]] G =
  a_round_exact_right_2N O k s1 b0_0 b0_1 b0_2 b0_3 b0_4 b1_0 b1_1 b1_2 b1_3 b1_4 G := by kernel_rfl

theorem L_round_exact_right_2_eq {R : Type} (O : Ora R) (fuel : Nat) (k : KV R) :
  (fun (s1 : Int) (b0_0 : Bool) (b0_1 b0_2 b0_3 : Int) (b0_4 b1_0 : Bool) (b1_1 b1_2 b1_3 : Int) (b1_4 : Bool) (G : GH) => stepN fuel (loopD Try.prog O lo81 fuel (nav (Try.f81.body.getD .skip) [1, 1, 0, 0, 1, 1, 1, 1, 1, 1, 0]) 15 (mkE 90 [(1, .int .i64 s1), (2, .loc 0 0), (4, .loc 1 0)]) [[.bool b0_0, .int .u64 b0_1, .int .u64 b0_2, .int .i64 b0_3, .bool b0_4], [.bool b1_0, .int .u64 b1_1, .int .u64 b1_2, .int .i64 b1_3, .bool b1_4]] G (contC Try.prog O lo81 fuel (Try.f81.body.getD .skip) [1, 1, 0, 0, 1, 1, 1, 1, 1, 1, 0] (fun e env F G => match e with | .exit _ => none | _ => resC Try.prog Try.f81 env F G k)))) = L_round_exact_right_2 O fuel k := by
  funext s1 b0_0 b0_1 b0_2 b0_3 b0_4 b1_0 b1_1 b1_2 b1_3 b1_4 G
  simp only [L_round_exact_right_2, l_round_exact_right_2_eq, a_round_exact_right_2N_raw]

def L_round_exact_right_1 {R : Type} (O : Ora R) (fuel : Nat) (k : KV R) : Int → Bool → Int → Int → Int → Bool → Bool → Int → Int → Int → Bool → GH → Option R := fun s1 b0_0 b0_1 b0_2 b0_3 b0_4 b1_0 b1_1 b1_2 b1_3 b1_4 G =>
  stepN fuel (l_round_exact_right_1 O (a_round_exact_right_1N O k) s1 b0_0 b0_1 b0_2 b0_3 b0_4 b1_0 b1_1 b1_2 b1_3 b1_4 G)

theorem a_round_exact_right_1N_raw {R : Type} (O : Ora R) (fuel : Nat) (s1 : Int) (b0_0 : Bool) (b0_1 b0_2 b0_3 : Int) (b0_4 b1_0 : Bool) (b1_1 b1_2 b1_3 : Int) (b1_4 : Bool) (G : GH) (k : KV R) :
  contC Try.prog O lo81 fuel (Try.f81.body.getD .skip) [1, 1, 0, 0, 1, 1, 1, 1, 1, 0, 0] (fun e env F G => match e with | .exit _ => none | _ => resC Try.prog Try.f81 env F G k) .normal (mkE 90 [(1, .int .i64 s1), (2, .loc 0 0), (4, .loc 1 0)]) [[.bool b0_0, .int .u64 b0_1, .int .u64 b0_2, .int .i64 b0_3, .bool b0_4], [.bool b1_0, .int .u64 b1_1, .int .u64 b1_2, .int .i64 b1_3, .bool b1_4]] G =
  a_round_exact_right_1N O k s1 b0_0 b0_1 b0_2 b0_3 b0_4 b1_0 b1_1 b1_2 b1_3 b1_4 G := by kernel_rfl

theorem L_round_exact_right_1_eq {R : Type} (O : Ora R) (fuel : Nat) (k : KV R) :
  (fun (s1 : Int) (b0_0 : Bool) (b0_1 b0_2 b0_3 : Int) (b0_4 b1_0 : Bool) (b1_1 b1_2 b1_3 : Int) (b1_4 : Bool) (G : GH) => stepN fuel (loopD Try.prog O lo81 fuel (nav (Try.f81.body.getD .skip) [1, 1, 0, 0, 1, 1, 1, 1, 1, 0, 0]) 51 (mkE 90 [(1, .int .i64 s1), (2, .loc 0 0), (4, .loc 1 0)]) [[.bool b0_0, .int .u64 b0_1, .int .u64 b0_2, .int .i64 b0_3, .bool b0_4], [.bool b1_0, .int .u64 b1_1, .int .u64 b1_2, .int .i64 b1_3, .bool b1_4]] G (contC Try.prog O lo81 fuel (Try.f81.body.getD .skip) [1, 1, 0, 0, 1, 1, 1, 1, 1, 0, 0] (fun e env F G => match e with | .exit _ => none | _ => resC Try.prog Try.f81 env F G k)))) = L_round_exact_right_1 O fuel k := by
  funext s1 b0_0 b0_1 b0_2 b0_3 b0_4 b1_0 b1_1 b1_2 b1_3 b1_4 G
  simp only [L_round_exact_right_1, l_round_exact_right_1_eq, a_round_exact_right_1N_raw]

def L_round_exact_right_0 {R : Type} (O : Ora R) (fuel : Nat) (k : KV R) : Bool → Int → Int → Int → Bool → Bool → Int → Int → Int → Bool → GH → Option R := fun b0_0 b0_1 b0_2 b0_3 b0_4 b1_0 b1_1 b1_2 b1_3 b1_4 G =>
  stepN fuel (l_round_exact_right_0 O (a_round_exact_right_0N O k) b0_0 b0_1 b0_2 b0_3 b0_4 b1_0 b1_1 b1_2 b1_3 b1_4 G)

theorem a_round_exact_right_0N_raw {R : Type} (O : Ora R) (fuel : Nat) (b0_0 : Bool) (b0_1 b0_2 b0_3 : Int) (b0_4 b1_0 : Bool) (b1_1 b1_2 b1_3 : Int) (b1_4 : Bool) (G : GH) (k : KV R) :
  contC Try.prog O lo81 fuel (Try.f81.body.getD .skip) [1, 1, 0, 0, 1, 1, 1, 0, 0] (fun e env F G => match e with | .exit _ => none | _ => resC Try.prog Try.f81 env F G k) .normal (mkE 90 [(2, .loc 0 0), (4, .loc 1 0)]) [[.bool b0_0, .int .u64 b0_1, .int .u64 b0_2, .int .i64 b0_3, .bool b0_4], [.bool b1_0, .int .u64 b1_1, .int .u64 b1_2, .int .i64 b1_3, .bool b1_4]] G =
  a_round_exact_right_0N O k b0_0 b0_1 b0_2 b0_3 b0_4 b1_0 b1_1 b1_2 b1_3 b1_4 G := by kernel_rfl

theorem L_round_exact_right_0_eq {R : Type} (O : Ora R) (fuel : Nat) (k : KV R) :
  (fun (b0_0 : Bool) (b0_1 b0_2 b0_3 : Int) (b0_4 b1_0 : Bool) (b1_1 b1_2 b1_3 : Int) (b1_4 : Bool) (G : GH) => stepN fuel (loopD Try.prog O lo81 fuel (nav (Try.f81.body.getD .skip) [1, 1, 0, 0, 1, 1, 1, 0, 0]) 39 (mkE 90 [(2, .loc 0 0), (4, .loc 1 0)]) [[.bool b0_0, .int .u64 b0_1, .int .u64 b0_2, .int .i64 b0_3, .bool b0_4], [.bool b1_0, .int .u64 b1_1, .int .u64 b1_2, .int .i64 b1_3, .bool b1_4]] G (contC Try.prog O lo81 fuel (Try.f81.body.getD .skip) [1, 1, 0, 0, 1, 1, 1, 0, 0] (fun e env F G => match e with | .exit _ => none | _ => resC Try.prog Try.f81 env F G k)))) = L_round_exact_right_0 O fuel k := by
  funext b0_0 b0_1 b0_2 b0_3 b0_4 b1_0 b1_1 b1_2 b1_3 b1_4 G
  simp only [L_round_exact_right_0, l_round_exact_right_0_eq, a_round_exact_right_0N_raw]

theorem e_round_exact_right_raw {R : Type} (O : Ora R) (fuel : Nat) (p0_0 : Bool) (p0_1 p0_2 p0_3 : Int) (p0_4 : Bool) (p1 : Int) (G : GH) (k : KV R) :
  bodyC Try.prog O lo81 fuel Try.f81 [.agg [.bool p0_0, .int .u64 p0_1, .int .u64 p0_2, .int .i64 p0_3, .bool p0_4], .int .i64 p1] G k =
  u_round_exact_right O k (fun b0_0 b0_1 b0_2 b0_3 b0_4 b1_0 b1_1 b1_2 b1_3 b1_4 G => stepN fuel (loopD Try.prog O lo81 fuel (nav (Try.f81.body.getD .skip) [1, 1, 0, 0, 1, 1, 1, 0, 0]) 39 (mkE 90 [(2, .loc 0 0), (4, .loc 1 0)]) [[.bool b0_0, .int .u64 b0_1, .int .u64 b0_2, .int .i64 b0_3, .bool b0_4], [.bool b1_0, .int .u64 b1_1, .int .u64 b1_2, .int .i64 b1_3, .bool b1_4]] G (contC Try.prog O lo81 fuel (Try.f81.body.getD .skip) [1, 1, 0, 0, 1, 1, 1, 0, 0] (fun e env F G => match e with | .exit _ => none | _ => resC Try.prog Try.f81 env F G k)))) (fun s1 b0_0 b0_1 b0_2 b0_3 b0_4 b1_0 b1_1 b1_2 b1_3 b1_4 G => stepN fuel (loopD Try.prog O lo81 fuel (nav (Try.f81.body.getD .skip) [1, 1, 0, 0, 1, 1, 1, 1, 1, 0, 0]) 51 (mkE 90 [(1, .int .i64 s1), (2, .loc 0 0), (4, .loc 1 0)]) [[.bool b0_0, .int .u64 b0_1, .int .u64 b0_2, .int .i64 b0_3, .bool b0_4], [.bool b1_0, .int .u64 b1_1, .int .u64 b1_2, .int .i64 b1_3, .bool b1_4]] G (contC Try.prog O lo81 fuel (Try.f81.body.getD .skip) [1, 1, 0, 0, 1, 1, 1, 1, 1, 0, 0] (fun e env F G => match e with | .exit _ => none | _ => resC Try.prog Try.f81 env F G k)))) (fun s1 b0_0 b0_1 b0_2 b0_3 b0_4 b1_0 b1_1 b1_2 b1_3 b1_4 G => stepN fuel (loopD Try.prog O lo81 fuel (nav (Try.f81.body.getD .skip) [1, 1, 0, 0, 1, 1, 1, 1, 1, 1, 0]) 15 (mkE 90 [(1, .int .i64 s1), (2, .loc 0 0), (4, .loc 1 0)]) [[.bool b0_0, .int .u64 b0_1, .int .u64 b0_2, .int .i64 b0_3, .bool b0_4], [.bool b1_0, .int .u64 b1_1, .int .u64 b1_2, .int .i64 b1_3, .bool b1_4]] G (contC Try.prog O lo81 fuel (Try.f81.body.getD .skip) [1, 1, 0, 0, 1, 1, 1, 1, 1, 1, 0] (fun e env F G => match e with | .exit _ => none | _ => resC Try.prog Try.f81 env F G k)))) p0_0 p0_1 p0_2 p0_3 p0_4 p1 G := by kernel_rfl

theorem e_round_exact_right {R : Type} (O : Ora R) (fuel : Nat) (p0_0 : Bool) (p0_1 p0_2 p0_3 : Int) (p0_4 : Bool) (p1 : Int) (G : GH) (k : KV R) :
  bodyC Try.prog O lo81 fuel Try.f81 [.agg [.bool p0_0, .int .u64 p0_1, .int .u64 p0_2, .int .i64 p0_3, .bool p0_4], .int .i64 p1] G k =
  u_round_exact_right O k (L_round_exact_right_0 O fuel k) (L_round_exact_right_1 O fuel k) (L_round_exact_right_2 O fuel k) p0_0 p0_1 p0_2 p0_3 p0_4 p1 G := by
  rw [e_round_exact_right_raw, L_round_exact_right_0_eq, L_round_exact_right_1_eq, L_round_exact_right_2_eq]

theorem r_round_exact_right {R : Type} (fuel n : Nat) (p0_0 : Bool) (p0_1 p0_2 p0_3 : Int) (p0_4 : Bool) (p1 : Int) (G : GH) (k : KV R) :
  runC Try.prog lo0 fuel (n + 1) 81 [.agg [.bool p0_0, .int .u64 p0_1, .int .u64 p0_2, .int .i64 p0_3, .bool p0_4], .int .i64 p1] G k = bodyC Try.prog (runC Try.prog lo0 fuel n) lo81 fuel Try.f81 [.agg [.bool p0_0, .int .u64 p0_1, .int .u64 p0_2, .int .i64 p0_3, .bool p0_4], .int .i64 p1] G k := run_body Try.func81 rfl rfl

/-! ### (lantern/round.exact).to -/
def u_round_exact_to_0 {R : Type} (O : Ora R) (KN : Bool → Bool → Int → Int → Int → Bool → GH → Option R) (s5 : Bool) (s6 : Int) (b0_0 : Bool) (b0_1 b0_2 b0_3 : Int) (b0_4 : Bool) (G : GH) : Option R :=
  bif (decide (s6 > (0 : Int))) then
  O fn_round_exact_right [.agg [.bool b0_0, .int .u64 b0_1, .int .u64 b0_2, .int .i64 b0_3, .bool b0_4], .int .i64 s6] G fun v1 G2 =>
  (ivAgg 5 v1).bind fun c3 =>
  (ivBool (c3.getD 0 undefI)).bind fun x4 =>
  (ivInt .u64 (c3.getD 1 undefI)).bind fun x5 =>
  (ivInt .u64 (c3.getD 2 undefI)).bind fun x6 =>
  (ivInt .i64 (c3.getD 3 undefI)).bind fun x7 =>
  (ivBool (c3.getD 4 undefI)).bind fun x8 =>
  KN s5 x4 x5 x6 x7 x8 G2
  else
  KN s5 b0_0 b0_1 b0_2 b0_3 b0_4 G

def l_round_exact_to_0 {R : Type} (O : Ora R) (KN : Bool → Bool → Int → Int → Int → Bool → GH → Option R) : Bool → Int → Bool → Int → Int → Int → Bool → GH → Option R := fun s5 s6 b0_0 b0_1 b0_2 b0_3 b0_4 G => u_round_exact_to_0 O KN s5 s6 b0_0 b0_1 b0_2 b0_3 b0_4 G

theorem u_round_exact_to_0_raw {R : Type} (O : Ora R) (fuel : Nat) (s5 : Bool) (s6 : Int) (b0_0 : Bool) (b0_1 b0_2 b0_3 : Int) (b0_4 : Bool) (G : GH) (k : KE R) :
  loopD Try.prog O lo72 fuel (nav (Try.f72.body.getD .skip) [1, 1, 1, 0]) 23 (mkE 51 [(2, .loc 0 0), (5, .bool s5), (6, .int .i64 s6)]) [[.bool b0_0, .int .u64 b0_1, .int .u64 b0_2, .int .i64 b0_3, .bool b0_4]] G k =
  u_round_exact_to_0 O (fun s5 b0_0 b0_1 b0_2 b0_3 b0_4 G => k .normal (mkE 51 [(2, .loc 0 0), (5, .bool s5)]) [[.bool b0_0, .int .u64 b0_1, .int .u64 b0_2, .int .i64 b0_3, .bool b0_4]] G) s5 s6 b0_0 b0_1 b0_2 b0_3 b0_4 G := by kernel_rfl

theorem l_round_exact_to_0_eq {R : Type} (O : Ora R) (fuel : Nat) (k : KE R) : ∀ (s5 : Bool) (s6 : Int) (b0_0 : Bool) (b0_1 b0_2 b0_3 : Int) (b0_4 : Bool) (G : GH),
  loopD Try.prog O lo72 fuel (nav (Try.f72.body.getD .skip) [1, 1, 1, 0]) 23 (mkE 51 [(2, .loc 0 0), (5, .bool s5), (6, .int .i64 s6)]) [[.bool b0_0, .int .u64 b0_1, .int .u64 b0_2, .int .i64 b0_3, .bool b0_4]] G k = l_round_exact_to_0 O (fun s5 b0_0 b0_1 b0_2 b0_3 b0_4 G => k .normal (mkE 51 [(2, .loc 0 0), (5, .bool s5)]) [[.bool b0_0, .int .u64 b0_1, .int .u64 b0_2, .int .i64 b0_3, .bool b0_4]] G) s5 s6 b0_0 b0_1 b0_2 b0_3 b0_4 G := by
  intros
  rw [u_round_exact_to_0_raw]
  simp only [l_round_exact_to_0]

def u_round_exact_to_2 {R : Type} (O : Ora R) (KN : Bool → Int → Bool → Bool → Int → Int → Int → Bool → GH → Option R) (s5 : Bool) (s7 : Int) (b0_0 : Bool) (b0_1 b0_2 b0_3 : Int) (b0_4 : Bool) (G : GH) : Option R :=
  bif b0_4 then
  KN s5 s7 s5 b0_0 b0_1 b0_2 b0_3 b0_4 G
  else
  KN s5 s7 false b0_0 b0_1 b0_2 b0_3 b0_4 G

def l_round_exact_to_2 {R : Type} (O : Ora R) (KN : Bool → Int → Bool → Bool → Int → Int → Int → Bool → GH → Option R) : Bool → Int → Bool → Int → Int → Int → Bool → GH → Option R := fun s5 s7 b0_0 b0_1 b0_2 b0_3 b0_4 G => u_round_exact_to_2 O KN s5 s7 b0_0 b0_1 b0_2 b0_3 b0_4 G

theorem u_round_exact_to_2_raw {R : Type} (O : Ora R) (fuel : Nat) (s5 : Bool) (s7 : Int) (b0_0 : Bool) (b0_1 b0_2 b0_3 : Int) (b0_4 : Bool) (G : GH) (k : KE R) :
  loopD Try.prog O lo72 fuel (nav (Try.f72.body.getD .skip) [1, 1, 1, 1, 1, 0, 0]) 31 (mkE 51 [(2, .loc 0 0), (5, .bool s5), (7, .int .u64 s7)]) [[.bool b0_0, .int .u64 b0_1, .int .u64 b0_2, .int .i64 b0_3, .bool b0_4]] G k =
  u_round_exact_to_2 O (fun s5 s7 s31 b0_0 b0_1 b0_2 b0_3 b0_4 G => k .normal (mkE 51 [(2, .loc 0 0), (5, .bool s5), (7, .int .u64 s7), (31, .bool s31)]) [[.bool b0_0, .int .u64 b0_1, .int .u64 b0_2, .int .i64 b0_3, .bool b0_4]] G) s5 s7 b0_0 b0_1 b0_2 b0_3 b0_4 G := by kernel_rfl

theorem l_round_exact_to_2_eq {R : Type} (O : Ora R) (fuel : Nat) (k : KE R) : ∀ (s5 : Bool) (s7 : Int) (b0_0 : Bool) (b0_1 b0_2 b0_3 : Int) (b0_4 : Bool) (G : GH),
  loopD Try.prog O lo72 fuel (nav (Try.f72.body.getD .skip) [1, 1, 1, 1, 1, 0, 0]) 31 (mkE 51 [(2, .loc 0 0), (5, .bool s5), (7, .int .u64 s7)]) [[.bool b0_0, .int .u64 b0_1, .int .u64 b0_2, .int .i64 b0_3, .bool b0_4]] G k = l_round_exact_to_2 O (fun s5 s7 s31 b0_0 b0_1 b0_2 b0_3 b0_4 G => k .normal (mkE 51 [(2, .loc 0 0), (5, .bool s5), (7, .int .u64 s7), (31, .bool s31)]) [[.bool b0_0, .int .u64 b0_1, .int .u64 b0_2, .int .i64 b0_3, .bool b0_4]] G) s5 s7 b0_0 b0_1 b0_2 b0_3 b0_4 G := by
  intros
  rw [u_round_exact_to_2_raw]
  simp only [l_round_exact_to_2]

def u_round_exact_to_1 {R : Type} (O : Ora R) (KN L2 : Bool → Int → Bool → Int → Int → Int → Bool → GH → Option R) (s5 : Bool) (s7 : Int) (b0_0 : Bool) (b0_1 b0_2 b0_3 : Int) (b0_4 : Bool) (G : GH) : Option R :=
  L2 s5 s7 b0_0 b0_1 b0_2 b0_3 b0_4 G

def a_round_exact_to_2N {R : Type} (O : Ora R) (KN : Bool → Int → Bool → Int → Int → Int → Bool → GH → Option R) (s5 : Bool) (s7 : Int) (s31 b0_0 : Bool) (b0_1 b0_2 b0_3 : Int) (b0_4 : Bool) (G : GH) : Option R :=
  bif s31 then
  KN s5 (IntKind.wrap .u64 (s7 + (1 : Int))) b0_0 b0_1 b0_2 b0_3 b0_4 G
  else
  KN s5 s7 b0_0 b0_1 b0_2 b0_3 b0_4 G

def L_round_exact_to_2 {R : Type} (O : Ora R) (fuel : Nat) (KN : Bool → Int → Bool → Int → Int → Int → Bool → GH → Option R) : Bool → Int → Bool → Int → Int → Int → Bool → GH → Option R := fun s5 s7 b0_0 b0_1 b0_2 b0_3 b0_4 G =>
  stepN fuel (l_round_exact_to_2 O (a_round_exact_to_2N O KN) s5 s7 b0_0 b0_1 b0_2 b0_3 b0_4 G)

theorem a_round_exact_to_2N_raw {R : Type} (O : Ora R) (fuel : Nat) (s5 : Bool) (s7 : Int) (s31 b0_0 : Bool) (b0_1 b0_2 b0_3 : Int) (b0_4 : Bool) (G : GH) (k : KE R) :
  contC Try.prog O lo72 fuel (nav (Try.f72.body.getD .skip) [1, 1, 1, 1, 1, 0]) [0] (kpD lo72 35 1 k) .normal (mkE 51 [(2, .loc 0 0), (5, .bool s5), (7, .int .u64 s7), (31, .bool s31)]) [[.bool b0_0, .int .u64 b0_1, .int .u64 b0_2, .int .i64 b0_3, .bool b0_4]] G =
  a_round_exact_to_2N O (fun s5 s7 b0_0 b0_1 b0_2 b0_3 b0_4 G => k .normal (mkE 51 [(2, .loc 0 0), (5, .bool s5), (7, .int .u64 s7)]) [[.bool b0_0, .int .u64 b0_1, .int .u64 b0_2, .int .i64 b0_3, .bool b0_4]] G) s5 s7 s31 b0_0 b0_1 b0_2 b0_3 b0_4 G := by kernel_rfl

theorem L_round_exact_to_2_eq {R : Type} (O : Ora R) (fuel : Nat) (k : KE R) :
  (fun (s5 : Bool) (s7 : Int) (b0_0 : Bool) (b0_1 b0_2 b0_3 : Int) (b0_4 : Bool) (G : GH) => stepN fuel (loopD Try.prog O lo72 fuel (nav (Try.f72.body.getD .skip) [1, 1, 1, 1, 1, 0, 0]) 31 (mkE 51 [(2, .loc 0 0), (5, .bool s5), (7, .int .u64 s7)]) [[.bool b0_0, .int .u64 b0_1, .int .u64 b0_2, .int .i64 b0_3, .bool b0_4]] G (contC Try.prog O lo72 fuel (nav (Try.f72.body.getD .skip) [1, 1, 1, 1, 1, 0]) [0] (kpD lo72 35 1 k)))) = L_round_exact_to_2 O fuel (fun (s5 : Bool) (s7 : Int) (b0_0 : Bool) (b0_1 b0_2 b0_3 : Int) (b0_4 : Bool) (G : GH) => k .normal (mkE 51 [(2, .loc 0 0), (5, .bool s5), (7, .int .u64 s7)]) [[.bool b0_0, .int .u64 b0_1, .int .u64 b0_2, .int .i64 b0_3, .bool b0_4]] G) := by
  funext s5 s7 b0_0 b0_1 b0_2 b0_3 b0_4 G
  simp only [L_round_exact_to_2, l_round_exact_to_2_eq, a_round_exact_to_2N_raw]

def l_round_exact_to_1 {R : Type} (O : Ora R) (fuel : Nat) (KN : Bool → Int → Bool → Int → Int → Int → Bool → GH → Option R) : Bool → Int → Bool → Int → Int → Int → Bool → GH → Option R := fun s5 s7 b0_0 b0_1 b0_2 b0_3 b0_4 G => u_round_exact_to_1 O KN (L_round_exact_to_2 O fuel KN) s5 s7 b0_0 b0_1 b0_2 b0_3 b0_4 G

theorem u_round_exact_to_1_raw {R : Type} (O : Ora R) (fuel : Nat) (s5 : Bool) (s7 : Int) (b0_0 : Bool) (b0_1 b0_2 b0_3 : Int) (b0_4 : Bool) (G : GH) (k : KE R) :
  loopD Try.prog O lo72 fuel (nav (Try.f72.body.getD .skip) [1, 1, 1, 1, 1, 0]) 35 (mkE 51 [(2, .loc 0 0), (5, .bool s5), (7, .int .u64 s7)]) [[.bool b0_0, .int .u64 b0_1, .int .u64 b0_2, .int .i64 b0_3, .bool b0_4]] G k =
  u_round_exact_to_1 O (fun s5 s7 b0_0 b0_1 b0_2 b0_3 b0_4 G => k .normal (mkE 51 [(2, .loc 0 0), (5, .bool s5), (7, .int .u64 s7)]) [[.bool b0_0, .int .u64 b0_1, .int .u64 b0_2, .int .i64 b0_3, .bool b0_4]] G) (fun s5 s7 b0_0 b0_1 b0_2 b0_3 b0_4 G => stepN fuel (loopD Try.prog O lo72 fuel (nav (Try.f72.body.getD .skip) [1, 1, 1, 1, 1, 0, 0]) 31 (mkE 51 [(2, .loc 0 0), (5, .bool s5), (7, .int .u64 s7)]) [[.bool b0_0, .int .u64 b0_1, .int .u64 b0_2, .int .i64 b0_3, .bool b0_4]] G (contC Try.prog O lo72 fuel (nav (Try.f72.body.getD .skip) [1, 1, 1, 1, 1, 0]) [0] (kpD lo72 35 1 k)))) s5 s7 b0_0 b0_1 b0_2 b0_3 b0_4 G := by kernel_rfl

theorem l_round_exact_to_1_eq {R : Type} (O : Ora R) (fuel : Nat) (k : KE R) : ∀ (s5 : Bool) (s7 : Int) (b0_0 : Bool) (b0_1 b0_2 b0_3 : Int) (b0_4 : Bool) (G : GH),
  loopD Try.prog O lo72 fuel (nav (Try.f72.body.getD .skip) [1, 1, 1, 1, 1, 0]) 35 (mkE 51 [(2, .loc 0 0), (5, .bool s5), (7, .int .u64 s7)]) [[.bool b0_0, .int .u64 b0_1, .int .u64 b0_2, .int .i64 b0_3, .bool b0_4]] G k = l_round_exact_to_1 O fuel (fun s5 s7 b0_0 b0_1 b0_2 b0_3 b0_4 G => k .normal (mkE 51 [(2, .loc 0 0), (5, .bool s5), (7, .int .u64 s7)]) [[.bool b0_0, .int .u64 b0_1, .int .u64 b0_2, .int .i64 b0_3, .bool b0_4]] G) s5 s7 b0_0 b0_1 b0_2 b0_3 b0_4 G := by
  intros
  rw [u_round_exact_to_1_raw]
  simp only [l_round_exact_to_1, L_round_exact_to_2_eq]

def u_round_exact_to_3 {R : Type} (O : Ora R) (KN : Nat → Bool → Int → Int → Int → Bool → GH → Option R) (s5 : Bool) (s8 : Nat) (b0_0 : Bool) (b0_1 b0_2 b0_3 : Int) (b0_4 : Bool) (G : GH) : Option R :=
  O fn_math_IsInf [.float .f64 s8, .int .i64 (0 : Int)] G fun v1 G2 =>
  (ivBool v1).bind fun x3 =>
  bif x3 then
  bif (!s5) then
  KN (9218868437227405311 : Nat) b0_0 b0_1 b0_2 b0_3 b0_4 G2
  else
  KN s8 b0_0 b0_1 b0_2 b0_3 b0_4 G2
  else
  KN s8 b0_0 b0_1 b0_2 b0_3 b0_4 G2

def l_round_exact_to_3 {R : Type} (O : Ora R) (KN : Nat → Bool → Int → Int → Int → Bool → GH → Option R) : Bool → Nat → Bool → Int → Int → Int → Bool → GH → Option R := fun s5 s8 b0_0 b0_1 b0_2 b0_3 b0_4 G => u_round_exact_to_3 O KN s5 s8 b0_0 b0_1 b0_2 b0_3 b0_4 G

theorem u_round_exact_to_3_raw {R : Type} (O : Ora R) (fuel : Nat) (s5 : Bool) (s8 : Nat) (b0_0 : Bool) (b0_1 b0_2 b0_3 : Int) (b0_4 : Bool) (G : GH) (k : KE R) :
  loopD Try.prog O lo72 fuel (nav (Try.f72.body.getD .skip) [1, 1, 1, 1, 1, 1, 1, 0]) 47 (mkE 51 [(2, .loc 0 0), (5, .bool s5), (8, .float .f64 s8)]) [[.bool b0_0, .int .u64 b0_1, .int .u64 b0_2, .int .i64 b0_3, .bool b0_4]] G k =
  u_round_exact_to_3 O (fun s8 b0_0 b0_1 b0_2 b0_3 b0_4 G => k .normal (mkE 51 [(2, .loc 0 0), (8, .float .f64 s8)]) [[.bool b0_0, .int .u64 b0_1, .int .u64 b0_2, .int .i64 b0_3, .bool b0_4]] G) s5 s8 b0_0 b0_1 b0_2 b0_3 b0_4 G := by kernel_rfl

theorem l_round_exact_to_3_eq {R : Type} (O : Ora R) (fuel : Nat) (k : KE R) : ∀ (s5 : Bool) (s8 : Nat) (b0_0 : Bool) (b0_1 b0_2 b0_3 : Int) (b0_4 : Bool) (G : GH),
  loopD Try.prog O lo72 fuel (nav (Try.f72.body.getD .skip) [1, 1, 1, 1, 1, 1, 1, 0]) 47 (mkE 51 [(2, .loc 0 0), (5, .bool s5), (8, .float .f64 s8)]) [[.bool b0_0, .int .u64 b0_1, .int .u64 b0_2, .int .i64 b0_3, .bool b0_4]] G k = l_round_exact_to_3 O (fun s8 b0_0 b0_1 b0_2 b0_3 b0_4 G => k .normal (mkE 51 [(2, .loc 0 0), (8, .float .f64 s8)]) [[.bool b0_0, .int .u64 b0_1, .int .u64 b0_2, .int .i64 b0_3, .bool b0_4]] G) s5 s8 b0_0 b0_1 b0_2 b0_3 b0_4 G := by
  intros
  rw [u_round_exact_to_3_raw]
  simp only [l_round_exact_to_3]

def u_round_exact_to_4 {R : Type} (O : Ora R) (KN : Nat → Bool → Int → Int → Int → Bool → GH → Option R) (s8 : Nat) (b0_0 : Bool) (b0_1 b0_2 b0_3 : Int) (b0_4 : Bool) (G : GH) : Option R :=
  bif b0_0 then
  KN (Op.negFloat .f64 s8) b0_0 b0_1 b0_2 b0_3 b0_4 G
  else
  KN s8 b0_0 b0_1 b0_2 b0_3 b0_4 G

def l_round_exact_to_4 {R : Type} (O : Ora R) (KN : Nat → Bool → Int → Int → Int → Bool → GH → Option R) : Nat → Bool → Int → Int → Int → Bool → GH → Option R := fun s8 b0_0 b0_1 b0_2 b0_3 b0_4 G => u_round_exact_to_4 O KN s8 b0_0 b0_1 b0_2 b0_3 b0_4 G

theorem u_round_exact_to_4_raw {R : Type} (O : Ora R) (fuel s8 : Nat) (b0_0 : Bool) (b0_1 b0_2 b0_3 : Int) (b0_4 : Bool) (G : GH) (k : KE R) :
  loopD Try.prog O lo72 fuel (nav (Try.f72.body.getD .skip) [1, 1, 1, 1, 1, 1, 1, 1, 0]) 55 (mkE 51 [(2, .loc 0 0), (8, .float .f64 s8)]) [[.bool b0_0, .int .u64 b0_1, .int .u64 b0_2, .int .i64 b0_3, .bool b0_4]] G k =
  u_round_exact_to_4 O (fun s8 b0_0 b0_1 b0_2 b0_3 b0_4 G => k .normal (mkE 51 [(8, .float .f64 s8)]) [[.bool b0_0, .int .u64 b0_1, .int .u64 b0_2, .int .i64 b0_3, .bool b0_4]] G) s8 b0_0 b0_1 b0_2 b0_3 b0_4 G := by kernel_rfl

theorem l_round_exact_to_4_eq {R : Type} (O : Ora R) (fuel : Nat) (k : KE R) : ∀ (s8 : Nat) (b0_0 : Bool) (b0_1 b0_2 b0_3 : Int) (b0_4 : Bool) (G : GH),
  loopD Try.prog O lo72 fuel (nav (Try.f72.body.getD .skip) [1, 1, 1, 1, 1, 1, 1, 1, 0]) 55 (mkE 51 [(2, .loc 0 0), (8, .float .f64 s8)]) [[.bool b0_0, .int .u64 b0_1, .int .u64 b0_2, .int .i64 b0_3, .bool b0_4]] G k = l_round_exact_to_4 O (fun s8 b0_0 b0_1 b0_2 b0_3 b0_4 G => k .normal (mkE 51 [(8, .float .f64 s8)]) [[.bool b0_0, .int .u64 b0_1, .int .u64 b0_2, .int .i64 b0_3, .bool b0_4]] G) s8 b0_0 b0_1 b0_2 b0_3 b0_4 G := by
  intros
  rw [u_round_exact_to_4_raw]
  simp only [l_round_exact_to_4]

def u_round_exact_to {R : Type} (O : Ora R) (k : KV R) (L0 : Bool → Int → Bool → Int → Int → Int → Bool → GH → Option R) (p0_0 : Bool) (p0_1 p0_2 p0_3 : Int) (p0_4 p1 : Bool) (G : GH) : Option R :=
  O fn_round_exact_length [.agg [.bool p0_0, .int .u64 p0_1, .int .u64 p0_2, .int .i64 p0_3, .bool p0_4]] (gfreeze G) fun v1 _ =>
  (ivInt .i64 v1).bind fun x2 =>
  L0 (p0_0 == p1) (if (IntKind.wrap .i64 (((-1074 : Int)) - p0_3)) > (IntKind.wrap .i64 (x2 - (53 : Int))) then (IntKind.wrap .i64 (((-1074 : Int)) - p0_3)) else (IntKind.wrap .i64 (x2 - (53 : Int)))) p0_0 p0_1 p0_2 p0_3 p0_4 G

def a_round_exact_to_0N {R : Type} (O : Ora R) (k : KV R) (L1 : Bool → Int → Bool → Int → Int → Int → Bool → GH → Option R) (s5 b0_0 : Bool) (b0_1 b0_2 b0_3 : Int) (b0_4 : Bool) (G : GH) : Option R :=
  L1 s5 b0_2 b0_0 b0_1 b0_2 b0_3 b0_4 G

def a_round_exact_to_1N {R : Type} (O : Ora R) (k : KV R) (L3 : Bool → Nat → Bool → Int → Int → Int → Bool → GH → Option R) (s5 : Bool) (s7 : Int) (b0_0 : Bool) (b0_1 b0_2 b0_3 : Int) (b0_4 : Bool) (G : GH) : Option R :=
  O fn_math_Ldexp [.float .f64 (FloatKind.nearest .f64 s7), .int .i64 b0_3] G fun v1 G2 =>
  (ivFloat .f64 v1).bind fun x3 =>
  L3 s5 x3 b0_0 b0_1 b0_2 b0_3 b0_4 G2

def a_round_exact_to_3N {R : Type} (O : Ora R) (k : KV R) (L4 : Nat → Bool → Int → Int → Int → Bool → GH → Option R) (s8 : Nat) (b0_0 : Bool) (b0_1 b0_2 b0_3 : Int) (b0_4 : Bool) (G : GH) : Option R :=
  L4 s8 b0_0 b0_1 b0_2 b0_3 b0_4 G

def a_round_exact_to_4N {R : Type} (O : Ora R) (k : KV R) (s8 : Nat) (b0_0 : Bool) (b0_1 b0_2 b0_3 : Int) (b0_4 : Bool) (G : GH) : Option R :=
  O fn_round_plain [.float .f64 s8] G fun v1 G2 =>
  (ivFloat .f64 v1).bind fun x3 =>
  k (.float .f64 x3) G2

def L_round_exact_to_4 {R : Type} (O : Ora R) (fuel : Nat) (k : KV R) : Nat → Bool → Int → Int → Int → Bool → GH → Option R := fun s8 b0_0 b0_1 b0_2 b0_3 b0_4 G =>
  stepN fuel (l_round_exact_to_4 O (a_round_exact_to_4N O k) s8 b0_0 b0_1 b0_2 b0_3 b0_4 G)

theorem a_round_exact_to_4N_raw {R : Type} (O : Ora R) (fuel s8 : Nat) (b0_0 : Bool) (b0_1 b0_2 b0_3 : Int) (b0_4 : Bool) (G : GH) (k : KV R) :
  contC Try.prog O lo72 fuel (Try.f72.body.getD .skip) [1, 1, 1, 1, 1, 1, 1, 1, 0] (fun e env F G => match e with | .exit _ => none | _ => resC Try.prog Try.f72 env F G k) .normal (mkE 51 [(8, .float .f64 s8)]) [[.bool b0_0, .int .u64 b0_1, .int .u64 b0_2, .int .i64 b0_3, .bool b0_4]] G =
  a_round_exact_to_4N O k s8 b0_0 b0_1 b0_2 b0_3 b0_4 G := by kernel_rfl

theorem L_round_exact_to_4_eq {R : Type} (O : Ora R) (fuel : Nat) (k : KV R) :
  (fun (s8 : Nat) (b0_0 : Bool) (b0_1 b0_2 b0_3 : Int) (b0_4 : Bool) (G : GH) => stepN fuel (loopD Try.prog O lo72 fuel (nav (Try.f72.body.getD .skip) [1, 1, 1, 1, 1, 1, 1, 1, 0]) 55 (mkE 51 [(2, .loc 0 0), (8, .float .f64 s8)]) [[.bool b0_0, .int .u64 b0_1, .int .u64 b0_2, .int .i64 b0_3, .bool b0_4]] G (contC Try.prog O lo72 fuel (Try.f72.body.getD .skip) [1, 1, 1, 1, 1, 1, 1, 1, 0] (fun e env F G => match e with | .exit _ => none | _ => resC Try.prog Try.f72 env F G k)))) = L_round_exact_to_4 O fuel k := by
  funext s8 b0_0 b0_1 b0_2 b0_3 b0_4 G
  simp only [L_round_exact_to_4, l_round_exact_to_4_eq, a_round_exact_to_4N_raw]

def L_round_exact_to_3 {R : Type} (O : Ora R) (fuel : Nat) (k : KV R) : Bool → Nat → Bool → Int → Int → Int → Bool → GH → Option R := fun s5 s8 b0_0 b0_1 b0_2 b0_3 b0_4 G =>
  stepN fuel (l_round_exact_to_3 O (a_round_exact_to_3N O k (L_round_exact_to_4 O fuel k)) s5 s8 b0_0 b0_1 b0_2 b0_3 b0_4 G)

theorem a_round_exact_to_3N_raw {R : Type} (O : Ora R) (fuel s8 : Nat) (b0_0 : Bool) (b0_1 b0_2 b0_3 : Int) (b0_4 : Bool) (G : GH) (k : KV R) :
  contC Try.prog O lo72 fuel (Try.f72.body.getD .skip) [1, 1, 1, 1, 1, 1, 1, 0] (fun e env F G => match e with | .exit _ => none | _ => resC Try.prog Try.f72 env F G k) .normal (mkE 51 [(2, .loc 0 0), (8, .float .f64 s8)]) [[.bool b0_0, .int .u64 b0_1, .int .u64 b0_2, .int .i64 b0_3, .bool b0_4]] G =
  a_round_exact_to_3N O k (fun s8 b0_0 b0_1 b0_2 b0_3 b0_4 G => stepN fuel (loopD Try.prog O lo72 fuel (nav (Try.f72.body.getD .skip) [1, 1, 1, 1, 1, 1, 1, 1, 0]) 55 (mkE 51 [(2, .loc 0 0), (8, .float .f64 s8)]) [[.bool b0_0, .int .u64 b0_1, .int .u64 b0_2, .int .i64 b0_3, .bool b0_4]] G (contC Try.prog O lo72 fuel (Try.f72.body.getD .skip) [1, 1, 1, 1, 1, 1, 1, 1, 0] (fun e env F G => match e with | .exit _ => none | _ => resC Try.prog Try.f72 env F G k)))) s8 b0_0 b0_1 b0_2 b0_3 b0_4 G := by kernel_rfl

theorem L_round_exact_to_3_eq {R : Type} (O : Ora R) (fuel : Nat) (k : KV R) :
  (fun (s5 : Bool) (s8 : Nat) (b0_0 : Bool) (b0_1 b0_2 b0_3 : Int) (b0_4 : Bool) (G : GH) => stepN fuel (loopD Try.prog O lo72 fuel (nav (Try.f72.body.getD .skip) [1, 1, 1, 1, 1, 1, 1, 0]) 47 (mkE 51 [(2, .loc 0 0), (5, .bool s5), (8, .float .f64 s8)]) [[.bool b0_0, .int .u64 b0_1, .int .u64 b0_2, .int .i64 b0_3, .bool b0_4]] G (contC Try.prog O lo72 fuel (Try.f72.body.getD .skip) [1, 1, 1, 1, 1, 1, 1, 0] (fun e env F G => match e with | .exit _ => none | _ => resC Try.prog Try.f72 env F G k)))) = L_round_exact_to_3 O fuel k := by
  funext s5 s8 b0_0 b0_1 b0_2 b0_3 b0_4 G
  simp only [L_round_exact_to_3, l_round_exact_to_3_eq, a_round_exact_to_3N_raw, L_round_exact_to_4_eq]

def L_round_exact_to_1 {R : Type} (O : Ora R) (fuel : Nat) (k : KV R) : Bool → Int → Bool → Int → Int → Int → Bool → GH → Option R := fun s5 s7 b0_0 b0_1 b0_2 b0_3 b0_4 G =>
  stepN fuel (l_round_exact_to_1 O fuel (a_round_exact_to_1N O k (L_round_exact_to_3 O fuel k)) s5 s7 b0_0 b0_1 b0_2 b0_3 b0_4 G)

theorem a_round_exact_to_1N_raw {R : Type} (O : Ora R) (fuel : Nat) (s5 : Bool) (s7 : Int) (b0_0 : Bool) (b0_1 b0_2 b0_3 : Int) (b0_4 : Bool) (G : GH) (k : KV R) :
  contC Try.prog O lo72 fuel (Try.f72.body.getD .skip) [1, 1, 1, 1, 1, 0] (fun e env F G => match e with | .exit _ => none | _ => resC Try.prog Try.f72 env F G k) .normal (mkE 51 [(2, .loc 0 0), (5, .bool s5), (7, .int .u64 s7)]) [[.bool b0_0, .int .u64 b0_1, .int .u64 b0_2, .int .i64 b0_3, .bool b0_4]] G =
  a_round_exact_to_1N O k (fun s5 s8 b0_0 b0_1 b0_2 b0_3 b0_4 G => stepN fuel (loopD Try.prog O lo72 fuel (nav (Try.f72.body.getD .skip) [1, 1, 1, 1, 1, 1, 1, 0]) 47 (mkE 51 [(2, .loc 0 0), (5, .bool s5), (8, .float .f64 s8)]) [[.bool b0_0, .int .u64 b0_1, .int .u64 b0_2, .int .i64 b0_3, .bool b0_4]] G (contC Try.prog O lo72 fuel (Try.f72.body.getD .skip) [1, 1, 1, 1, 1, 1, 1, 0] (fun e env F G => match e with | .exit _ => none | _ => resC Try.prog Try.f72 env F G k)))) s5 s7 b0_0 b0_1 b0_2 b0_3 b0_4 G := by kernel_rfl

theorem L_round_exact_to_1_eq {R : Type} (O : Ora R) (fuel : Nat) (k : KV R) :
  (fun (s5 : Bool) (s7 : Int) (b0_0 : Bool) (b0_1 b0_2 b0_3 : Int) (b0_4 : Bool) (G : GH) => stepN fuel (loopD Try.prog O lo72 fuel (nav (Try.f72.body.getD .skip) [1, 1, 1, 1, 1, 0]) 35 (mkE 51 [(2, .loc 0 0), (5, .bool s5), (7, .int .u64 s7)]) [[.bool b0_0, .int .u64 b0_1, .int .u64 b0_2, .int .i64 b0_3, .bool b0_4]] G (contC Try.prog O lo72 fuel (Try.f72.body.getD .skip) [1, 1, 1, 1, 1, 0] (fun e env F G => match e with | .exit _ => none | _ => resC Try.prog Try.f72 env F G k)))) = L_round_exact_to_1 O fuel k := by
  funext s5 s7 b0_0 b0_1 b0_2 b0_3 b0_4 G
  simp only [L_round_exact_to_1, l_round_exact_to_1_eq, a_round_exact_to_1N_raw, L_round_exact_to_3_eq]

def L_round_exact_to_0 {R : Type} (O : Ora R) (fuel : Nat) (k : KV R) : Bool → Int → Bool → Int → Int → Int → Bool → GH → Option R := fun s5 s6 b0_0 b0_1 b0_2 b0_3 b0_4 G =>
  stepN fuel (l_round_exact_to_0 O (a_round_exact_to_0N O k (L_round_exact_to_1 O fuel k)) s5 s6 b0_0 b0_1 b0_2 b0_3 b0_4 G)

theorem a_round_exact_to_0N_raw {R : Type} (O : Ora R) (fuel : Nat) (s5 b0_0 : Bool) (b0_1 b0_2 b0_3 : Int) (b0_4 : Bool) (G : GH) (k : KV R) :
  contC Try.prog O lo72 fuel (Try.f72.body.getD .skip) [1, 1, 1, 0] (fun e env F G => match e with | .exit _ => none | _ => resC Try.prog Try.f72 env F G k) .normal (mkE 51 [(2, .loc 0 0), (5, .bool s5)]) [[.bool b0_0, .int .u64 b0_1, .int .u64 b0_2, .int .i64 b0_3, .bool b0_4]] G =
  a_round_exact_to_0N O k (fun s5 s7 b0_0 b0_1 b0_2 b0_3 b0_4 G => stepN fuel (loopD Try.prog O lo72 fuel (nav (Try.f72.body.getD .skip) [1, 1, 1, 1, 1, 0]) 35 (mkE 51 [(2, .loc 0 0), (5, .bool s5), (7, .int .u64 s7)]) [[.bool b0_0, .int .u64 b0_1, .int .u64 b0_2, .int .i64 b0_3, .bool b0_4]] G (contC Try.prog O lo72 fuel (Try.f72.body.getD .skip) [1, 1, 1, 1, 1, 0] (fun e env F G => match e with | .exit _ => none | _ => resC Try.prog Try.f72 env F G k)))) s5 b0_0 b0_1 b0_2 b0_3 b0_4 G := by kernel_rfl

theorem L_round_exact_to_0_eq {R : Type} (O : Ora R) (fuel : Nat) (k : KV R) :
  (fun (s5 : Bool) (s6 : Int) (b0_0 : Bool) (b0_1 b0_2 b0_3 : Int) (b0_4 : Bool) (G : GH) => stepN fuel (loopD Try.prog O lo72 fuel (nav (Try.f72.body.getD .skip) [1, 1, 1, 0]) 23 (mkE 51 [(2, .loc 0 0), (5, .bool s5), (6, .int .i64 s6)]) [[.bool b0_0, .int .u64 b0_1, .int .u64 b0_2, .int .i64 b0_3, .bool b0_4]] G (contC Try.prog O lo72 fuel (Try.f72.body.getD .skip) [1, 1, 1, 0] (fun e env F G => match e with | .exit _ => none | _ => resC Try.prog Try.f72 env F G k)))) = L_round_exact_to_0 O fuel k := by
  funext s5 s6 b0_0 b0_1 b0_2 b0_3 b0_4 G
  simp only [L_round_exact_to_0, l_round_exact_to_0_eq, a_round_exact_to_0N_raw, L_round_exact_to_1_eq]

theorem e_round_exact_to_raw {R : Type} (O : Ora R) (fuel : Nat) (p0_0 : Bool) (p0_1 p0_2 p0_3 : Int) (p0_4 p1 : Bool) (G : GH) (k : KV R) :
  bodyC Try.prog O lo72 fuel Try.f72 [.agg [.bool p0_0, .int .u64 p0_1, .int .u64 p0_2, .int .i64 p0_3, .bool p0_4], .bool p1] G k =
  u_round_exact_to O k (fun s5 s6 b0_0 b0_1 b0_2 b0_3 b0_4 G => stepN fuel (loopD Try.prog O lo72 fuel (nav (Try.f72.body.getD .skip) [1, 1, 1, 0]) 23 (mkE 51 [(2, .loc 0 0), (5, .bool s5), (6, .int .i64 s6)]) [[.bool b0_0, .int .u64 b0_1, .int .u64 b0_2, .int .i64 b0_3, .bool b0_4]] G (contC Try.prog O lo72 fuel (Try.f72.body.getD .skip) [1, 1, 1, 0] (fun e env F G => match e with | .exit _ => none | _ => resC Try.prog Try.f72 env F G k)))) p0_0 p0_1 p0_2 p0_3 p0_4 p1 G := by kernel_rfl

theorem e_round_exact_to {R : Type} (O : Ora R) (fuel : Nat) (p0_0 : Bool) (p0_1 p0_2 p0_3 : Int) (p0_4 p1 : Bool) (G : GH) (k : KV R) :
  bodyC Try.prog O lo72 fuel Try.f72 [.agg [.bool p0_0, .int .u64 p0_1, .int .u64 p0_2, .int .i64 p0_3, .bool p0_4], .bool p1] G k =
  u_round_exact_to O k (L_round_exact_to_0 O fuel k) p0_0 p0_1 p0_2 p0_3 p0_4 p1 G := by
  rw [e_round_exact_to_raw, L_round_exact_to_0_eq]

theorem r_round_exact_to {R : Type} (fuel n : Nat) (p0_0 : Bool) (p0_1 p0_2 p0_3 : Int) (p0_4 p1 : Bool) (G : GH) (k : KV R) :
  runC Try.prog lo0 fuel (n + 1) 72 [.agg [.bool p0_0, .int .u64 p0_1, .int .u64 p0_2, .int .i64 p0_3, .bool p0_4], .bool p1] G k = bodyC Try.prog (runC Try.prog lo0 fuel n) lo72 fuel Try.f72 [.agg [.bool p0_0, .int .u64 p0_1, .int .u64 p0_2, .int .i64 p0_3, .bool p0_4], .bool p1] G k := run_body Try.func72 rfl rfl

/-! ### lantern/round.sum -/
def u_round_sum_1 {R : Type} (O : Ora R) (KN : Bool → Bool → Int → Int → Int → Bool → Bool → Int → Int → Int → Bool → Bool → Int → Int → Int → Bool → GH → Option R) (b0_0 : Bool) (b0_1 b0_2 b0_3 : Int) (b0_4 b1_0 : Bool) (b1_1 b1_2 b1_3 : Int) (b1_4 b2_0 : Bool) (b2_1 b2_2 b2_3 : Int) (b2_4 : Bool) (G : GH) : Option R :=
  O fn_round_exact_zero [.agg [.bool b0_0, .int .u64 b0_1, .int .u64 b0_2, .int .i64 b0_3, .bool b0_4]] (gfreeze G) fun v1 _ =>
  (ivBool v1).bind fun x2 =>
  bif x2 then
  KN true b0_0 b0_1 b0_2 b0_3 b0_4 b1_0 b1_1 b1_2 b1_3 b1_4 b2_0 b2_1 b2_2 b2_3 b2_4 G
  else
  O fn_round_exact_zero [.agg [.bool b1_0, .int .u64 b1_1, .int .u64 b1_2, .int .i64 b1_3, .bool b1_4]] (gfreeze G) fun v3 _ =>
  (ivBool v3).bind fun x4 =>
  bif (!x4) then
  O fn_round_exact_length [.agg [.bool b0_0, .int .u64 b0_1, .int .u64 b0_2, .int .i64 b0_3, .bool b0_4]] (gfreeze G) fun v5 _ =>
  (ivInt .i64 v5).bind fun x6 =>
  O fn_round_exact_length [.agg [.bool b1_0, .int .u64 b1_1, .int .u64 b1_2, .int .i64 b1_3, .bool b1_4]] (gfreeze G) fun v7 _ =>
  (ivInt .i64 v7).bind fun x8 =>
  KN (decide ((IntKind.wrap .i64 (b0_3 + x6)) < (IntKind.wrap .i64 (b1_3 + x8)))) b0_0 b0_1 b0_2 b0_3 b0_4 b1_0 b1_1 b1_2 b1_3 b1_4 b2_0 b2_1 b2_2 b2_3 b2_4 G
  else
  KN false b0_0 b0_1 b0_2 b0_3 b0_4 b1_0 b1_1 b1_2 b1_3 b1_4 b2_0 b2_1 b2_2 b2_3 b2_4 G

def l_round_sum_1 {R : Type} (O : Ora R) (KN : Bool → Bool → Int → Int → Int → Bool → Bool → Int → Int → Int → Bool → Bool → Int → Int → Int → Bool → GH → Option R) : Bool → Int → Int → Int → Bool → Bool → Int → Int → Int → Bool → Bool → Int → Int → Int → Bool → GH → Option R := fun b0_0 b0_1 b0_2 b0_3 b0_4 b1_0 b1_1 b1_2 b1_3 b1_4 b2_0 b2_1 b2_2 b2_3 b2_4 G => u_round_sum_1 O KN b0_0 b0_1 b0_2 b0_3 b0_4 b1_0 b1_1 b1_2 b1_3 b1_4 b2_0 b2_1 b2_2 b2_3 b2_4 G

theorem u_round_sum_1_raw {R : Type} (O : Ora R) (fuel : Nat) (b0_0 : Bool) (b0_1 b0_2 b0_3 : Int) (b0_4 b1_0 : Bool) (b1_1 b1_2 b1_3 : Int) (b1_4 b2_0 : Bool) (b2_1 b2_2 b2_3 : Int) (b2_4 : Bool) (G : GH) (k : KE R) :
  loopD Try.prog O lo83 fuel (nav (Try.f83.body.getD .skip) [1, 0, 0]) 11 (mkE 131 [(2, .loc 0 0), (3, .loc 1 0), (4, .loc 2 0)]) [[.bool b0_0, .int .u64 b0_1, .int .u64 b0_2, .int .i64 b0_3, .bool b0_4], [.bool b1_0, .int .u64 b1_1, .int .u64 b1_2, .int .i64 b1_3, .bool b1_4], [.bool b2_0, .int .u64 b2_1, .int .u64 b2_2, .int .i64 b2_3, .bool b2_4]] G k =
  u_round_sum_1 O (fun s26 b0_0 b0_1 b0_2 b0_3 b0_4 b1_0 b1_1 b1_2 b1_3 b1_4 b2_0 b2_1 b2_2 b2_3 b2_4 G => k .normal (mkE 131 [(2, .loc 0 0), (3, .loc 1 0), (4, .loc 2 0), (26, .bool s26)]) [[.bool b0_0, .int .u64 b0_1, .int .u64 b0_2, .int .i64 b0_3, .bool b0_4], [.bool b1_0, .int .u64 b1_1, .int .u64 b1_2, .int .i64 b1_3, .bool b1_4], [.bool b2_0, .int .u64 b2_1, .int .u64 b2_2, .int .i64 b2_3, .bool b2_4]] G) b0_0 b0_1 b0_2 b0_3 b0_4 b1_0 b1_1 b1_2 b1_3 b1_4 b2_0 b2_1 b2_2 b2_3 b2_4 G := by kernel_rfl

theorem l_round_sum_1_eq {R : Type} (O : Ora R) (fuel : Nat) (k : KE R) : ∀ (b0_0 : Bool) (b0_1 b0_2 b0_3 : Int) (b0_4 b1_0 : Bool) (b1_1 b1_2 b1_3 : Int) (b1_4 b2_0 : Bool) (b2_1 b2_2 b2_3 : Int) (b2_4 : Bool) (G : GH),
  loopD Try.prog O lo83 fuel (nav (Try.f83.body.getD .skip) [1, 0, 0]) 11 (mkE 131 [(2, .loc 0 0), (3, .loc 1 0), (4, .loc 2 0)]) [[.bool b0_0, .int .u64 b0_1, .int .u64 b0_2, .int .i64 b0_3, .bool b0_4], [.bool b1_0, .int .u64 b1_1, .int .u64 b1_2, .int .i64 b1_3, .bool b1_4], [.bool b2_0, .int .u64 b2_1, .int .u64 b2_2, .int .i64 b2_3, .bool b2_4]] G k = l_round_sum_1 O (fun s26 b0_0 b0_1 b0_2 b0_3 b0_4 b1_0 b1_1 b1_2 b1_3 b1_4 b2_0 b2_1 b2_2 b2_3 b2_4 G => k .normal (mkE 131 [(2, .loc 0 0), (3, .loc 1 0), (4, .loc 2 0), (26, .bool s26)]) [[.bool b0_0, .int .u64 b0_1, .int .u64 b0_2, .int .i64 b0_3, .bool b0_4], [.bool b1_0, .int .u64 b1_1, .int .u64 b1_2, .int .i64 b1_3, .bool b1_4], [.bool b2_0, .int .u64 b2_1, .int .u64 b2_2, .int .i64 b2_3, .bool b2_4]] G) b0_0 b0_1 b0_2 b0_3 b0_4 b1_0 b1_1 b1_2 b1_3 b1_4 b2_0 b2_1 b2_2 b2_3 b2_4 G := by
  intros
  rw [u_round_sum_1_raw]
  simp only [l_round_sum_1]

def u_round_sum_0 {R : Type} (O : Ora R) (KN L1 : Bool → Int → Int → Int → Bool → Bool → Int → Int → Int → Bool → Bool → Int → Int → Int → Bool → GH → Option R) (b0_0 : Bool) (b0_1 b0_2 b0_3 : Int) (b0_4 b1_0 : Bool) (b1_1 b1_2 b1_3 : Int) (b1_4 b2_0 : Bool) (b2_1 b2_2 b2_3 : Int) (b2_4 : Bool) (G : GH) : Option R :=
  L1 b0_0 b0_1 b0_2 b0_3 b0_4 b1_0 b1_1 b1_2 b1_3 b1_4 b2_0 b2_1 b2_2 b2_3 b2_4 G

def a_round_sum_1N {R : Type} (O : Ora R) (KN : Bool → Int → Int → Int → Bool → Bool → Int → Int → Int → Bool → Bool → Int → Int → Int → Bool → GH → Option R) (s26 b0_0 : Bool) (b0_1 b0_2 b0_3 : Int) (b0_4 b1_0 : Bool) (b1_1 b1_2 b1_3 : Int) (b1_4 b2_0 : Bool) (b2_1 b2_2 b2_3 : Int) (b2_4 : Bool) (G : GH) : Option R :=
  bif s26 then
  KN b1_0 b1_1 b1_2 b1_3 b1_4 b0_0 b0_1 b0_2 b0_3 b0_4 b2_0 b2_1 b2_2 b2_3 b2_4 G
  else
  KN b0_0 b0_1 b0_2 b0_3 b0_4 b1_0 b1_1 b1_2 b1_3 b1_4 b2_0 b2_1 b2_2 b2_3 b2_4 G

def L_round_sum_1 {R : Type} (O : Ora R) (fuel : Nat) (KN : Bool → Int → Int → Int → Bool → Bool → Int → Int → Int → Bool → Bool → Int → Int → Int → Bool → GH → Option R) : Bool → Int → Int → Int → Bool → Bool → Int → Int → Int → Bool → Bool → Int → Int → Int → Bool → GH → Option R := fun b0_0 b0_1 b0_2 b0_3 b0_4 b1_0 b1_1 b1_2 b1_3 b1_4 b2_0 b2_1 b2_2 b2_3 b2_4 G =>
  stepN fuel (l_round_sum_1 O (a_round_sum_1N O KN) b0_0 b0_1 b0_2 b0_3 b0_4 b1_0 b1_1 b1_2 b1_3 b1_4 b2_0 b2_1 b2_2 b2_3 b2_4 G)

theorem a_round_sum_1N_raw {R : Type} (O : Ora R) (fuel : Nat) (s26 b0_0 : Bool) (b0_1 b0_2 b0_3 : Int) (b0_4 b1_0 : Bool) (b1_1 b1_2 b1_3 : Int) (b1_4 b2_0 : Bool) (b2_1 b2_2 b2_3 : Int) (b2_4 : Bool) (G : GH) (k : KE R) :
  contC Try.prog O lo83 fuel (nav (Try.f83.body.getD .skip) [1, 0]) [0] (kpD lo83 15 3 k) .normal (mkE 131 [(2, .loc 0 0), (3, .loc 1 0), (4, .loc 2 0), (26, .bool s26)]) [[.bool b0_0, .int .u64 b0_1, .int .u64 b0_2, .int .i64 b0_3, .bool b0_4], [.bool b1_0, .int .u64 b1_1, .int .u64 b1_2, .int .i64 b1_3, .bool b1_4], [.bool b2_0, .int .u64 b2_1, .int .u64 b2_2, .int .i64 b2_3, .bool b2_4]] G =
  a_round_sum_1N O (fun b0_0 b0_1 b0_2 b0_3 b0_4 b1_0 b1_1 b1_2 b1_3 b1_4 b2_0 b2_1 b2_2 b2_3 b2_4 G => k .normal (mkE 131 [(2, .loc 0 0), (3, .loc 1 0), (4, .loc 2 0)]) [[.bool b0_0, .int .u64 b0_1, .int .u64 b0_2, .int .i64 b0_3, .bool b0_4], [.bool b1_0, .int .u64 b1_1, .int .u64 b1_2, .int .i64 b1_3, .bool b1_4], [.bool b2_0, .int .u64 b2_1, .int .u64 b2_2, .int .i64 b2_3, .bool b2_4]] G) s26 b0_0 b0_1 b0_2 b0_3 b0_4 b1_0 b1_1 b1_2 b1_3 b1_4 b2_0 b2_1 b2_2 b2_3 b2_4 G := by kernel_rfl

theorem L_round_sum_1_eq {R : Type} (O : Ora R) (fuel : Nat) (k : KE R) :
  (fun (b0_0 : Bool) (b0_1 b0_2 b0_3 : Int) (b0_4 b1_0 : Bool) (b1_1 b1_2 b1_3 : Int) (b1_4 b2_0 : Bool) (b2_1 b2_2 b2_3 : Int) (b2_4 : Bool) (G : GH) => stepN fuel (loopD Try.prog O lo83 fuel (nav (Try.f83.body.getD .skip) [1, 0, 0]) 11 (mkE 131 [(2, .loc 0 0), (3, .loc 1 0), (4, .loc 2 0)]) [[.bool b0_0, .int .u64 b0_1, .int .u64 b0_2, .int .i64 b0_3, .bool b0_4], [.bool b1_0, .int .u64 b1_1, .int .u64 b1_2, .int .i64 b1_3, .bool b1_4], [.bool b2_0, .int .u64 b2_1, .int .u64 b2_2, .int .i64 b2_3, .bool b2_4]] G (contC Try.prog O lo83 fuel (nav (Try.f83.body.getD .skip) [1, 0]) [0] (kpD lo83 15 3 k)))) = L_round_sum_1 O fuel (fun (b0_0 : Bool) (b0_1 b0_2 b0_3 : Int) (b0_4 b1_0 : Bool) (b1_1 b1_2 b1_3 : Int) (b1_4 b2_0 : Bool) (b2_1 b2_2 b2_3 : Int) (b2_4 : Bool) (G : GH) => k .normal (mkE 131 [(2, .loc 0 0), (3, .loc 1 0), (4, .loc 2 0)]) [[.bool b0_0, .int .u64 b0_1, .int .u64 b0_2, .int .i64 b0_3, .bool b0_4], [.bool b1_0, .int .u64 b1_1, .int .u64 b1_2, .int .i64 b1_3, .bool b1_4], [.bool b2_0, .int .u64 b2_1, .int .u64 b2_2, .int .i64 b2_3, .bool b2_4]] G) := by
  funext b0_0 b0_1 b0_2 b0_3 b0_4 b1_0 b1_1 b1_2 b1_3 b1_4 b2_0 b2_1 b2_2 b2_3 b2_4 G
  simp only [L_round_sum_1, l_round_sum_1_eq, a_round_sum_1N_raw]

def l_round_sum_0 {R : Type} (O : Ora R) (fuel : Nat) (KN : Bool → Int → Int → Int → Bool → Bool → Int → Int → Int → Bool → Bool → Int → Int → Int → Bool → GH → Option R) : Bool → Int → Int → Int → Bool → Bool → Int → Int → Int → Bool → Bool → Int → Int → Int → Bool → GH → Option R := fun b0_0 b0_1 b0_2 b0_3 b0_4 b1_0 b1_1 b1_2 b1_3 b1_4 b2_0 b2_1 b2_2 b2_3 b2_4 G => u_round_sum_0 O KN (L_round_sum_1 O fuel KN) b0_0 b0_1 b0_2 b0_3 b0_4 b1_0 b1_1 b1_2 b1_3 b1_4 b2_0 b2_1 b2_2 b2_3 b2_4 G

theorem u_round_sum_0_raw {R : Type} (O : Ora R) (fuel : Nat) (b0_0 : Bool) (b0_1 b0_2 b0_3 : Int) (b0_4 b1_0 : Bool) (b1_1 b1_2 b1_3 : Int) (b1_4 b2_0 : Bool) (b2_1 b2_2 b2_3 : Int) (b2_4 : Bool) (G : GH) (k : KE R) :
  loopD Try.prog O lo83 fuel (nav (Try.f83.body.getD .skip) [1, 0]) 15 (mkE 131 [(2, .loc 0 0), (3, .loc 1 0), (4, .loc 2 0)]) [[.bool b0_0, .int .u64 b0_1, .int .u64 b0_2, .int .i64 b0_3, .bool b0_4], [.bool b1_0, .int .u64 b1_1, .int .u64 b1_2, .int .i64 b1_3, .bool b1_4], [.bool b2_0, .int .u64 b2_1, .int .u64 b2_2, .int .i64 b2_3, .bool b2_4]] G k =
  u_round_sum_0 O (fun b0_0 b0_1 b0_2 b0_3 b0_4 b1_0 b1_1 b1_2 b1_3 b1_4 b2_0 b2_1 b2_2 b2_3 b2_4 G => k .normal (mkE 131 [(2, .loc 0 0), (3, .loc 1 0), (4, .loc 2 0)]) [[.bool b0_0, .int .u64 b0_1, .int .u64 b0_2, .int .i64 b0_3, .bool b0_4], [.bool b1_0, .int .u64 b1_1, .int .u64 b1_2, .int .i64 b1_3, .bool b1_4], [.bool b2_0, .int .u64 b2_1, .int .u64 b2_2, .int .i64 b2_3, .bool b2_4]] G) (fun b0_0 b0_1 b0_2 b0_3 b0_4 b1_0 b1_1 b1_2 b1_3 b1_4 b2_0 b2_1 b2_2 b2_3 b2_4 G => stepN fuel (loopD Try.prog O lo83 fuel (nav (Try.f83.body.getD .skip) [1, 0, 0]) 11 (mkE 131 [(2, .loc 0 0), (3, .loc 1 0), (4, .loc 2 0)]) [[.bool b0_0, .int .u64 b0_1, .int .u64 b0_2, .int .i64 b0_3, .bool b0_4], [.bool b1_0, .int .u64 b1_1, .int .u64 b1_2, .int .i64 b1_3, .bool b1_4], [.bool b2_0, .int .u64 b2_1, .int .u64 b2_2, .int .i64 b2_3, .bool b2_4]] G (contC Try.prog O lo83 fuel (nav (Try.f83.body.getD .skip) [1, 0]) [0] (kpD lo83 15 3 k)))) b0_0 b0_1 b0_2 b0_3 b0_4 b1_0 b1_1 b1_2 b1_3 b1_4 b2_0 b2_1 b2_2 b2_3 b2_4 G := by kernel_rfl

theorem l_round_sum_0_eq {R : Type} (O : Ora R) (fuel : Nat) (k : KE R) : ∀ (b0_0 : Bool) (b0_1 b0_2 b0_3 : Int) (b0_4 b1_0 : Bool) (b1_1 b1_2 b1_3 : Int) (b1_4 b2_0 : Bool) (b2_1 b2_2 b2_3 : Int) (b2_4 : Bool) (G : GH),
  loopD Try.prog O lo83 fuel (nav (Try.f83.body.getD .skip) [1, 0]) 15 (mkE 131 [(2, .loc 0 0), (3, .loc 1 0), (4, .loc 2 0)]) [[.bool b0_0, .int .u64 b0_1, .int .u64 b0_2, .int .i64 b0_3, .bool b0_4], [.bool b1_0, .int .u64 b1_1, .int .u64 b1_2, .int .i64 b1_3, .bool b1_4], [.bool b2_0, .int .u64 b2_1, .int .u64 b2_2, .int .i64 b2_3, .bool b2_4]] G k = l_round_sum_0 O fuel (fun b0_0 b0_1 b0_2 b0_3 b0_4 b1_0 b1_1 b1_2 b1_3 b1_4 b2_0 b2_1 b2_2 b2_3 b2_4 G => k .normal (mkE 131 [(2, .loc 0 0), (3, .loc 1 0), (4, .loc 2 0)]) [[.bool b0_0, .int .u64 b0_1, .int .u64 b0_2, .int .i64 b0_3, .bool b0_4], [.bool b1_0, .int .u64 b1_1, .int .u64 b1_2, .int .i64 b1_3, .bool b1_4], [.bool b2_0, .int .u64 b2_1, .int .u64 b2_2, .int .i64 b2_3, .bool b2_4]] G) b0_0 b0_1 b0_2 b0_3 b0_4 b1_0 b1_1 b1_2 b1_3 b1_4 b2_0 b2_1 b2_2 b2_3 b2_4 G := by
  intros
  rw [u_round_sum_0_raw]
  simp only [l_round_sum_0, L_round_sum_1_eq]

def u_round_sum_2 {R : Type} (O : Ora R) (KN : Bool → Int → Int → Int → Bool → Bool → Int → Int → Int → Bool → Bool → Int → Int → Int → Bool → GH → Option R) (b0_0 : Bool) (b0_1 b0_2 b0_3 : Int) (b0_4 b1_0 : Bool) (b1_1 b1_2 b1_3 : Int) (b1_4 b2_0 : Bool) (b2_1 b2_2 b2_3 : Int) (b2_4 : Bool) (G : GH) : Option R :=
  bif (decide (b1_3 > b0_3)) then
  O fn_round_exact_left [.agg [.bool b1_0, .int .u64 b1_1, .int .u64 b1_2, .int .i64 b1_3, .bool b1_4], .int .i64 (IntKind.wrap .i64 (b1_3 - b0_3))] G fun v1 G2 =>
  (ivAgg 5 v1).bind fun c3 =>
  (ivBool (c3.getD 0 undefI)).bind fun x4 =>
  (ivInt .u64 (c3.getD 1 undefI)).bind fun x5 =>
  (ivInt .u64 (c3.getD 2 undefI)).bind fun x6 =>
  (ivInt .i64 (c3.getD 3 undefI)).bind fun x7 =>
  (ivBool (c3.getD 4 undefI)).bind fun x8 =>
  KN b0_0 b0_1 b0_2 b0_3 b0_4 x4 x5 x6 x7 x8 b2_0 b2_1 b2_2 b2_3 b2_4 G2
  else
  O fn_round_exact_right [.agg [.bool b1_0, .int .u64 b1_1, .int .u64 b1_2, .int .i64 b1_3, .bool b1_4], .int .i64 (IntKind.wrap .i64 (b0_3 - b1_3))] G fun v9 G10 =>
  (ivAgg 5 v9).bind fun c11 =>
  (ivBool (c11.getD 0 undefI)).bind fun x12 =>
  (ivInt .u64 (c11.getD 1 undefI)).bind fun x13 =>
  (ivInt .u64 (c11.getD 2 undefI)).bind fun x14 =>
  (ivInt .i64 (c11.getD 3 undefI)).bind fun x15 =>
  (ivBool (c11.getD 4 undefI)).bind fun x16 =>
  KN b0_0 b0_1 b0_2 b0_3 b0_4 x12 x13 x14 x15 x16 b2_0 b2_1 b2_2 b2_3 b2_4 G10

def l_round_sum_2 {R : Type} (O : Ora R) (KN : Bool → Int → Int → Int → Bool → Bool → Int → Int → Int → Bool → Bool → Int → Int → Int → Bool → GH → Option R) : Bool → Int → Int → Int → Bool → Bool → Int → Int → Int → Bool → Bool → Int → Int → Int → Bool → GH → Option R := fun b0_0 b0_1 b0_2 b0_3 b0_4 b1_0 b1_1 b1_2 b1_3 b1_4 b2_0 b2_1 b2_2 b2_3 b2_4 G => u_round_sum_2 O KN b0_0 b0_1 b0_2 b0_3 b0_4 b1_0 b1_1 b1_2 b1_3 b1_4 b2_0 b2_1 b2_2 b2_3 b2_4 G

theorem u_round_sum_2_raw {R : Type} (O : Ora R) (fuel : Nat) (b0_0 : Bool) (b0_1 b0_2 b0_3 : Int) (b0_4 b1_0 : Bool) (b1_1 b1_2 b1_3 : Int) (b1_4 b2_0 : Bool) (b2_1 b2_2 b2_3 : Int) (b2_4 : Bool) (G : GH) (k : KE R) :
  loopD Try.prog O lo83 fuel (nav (Try.f83.body.getD .skip) [1, 1, 1, 1, 0]) 39 (mkE 131 [(2, .loc 0 0), (3, .loc 1 0), (4, .loc 2 0)]) [[.bool b0_0, .int .u64 b0_1, .int .u64 b0_2, .int .i64 b0_3, .bool b0_4], [.bool b1_0, .int .u64 b1_1, .int .u64 b1_2, .int .i64 b1_3, .bool b1_4], [.bool b2_0, .int .u64 b2_1, .int .u64 b2_2, .int .i64 b2_3, .bool b2_4]] G k =
  u_round_sum_2 O (fun b0_0 b0_1 b0_2 b0_3 b0_4 b1_0 b1_1 b1_2 b1_3 b1_4 b2_0 b2_1 b2_2 b2_3 b2_4 G => k .normal (mkE 131 [(2, .loc 0 0), (3, .loc 1 0), (4, .loc 2 0)]) [[.bool b0_0, .int .u64 b0_1, .int .u64 b0_2, .int .i64 b0_3, .bool b0_4], [.bool b1_0, .int .u64 b1_1, .int .u64 b1_2, .int .i64 b1_3, .bool b1_4], [.bool b2_0, .int .u64 b2_1, .int .u64 b2_2, .int .i64 b2_3, .bool b2_4]] G) b0_0 b0_1 b0_2 b0_3 b0_4 b1_0 b1_1 b1_2 b1_3 b1_4 b2_0 b2_1 b2_2 b2_3 b2_4 G := by kernel_rfl

theorem l_round_sum_2_eq {R : Type} (O : Ora R) (fuel : Nat) (k : KE R) : ∀ (b0_0 : Bool) (b0_1 b0_2 b0_3 : Int) (b0_4 b1_0 : Bool) (b1_1 b1_2 b1_3 : Int) (b1_4 b2_0 : Bool) (b2_1 b2_2 b2_3 : Int) (b2_4 : Bool) (G : GH),
  loopD Try.prog O lo83 fuel (nav (Try.f83.body.getD .skip) [1, 1, 1, 1, 0]) 39 (mkE 131 [(2, .loc 0 0), (3, .loc 1 0), (4, .loc 2 0)]) [[.bool b0_0, .int .u64 b0_1, .int .u64 b0_2, .int .i64 b0_3, .bool b0_4], [.bool b1_0, .int .u64 b1_1, .int .u64 b1_2, .int .i64 b1_3, .bool b1_4], [.bool b2_0, .int .u64 b2_1, .int .u64 b2_2, .int .i64 b2_3, .bool b2_4]] G k = l_round_sum_2 O (fun b0_0 b0_1 b0_2 b0_3 b0_4 b1_0 b1_1 b1_2 b1_3 b1_4 b2_0 b2_1 b2_2 b2_3 b2_4 G => k .normal (mkE 131 [(2, .loc 0 0), (3, .loc 1 0), (4, .loc 2 0)]) [[.bool b0_0, .int .u64 b0_1, .int .u64 b0_2, .int .i64 b0_3, .bool b0_4], [.bool b1_0, .int .u64 b1_1, .int .u64 b1_2, .int .i64 b1_3, .bool b1_4], [.bool b2_0, .int .u64 b2_1, .int .u64 b2_2, .int .i64 b2_3, .bool b2_4]] G) b0_0 b0_1 b0_2 b0_3 b0_4 b1_0 b1_1 b1_2 b1_3 b1_4 b2_0 b2_1 b2_2 b2_3 b2_4 G := by
  intros
  rw [u_round_sum_2_raw]
  simp only [l_round_sum_2]

def u_round_sum_3 {R : Type} (O : Ora R) (KN : Int → Bool → Int → Int → Int → Bool → Bool → Int → Int → Int → Bool → Bool → Int → Int → Int → Bool → GH → Option R) (s6 : Int) (b0_0 : Bool) (b0_1 b0_2 b0_3 : Int) (b0_4 b1_0 : Bool) (b1_1 b1_2 b1_3 : Int) (b1_4 b2_0 : Bool) (b2_1 b2_2 b2_3 : Int) (b2_4 : Bool) (G : GH) : Option R :=
  bif b1_4 then
  KN (1 : Int) b0_0 b0_1 b0_2 b0_3 b0_4 b1_0 b1_1 b1_2 b1_3 b1_4 b2_0 b2_1 b2_2 b2_3 b2_4 G
  else
  KN s6 b0_0 b0_1 b0_2 b0_3 b0_4 b1_0 b1_1 b1_2 b1_3 b1_4 b2_0 b2_1 b2_2 b2_3 b2_4 G

def l_round_sum_3 {R : Type} (O : Ora R) (KN : Int → Bool → Int → Int → Int → Bool → Bool → Int → Int → Int → Bool → Bool → Int → Int → Int → Bool → GH → Option R) : Int → Bool → Int → Int → Int → Bool → Bool → Int → Int → Int → Bool → Bool → Int → Int → Int → Bool → GH → Option R := fun s6 b0_0 b0_1 b0_2 b0_3 b0_4 b1_0 b1_1 b1_2 b1_3 b1_4 b2_0 b2_1 b2_2 b2_3 b2_4 G => u_round_sum_3 O KN s6 b0_0 b0_1 b0_2 b0_3 b0_4 b1_0 b1_1 b1_2 b1_3 b1_4 b2_0 b2_1 b2_2 b2_3 b2_4 G

theorem u_round_sum_3_raw {R : Type} (O : Ora R) (fuel : Nat) (s6 : Int) (b0_0 : Bool) (b0_1 b0_2 b0_3 : Int) (b0_4 b1_0 : Bool) (b1_1 b1_2 b1_3 : Int) (b1_4 b2_0 : Bool) (b2_1 b2_2 b2_3 : Int) (b2_4 : Bool) (G : GH) (k : KE R) :
  loopD Try.prog O lo83 fuel (nav (Try.f83.body.getD .skip) [1, 1, 1, 1, 1, 1, 1, 0]) 75 (mkE 131 [(2, .loc 0 0), (3, .loc 1 0), (4, .loc 2 0), (6, .int .u64 s6)]) [[.bool b0_0, .int .u64 b0_1, .int .u64 b0_2, .int .i64 b0_3, .bool b0_4], [.bool b1_0, .int .u64 b1_1, .int .u64 b1_2, .int .i64 b1_3, .bool b1_4], [.bool b2_0, .int .u64 b2_1, .int .u64 b2_2, .int .i64 b2_3, .bool b2_4]] G k =
  u_round_sum_3 O (fun s6 b0_0 b0_1 b0_2 b0_3 b0_4 b1_0 b1_1 b1_2 b1_3 b1_4 b2_0 b2_1 b2_2 b2_3 b2_4 G => k .normal (mkE 131 [(2, .loc 0 0), (3, .loc 1 0), (4, .loc 2 0), (6, .int .u64 s6)]) [[.bool b0_0, .int .u64 b0_1, .int .u64 b0_2, .int .i64 b0_3, .bool b0_4], [.bool b1_0, .int .u64 b1_1, .int .u64 b1_2, .int .i64 b1_3, .bool b1_4], [.bool b2_0, .int .u64 b2_1, .int .u64 b2_2, .int .i64 b2_3, .bool b2_4]] G) s6 b0_0 b0_1 b0_2 b0_3 b0_4 b1_0 b1_1 b1_2 b1_3 b1_4 b2_0 b2_1 b2_2 b2_3 b2_4 G := by kernel_rfl

theorem l_round_sum_3_eq {R : Type} (O : Ora R) (fuel : Nat) (k : KE R) : ∀ (s6 : Int) (b0_0 : Bool) (b0_1 b0_2 b0_3 : Int) (b0_4 b1_0 : Bool) (b1_1 b1_2 b1_3 : Int) (b1_4 b2_0 : Bool) (b2_1 b2_2 b2_3 : Int) (b2_4 : Bool) (G : GH),
  loopD Try.prog O lo83 fuel (nav (Try.f83.body.getD .skip) [1, 1, 1, 1, 1, 1, 1, 0]) 75 (mkE 131 [(2, .loc 0 0), (3, .loc 1 0), (4, .loc 2 0), (6, .int .u64 s6)]) [[.bool b0_0, .int .u64 b0_1, .int .u64 b0_2, .int .i64 b0_3, .bool b0_4], [.bool b1_0, .int .u64 b1_1, .int .u64 b1_2, .int .i64 b1_3, .bool b1_4], [.bool b2_0, .int .u64 b2_1, .int .u64 b2_2, .int .i64 b2_3, .bool b2_4]] G k = l_round_sum_3 O (fun s6 b0_0 b0_1 b0_2 b0_3 b0_4 b1_0 b1_1 b1_2 b1_3 b1_4 b2_0 b2_1 b2_2 b2_3 b2_4 G => k .normal (mkE 131 [(2, .loc 0 0), (3, .loc 1 0), (4, .loc 2 0), (6, .int .u64 s6)]) [[.bool b0_0, .int .u64 b0_1, .int .u64 b0_2, .int .i64 b0_3, .bool b0_4], [.bool b1_0, .int .u64 b1_1, .int .u64 b1_2, .int .i64 b1_3, .bool b1_4], [.bool b2_0, .int .u64 b2_1, .int .u64 b2_2, .int .i64 b2_3, .bool b2_4]] G) s6 b0_0 b0_1 b0_2 b0_3 b0_4 b1_0 b1_1 b1_2 b1_3 b1_4 b2_0 b2_1 b2_2 b2_3 b2_4 G := by
  intros
  rw [u_round_sum_3_raw]
  simp only [l_round_sum_3]

def u_round_sum {R : Type} (O : Ora R) (k : KV R) (L0 : Bool → Int → Int → Int → Bool → Bool → Int → Int → Int → Bool → Bool → Int → Int → Int → Bool → GH → Option R) (p0_0 : Bool) (p0_1 p0_2 p0_3 : Int) (p0_4 p1_0 : Bool) (p1_1 p1_2 p1_3 : Int) (p1_4 : Bool) (G : GH) : Option R :=
  L0 p0_0 p0_1 p0_2 p0_3 p0_4 p1_0 p1_1 p1_2 p1_3 p1_4 false (0 : Int) (0 : Int) (0 : Int) false G

def a_round_sum_0N {R : Type} (O : Ora R) (k : KV R) (L2 : Bool → Int → Int → Int → Bool → Bool → Int → Int → Int → Bool → Bool → Int → Int → Int → Bool → GH → Option R) (b0_0 : Bool) (b0_1 b0_2 b0_3 : Int) (b0_4 b1_0 : Bool) (b1_1 b1_2 b1_3 : Int) (b1_4 b2_0 : Bool) (b2_1 b2_2 b2_3 : Int) (b2_4 : Bool) (G : GH) : Option R :=
  O fn_round_exact_zero [.agg [.bool b1_0, .int .u64 b1_1, .int .u64 b1_2, .int .i64 b1_3, .bool b1_4]] G fun v1 G2 =>
  (ivBool v1).bind fun x3 =>
  bif x3 then
  k (.agg [.bool b0_0, .int .u64 b0_1, .int .u64 b0_2, .int .i64 b0_3, .bool b0_4]) G2
  else
  O fn_round_exact_length [.agg [.bool b0_0, .int .u64 b0_1, .int .u64 b0_2, .int .i64 b0_3, .bool b0_4]] (gfreeze G2) fun v4 _ =>
  (ivInt .i64 v4).bind fun x5 =>
  O fn_round_exact_left [.agg [.bool b0_0, .int .u64 b0_1, .int .u64 b0_2, .int .i64 b0_3, .bool b0_4], .int .i64 (IntKind.wrap .i64 ((126 : Int) - x5))] (gfreeze G2) fun v6 _ =>
  (ivAgg 5 v6).bind fun c7 =>
  (ivBool (c7.getD 0 undefI)).bind fun x8 =>
  (ivInt .u64 (c7.getD 1 undefI)).bind fun x9 =>
  (ivInt .u64 (c7.getD 2 undefI)).bind fun x10 =>
  (ivInt .i64 (c7.getD 3 undefI)).bind fun x11 =>
  (ivBool (c7.getD 4 undefI)).bind fun x12 =>
  L2 x8 x9 x10 x11 x12 b1_0 b1_1 b1_2 b1_3 b1_4 b2_0 b2_1 b2_2 b2_3 b2_4 G2

def a_round_sum_2N {R : Type} (O : Ora R) (k : KV R) (L3 : Int → Bool → Int → Int → Int → Bool → Bool → Int → Int → Int → Bool → Bool → Int → Int → Int → Bool → GH → Option R) (b0_0 : Bool) (b0_1 b0_2 b0_3 : Int) (b0_4 b1_0 : Bool) (b1_1 b1_2 b1_3 : Int) (b1_4 b2_0 : Bool) (b2_1 b2_2 b2_3 : Int) (b2_4 : Bool) (G : GH) : Option R :=
  bif (b0_0 == b1_0) then
  O fn_bits_Add64 [.int .u64 b0_2, .int .u64 b1_2, .int .u64 (0 : Int)] G fun v1 G2 =>
  (ivTup 2 v1).bind fun c3 =>
  (ivInt .u64 (c3.getD 0 undefI)).bind fun x4 =>
  (ivInt .u64 (c3.getD 1 undefI)).bind fun x5 =>
  O fn_bits_Add64 [.int .u64 b0_1, .int .u64 b1_1, .int .u64 x5] G2 fun v6 G7 =>
  (ivTup 2 v6).bind fun c8 =>
  (ivInt .u64 (c8.getD 0 undefI)).bind fun x9 =>
  (ivInt .u64 (c8.getD 1 undefI)).bind fun x10 =>
  k (.agg [.bool b0_0, .int .u64 x9, .int .u64 x4, .int .i64 b0_3, .bool b1_4]) G7
  else
  L3 (0 : Int) b0_0 b0_1 b0_2 b0_3 b0_4 b1_0 b1_1 b1_2 b1_3 b1_4 b2_0 b2_1 b2_2 b2_3 b2_4 G

def a_round_sum_3N {R : Type} (O : Ora R) (k : KV R) (s6 : Int) (b0_0 : Bool) (b0_1 b0_2 b0_3 : Int) (b0_4 b1_0 : Bool) (b1_1 b1_2 b1_3 : Int) (b1_4 b2_0 : Bool) (b2_1 b2_2 b2_3 : Int) (b2_4 : Bool) (G : GH) : Option R :=
  O fn_bits_Sub64 [.int .u64 b0_2, .int .u64 b1_2, .int .u64 s6] G fun v1 G2 =>
  (ivTup 2 v1).bind fun c3 =>
  (ivInt .u64 (c3.getD 0 undefI)).bind fun x4 =>
  (ivInt .u64 (c3.getD 1 undefI)).bind fun x5 =>
  O fn_bits_Sub64 [.int .u64 b0_1, .int .u64 b1_1, .int .u64 x5] G2 fun v6 G7 =>
  (ivTup 2 v6).bind fun c8 =>
  (ivInt .u64 (c8.getD 0 undefI)).bind fun x9 =>
  (ivInt .u64 (c8.getD 1 undefI)).bind fun x10 =>
  bif (x10 != (0 : Int)) then
  O fn_bits_Sub64 [.int .u64 (0 : Int), .int .u64 x4, .int .u64 (0 : Int)] G7 fun v11 G12 =>
  (ivTup 2 v11).bind fun c13 =>
  (ivInt .u64 (c13.getD 0 undefI)).bind fun x14 =>
  (ivInt .u64 (c13.getD 1 undefI)).bind fun x15 =>
  O fn_bits_Sub64 [.int .u64 (0 : Int), .int .u64 x9, .int .u64 x15] G12 fun v16 G17 =>
  (ivTup 2 v16).bind fun c18 =>
  (ivInt .u64 (c18.getD 0 undefI)).bind fun x19 =>
  (ivInt .u64 (c18.getD 1 undefI)).bind fun x20 =>
  k (.agg [.bool (!b0_0), .int .u64 x19, .int .u64 x14, .int .i64 b0_3, .bool b1_4]) G17
  else
  k (.agg [.bool b0_0, .int .u64 x9, .int .u64 x4, .int .i64 b0_3, .bool b1_4]) G7

def L_round_sum_3 {R : Type} (O : Ora R) (fuel : Nat) (k : KV R) : Int → Bool → Int → Int → Int → Bool → Bool → Int → Int → Int → Bool → Bool → Int → Int → Int → Bool → GH → Option R := fun s6 b0_0 b0_1 b0_2 b0_3 b0_4 b1_0 b1_1 b1_2 b1_3 b1_4 b2_0 b2_1 b2_2 b2_3 b2_4 G =>
  stepN fuel (l_round_sum_3 O (a_round_sum_3N O k) s6 b0_0 b0_1 b0_2 b0_3 b0_4 b1_0 b1_1 b1_2 b1_3 b1_4 b2_0 b2_1 b2_2 b2_3 b2_4 G)

theorem a_round_sum_3N_raw {R : Type} (O : Ora R) (fuel : Nat) (s6 : Int) (b0_0 : Bool) (b0_1 b0_2 b0_3 : Int) (b0_4 b1_0 : Bool) (b1_1 b1_2 b1_3 : Int) (b1_4 b2_0 : Bool) (b2_1 b2_2 b2_3 : Int) (b2_4 : Bool) (G : GH) (k : KV R) :
  contC Try.prog O lo83 fuel (Try.f83.body.getD .skip) [1, 1, 1, 1, 1, 1, 1, 0] (fun e env F G => match e with | .exit _ => none | _ => resC Try.prog Try.f83 env F G k) .normal (mkE 131 [(2, .loc 0 0), (3, .loc 1 0), (4, .loc 2 0), (6, .int .u64 s6)]) [[.bool b0_0, .int .u64 b0_1, .int .u64 b0_2, .int .i64 b0_3, .bool b0_4], [.bool b1_0, .int .u64 b1_1, .int .u64 b1_2, .int .i64 b1_3, .bool b1_4], [.bool b2_0, .int .u64 b2_1, .int .u64 b2_2, .int .i64 b2_3, .bool b2_4]] G =
  a_round_sum_3N O k s6 b0_0 b0_1 b0_2 b0_3 b0_4 b1_0 b1_1 b1_2 b1_3 b1_4 b2_0 b2_1 b2_2 b2_3 b2_4 G := by kernel_rfl

theorem L_round_sum_3_eq {R : Type} (O : Ora R) (fuel : Nat) (k : KV R) :
  (fun (s6 : Int) (b0_0 : Bool) (b0_1 b0_2 b0_3 : Int) (b0_4 b1_0 : Bool) (b1_1 b1_2 b1_3 : Int) (b1_4 b2_0 : Bool) (b2_1 b2_2 b2_3 : Int) (b2_4 : Bool) (G : GH) => stepN fuel (loopD Try.prog O lo83 fuel (nav (Try.f83.body.getD .skip) [1, 1, 1, 1, 1, 1, 1, 0]) 75 (mkE 131 [(2, .loc 0 0), (3, .loc 1 0), (4, .loc 2 0), (6, .int .u64 s6)]) [[.bool b0_0, .int .u64 b0_1, .int .u64 b0_2, .int .i64 b0_3, .bool b0_4], [.bool b1_0, .int .u64 b1_1, .int .u64 b1_2, .int .i64 b1_3, .bool b1_4], [.bool b2_0, .int .u64 b2_1, .int .u64 b2_2, .int .i64 b2_3, .bool b2_4]] G (contC Try.prog O lo83 fuel (Try.f83.body.getD .skip) [1, 1, 1, 1, 1, 1, 1, 0] (fun e env F G => match e with | .exit _ => none | _ => resC Try.prog Try.f83 env F G k)))) = L_round_sum_3 O fuel k := by
  funext s6 b0_0 b0_1 b0_2 b0_3 b0_4 b1_0 b1_1 b1_2 b1_3 b1_4 b2_0 b2_1 b2_2 b2_3 b2_4 G
  simp only [L_round_sum_3, l_round_sum_3_eq, a_round_sum_3N_raw]

def L_round_sum_2 {R : Type} (O : Ora R) (fuel : Nat) (k : KV R) : Bool → Int → Int → Int → Bool → Bool → Int → Int → Int → Bool → Bool → Int → Int → Int → Bool → GH → Option R := fun b0_0 b0_1 b0_2 b0_3 b0_4 b1_0 b1_1 b1_2 b1_3 b1_4 b2_0 b2_1 b2_2 b2_3 b2_4 G =>
  stepN fuel (l_round_sum_2 O (a_round_sum_2N O k (L_round_sum_3 O fuel k)) b0_0 b0_1 b0_2 b0_3 b0_4 b1_0 b1_1 b1_2 b1_3 b1_4 b2_0 b2_1 b2_2 b2_3 b2_4 G)

theorem a_round_sum_2N_raw {R : Type} (O : Ora R) (fuel : Nat) (b0_0 : Bool) (b0_1 b0_2 b0_3 : Int) (b0_4 b1_0 : Bool) (b1_1 b1_2 b1_3 : Int) (b1_4 b2_0 : Bool) (b2_1 b2_2 b2_3 : Int) (b2_4 : Bool) (G : GH) (k : KV R) :
  contC Try.prog O lo83 fuel (Try.f83.body.getD .skip) [1, 1, 1, 1, 0] (fun e env F G => match e with | .exit _ => none | _ => resC Try.prog Try.f83 env F G k) .normal (mkE 131 [(2, .loc 0 0), (3, .loc 1 0), (4, .loc 2 0)]) [[.bool b0_0, .int .u64 b0_1, .int .u64 b0_2, .int .i64 b0_3, .bool b0_4], [.bool b1_0, .int .u64 b1_1, .int .u64 b1_2, .int .i64 b1_3, .bool b1_4], [.bool b2_0, .int .u64 b2_1, .int .u64 b2_2, .int .i64 b2_3, .bool b2_4]] G =
  a_round_sum_2N O k (fun s6 b0_0 b0_1 b0_2 b0_3 b0_4 b1_0 b1_1 b1_2 b1_3 b1_4 b2_0 b2_1 b2_2 b2_3 b2_4 G => stepN fuel (loopD Try.prog O lo83 fuel (nav (Try.f83.body.getD .skip) [1, 1, 1, 1, 1, 1, 1, 0]) 75 (mkE 131 [(2, .loc 0 0), (3, .loc 1 0), (4, .loc 2 0), (6, .int .u64 s6)]) [[.bool b0_0, .int .u64 b0_1, .int .u64 b0_2, .int .i64 b0_3, .bool b0_4], [.bool b1_0, .int .u64 b1_1, .int .u64 b1_2, .int .i64 b1_3, .bool b1_4], [.bool b2_0, .int .u64 b2_1, .int .u64 b2_2, .int .i64 b2_3, .bool b2_4]] G (contC Try.prog O lo83 fuel (Try.f83.body.getD .skip) [1, 1, 1, 1, 1, 1, 1, 0] (fun e env F G => match e with | .exit _ => none | _ => resC Try.prog Try.f83 env F G k)))) b0_0 b0_1 b0_2 b0_3 b0_4 b1_0 b1_1 b1_2 b1_3 b1_4 b2_0 b2_1 b2_2 b2_3 b2_4 G := by kernel_rfl

theorem L_round_sum_2_eq {R : Type} (O : Ora R) (fuel : Nat) (k : KV R) :
  (fun (b0_0 : Bool) (b0_1 b0_2 b0_3 : Int) (b0_4 b1_0 : Bool) (b1_1 b1_2 b1_3 : Int) (b1_4 b2_0 : Bool) (b2_1 b2_2 b2_3 : Int) (b2_4 : Bool) (G : GH) => stepN fuel (loopD Try.prog O lo83 fuel (nav (Try.f83.body.getD .skip) [1, 1, 1, 1, 0]) 39 (mkE 131 [(2, .loc 0 0), (3, .loc 1 0), (4, .loc 2 0)]) [[.bool b0_0, .int .u64 b0_1, .int .u64 b0_2, .int .i64 b0_3, .bool b0_4], [.bool b1_0, .int .u64 b1_1, .int .u64 b1_2, .int .i64 b1_3, .bool b1_4], [.bool b2_0, .int .u64 b2_1, .int .u64 b2_2, .int .i64 b2_3, .bool b2_4]] G (contC Try.prog O lo83 fuel (Try.f83.body.getD .skip) [1, 1, 1, 1, 0] (fun e env F G => match e with | .exit _ => none | _ => resC Try.prog Try.f83 env F G k)))) = L_round_sum_2 O fuel k := by
  funext b0_0 b0_1 b0_2 b0_3 b0_4 b1_0 b1_1 b1_2 b1_3 b1_4 b2_0 b2_1 b2_2 b2_3 b2_4 G
  simp only [L_round_sum_2, l_round_sum_2_eq, a_round_sum_2N_raw, L_round_sum_3_eq]

def L_round_sum_0 {R : Type} (O : Ora R) (fuel : Nat) (k : KV R) : Bool → Int → Int → Int → Bool → Bool → Int → Int → Int → Bool → Bool → Int → Int → Int → Bool → GH → Option R := fun b0_0 b0_1 b0_2 b0_3 b0_4 b1_0 b1_1 b1_2 b1_3 b1_4 b2_0 b2_1 b2_2 b2_3 b2_4 G =>
  stepN fuel (l_round_sum_0 O fuel (a_round_sum_0N O k (L_round_sum_2 O fuel k)) b0_0 b0_1 b0_2 b0_3 b0_4 b1_0 b1_1 b1_2 b1_3 b1_4 b2_0 b2_1 b2_2 b2_3 b2_4 G)

theorem a_round_sum_0N_raw {R : Type} (O : Ora R) (fuel : Nat) (b0_0 : Bool) (b0_1 b0_2 b0_3 : Int) (b0_4 b1_0 : Bool) (b1_1 b1_2 b1_3 : Int) (b1_4 b2_0 : Bool) (b2_1 b2_2 b2_3 : Int) (b2_4 : Bool) (G : GH) (k : KV R) :
  contC Try.prog O lo83 fuel (Try.f83.body.getD .skip) [1, 0] (fun e env F G => match e with | .exit _ => none | _ => resC Try.prog Try.f83 env F G k) .normal (mkE 131 [(2, .loc 0 0), (3, .loc 1 0), (4, .loc 2 0)]) [[.bool b0_0, .int .u64 b0_1, .int .u64 b0_2, .int .i64 b0_3, .bool b0_4], [.bool b1_0, .int .u64 b1_1, .int .u64 b1_2, .int .i64 b1_3, .bool b1_4], [.bool b2_0, .int .u64 b2_1, .int .u64 b2_2, .int .i64 b2_3, .bool b2_4]] G =
  a_round_sum_0N O k (fun b0_0 b0_1 b0_2 b0_3 b0_4 b1_0 b1_1 b1_2 b1_3 b1_4 b2_0 b2_1 b2_2 b2_3 b2_4 G => stepN fuel (loopD Try.prog O lo83 fuel (nav (Try.f83.body.getD .skip) [1, 1, 1, 1, 0]) 39 (mkE 131 [(2, .loc 0 0), (3, .loc 1 0), (4, .loc 2 0)]) [[.bool b0_0, .int .u64 b0_1, .int .u64 b0_2, .int .i64 b0_3, .bool b0_4], [.bool b1_0, .int .u64 b1_1, .int .u64 b1_2, .int .i64 b1_3, .bool b1_4], [.bool b2_0, .int .u64 b2_1, .int .u64 b2_2, .int .i64 b2_3, .bool b2_4]] G (contC Try.prog O lo83 fuel (Try.f83.body.getD .skip) [1, 1, 1, 1, 0] (fun e env F G => match e with | .exit _ => none | _ => resC Try.prog Try.f83 env F G k)))) b0_0 b0_1 b0_2 b0_3 b0_4 b1_0 b1_1 b1_2 b1_3 b1_4 b2_0 b2_1 b2_2 b2_3 b2_4 G := by kernel_rfl

theorem L_round_sum_0_eq {R : Type} (O : Ora R) (fuel : Nat) (k : KV R) :
  (fun (b0_0 : Bool) (b0_1 b0_2 b0_3 : Int) (b0_4 b1_0 : Bool) (b1_1 b1_2 b1_3 : Int) (b1_4 b2_0 : Bool) (b2_1 b2_2 b2_3 : Int) (b2_4 : Bool) (G : GH) => stepN fuel (loopD Try.prog O lo83 fuel (nav (Try.f83.body.getD .skip) [1, 0]) 15 (mkE 131 [(2, .loc 0 0), (3, .loc 1 0), (4, .loc 2 0)]) [[.bool b0_0, .int .u64 b0_1, .int .u64 b0_2, .int .i64 b0_3, .bool b0_4], [.bool b1_0, .int .u64 b1_1, .int .u64 b1_2, .int .i64 b1_3, .bool b1_4], [.bool b2_0, .int .u64 b2_1, .int .u64 b2_2, .int .i64 b2_3, .bool b2_4]] G (contC Try.prog O lo83 fuel (Try.f83.body.getD .skip) [1, 0] (fun e env F G => match e with | .exit _ => none | _ => resC Try.prog Try.f83 env F G k)))) = L_round_sum_0 O fuel k := by
  funext b0_0 b0_1 b0_2 b0_3 b0_4 b1_0 b1_1 b1_2 b1_3 b1_4 b2_0 b2_1 b2_2 b2_3 b2_4 G
  simp only [L_round_sum_0, l_round_sum_0_eq, a_round_sum_0N_raw, L_round_sum_2_eq]

theorem e_round_sum_raw {R : Type} (O : Ora R) (fuel : Nat) (p0_0 : Bool) (p0_1 p0_2 p0_3 : Int) (p0_4 p1_0 : Bool) (p1_1 p1_2 p1_3 : Int) (p1_4 : Bool) (G : GH) (k : KV R) :
  bodyC Try.prog O lo83 fuel Try.f83 [.agg [.bool p0_0, .int .u64 p0_1, .int .u64 p0_2, .int .i64 p0_3, .bool p0_4], .agg [.bool p1_0, .int .u64 p1_1, .int .u64 p1_2, .int .i64 p1_3, .bool p1_4]] G k =
  u_round_sum O k (fun b0_0 b0_1 b0_2 b0_3 b0_4 b1_0 b1_1 b1_2 b1_3 b1_4 b2_0 b2_1 b2_2 b2_3 b2_4 G => stepN fuel (loopD Try.prog O lo83 fuel (nav (Try.f83.body.getD .skip) [1, 0]) 15 (mkE 131 [(2, .loc 0 0), (3, .loc 1 0), (4, .loc 2 0)]) [[.bool b0_0, .int .u64 b0_1, .int .u64 b0_2, .int .i64 b0_3, .bool b0_4], [.bool b1_0, .int .u64 b1_1, .int .u64 b1_2, .int .i64 b1_3, .bool b1_4], [.bool b2_0, .int .u64 b2_1, .int .u64 b2_2, .int .i64 b2_3, .bool b2_4]] G (contC Try.prog O lo83 fuel (Try.f83.body.getD .skip) [1, 0] (fun e env F G => match e with | .exit _ => none | _ => resC Try.prog Try.f83 env F G k)))) p0_0 p0_1 p0_2 p0_3 p0_4 p1_0 p1_1 p1_2 p1_3 p1_4 G := by kernel_rfl

theorem e_round_sum {R : Type} (O : Ora R) (fuel : Nat) (p0_0 : Bool) (p0_1 p0_2 p0_3 : Int) (p0_4 p1_0 : Bool) (p1_1 p1_2 p1_3 : Int) (p1_4 : Bool) (G : GH) (k : KV R) :
  bodyC Try.prog O lo83 fuel Try.f83 [.agg [.bool p0_0, .int .u64 p0_1, .int .u64 p0_2, .int .i64 p0_3, .bool p0_4], .agg [.bool p1_0, .int .u64 p1_1, .int .u64 p1_2, .int .i64 p1_3, .bool p1_4]] G k =
  u_round_sum O k (L_round_sum_0 O fuel k) p0_0 p0_1 p0_2 p0_3 p0_4 p1_0 p1_1 p1_2 p1_3 p1_4 G := by
  rw [e_round_sum_raw, L_round_sum_0_eq]

theorem r_round_sum {R : Type} (fuel n : Nat) (p0_0 : Bool) (p0_1 p0_2 p0_3 : Int) (p0_4 p1_0 : Bool) (p1_1 p1_2 p1_3 : Int) (p1_4 : Bool) (G : GH) (k : KV R) :
  runC Try.prog lo0 fuel (n + 1) 83 [.agg [.bool p0_0, .int .u64 p0_1, .int .u64 p0_2, .int .i64 p0_3, .bool p0_4], .agg [.bool p1_0, .int .u64 p1_1, .int .u64 p1_2, .int .i64 p1_3, .bool p1_4]] G k = bodyC Try.prog (runC Try.prog lo0 fuel n) lo83 fuel Try.f83 [.agg [.bool p0_0, .int .u64 p0_1, .int .u64 p0_2, .int .i64 p0_3, .bool p0_4], .agg [.bool p1_0, .int .u64 p1_1, .int .u64 p1_2, .int .i64 p1_3, .bool p1_4]] G k := run_body Try.func83 rfl rfl

/-! ### lantern/round.Add -/
theorem e_round_Add {R : Type} (O : Ora R) (fuel p0 p1 : Nat) (p2 : Bool) (G : GH) (k : KV R) :
  bodyC Try.prog O [777777] fuel Try.f74 [.float .f64 p0, .float .f64 p1, .bool p2] G k =
  O fn_round_two [.float .f64 p0, .float .f64 p1] G fun v1 G2 =>
  (ivBool v1).bind fun x3 =>
  bif (!x3) then
  k (.tuple [.float .f64 (0 : Nat), .int .i64 (10 : Int)]) G2
  else
  O fn_round_split [.float .f64 p0] G2 fun v4 G5 =>
  (ivAgg 5 v4).bind fun c6 =>
  (ivBool (c6.getD 0 undefI)).bind fun x7 =>
  (ivInt .u64 (c6.getD 1 undefI)).bind fun x8 =>
  (ivInt .u64 (c6.getD 2 undefI)).bind fun x9 =>
  (ivInt .i64 (c6.getD 3 undefI)).bind fun x10 =>
  (ivBool (c6.getD 4 undefI)).bind fun x11 =>
  O fn_round_split [.float .f64 p1] G5 fun v12 G13 =>
  (ivAgg 5 v12).bind fun c14 =>
  (ivBool (c14.getD 0 undefI)).bind fun x15 =>
  (ivInt .u64 (c14.getD 1 undefI)).bind fun x16 =>
  (ivInt .u64 (c14.getD 2 undefI)).bind fun x17 =>
  (ivInt .i64 (c14.getD 3 undefI)).bind fun x18 =>
  (ivBool (c14.getD 4 undefI)).bind fun x19 =>
  O fn_round_sum [.agg [.bool x7, .int .u64 x8, .int .u64 x9, .int .i64 x10, .bool x11], .agg [.bool x15, .int .u64 x16, .int .u64 x17, .int .i64 x18, .bool x19]] G13 fun v20 G21 =>
  (ivAgg 5 v20).bind fun c22 =>
  (ivBool (c22.getD 0 undefI)).bind fun x23 =>
  (ivInt .u64 (c22.getD 1 undefI)).bind fun x24 =>
  (ivInt .u64 (c22.getD 2 undefI)).bind fun x25 =>
  (ivInt .i64 (c22.getD 3 undefI)).bind fun x26 =>
  (ivBool (c22.getD 4 undefI)).bind fun x27 =>
  O fn_round_exact_to [.agg [.bool x23, .int .u64 x24, .int .u64 x25, .int .i64 x26, .bool x27], .bool p2] G21 fun v28 G29 =>
  (ivFloat .f64 v28).bind fun x30 =>
  k (.tuple [.float .f64 x30, .int .i64 (0 : Int)]) G29 := by kernel_rfl

theorem r_round_Add {R : Type} (fuel n p0 p1 : Nat) (p2 : Bool) (G : GH) (k : KV R) :
  runC Try.prog lo0 fuel (n + 1) 74 [.float .f64 p0, .float .f64 p1, .bool p2] G k = bodyC Try.prog (runC Try.prog lo0 fuel n) [777777] fuel Try.f74 [.float .f64 p0, .float .f64 p1, .bool p2] G k := run_body Try.func74 rfl rfl

end Go.LI.Film
