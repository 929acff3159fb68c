/- What the interpreter gives for textures (written by tex.py). -/
import Derived.Test.YtbjcipikclbecaaSeatA
namespace Go.LI.Film
open Go.Proofs.Ytbjcipikclbecaa Go Go.Proofs Go.LI
set_option maxRecDepth 100000
set_option linter.unusedVariables false
set_option linter.unusedSimpArgs false
/-! ### lantern/round.Mul -/
theorem e_round_Mul {R : Type} (O : Ora R) (fuel p0 p1 : Nat) (p2 : Bool) (G : GH) (k : KV R) :
  bodyC Try.prog O [8, 9, 777777] fuel Try.f60 [.float .f64 p0, .float .f64 p1, .bool p2] G k =
  O fn_round_two [.float .f64 p0, .float .f64 p1] G fun v1 G2 =>
  (ivBool v1).bind fun x3 =>
  bif (!x3) then
  k (.tuple [.float .f64 (0 : Nat), .int .i64 (10 : Int)]) G2
  else
  O fn_round_split [.float .f64 p0] G2 fun v4 G5 =>
  (ivAgg 5 v4).bind fun c6 =>
  (ivBool (c6.getD 0 undefI)).bind fun x7 =>
  (ivInt .u64 (c6.getD 1 undefI)).bind fun x8 =>
  (ivInt .u64 (c6.getD 2 undefI)).bind fun x9 =>
  (ivInt .i64 (c6.getD 3 undefI)).bind fun x10 =>
  (ivBool (c6.getD 4 undefI)).bind fun x11 =>
  O fn_round_split [.float .f64 p1] G5 fun v12 G13 =>
  (ivAgg 5 v12).bind fun c14 =>
  (ivBool (c14.getD 0 undefI)).bind fun x15 =>
  (ivInt .u64 (c14.getD 1 undefI)).bind fun x16 =>
  (ivInt .u64 (c14.getD 2 undefI)).bind fun x17 =>
  (ivInt .i64 (c14.getD 3 undefI)).bind fun x18 =>
  (ivBool (c14.getD 4 undefI)).bind fun x19 =>
  O fn_bits_Mul64 [.int .u64 x9, .int .u64 x17] G13 fun v20 G21 =>
  (ivTup 2 v20).bind fun c22 =>
  (ivInt .u64 (c22.getD 0 undefI)).bind fun x23 =>
  (ivInt .u64 (c22.getD 1 undefI)).bind fun x24 =>
  O fn_round_exact_to [.agg [.bool (!(x7 == x15)), .int .u64 x23, .int .u64 x24, .int .i64 (IntKind.wrap .i64 (x10 + x18)), .bool false], .bool p2] G21 fun v25 G26 =>
  (ivFloat .f64 v25).bind fun x27 =>
  k (.tuple [.float .f64 x27, .int .i64 (0 : Int)]) G26 := by kernel_rfl

theorem r_round_Mul {R : Type} (fuel n p0 p1 : Nat) (p2 : Bool) (G : GH) (k : KV R) :
  runC Try.prog lo0 fuel (n + 1) 60 [.float .f64 p0, .float .f64 p1, .bool p2] G k = bodyC Try.prog (runC Try.prog lo0 fuel n) [8, 9, 777777] fuel Try.f60 [.float .f64 p0, .float .f64 p1, .bool p2] G k := run_body Try.func60 rfl rfl

/-! ### math/bits.Mul64 -/
theorem e_bits_Mul64 {R : Type} (O : Ora R) (fuel : Nat) (p0 p1 : Int) (G : GH) (k : KV R) :
  bodyC Try.prog O [777777] fuel Try.f71 [.int .u64 p0, .int .u64 p1] G k =
  k (.tuple [.int .u64 (IntKind.wrap .u64 ((IntKind.wrap .u64 ((IntKind.wrap .u64 ((shrI .u64 p0 (32 : Int)) * (shrI .u64 p1 (32 : Int)))) + (shrI .u64 (IntKind.wrap .u64 ((IntKind.wrap .u64 ((shrI .u64 p0 (32 : Int)) * (andI .u64 p1 (4294967295 : Int)))) + (shrI .u64 (IntKind.wrap .u64 ((andI .u64 p0 (4294967295 : Int)) * (andI .u64 p1 (4294967295 : Int)))) (32 : Int)))) (32 : Int)))) + (shrI .u64 (IntKind.wrap .u64 ((andI .u64 (IntKind.wrap .u64 ((IntKind.wrap .u64 ((shrI .u64 p0 (32 : Int)) * (andI .u64 p1 (4294967295 : Int)))) + (shrI .u64 (IntKind.wrap .u64 ((andI .u64 p0 (4294967295 : Int)) * (andI .u64 p1 (4294967295 : Int)))) (32 : Int)))) (4294967295 : Int)) + (IntKind.wrap .u64 ((andI .u64 p0 (4294967295 : Int)) * (shrI .u64 p1 (32 : Int)))))) (32 : Int)))), .int .u64 (IntKind.wrap .u64 (p0 * p1))]) G := by kernel_rfl

theorem r_bits_Mul64 {R : Type} (fuel n : Nat) (p0 p1 : Int) (G : GH) (k : KV R) :
  runC Try.prog lo0 fuel (n + 1) 71 [.int .u64 p0, .int .u64 p1] G k = bodyC Try.prog (runC Try.prog lo0 fuel n) [777777] fuel Try.f71 [.int .u64 p0, .int .u64 p1] G k := run_body Try.func71 rfl rfl

/-! ### lantern/round.Floor -/
theorem e_round_Floor {R : Type} (O : Ora R) (fuel p0 : Nat) (G : GH) (k : KV R) :
  bodyC Try.prog O [777777] fuel Try.f57 [.float .f64 p0] G k =
  O fn_round_Number [.float .f64 p0] G fun v1 G2 =>
  (ivBool v1).bind fun x3 =>
  bif (!x3) then
  k (.tuple [.float .f64 (0 : Nat), .int .i64 (10 : Int)]) G2
  else
  O fn_math_Floor [.float .f64 p0] G2 fun v4 G5 =>
  (ivFloat .f64 v4).bind fun x6 =>
  O fn_round_plain [.float .f64 x6] G5 fun v7 G8 =>
  (ivFloat .f64 v7).bind fun x9 =>
  k (.tuple [.float .f64 x9, .int .i64 (0 : Int)]) G8 := by kernel_rfl

theorem r_round_Floor {R : Type} (fuel n p0 : Nat) (G : GH) (k : KV R) :
  runC Try.prog lo0 fuel (n + 1) 57 [.float .f64 p0] G k = bodyC Try.prog (runC Try.prog lo0 fuel n) [777777] fuel Try.f57 [.float .f64 p0] G k := run_body Try.func57 rfl rfl

/-! ### math.Floor -/
theorem e_math_Floor {R : Type} (O : Ora R) (fuel p0 : Nat) (G : GH) (k : KV R) :
  bodyC Try.prog O [777777] fuel Try.f68 [.float .f64 p0] G k =
  O fn_math_archFloor [.float .f64 p0] G fun v1 G2 =>
  (ivFloat .f64 v1).bind fun x3 =>
  k (.float .f64 x3) G2 := by kernel_rfl

theorem r_math_Floor {R : Type} (fuel n p0 : Nat) (G : GH) (k : KV R) :
  runC Try.prog lo0 fuel (n + 1) 68 [.float .f64 p0] G k = bodyC Try.prog (runC Try.prog lo0 fuel n) [777777] fuel Try.f68 [.float .f64 p0] G k := run_body Try.func68 rfl rfl

/-! ### lantern/span.low -/
theorem e_span_low {R : Type} (O : Ora R) (fuel p0 : Nat) (p1 : Int) (G : GH) (k : KV R) :
  bodyC Try.prog O [777777] fuel Try.f73 [.float .f64 p0, .int .i64 p1] G k =
  bif (p1 != (0 : Int)) then
  O fn_math_Inf [.int .i64 ((-1 : Int))] G fun v1 G2 =>
  (ivFloat .f64 v1).bind fun x3 =>
  k (.float .f64 x3) G2
  else
  k (.float .f64 p0) G := by kernel_rfl

theorem r_span_low {R : Type} (fuel n p0 : Nat) (p1 : Int) (G : GH) (k : KV R) :
  runC Try.prog lo0 fuel (n + 1) 73 [.float .f64 p0, .int .i64 p1] G k = bodyC Try.prog (runC Try.prog lo0 fuel n) [777777] fuel Try.f73 [.float .f64 p0, .int .i64 p1] G k := run_body Try.func73 rfl rfl

/-! ### lantern/span.high -/
theorem e_span_high {R : Type} (O : Ora R) (fuel p0 : Nat) (p1 : Int) (G : GH) (k : KV R) :
  bodyC Try.prog O [777777] fuel Try.f75 [.float .f64 p0, .int .i64 p1] G k =
  bif (p1 != (0 : Int)) then
  O fn_math_Inf [.int .i64 (1 : Int)] G fun v1 G2 =>
  (ivFloat .f64 v1).bind fun x3 =>
  k (.float .f64 x3) G2
  else
  k (.float .f64 p0) G := by kernel_rfl

theorem r_span_high {R : Type} (fuel n p0 : Nat) (p1 : Int) (G : GH) (k : KV R) :
  runC Try.prog lo0 fuel (n + 1) 75 [.float .f64 p0, .int .i64 p1] G k = bodyC Try.prog (runC Try.prog lo0 fuel n) [777777] fuel Try.f75 [.float .f64 p0, .int .i64 p1] G k := run_body Try.func75 rfl rfl

/-! ### lantern/span.Add -/
theorem e_span_Add {R : Type} (O : Ora R) (fuel p0_0 : Nat) (p0_1 p1_0 p1_1 : Nat) (G : GH) (k : KV R) :
  bodyC Try.prog O [2, 3, 4, 777777] fuel Try.f61 [.agg [.float .f64 p0_0, .float .f64 p0_1], .agg [.float .f64 p1_0, .float .f64 p1_1]] G k =
  O fn_round_Add [.float .f64 p0_0, .float .f64 p1_0, .bool true] (gfreeze G) fun v1 _ =>
  (ivTup 2 v1).bind fun c2 =>
  (ivFloat .f64 (c2.getD 0 undefI)).bind fun x3 =>
  (ivInt .i64 (c2.getD 1 undefI)).bind fun x4 =>
  O fn_span_low [.float .f64 x3, .int .i64 x4] (gfreeze G) fun v5 _ =>
  (ivFloat .f64 v5).bind fun x6 =>
  O fn_round_Add [.float .f64 p0_1, .float .f64 p1_1, .bool false] (gfreeze G) fun v7 _ =>
  (ivTup 2 v7).bind fun c8 =>
  (ivFloat .f64 (c8.getD 0 undefI)).bind fun x9 =>
  (ivInt .i64 (c8.getD 1 undefI)).bind fun x10 =>
  O fn_span_high [.float .f64 x9, .int .i64 x10] (gfreeze G) fun v11 _ =>
  (ivFloat .f64 v11).bind fun x12 =>
  k (.agg [.float .f64 x6, .float .f64 x12]) G := by kernel_rfl

theorem r_span_Add {R : Type} (fuel n p0_0 : Nat) (p0_1 p1_0 p1_1 : Nat) (G : GH) (k : KV R) :
  runC Try.prog lo0 fuel (n + 1) 61 [.agg [.float .f64 p0_0, .float .f64 p0_1], .agg [.float .f64 p1_0, .float .f64 p1_1]] G k = bodyC Try.prog (runC Try.prog lo0 fuel n) [2, 3, 4, 777777] fuel Try.f61 [.agg [.float .f64 p0_0, .float .f64 p0_1], .agg [.float .f64 p1_0, .float .f64 p1_1]] G k := run_body Try.func61 rfl rfl

/-! ### lantern/vec.Add -/
theorem e_vec_Add {R : Type} (O : Ora R) (fuel p0_0 : Nat) (p0_1 p0_2 : Nat) (p0_3 p0_4 : Nat) (p0_5 p1_0 : Nat) (p1_1 p1_2 : Nat) (p1_3 p1_4 p1_5 : Nat) (G : GH) (k : KV R) :
  bodyC Try.prog O [2, 3, 4, 777777] fuel Try.f49 [.agg [.float .f64 p0_0, .float .f64 p0_1, .float .f64 p0_2, .float .f64 p0_3, .float .f64 p0_4, .float .f64 p0_5], .agg [.float .f64 p1_0, .float .f64 p1_1, .float .f64 p1_2, .float .f64 p1_3, .float .f64 p1_4, .float .f64 p1_5]] G k =
  O fn_vec_each [.agg [.float .f64 p0_0, .float .f64 p0_1, .float .f64 p0_2, .float .f64 p0_3, .float .f64 p0_4, .float .f64 p0_5], .agg [.float .f64 p1_0, .float .f64 p1_1, .float .f64 p1_2, .float .f64 p1_3, .float .f64 p1_4, .float .f64 p1_5], .func 61 []] G fun v1 G2 =>
  (ivAgg 6 v1).bind fun c3 =>
  (ivFloat .f64 (c3.getD 0 undefI)).bind fun x4 =>
  (ivFloat .f64 (c3.getD 1 undefI)).bind fun x5 =>
  (ivFloat .f64 (c3.getD 2 undefI)).bind fun x6 =>
  (ivFloat .f64 (c3.getD 3 undefI)).bind fun x7 =>
  (ivFloat .f64 (c3.getD 4 undefI)).bind fun x8 =>
  (ivFloat .f64 (c3.getD 5 undefI)).bind fun x9 =>
  k (.agg [.float .f64 x4, .float .f64 x5, .float .f64 x6, .float .f64 x7, .float .f64 x8, .float .f64 x9]) G2 := by kernel_rfl

theorem r_vec_Add {R : Type} (fuel n p0_0 : Nat) (p0_1 p0_2 : Nat) (p0_3 p0_4 : Nat) (p0_5 p1_0 : Nat) (p1_1 p1_2 : Nat) (p1_3 p1_4 p1_5 : Nat) (G : GH) (k : KV R) :
  runC Try.prog lo0 fuel (n + 1) 49 [.agg [.float .f64 p0_0, .float .f64 p0_1, .float .f64 p0_2, .float .f64 p0_3, .float .f64 p0_4, .float .f64 p0_5], .agg [.float .f64 p1_0, .float .f64 p1_1, .float .f64 p1_2, .float .f64 p1_3, .float .f64 p1_4, .float .f64 p1_5]] G k = bodyC Try.prog (runC Try.prog lo0 fuel n) [2, 3, 4, 777777] fuel Try.f49 [.agg [.float .f64 p0_0, .float .f64 p0_1, .float .f64 p0_2, .float .f64 p0_3, .float .f64 p0_4, .float .f64 p0_5], .agg [.float .f64 p1_0, .float .f64 p1_1, .float .f64 p1_2, .float .f64 p1_3, .float .f64 p1_4, .float .f64 p1_5]] G k := run_body Try.func49 rfl rfl

/-! ### lantern/span.Of -/
theorem e_span_Of {R : Type} (O : Ora R) (fuel p0 : Nat) (G : GH) (k : KV R) :
  bodyC Try.prog O [2, 777777] fuel Try.f44 [.float .f64 p0] G k =
  O fn_round_Number [.float .f64 p0] G fun v1 G2 =>
  (ivBool v1).bind fun x3 =>
  bif (!x3) then
  O fn_span_All [] G2 fun v4 G5 =>
  (ivAgg 2 v4).bind fun c6 =>
  (ivFloat .f64 (c6.getD 0 undefI)).bind fun x7 =>
  (ivFloat .f64 (c6.getD 1 undefI)).bind fun x8 =>
  k (.agg [.float .f64 x7, .float .f64 x8]) G5
  else
  ((FloatKind.format .f64).add p0 (0 : Nat)).bind fun r9 =>
  ((FloatKind.format .f64).add p0 (0 : Nat)).bind fun r10 =>
  k (.agg [.float .f64 r9, .float .f64 r10]) G2 := by kernel_rfl

theorem r_span_Of {R : Type} (fuel n p0 : Nat) (G : GH) (k : KV R) :
  runC Try.prog lo0 fuel (n + 1) 44 [.float .f64 p0] G k = bodyC Try.prog (runC Try.prog lo0 fuel n) [2, 777777] fuel Try.f44 [.float .f64 p0] G k := run_body Try.func44 rfl rfl

/-! ### lantern/span.All -/
theorem e_span_All {R : Type} (O : Ora R) (fuel : Nat)  (G : GH) (k : KV R) :
  bodyC Try.prog O [0, 777777] fuel Try.f56 [] G k =
  O fn_math_Inf [.int .i64 ((-1 : Int))] G fun v1 G2 =>
  (ivFloat .f64 v1).bind fun x3 =>
  O fn_math_Inf [.int .i64 (1 : Int)] G2 fun v4 G5 =>
  (ivFloat .f64 v4).bind fun x6 =>
  k (.agg [.float .f64 x3, .float .f64 x6]) G5 := by kernel_rfl

theorem r_span_All {R : Type} (fuel n : Nat)  (G : GH) (k : KV R) :
  runC Try.prog lo0 fuel (n + 1) 56 [] G k = bodyC Try.prog (runC Try.prog lo0 fuel n) [0, 777777] fuel Try.f56 [] G k := run_body Try.func56 rfl rfl

/-! ### lantern/span.Wide -/
theorem e_span_Wide {R : Type} (O : Ora R) (fuel p0_0 p0_1 : Nat) (G : GH) (k : KV R) :
  bodyC Try.prog O [1, 777777] fuel Try.f58 [.agg [.float .f64 p0_0, .float .f64 p0_1]] G k =
  O fn_math_IsInf [.float .f64 p0_0, .int .i64 (0 : Int)] G fun v1 G2 =>
  (ivBool v1).bind fun x3 =>
  bif x3 then
  k (.bool true) G2
  else
  O fn_math_IsInf [.float .f64 p0_1, .int .i64 (0 : Int)] G2 fun v4 G5 =>
  (ivBool v4).bind fun x6 =>
  k (.bool x6) G5 := by kernel_rfl

theorem r_span_Wide {R : Type} (fuel n p0_0 p0_1 : Nat) (G : GH) (k : KV R) :
  runC Try.prog lo0 fuel (n + 1) 58 [.agg [.float .f64 p0_0, .float .f64 p0_1]] G k = bodyC Try.prog (runC Try.prog lo0 fuel n) [1, 777777] fuel Try.f58 [.agg [.float .f64 p0_0, .float .f64 p0_1]] G k := run_body Try.func58 rfl rfl

/-! ### lantern/span.Neg -/
theorem e_span_Neg {R : Type} (O : Ora R) (fuel p0_0 p0_1 : Nat) (G : GH) (k : KV R) :
  bodyC Try.prog O [1, 2, 777777] fuel Try.f62 [.agg [.float .f64 p0_0, .float .f64 p0_1]] G k =
  ((FloatKind.format .f64).sub (0 : Nat) p0_1).bind fun r1 =>
  ((FloatKind.format .f64).sub (0 : Nat) p0_0).bind fun r2 =>
  k (.agg [.float .f64 r1, .float .f64 r2]) G := by kernel_rfl

theorem r_span_Neg {R : Type} (fuel n p0_0 p0_1 : Nat) (G : GH) (k : KV R) :
  runC Try.prog lo0 fuel (n + 1) 62 [.agg [.float .f64 p0_0, .float .f64 p0_1]] G k = bodyC Try.prog (runC Try.prog lo0 fuel n) [1, 2, 777777] fuel Try.f62 [.agg [.float .f64 p0_0, .float .f64 p0_1]] G k := run_body Try.func62 rfl rfl

/-! ### lantern/span.Sub -/
theorem e_span_Sub {R : Type} (O : Ora R) (fuel p0_0 : Nat) (p0_1 p1_0 p1_1 : Nat) (G : GH) (k : KV R) :
  bodyC Try.prog O [2, 3, 4, 777777] fuel Try.f48 [.agg [.float .f64 p0_0, .float .f64 p0_1], .agg [.float .f64 p1_0, .float .f64 p1_1]] G k =
  O fn_span_Neg [.agg [.float .f64 p1_0, .float .f64 p1_1]] (gfreeze G) fun v1 _ =>
  (ivAgg 2 v1).bind fun c2 =>
  (ivFloat .f64 (c2.getD 0 undefI)).bind fun x3 =>
  (ivFloat .f64 (c2.getD 1 undefI)).bind fun x4 =>
  O fn_span_Add [.agg [.float .f64 p0_0, .float .f64 p0_1], .agg [.float .f64 x3, .float .f64 x4]] (gfreeze G) fun v5 _ =>
  (ivAgg 2 v5).bind fun c6 =>
  (ivFloat .f64 (c6.getD 0 undefI)).bind fun x7 =>
  (ivFloat .f64 (c6.getD 1 undefI)).bind fun x8 =>
  k (.agg [.float .f64 x7, .float .f64 x8]) G := by kernel_rfl

theorem r_span_Sub {R : Type} (fuel n p0_0 : Nat) (p0_1 p1_0 p1_1 : Nat) (G : GH) (k : KV R) :
  runC Try.prog lo0 fuel (n + 1) 48 [.agg [.float .f64 p0_0, .float .f64 p0_1], .agg [.float .f64 p1_0, .float .f64 p1_1]] G k = bodyC Try.prog (runC Try.prog lo0 fuel n) [2, 3, 4, 777777] fuel Try.f48 [.agg [.float .f64 p0_0, .float .f64 p0_1], .agg [.float .f64 p1_0, .float .f64 p1_1]] G k := run_body Try.func48 rfl rfl

/-! ### lantern/span.Mul -/
theorem e_span_Mul {R : Type} (O : Ora R) (fuel p0_0 : Nat) (p0_1 p1_0 p1_1 : Nat) (G : GH) (k : KV R) :
  bodyC Try.prog O [2, 3, 4, 5, 777777] (fuel + 4) Try.f46 [.agg [.float .f64 p0_0, .float .f64 p0_1], .agg [.float .f64 p1_0, .float .f64 p1_1]] G k =
  bif ((feq .f64 p0_0 (0 : Nat)) && ((feq .f64 p0_1 (0 : Nat)) && true)) then
  k (.agg [.float .f64 (0 : Nat), .float .f64 (0 : Nat)]) G
  else
  bif ((feq .f64 p1_0 (0 : Nat)) && ((feq .f64 p1_1 (0 : Nat)) && true)) then
  k (.agg [.float .f64 (0 : Nat), .float .f64 (0 : Nat)]) G
  else
  O fn_span_Wide [.agg [.float .f64 p0_0, .float .f64 p0_1]] G fun v1 G2 =>
  (ivBool v1).bind fun x3 =>
  bif x3 then
  O fn_span_All [] G2 fun v4 G5 =>
  (ivAgg 2 v4).bind fun c6 =>
  (ivFloat .f64 (c6.getD 0 undefI)).bind fun x7 =>
  (ivFloat .f64 (c6.getD 1 undefI)).bind fun x8 =>
  k (.agg [.float .f64 x7, .float .f64 x8]) G5
  else
  O fn_span_Wide [.agg [.float .f64 p1_0, .float .f64 p1_1]] G2 fun v9 G10 =>
  (ivBool v9).bind fun x11 =>
  bif x11 then
  O fn_span_All [] G10 fun v12 G13 =>
  (ivAgg 2 v12).bind fun c14 =>
  (ivFloat .f64 (c14.getD 0 undefI)).bind fun x15 =>
  (ivFloat .f64 (c14.getD 1 undefI)).bind fun x16 =>
  k (.agg [.float .f64 x15, .float .f64 x16]) G13
  else
  O fn_math_Inf [.int .i64 (1 : Int)] G10 fun v17 G18 =>
  (ivFloat .f64 v17).bind fun x19 =>
  O fn_math_Inf [.int .i64 ((-1 : Int))] G18 fun v20 G21 =>
  (ivFloat .f64 v20).bind fun x22 =>
  O fn_round_Mul [.float .f64 p0_0, .float .f64 p1_0, .bool true] G21 fun v23 G24 =>
  (ivTup 2 v23).bind fun c25 =>
  (ivFloat .f64 (c25.getD 0 undefI)).bind fun x26 =>
  (ivInt .i64 (c25.getD 1 undefI)).bind fun x27 =>
  O fn_round_Mul [.float .f64 p0_0, .float .f64 p1_0, .bool false] G24 fun v28 G29 =>
  (ivTup 2 v28).bind fun c30 =>
  (ivFloat .f64 (c30.getD 0 undefI)).bind fun x31 =>
  (ivInt .i64 (c30.getD 1 undefI)).bind fun x32 =>
  (fmin .f64 x19 x26).bind fun r33 =>
  (fmax .f64 x22 x31).bind fun r34 =>
  O fn_round_Mul [.float .f64 p0_0, .float .f64 p1_1, .bool true] G29 fun v35 G36 =>
  (ivTup 2 v35).bind fun c37 =>
  (ivFloat .f64 (c37.getD 0 undefI)).bind fun x38 =>
  (ivInt .i64 (c37.getD 1 undefI)).bind fun x39 =>
  O fn_round_Mul [.float .f64 p0_0, .float .f64 p1_1, .bool false] G36 fun v40 G41 =>
  (ivTup 2 v40).bind fun c42 =>
  (ivFloat .f64 (c42.getD 0 undefI)).bind fun x43 =>
  (ivInt .i64 (c42.getD 1 undefI)).bind fun x44 =>
  (fmin .f64 r33 x38).bind fun r45 =>
  (fmax .f64 r34 x43).bind fun r46 =>
  O fn_round_Mul [.float .f64 p0_1, .float .f64 p1_0, .bool true] G41 fun v47 G48 =>
  (ivTup 2 v47).bind fun c49 =>
  (ivFloat .f64 (c49.getD 0 undefI)).bind fun x50 =>
  (ivInt .i64 (c49.getD 1 undefI)).bind fun x51 =>
  O fn_round_Mul [.float .f64 p0_1, .float .f64 p1_0, .bool false] G48 fun v52 G53 =>
  (ivTup 2 v52).bind fun c54 =>
  (ivFloat .f64 (c54.getD 0 undefI)).bind fun x55 =>
  (ivInt .i64 (c54.getD 1 undefI)).bind fun x56 =>
  (fmin .f64 r45 x50).bind fun r57 =>
  (fmax .f64 r46 x55).bind fun r58 =>
  O fn_round_Mul [.float .f64 p0_1, .float .f64 p1_1, .bool true] G53 fun v59 G60 =>
  (ivTup 2 v59).bind fun c61 =>
  (ivFloat .f64 (c61.getD 0 undefI)).bind fun x62 =>
  (ivInt .i64 (c61.getD 1 undefI)).bind fun x63 =>
  O fn_round_Mul [.float .f64 p0_1, .float .f64 p1_1, .bool false] G60 fun v64 G65 =>
  (ivTup 2 v64).bind fun c66 =>
  (ivFloat .f64 (c66.getD 0 undefI)).bind fun x67 =>
  (ivInt .i64 (c66.getD 1 undefI)).bind fun x68 =>
  (fmin .f64 r57 x62).bind fun r69 =>
  (fmax .f64 r58 x67).bind fun r70 =>
  k (.agg [.float .f64 r69, .float .f64 r70]) G65 := by kernel_rfl

theorem r_span_Mul {R : Type} (fuel n p0_0 : Nat) (p0_1 p1_0 p1_1 : Nat) (G : GH) (k : KV R) :
  runC Try.prog lo0 fuel (n + 1) 46 [.agg [.float .f64 p0_0, .float .f64 p0_1], .agg [.float .f64 p1_0, .float .f64 p1_1]] G k = bodyC Try.prog (runC Try.prog lo0 fuel n) [2, 3, 4, 5, 777777] fuel Try.f46 [.agg [.float .f64 p0_0, .float .f64 p0_1], .agg [.float .f64 p1_0, .float .f64 p1_1]] G k := run_body Try.func46 rfl rfl

/-! ### lantern/span.Floor -/
def u_span_Floor_0 {R : Type} (O : Ora R) (KN : Nat → Bool → Nat → Nat → GH → Option R) (s4 : Nat) (s5 : Int) (s6 : Nat) (s7 : Int) (b0_0 b0_1 : Nat) (G : GH) : Option R :=
  bif (s5 != (0 : Int)) then
  KN s4 true b0_0 b0_1 G
  else
  bif (s7 != (0 : Int)) then
  KN s4 true b0_0 b0_1 G
  else
  bif (!feq .f64 s4 s6) then
  KN s4 true b0_0 b0_1 G
  else
  bif (flt .f64 s4 (14069245235905429504 : Nat)) then
  KN s4 true b0_0 b0_1 G
  else
  KN s4 (fgt .f64 s4 (4845873199050653696 : Nat)) b0_0 b0_1 G

def l_span_Floor_0 {R : Type} (O : Ora R) (KN : Nat → Bool → Nat → Nat → GH → Option R) : Nat → Int → Nat → Int → Nat → Nat → GH → Option R := fun s4 s5 s6 s7 b0_0 b0_1 G => u_span_Floor_0 O KN s4 s5 s6 s7 b0_0 b0_1 G

theorem u_span_Floor_0_raw {R : Type} (O : Ora R) (fuel s4 : Nat) (s5 : Int) (s6 : Nat) (s7 : Int) (b0_0 b0_1 : Nat) (G : GH) (k : KE R) :
  loopD Try.prog O lo45 fuel (nav (Try.f45.body.getD .skip) [1, 1, 1, 0, 0]) 19 (mkE 41 [(4, .float .f64 s4), (5, .int .i64 s5), (6, .float .f64 s6), (7, .int .i64 s7)]) [[.float .f64 b0_0, .float .f64 b0_1]] G k =
  u_span_Floor_0 O (fun s4 s38 b0_0 b0_1 G => k .normal (mkE 41 [(4, .float .f64 s4), (38, .bool s38)]) [[.float .f64 b0_0, .float .f64 b0_1]] G) s4 s5 s6 s7 b0_0 b0_1 G := by kernel_rfl

theorem l_span_Floor_0_eq {R : Type} (O : Ora R) (fuel : Nat) (k : KE R) : ∀ (s4 : Nat) (s5 : Int) (s6 : Nat) (s7 : Int) (b0_0 b0_1 : Nat) (G : GH),
  loopD Try.prog O lo45 fuel (nav (Try.f45.body.getD .skip) [1, 1, 1, 0, 0]) 19 (mkE 41 [(4, .float .f64 s4), (5, .int .i64 s5), (6, .float .f64 s6), (7, .int .i64 s7)]) [[.float .f64 b0_0, .float .f64 b0_1]] G k = l_span_Floor_0 O (fun s4 s38 b0_0 b0_1 G => k .normal (mkE 41 [(4, .float .f64 s4), (38, .bool s38)]) [[.float .f64 b0_0, .float .f64 b0_1]] G) s4 s5 s6 s7 b0_0 b0_1 G := by
  intros
  rw [u_span_Floor_0_raw]
  simp only [l_span_Floor_0]

def u_span_Floor {R : Type} (O : Ora R) (k : KV R) (L0 : Nat → Int → Nat → Int → Nat → Nat → GH → Option R) (p0_0 p0_1 : Nat) (G : GH) : Option R :=
  O fn_round_Floor [.float .f64 p0_0] G fun v1 G2 =>
  (ivTup 2 v1).bind fun c3 =>
  (ivFloat .f64 (c3.getD 0 undefI)).bind fun x4 =>
  (ivInt .i64 (c3.getD 1 undefI)).bind fun x5 =>
  O fn_round_Floor [.float .f64 p0_1] G2 fun v6 G7 =>
  (ivTup 2 v6).bind fun c8 =>
  (ivFloat .f64 (c8.getD 0 undefI)).bind fun x9 =>
  (ivInt .i64 (c8.getD 1 undefI)).bind fun x10 =>
  L0 x4 x5 x9 x10 p0_0 p0_1 G7

def a_span_Floor_0N {R : Type} (O : Ora R) (k : KV R) (s4 : Nat) (s38 : Bool) (b0_0 b0_1 : Nat) (G : GH) : Option R :=
  bif s38 then
  k (.tuple [.int .i64 (0 : Int), .int .i64 (2 : Int)]) G
  else
  (f2i .f64 s4 .i64).bind fun x1 =>
  k (.tuple [.int .i64 x1, .int .i64 (1 : Int)]) G

def L_span_Floor_0 {R : Type} (O : Ora R) (fuel : Nat) (k : KV R) : Nat → Int → Nat → Int → Nat → Nat → GH → Option R := fun s4 s5 s6 s7 b0_0 b0_1 G =>
  stepN fuel (l_span_Floor_0 O (a_span_Floor_0N O k) s4 s5 s6 s7 b0_0 b0_1 G)

theorem a_span_Floor_0N_raw {R : Type} (O : Ora R) (fuel s4 : Nat) (s38 : Bool) (b0_0 b0_1 : Nat) (G : GH) (k : KV R) :
  contC Try.prog O lo45 fuel (Try.f45.body.getD .skip) [1, 1, 1, 0, 0] (fun e env F G => match e with | .exit _ => none | _ => resC Try.prog Try.f45 env F G k) .normal (mkE 41 [(4, .float .f64 s4), (38, .bool s38)]) [[.float .f64 b0_0, .float .f64 b0_1]] G =
  a_span_Floor_0N O k s4 s38 b0_0 b0_1 G := by kernel_rfl

theorem L_span_Floor_0_eq {R : Type} (O : Ora R) (fuel : Nat) (k : KV R) :
  (fun (s4 : Nat) (s5 : Int) (s6 : Nat) (s7 : Int) (b0_0 b0_1 : Nat) (G : GH) => stepN fuel (loopD Try.prog O lo45 fuel (nav (Try.f45.body.getD .skip) [1, 1, 1, 0, 0]) 19 (mkE 41 [(4, .float .f64 s4), (5, .int .i64 s5), (6, .float .f64 s6), (7, .int .i64 s7)]) [[.float .f64 b0_0, .float .f64 b0_1]] G (contC Try.prog O lo45 fuel (Try.f45.body.getD .skip) [1, 1, 1, 0, 0] (fun e env F G => match e with | .exit _ => none | _ => resC Try.prog Try.f45 env F G k)))) = L_span_Floor_0 O fuel k := by
  funext s4 s5 s6 s7 b0_0 b0_1 G
  simp only [L_span_Floor_0, l_span_Floor_0_eq, a_span_Floor_0N_raw]

theorem e_span_Floor_raw {R : Type} (O : Ora R) (fuel p0_0 p0_1 : Nat) (G : GH) (k : KV R) :
  bodyC Try.prog O lo45 fuel Try.f45 [.agg [.float .f64 p0_0, .float .f64 p0_1]] G k =
  u_span_Floor O k (fun s4 s5 s6 s7 b0_0 b0_1 G => stepN fuel (loopD Try.prog O lo45 fuel (nav (Try.f45.body.getD .skip) [1, 1, 1, 0, 0]) 19 (mkE 41 [(4, .float .f64 s4), (5, .int .i64 s5), (6, .float .f64 s6), (7, .int .i64 s7)]) [[.float .f64 b0_0, .float .f64 b0_1]] G (contC Try.prog O lo45 fuel (Try.f45.body.getD .skip) [1, 1, 1, 0, 0] (fun e env F G => match e with | .exit _ => none | _ => resC Try.prog Try.f45 env F G k)))) p0_0 p0_1 G := by kernel_rfl

theorem e_span_Floor {R : Type} (O : Ora R) (fuel p0_0 p0_1 : Nat) (G : GH) (k : KV R) :
  bodyC Try.prog O lo45 fuel Try.f45 [.agg [.float .f64 p0_0, .float .f64 p0_1]] G k =
  u_span_Floor O k (L_span_Floor_0 O fuel k) p0_0 p0_1 G := by
  rw [e_span_Floor_raw, L_span_Floor_0_eq]

theorem r_span_Floor {R : Type} (fuel n p0_0 p0_1 : Nat) (G : GH) (k : KV R) :
  runC Try.prog lo0 fuel (n + 1) 45 [.agg [.float .f64 p0_0, .float .f64 p0_1]] G k = bodyC Try.prog (runC Try.prog lo0 fuel n) lo45 fuel Try.f45 [.agg [.float .f64 p0_0, .float .f64 p0_1]] G k := run_body Try.func45 rfl rfl

/-! ### lantern/vec.Of -/
theorem e_vec_Of {R : Type} (O : Ora R) (fuel p0_0 : Nat) (p0_1 p0_2 : Nat) (G : GH) (k : KV R) :
  bodyC Try.prog O [1, 2, 777777] fuel Try.f53 [.agg [.float .f64 p0_0, .float .f64 p0_1, .float .f64 p0_2]] G k =
  O fn_span_Of [.float .f64 p0_0] (gfreeze G) fun v1 _ =>
  (ivAgg 2 v1).bind fun c2 =>
  (ivFloat .f64 (c2.getD 0 undefI)).bind fun x3 =>
  (ivFloat .f64 (c2.getD 1 undefI)).bind fun x4 =>
  O fn_span_Of [.float .f64 p0_1] (gfreeze G) fun v5 _ =>
  (ivAgg 2 v5).bind fun c6 =>
  (ivFloat .f64 (c6.getD 0 undefI)).bind fun x7 =>
  (ivFloat .f64 (c6.getD 1 undefI)).bind fun x8 =>
  O fn_span_Of [.float .f64 p0_2] (gfreeze G) fun v9 _ =>
  (ivAgg 2 v9).bind fun c10 =>
  (ivFloat .f64 (c10.getD 0 undefI)).bind fun x11 =>
  (ivFloat .f64 (c10.getD 1 undefI)).bind fun x12 =>
  k (.agg [.float .f64 x3, .float .f64 x4, .float .f64 x7, .float .f64 x8, .float .f64 x11, .float .f64 x12]) G := by kernel_rfl

theorem r_vec_Of {R : Type} (fuel n p0_0 : Nat) (p0_1 p0_2 : Nat) (G : GH) (k : KV R) :
  runC Try.prog lo0 fuel (n + 1) 53 [.agg [.float .f64 p0_0, .float .f64 p0_1, .float .f64 p0_2]] G k = bodyC Try.prog (runC Try.prog lo0 fuel n) [1, 2, 777777] fuel Try.f53 [.agg [.float .f64 p0_0, .float .f64 p0_1, .float .f64 p0_2]] G k := run_body Try.func53 rfl rfl

/-! ### lantern/vec.Times -/
theorem e_vec_Times {R : Type} (O : Ora R) (fuel p0_0 : Nat) (p0_1 p0_2 : Nat) (p0_3 p0_4 : Nat) (p0_5 p1_0 : Nat) (p1_1 p1_2 : Nat) (p1_3 p1_4 p1_5 : Nat) (G : GH) (k : KV R) :
  bodyC Try.prog O [2, 3, 4, 777777] fuel Try.f52 [.agg [.float .f64 p0_0, .float .f64 p0_1, .float .f64 p0_2, .float .f64 p0_3, .float .f64 p0_4, .float .f64 p0_5], .agg [.float .f64 p1_0, .float .f64 p1_1, .float .f64 p1_2, .float .f64 p1_3, .float .f64 p1_4, .float .f64 p1_5]] G k =
  O fn_vec_each [.agg [.float .f64 p0_0, .float .f64 p0_1, .float .f64 p0_2, .float .f64 p0_3, .float .f64 p0_4, .float .f64 p0_5], .agg [.float .f64 p1_0, .float .f64 p1_1, .float .f64 p1_2, .float .f64 p1_3, .float .f64 p1_4, .float .f64 p1_5], .func 46 []] G fun v1 G2 =>
  (ivAgg 6 v1).bind fun c3 =>
  (ivFloat .f64 (c3.getD 0 undefI)).bind fun x4 =>
  (ivFloat .f64 (c3.getD 1 undefI)).bind fun x5 =>
  (ivFloat .f64 (c3.getD 2 undefI)).bind fun x6 =>
  (ivFloat .f64 (c3.getD 3 undefI)).bind fun x7 =>
  (ivFloat .f64 (c3.getD 4 undefI)).bind fun x8 =>
  (ivFloat .f64 (c3.getD 5 undefI)).bind fun x9 =>
  k (.agg [.float .f64 x4, .float .f64 x5, .float .f64 x6, .float .f64 x7, .float .f64 x8, .float .f64 x9]) G2 := by kernel_rfl

theorem r_vec_Times {R : Type} (fuel n p0_0 : Nat) (p0_1 p0_2 : Nat) (p0_3 p0_4 : Nat) (p0_5 p1_0 : Nat) (p1_1 p1_2 : Nat) (p1_3 p1_4 p1_5 : Nat) (G : GH) (k : KV R) :
  runC Try.prog lo0 fuel (n + 1) 52 [.agg [.float .f64 p0_0, .float .f64 p0_1, .float .f64 p0_2, .float .f64 p0_3, .float .f64 p0_4, .float .f64 p0_5], .agg [.float .f64 p1_0, .float .f64 p1_1, .float .f64 p1_2, .float .f64 p1_3, .float .f64 p1_4, .float .f64 p1_5]] G k = bodyC Try.prog (runC Try.prog lo0 fuel n) [2, 3, 4, 777777] fuel Try.f52 [.agg [.float .f64 p0_0, .float .f64 p0_1, .float .f64 p0_2, .float .f64 p0_3, .float .f64 p0_4, .float .f64 p0_5], .agg [.float .f64 p1_0, .float .f64 p1_1, .float .f64 p1_2, .float .f64 p1_3, .float .f64 p1_4, .float .f64 p1_5]] G k := run_body Try.func52 rfl rfl

/-! ### lantern/vec.Scale -/
theorem e_vec_Scale {R : Type} (O : Ora R) (fuel p0_0 : Nat) (p0_1 p0_2 : Nat) (p0_3 p0_4 : Nat) (p0_5 p1_0 p1_1 : Nat) (G : GH) (k : KV R) :
  bodyC Try.prog O [2, 3, 4, 777777] fuel Try.f50 [.agg [.float .f64 p0_0, .float .f64 p0_1, .float .f64 p0_2, .float .f64 p0_3, .float .f64 p0_4, .float .f64 p0_5], .agg [.float .f64 p1_0, .float .f64 p1_1]] G k =
  O fn_vec_Times [.agg [.float .f64 p0_0, .float .f64 p0_1, .float .f64 p0_2, .float .f64 p0_3, .float .f64 p0_4, .float .f64 p0_5], .agg [.float .f64 p1_0, .float .f64 p1_1, .float .f64 p1_0, .float .f64 p1_1, .float .f64 p1_0, .float .f64 p1_1]] G fun v1 G2 =>
  (ivAgg 6 v1).bind fun c3 =>
  (ivFloat .f64 (c3.getD 0 undefI)).bind fun x4 =>
  (ivFloat .f64 (c3.getD 1 undefI)).bind fun x5 =>
  (ivFloat .f64 (c3.getD 2 undefI)).bind fun x6 =>
  (ivFloat .f64 (c3.getD 3 undefI)).bind fun x7 =>
  (ivFloat .f64 (c3.getD 4 undefI)).bind fun x8 =>
  (ivFloat .f64 (c3.getD 5 undefI)).bind fun x9 =>
  k (.agg [.float .f64 x4, .float .f64 x5, .float .f64 x6, .float .f64 x7, .float .f64 x8, .float .f64 x9]) G2 := by kernel_rfl

theorem r_vec_Scale {R : Type} (fuel n p0_0 : Nat) (p0_1 p0_2 : Nat) (p0_3 p0_4 : Nat) (p0_5 p1_0 p1_1 : Nat) (G : GH) (k : KV R) :
  runC Try.prog lo0 fuel (n + 1) 50 [.agg [.float .f64 p0_0, .float .f64 p0_1, .float .f64 p0_2, .float .f64 p0_3, .float .f64 p0_4, .float .f64 p0_5], .agg [.float .f64 p1_0, .float .f64 p1_1]] G k = bodyC Try.prog (runC Try.prog lo0 fuel n) [2, 3, 4, 777777] fuel Try.f50 [.agg [.float .f64 p0_0, .float .f64 p0_1, .float .f64 p0_2, .float .f64 p0_3, .float .f64 p0_4, .float .f64 p0_5], .agg [.float .f64 p1_0, .float .f64 p1_1]] G k := run_body Try.func50 rfl rfl

/-! ### lantern/lanternref02.Valid -/
theorem e_ref02_Valid {R : Type} (O : Ora R) (fuel p0_0 p0_1 : Nat) (G : GH) (k : KV R) :
  bodyC Try.prog O [1, 777777] fuel Try.f13 [.agg [.float .f64 p0_0, .float .f64 p0_1]] G k =
  bif (fle .f64 p0_0 p0_1) then
  O fn_ref01_Inf [] (gfreeze G) fun v1 _ =>
  (ivFloat .f64 v1).bind fun x2 =>
  bif (!feq .f64 p0_0 x2) then
  O fn_ref01_Inf [] (gfreeze G) fun v3 _ =>
  (ivFloat .f64 v3).bind fun x4 =>
  bif (!feq .f64 p0_1 (Op.negFloat .f64 x4)) then
  O fn_ref02_minus [.float .f64 p0_0] (gfreeze G) fun v5 _ =>
  (ivBool v5).bind fun x6 =>
  bif (!x6) then
  O fn_ref02_minus [.float .f64 p0_1] (gfreeze G) fun v7 _ =>
  (ivBool v7).bind fun x8 =>
  k (.bool (!x8)) G
  else
  k (.bool false) G
  else
  k (.bool false) G
  else
  k (.bool false) G
  else
  k (.bool false) G := by kernel_rfl

theorem r_ref02_Valid {R : Type} (fuel n p0_0 p0_1 : Nat) (G : GH) (k : KV R) :
  runC Try.prog lo0 fuel (n + 1) 13 [.agg [.float .f64 p0_0, .float .f64 p0_1]] G k = bodyC Try.prog (runC Try.prog lo0 fuel n) [1, 777777] fuel Try.f13 [.agg [.float .f64 p0_0, .float .f64 p0_1]] G k := run_body Try.func13 rfl rfl

/-! ### lantern/lanternref02.minus -/
theorem e_ref02_minus {R : Type} (O : Ora R) (fuel p0 : Nat) (G : GH) (k : KV R) :
  bodyC Try.prog O [777777] fuel Try.f26 [.float .f64 p0] G k =
  bif (feq .f64 p0 (0 : Nat)) then
  O fn_math_Float64bits [.float .f64 p0] G fun v1 G2 =>
  (ivInt .u64 v1).bind fun x3 =>
  k (.bool (x3 != (0 : Int))) G2
  else
  k (.bool false) G := by kernel_rfl

theorem r_ref02_minus {R : Type} (fuel n p0 : Nat) (G : GH) (k : KV R) :
  runC Try.prog lo0 fuel (n + 1) 26 [.float .f64 p0] G k = bodyC Try.prog (runC Try.prog lo0 fuel n) [777777] fuel Try.f26 [.float .f64 p0] G k := run_body Try.func26 rfl rfl

/-! ### lantern/lanternref02.Of -/
theorem e_ref02_Of {R : Type} (O : Ora R) (fuel p0 : Nat) (G : GH) (k : KV R) :
  bodyC Try.prog O [2, 777777] fuel Try.f21 [.float .f64 p0] G k =
  O fn_ref01_Number [.float .f64 p0] G fun v1 G2 =>
  (ivBool v1).bind fun x3 =>
  bif (!x3) then
  O fn_ref02_All [] G2 fun v4 G5 =>
  (ivAgg 2 v4).bind fun c6 =>
  (ivFloat .f64 (c6.getD 0 undefI)).bind fun x7 =>
  (ivFloat .f64 (c6.getD 1 undefI)).bind fun x8 =>
  k (.agg [.float .f64 x7, .float .f64 x8]) G5
  else
  O fn_ref01_Zeroed [.float .f64 p0] G2 fun v9 G10 =>
  (ivFloat .f64 v9).bind fun x11 =>
  O fn_ref01_Zeroed [.float .f64 p0] G10 fun v12 G13 =>
  (ivFloat .f64 v12).bind fun x14 =>
  k (.agg [.float .f64 x11, .float .f64 x14]) G13 := by kernel_rfl

theorem r_ref02_Of {R : Type} (fuel n p0 : Nat) (G : GH) (k : KV R) :
  runC Try.prog lo0 fuel (n + 1) 21 [.float .f64 p0] G k = bodyC Try.prog (runC Try.prog lo0 fuel n) [2, 777777] fuel Try.f21 [.float .f64 p0] G k := run_body Try.func21 rfl rfl

/-! ### lantern/lanternref02.All -/
/-! ### lantern/lanternref02.Same -/
theorem e_ref02_Same {R : Type} (O : Ora R) (fuel p0_0 : Nat) (p0_1 p1_0 p1_1 : Nat) (G : GH) (k : KV R) :
  bodyC Try.prog O [2, 3, 777777] fuel Try.f33 [.agg [.float .f64 p0_0, .float .f64 p0_1], .agg [.float .f64 p1_0, .float .f64 p1_1]] G k =
  O fn_math_Float64bits [.float .f64 p0_0] (gfreeze G) fun v1 _ =>
  (ivInt .u64 v1).bind fun x2 =>
  O fn_math_Float64bits [.float .f64 p1_0] (gfreeze G) fun v3 _ =>
  (ivInt .u64 v3).bind fun x4 =>
  bif (x2 == x4) then
  O fn_math_Float64bits [.float .f64 p0_1] (gfreeze G) fun v5 _ =>
  (ivInt .u64 v5).bind fun x6 =>
  O fn_math_Float64bits [.float .f64 p1_1] (gfreeze G) fun v7 _ =>
  (ivInt .u64 v7).bind fun x8 =>
  k (.bool (x6 == x8)) G
  else
  k (.bool false) G := by kernel_rfl

theorem r_ref02_Same {R : Type} (fuel n p0_0 : Nat) (p0_1 p1_0 p1_1 : Nat) (G : GH) (k : KV R) :
  runC Try.prog lo0 fuel (n + 1) 33 [.agg [.float .f64 p0_0, .float .f64 p0_1], .agg [.float .f64 p1_0, .float .f64 p1_1]] G k = bodyC Try.prog (runC Try.prog lo0 fuel n) [2, 3, 777777] fuel Try.f33 [.agg [.float .f64 p0_0, .float .f64 p0_1], .agg [.float .f64 p1_0, .float .f64 p1_1]] G k := run_body Try.func33 rfl rfl

/-! ### lantern/lanternref02.Within -/
/-! ### lantern/lanternref03.Of -/
theorem e_ref03_Of {R : Type} (O : Ora R) (fuel p0_0 : Nat) (p0_1 p0_2 : Nat) (G : GH) (k : KV R) :
  bodyC Try.prog O [1, 2, 777777] fuel Try.f18 [.agg [.float .f64 p0_0, .float .f64 p0_1, .float .f64 p0_2]] G k =
  O fn_ref02_Of [.float .f64 p0_0] (gfreeze G) fun v1 _ =>
  (ivAgg 2 v1).bind fun c2 =>
  (ivFloat .f64 (c2.getD 0 undefI)).bind fun x3 =>
  (ivFloat .f64 (c2.getD 1 undefI)).bind fun x4 =>
  O fn_ref02_Of [.float .f64 p0_1] (gfreeze G) fun v5 _ =>
  (ivAgg 2 v5).bind fun c6 =>
  (ivFloat .f64 (c6.getD 0 undefI)).bind fun x7 =>
  (ivFloat .f64 (c6.getD 1 undefI)).bind fun x8 =>
  O fn_ref02_Of [.float .f64 p0_2] (gfreeze G) fun v9 _ =>
  (ivAgg 2 v9).bind fun c10 =>
  (ivFloat .f64 (c10.getD 0 undefI)).bind fun x11 =>
  (ivFloat .f64 (c10.getD 1 undefI)).bind fun x12 =>
  k (.agg [.float .f64 x3, .float .f64 x4, .float .f64 x7, .float .f64 x8, .float .f64 x11, .float .f64 x12]) G := by kernel_rfl

theorem r_ref03_Of {R : Type} (fuel n p0_0 : Nat) (p0_1 p0_2 : Nat) (G : GH) (k : KV R) :
  runC Try.prog lo0 fuel (n + 1) 18 [.agg [.float .f64 p0_0, .float .f64 p0_1, .float .f64 p0_2]] G k = bodyC Try.prog (runC Try.prog lo0 fuel n) [1, 2, 777777] fuel Try.f18 [.agg [.float .f64 p0_0, .float .f64 p0_1, .float .f64 p0_2]] G k := run_body Try.func18 rfl rfl

/-! ### lantern/lanternref03.Same -/
theorem e_ref03_Same {R : Type} (O : Ora R) (fuel p0_0 : Nat) (p0_1 p0_2 : Nat) (p0_3 p0_4 : Nat) (p0_5 p1_0 : Nat) (p1_1 p1_2 : Nat) (p1_3 p1_4 p1_5 : Nat) (G : GH) (k : KV R) :
  bodyC Try.prog O [2, 3, 777777] fuel Try.f19 [.agg [.float .f64 p0_0, .float .f64 p0_1, .float .f64 p0_2, .float .f64 p0_3, .float .f64 p0_4, .float .f64 p0_5], .agg [.float .f64 p1_0, .float .f64 p1_1, .float .f64 p1_2, .float .f64 p1_3, .float .f64 p1_4, .float .f64 p1_5]] G k =
  O fn_ref02_Same [.agg [.float .f64 p0_0, .float .f64 p0_1], .agg [.float .f64 p1_0, .float .f64 p1_1]] G fun v1 G2 =>
  (ivBool v1).bind fun x3 =>
  bif x3 then
  O fn_ref02_Same [.agg [.float .f64 p0_2, .float .f64 p0_3], .agg [.float .f64 p1_2, .float .f64 p1_3]] G2 fun v4 G5 =>
  (ivBool v4).bind fun x6 =>
  bif x6 then
  O fn_ref02_Same [.agg [.float .f64 p0_4, .float .f64 p0_5], .agg [.float .f64 p1_4, .float .f64 p1_5]] G5 fun v7 G8 =>
  (ivBool v7).bind fun x9 =>
  k (.bool x9) G8
  else
  k (.bool false) G5
  else
  k (.bool false) G2 := by kernel_rfl

theorem r_ref03_Same {R : Type} (fuel n p0_0 : Nat) (p0_1 p0_2 : Nat) (p0_3 p0_4 : Nat) (p0_5 p1_0 : Nat) (p1_1 p1_2 : Nat) (p1_3 p1_4 p1_5 : Nat) (G : GH) (k : KV R) :
  runC Try.prog lo0 fuel (n + 1) 19 [.agg [.float .f64 p0_0, .float .f64 p0_1, .float .f64 p0_2, .float .f64 p0_3, .float .f64 p0_4, .float .f64 p0_5], .agg [.float .f64 p1_0, .float .f64 p1_1, .float .f64 p1_2, .float .f64 p1_3, .float .f64 p1_4, .float .f64 p1_5]] G k = bodyC Try.prog (runC Try.prog lo0 fuel n) [2, 3, 777777] fuel Try.f19 [.agg [.float .f64 p0_0, .float .f64 p0_1, .float .f64 p0_2, .float .f64 p0_3, .float .f64 p0_4, .float .f64 p0_5], .agg [.float .f64 p1_0, .float .f64 p1_1, .float .f64 p1_2, .float .f64 p1_3, .float .f64 p1_4, .float .f64 p1_5]] G k := run_body Try.func19 rfl rfl

/-! ### lantern/lanternref03.Numbers -/
theorem e_ref03_Numbers {R : Type} (O : Ora R) (fuel p0_0 : Nat) (p0_1 p0_2 : Nat) (G : GH) (k : KV R) :
  bodyC Try.prog O [1, 777777] (fuel + 4) Try.f17 [.agg [.float .f64 p0_0, .float .f64 p0_1, .float .f64 p0_2]] G k =
  O fn_ref02_Valid [.agg [.float .f64 p0_0, .float .f64 p0_0]] G fun v1 G2 =>
  (ivBool v1).bind fun x3 =>
  bif (!x3) then
  k (.bool false) G2
  else
  O fn_ref02_Valid [.agg [.float .f64 p0_1, .float .f64 p0_1]] G2 fun v4 G5 =>
  (ivBool v4).bind fun x6 =>
  bif (!x6) then
  k (.bool false) G5
  else
  O fn_ref02_Valid [.agg [.float .f64 p0_2, .float .f64 p0_2]] G5 fun v7 G8 =>
  (ivBool v7).bind fun x9 =>
  bif (!x9) then
  k (.bool false) G8
  else
  k (.bool true) G8 := by kernel_rfl

theorem r_ref03_Numbers {R : Type} (fuel n p0_0 : Nat) (p0_1 p0_2 : Nat) (G : GH) (k : KV R) :
  runC Try.prog lo0 fuel (n + 1) 17 [.agg [.float .f64 p0_0, .float .f64 p0_1, .float .f64 p0_2]] G k = bodyC Try.prog (runC Try.prog lo0 fuel n) [1, 777777] fuel Try.f17 [.agg [.float .f64 p0_0, .float .f64 p0_1, .float .f64 p0_2]] G k := run_body Try.func17 rfl rfl

/-! ### lantern/lanternref03.Within -/
/-! ### lantern/lanternref01.Zeroed -/
theorem e_ref01_Zeroed {R : Type} (O : Ora R) (fuel p0 : Nat) (G : GH) (k : KV R) :
  bodyC Try.prog O [777777] fuel Try.f37 [.float .f64 p0] G k =
  bif (feq .f64 p0 (0 : Nat)) then
  k (.float .f64 (0 : Nat)) G
  else
  k (.float .f64 p0) G := by kernel_rfl

theorem r_ref01_Zeroed {R : Type} (fuel n p0 : Nat) (G : GH) (k : KV R) :
  runC Try.prog lo0 fuel (n + 1) 37 [.float .f64 p0] G k = bodyC Try.prog (runC Try.prog lo0 fuel n) [777777] fuel Try.f37 [.float .f64 p0] G k := run_body Try.func37 rfl rfl

/-! ### lantern/lanternref01.Inf -/
theorem e_ref01_Inf {R : Type} (O : Ora R) (fuel : Nat)  (G : GH) (k : KV R) :
  bodyC Try.prog O [777777] fuel Try.f25 [] G k =
  O fn_math_Float64frombits [.int .u64 (9218868437227405312 : Int)] G fun v1 G2 =>
  (ivFloat .f64 v1).bind fun x3 =>
  k (.float .f64 x3) G2 := by kernel_rfl

theorem r_ref01_Inf {R : Type} (fuel n : Nat)  (G : GH) (k : KV R) :
  runC Try.prog lo0 fuel (n + 1) 25 [] G k = bodyC Try.prog (runC Try.prog lo0 fuel n) [777777] fuel Try.f25 [] G k := run_body Try.func25 rfl rfl

/-! ### lantern/lanternref01.Number -/
theorem e_ref01_Number {R : Type} (O : Ora R) (fuel p0 : Nat) (G : GH) (k : KV R) :
  bodyC Try.prog O [888888, 777777] fuel Try.f35 [.float .f64 p0] G k =
  k (.bool (match (FloatKind.format .f64).sub p0 p0 with | some r => feq .f64 r 0 | none => false)) G := by kernel_rfl

theorem r_ref01_Number {R : Type} (fuel n p0 : Nat) (G : GH) (k : KV R) :
  runC Try.prog lo0 fuel (n + 1) 35 [.float .f64 p0] G k = bodyC Try.prog (runC Try.prog lo0 fuel n) [888888, 777777] fuel Try.f35 [.float .f64 p0] G k := run_body Try.func35 rfl rfl

end Go.LI.Film
