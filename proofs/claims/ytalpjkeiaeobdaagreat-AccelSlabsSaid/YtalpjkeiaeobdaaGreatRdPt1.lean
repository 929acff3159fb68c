/- What the interpreter gives for products of spans (written by slab.py). -/
import Derived.Test.YtalpjkeiaeobdaaGreatSeatA
namespace Go.LI.Film
open Go.Proofs.YtalpjkeiaeobdaaGreat Go Go.Proofs Go.LI
set_option maxRecDepth 100000
set_option linter.unusedVariables false
set_option linter.unusedSimpArgs false
/-! ### lantern/round.Mul -/
theorem e_round_Mul {R : Type} (O : Ora R) (fuel p0 p1 : Nat) (p2 : Bool) (G : GH) (k : KV R) :
  bodyC Tryz.prog O [8, 9, 777777] fuel Tryz.f111 [.float .f64 p0, .float .f64 p1, .bool p2] G k =
  O fn_round_two [.float .f64 p0, .float .f64 p1] G fun v1 G2 =>
  (ivBool v1).bind fun x3 =>
  bif (!x3) then
  k (.tuple [.float .f64 (0 : Nat), .int .i64 (10 : Int)]) G2
  else
  O fn_round_split [.float .f64 p0] G2 fun v4 G5 =>
  (ivAgg 5 v4).bind fun c6 =>
  (ivBool (c6.getD 0 undefI)).bind fun x7 =>
  (ivInt .u64 (c6.getD 1 undefI)).bind fun x8 =>
  (ivInt .u64 (c6.getD 2 undefI)).bind fun x9 =>
  (ivInt .i64 (c6.getD 3 undefI)).bind fun x10 =>
  (ivBool (c6.getD 4 undefI)).bind fun x11 =>
  O fn_round_split [.float .f64 p1] G5 fun v12 G13 =>
  (ivAgg 5 v12).bind fun c14 =>
  (ivBool (c14.getD 0 undefI)).bind fun x15 =>
  (ivInt .u64 (c14.getD 1 undefI)).bind fun x16 =>
  (ivInt .u64 (c14.getD 2 undefI)).bind fun x17 =>
  (ivInt .i64 (c14.getD 3 undefI)).bind fun x18 =>
  (ivBool (c14.getD 4 undefI)).bind fun x19 =>
  O fn_bits_Mul64 [.int .u64 x9, .int .u64 x17] G13 fun v20 G21 =>
  (ivTup 2 v20).bind fun c22 =>
  (ivInt .u64 (c22.getD 0 undefI)).bind fun x23 =>
  (ivInt .u64 (c22.getD 1 undefI)).bind fun x24 =>
  O fn_round_exact_to [.agg [.bool (!(x7 == x15)), .int .u64 x23, .int .u64 x24, .int .i64 (IntKind.wrap .i64 (x10 + x18)), .bool false], .bool p2] G21 fun v25 G26 =>
  (ivFloat .f64 v25).bind fun x27 =>
  k (.tuple [.float .f64 x27, .int .i64 (0 : Int)]) G26 := by kernel_rfl

theorem r_round_Mul {R : Type} (fuel n p0 p1 : Nat) (p2 : Bool) (G : GH) (k : KV R) :
  runC Tryz.prog lo0 fuel (n + 1) 111 [.float .f64 p0, .float .f64 p1, .bool p2] G k = bodyC Tryz.prog (runC Tryz.prog lo0 fuel n) [8, 9, 777777] fuel Tryz.f111 [.float .f64 p0, .float .f64 p1, .bool p2] G k := run_body Tryz.func111 rfl rfl

/-! ### math/bits.Mul64 -/
theorem e_bits_Mul64 {R : Type} (O : Ora R) (fuel : Nat) (p0 p1 : Int) (G : GH) (k : KV R) :
  bodyC Tryz.prog O [777777] fuel Tryz.f134 [.int .u64 p0, .int .u64 p1] G k =
  k (.tuple [.int .u64 (IntKind.wrap .u64 ((IntKind.wrap .u64 ((IntKind.wrap .u64 ((shrI .u64 p0 (32 : Int)) * (shrI .u64 p1 (32 : Int)))) + (shrI .u64 (IntKind.wrap .u64 ((IntKind.wrap .u64 ((shrI .u64 p0 (32 : Int)) * (andI .u64 p1 (4294967295 : Int)))) + (shrI .u64 (IntKind.wrap .u64 ((andI .u64 p0 (4294967295 : Int)) * (andI .u64 p1 (4294967295 : Int)))) (32 : Int)))) (32 : Int)))) + (shrI .u64 (IntKind.wrap .u64 ((andI .u64 (IntKind.wrap .u64 ((IntKind.wrap .u64 ((shrI .u64 p0 (32 : Int)) * (andI .u64 p1 (4294967295 : Int)))) + (shrI .u64 (IntKind.wrap .u64 ((andI .u64 p0 (4294967295 : Int)) * (andI .u64 p1 (4294967295 : Int)))) (32 : Int)))) (4294967295 : Int)) + (IntKind.wrap .u64 ((andI .u64 p0 (4294967295 : Int)) * (shrI .u64 p1 (32 : Int)))))) (32 : Int)))), .int .u64 (IntKind.wrap .u64 (p0 * p1))]) G := by kernel_rfl

theorem r_bits_Mul64 {R : Type} (fuel n : Nat) (p0 p1 : Int) (G : GH) (k : KV R) :
  runC Tryz.prog lo0 fuel (n + 1) 134 [.int .u64 p0, .int .u64 p1] G k = bodyC Tryz.prog (runC Tryz.prog lo0 fuel n) [777777] fuel Tryz.f134 [.int .u64 p0, .int .u64 p1] G k := run_body Tryz.func134 rfl rfl

/-! ### lantern/span.Mul -/
theorem e_span_Mul {R : Type} (O : Ora R) (fuel p0_0 : Nat) (p0_1 p1_0 p1_1 : Nat) (G : GH) (k : KV R) :
  bodyC Tryz.prog O [2, 3, 4, 5, 777777] (fuel + 4) Tryz.f81 [.agg [.float .f64 p0_0, .float .f64 p0_1], .agg [.float .f64 p1_0, .float .f64 p1_1]] G k =
  bif ((feq .f64 p0_0 (0 : Nat)) && ((feq .f64 p0_1 (0 : Nat)) && true)) then
  k (.agg [.float .f64 (0 : Nat), .float .f64 (0 : Nat)]) G
  else
  bif ((feq .f64 p1_0 (0 : Nat)) && ((feq .f64 p1_1 (0 : Nat)) && true)) then
  k (.agg [.float .f64 (0 : Nat), .float .f64 (0 : Nat)]) G
  else
  O fn_span_Wide [.agg [.float .f64 p0_0, .float .f64 p0_1]] G fun v1 G2 =>
  (ivBool v1).bind fun x3 =>
  bif x3 then
  O fn_span_All [] G2 fun v4 G5 =>
  (ivAgg 2 v4).bind fun c6 =>
  (ivFloat .f64 (c6.getD 0 undefI)).bind fun x7 =>
  (ivFloat .f64 (c6.getD 1 undefI)).bind fun x8 =>
  k (.agg [.float .f64 x7, .float .f64 x8]) G5
  else
  O fn_span_Wide [.agg [.float .f64 p1_0, .float .f64 p1_1]] G2 fun v9 G10 =>
  (ivBool v9).bind fun x11 =>
  bif x11 then
  O fn_span_All [] G10 fun v12 G13 =>
  (ivAgg 2 v12).bind fun c14 =>
  (ivFloat .f64 (c14.getD 0 undefI)).bind fun x15 =>
  (ivFloat .f64 (c14.getD 1 undefI)).bind fun x16 =>
  k (.agg [.float .f64 x15, .float .f64 x16]) G13
  else
  O fn_math_Inf [.int .i64 (1 : Int)] G10 fun v17 G18 =>
  (ivFloat .f64 v17).bind fun x19 =>
  O fn_math_Inf [.int .i64 ((-1 : Int))] G18 fun v20 G21 =>
  (ivFloat .f64 v20).bind fun x22 =>
  O fn_round_Mul [.float .f64 p0_0, .float .f64 p1_0, .bool true] G21 fun v23 G24 =>
  (ivTup 2 v23).bind fun c25 =>
  (ivFloat .f64 (c25.getD 0 undefI)).bind fun x26 =>
  (ivInt .i64 (c25.getD 1 undefI)).bind fun x27 =>
  O fn_round_Mul [.float .f64 p0_0, .float .f64 p1_0, .bool false] G24 fun v28 G29 =>
  (ivTup 2 v28).bind fun c30 =>
  (ivFloat .f64 (c30.getD 0 undefI)).bind fun x31 =>
  (ivInt .i64 (c30.getD 1 undefI)).bind fun x32 =>
  (fmin .f64 x19 x26).bind fun r33 =>
  (fmax .f64 x22 x31).bind fun r34 =>
  O fn_round_Mul [.float .f64 p0_0, .float .f64 p1_1, .bool true] G29 fun v35 G36 =>
  (ivTup 2 v35).bind fun c37 =>
  (ivFloat .f64 (c37.getD 0 undefI)).bind fun x38 =>
  (ivInt .i64 (c37.getD 1 undefI)).bind fun x39 =>
  O fn_round_Mul [.float .f64 p0_0, .float .f64 p1_1, .bool false] G36 fun v40 G41 =>
  (ivTup 2 v40).bind fun c42 =>
  (ivFloat .f64 (c42.getD 0 undefI)).bind fun x43 =>
  (ivInt .i64 (c42.getD 1 undefI)).bind fun x44 =>
  (fmin .f64 r33 x38).bind fun r45 =>
  (fmax .f64 r34 x43).bind fun r46 =>
  O fn_round_Mul [.float .f64 p0_1, .float .f64 p1_0, .bool true] G41 fun v47 G48 =>
  (ivTup 2 v47).bind fun c49 =>
  (ivFloat .f64 (c49.getD 0 undefI)).bind fun x50 =>
  (ivInt .i64 (c49.getD 1 undefI)).bind fun x51 =>
  O fn_round_Mul [.float .f64 p0_1, .float .f64 p1_0, .bool false] G48 fun v52 G53 =>
  (ivTup 2 v52).bind fun c54 =>
  (ivFloat .f64 (c54.getD 0 undefI)).bind fun x55 =>
  (ivInt .i64 (c54.getD 1 undefI)).bind fun x56 =>
  (fmin .f64 r45 x50).bind fun r57 =>
  (fmax .f64 r46 x55).bind fun r58 =>
  O fn_round_Mul [.float .f64 p0_1, .float .f64 p1_1, .bool true] G53 fun v59 G60 =>
  (ivTup 2 v59).bind fun c61 =>
  (ivFloat .f64 (c61.getD 0 undefI)).bind fun x62 =>
  (ivInt .i64 (c61.getD 1 undefI)).bind fun x63 =>
  O fn_round_Mul [.float .f64 p0_1, .float .f64 p1_1, .bool false] G60 fun v64 G65 =>
  (ivTup 2 v64).bind fun c66 =>
  (ivFloat .f64 (c66.getD 0 undefI)).bind fun x67 =>
  (ivInt .i64 (c66.getD 1 undefI)).bind fun x68 =>
  (fmin .f64 r57 x62).bind fun r69 =>
  (fmax .f64 r58 x67).bind fun r70 =>
  k (.agg [.float .f64 r69, .float .f64 r70]) G65 := by kernel_rfl

theorem r_span_Mul {R : Type} (fuel n p0_0 : Nat) (p0_1 p1_0 p1_1 : Nat) (G : GH) (k : KV R) :
  runC Tryz.prog lo0 fuel (n + 1) 81 [.agg [.float .f64 p0_0, .float .f64 p0_1], .agg [.float .f64 p1_0, .float .f64 p1_1]] G k = bodyC Tryz.prog (runC Tryz.prog lo0 fuel n) [2, 3, 4, 5, 777777] fuel Tryz.f81 [.agg [.float .f64 p0_0, .float .f64 p0_1], .agg [.float .f64 p1_0, .float .f64 p1_1]] G k := run_body Tryz.func81 rfl rfl

end Go.LI.Film
