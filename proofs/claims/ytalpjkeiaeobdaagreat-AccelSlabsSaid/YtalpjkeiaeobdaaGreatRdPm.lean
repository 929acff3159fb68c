/- What the interpreter gives for round: Div (written by slab.py). -/
import Derived.Test.YtalpjkeiaeobdaaGreatSeatA
namespace Go.LI.Film
open Go.Proofs.YtalpjkeiaeobdaaGreat Go Go.Proofs Go.LI
set_option maxRecDepth 100000
set_option linter.unusedVariables false
set_option linter.unusedSimpArgs false
/-! ### lantern/round.Div -/
theorem e_round_Div {R : Type} (O : Ora R) (fuel p0 p1 : Nat) (p2 : Bool) (G : GH) (k : KV R) :
  bodyC Tryz.prog O [8, 9, 10, 777777] fuel Tryz.f37 [.float .f64 p0, .float .f64 p1, .bool p2] G k =
  O fn_round_two [.float .f64 p0, .float .f64 p1] G fun v1 G2 =>
  (ivBool v1).bind fun x3 =>
  bif (!x3) then
  k (.tuple [.float .f64 (0 : Nat), .int .i64 (10 : Int)]) G2
  else
  bif (feq .f64 p1 (0 : Nat)) then
  k (.tuple [.float .f64 (0 : Nat), .int .i64 (11 : Int)]) G2
  else
  O fn_round_split [.float .f64 p0] G2 fun v4 G5 =>
  (ivAgg 5 v4).bind fun c6 =>
  (ivBool (c6.getD 0 undefI)).bind fun x7 =>
  (ivInt .u64 (c6.getD 1 undefI)).bind fun x8 =>
  (ivInt .u64 (c6.getD 2 undefI)).bind fun x9 =>
  (ivInt .i64 (c6.getD 3 undefI)).bind fun x10 =>
  (ivBool (c6.getD 4 undefI)).bind fun x11 =>
  O fn_round_split [.float .f64 p1] G5 fun v12 G13 =>
  (ivAgg 5 v12).bind fun c14 =>
  (ivBool (c14.getD 0 undefI)).bind fun x15 =>
  (ivInt .u64 (c14.getD 1 undefI)).bind fun x16 =>
  (ivInt .u64 (c14.getD 2 undefI)).bind fun x17 =>
  (ivInt .i64 (c14.getD 3 undefI)).bind fun x18 =>
  (ivBool (c14.getD 4 undefI)).bind fun x19 =>
  O fn_round_exact_length [.agg [.bool x7, .int .u64 x8, .int .u64 x9, .int .i64 x10, .bool x11]] (gfreeze G13) fun v20 _ =>
  (ivInt .i64 v20).bind fun x21 =>
  O fn_round_exact_left [.agg [.bool x7, .int .u64 x8, .int .u64 x9, .int .i64 x10, .bool x11], .int .i64 (IntKind.wrap .i64 ((117 : Int) - x21))] (gfreeze G13) fun v22 _ =>
  (ivAgg 5 v22).bind fun c23 =>
  (ivBool (c23.getD 0 undefI)).bind fun x24 =>
  (ivInt .u64 (c23.getD 1 undefI)).bind fun x25 =>
  (ivInt .u64 (c23.getD 2 undefI)).bind fun x26 =>
  (ivInt .i64 (c23.getD 3 undefI)).bind fun x27 =>
  (ivBool (c23.getD 4 undefI)).bind fun x28 =>
  O fn_round_exact_length [.agg [.bool x15, .int .u64 x16, .int .u64 x17, .int .i64 x18, .bool x19]] (gfreeze G13) fun v29 _ =>
  (ivInt .i64 v29).bind fun x30 =>
  O fn_round_exact_left [.agg [.bool x15, .int .u64 x16, .int .u64 x17, .int .i64 x18, .bool x19], .int .i64 (IntKind.wrap .i64 ((53 : Int) - x30))] (gfreeze G13) fun v31 _ =>
  (ivAgg 5 v31).bind fun c32 =>
  (ivBool (c32.getD 0 undefI)).bind fun x33 =>
  (ivInt .u64 (c32.getD 1 undefI)).bind fun x34 =>
  (ivInt .u64 (c32.getD 2 undefI)).bind fun x35 =>
  (ivInt .i64 (c32.getD 3 undefI)).bind fun x36 =>
  (ivBool (c32.getD 4 undefI)).bind fun x37 =>
  O fn_bits_Div64 [.int .u64 (0 : Int), .int .u64 x25, .int .u64 x35] G13 fun v38 G39 =>
  (ivTup 2 v38).bind fun c40 =>
  (ivInt .u64 (c40.getD 0 undefI)).bind fun x41 =>
  (ivInt .u64 (c40.getD 1 undefI)).bind fun x42 =>
  O fn_bits_Div64 [.int .u64 x42, .int .u64 x26, .int .u64 x35] G39 fun v43 G44 =>
  (ivTup 2 v43).bind fun c45 =>
  (ivInt .u64 (c45.getD 0 undefI)).bind fun x46 =>
  (ivInt .u64 (c45.getD 1 undefI)).bind fun x47 =>
  O fn_round_exact_to [.agg [.bool (!(x24 == x33)), .int .u64 x41, .int .u64 x46, .int .i64 (IntKind.wrap .i64 (x27 - x36)), .bool (x47 != (0 : Int))], .bool p2] G44 fun v48 G49 =>
  (ivFloat .f64 v48).bind fun x50 =>
  k (.tuple [.float .f64 x50, .int .i64 (0 : Int)]) G49 := by kernel_rfl

theorem r_round_Div {R : Type} (fuel n p0 p1 : Nat) (p2 : Bool) (G : GH) (k : KV R) :
  runC Tryz.prog lo0 fuel (n + 1) 37 [.float .f64 p0, .float .f64 p1, .bool p2] G k = bodyC Tryz.prog (runC Tryz.prog lo0 fuel n) [8, 9, 10, 777777] fuel Tryz.f37 [.float .f64 p0, .float .f64 p1, .bool p2] G k := run_body Tryz.func37 rfl rfl

end Go.LI.Film
