/- What the interpreter gives for slabs (written by slab.py). -/
import Derived.Test.YtalpjkeiaeobdaaGreatSeatA
namespace Go.LI.Film
open Go.Proofs.YtalpjkeiaeobdaaGreat Go Go.Proofs Go.LI
set_option maxRecDepth 100000
set_option linter.unusedVariables false
set_option linter.unusedSimpArgs false
/-! ### lantern/span.Neg -/
theorem e_span_Neg {R : Type} (O : Ora R) (fuel p0_0 p0_1 : Nat) (G : GH) (k : KV R) :
  bodyC Tryz.prog O [1, 2, 777777] fuel Tryz.f39 [.agg [.float .f64 p0_0, .float .f64 p0_1]] G k =
  ((FloatKind.format .f64).sub (0 : Nat) p0_1).bind fun r1 =>
  ((FloatKind.format .f64).sub (0 : Nat) p0_0).bind fun r2 =>
  k (.agg [.float .f64 r1, .float .f64 r2]) G := by kernel_rfl

theorem r_span_Neg {R : Type} (fuel n p0_0 p0_1 : Nat) (G : GH) (k : KV R) :
  runC Tryz.prog lo0 fuel (n + 1) 39 [.agg [.float .f64 p0_0, .float .f64 p0_1]] G k = bodyC Tryz.prog (runC Tryz.prog lo0 fuel n) [1, 2, 777777] fuel Tryz.f39 [.agg [.float .f64 p0_0, .float .f64 p0_1]] G k := run_body Tryz.func39 rfl rfl

/-! ### lantern/span.Sub -/
theorem e_span_Sub {R : Type} (O : Ora R) (fuel p0_0 : Nat) (p0_1 p1_0 p1_1 : Nat) (G : GH) (k : KV R) :
  bodyC Tryz.prog O [2, 3, 4, 777777] fuel Tryz.f19 [.agg [.float .f64 p0_0, .float .f64 p0_1], .agg [.float .f64 p1_0, .float .f64 p1_1]] G k =
  O fn_span_Neg [.agg [.float .f64 p1_0, .float .f64 p1_1]] (gfreeze G) fun v1 _ =>
  (ivAgg 2 v1).bind fun c2 =>
  (ivFloat .f64 (c2.getD 0 undefI)).bind fun x3 =>
  (ivFloat .f64 (c2.getD 1 undefI)).bind fun x4 =>
  O fn_span_Add [.agg [.float .f64 p0_0, .float .f64 p0_1], .agg [.float .f64 x3, .float .f64 x4]] (gfreeze G) fun v5 _ =>
  (ivAgg 2 v5).bind fun c6 =>
  (ivFloat .f64 (c6.getD 0 undefI)).bind fun x7 =>
  (ivFloat .f64 (c6.getD 1 undefI)).bind fun x8 =>
  k (.agg [.float .f64 x7, .float .f64 x8]) G := by kernel_rfl

theorem r_span_Sub {R : Type} (fuel n p0_0 : Nat) (p0_1 p1_0 p1_1 : Nat) (G : GH) (k : KV R) :
  runC Tryz.prog lo0 fuel (n + 1) 19 [.agg [.float .f64 p0_0, .float .f64 p0_1], .agg [.float .f64 p1_0, .float .f64 p1_1]] G k = bodyC Tryz.prog (runC Tryz.prog lo0 fuel n) [2, 3, 4, 777777] fuel Tryz.f19 [.agg [.float .f64 p0_0, .float .f64 p0_1], .agg [.float .f64 p1_0, .float .f64 p1_1]] G k := run_body Tryz.func19 rfl rfl

/-! ### lantern/span.Meet -/
theorem e_span_Meet {R : Type} (O : Ora R) (fuel p0_0 : Nat) (p0_1 p1_0 p1_1 : Nat) (G : GH) (k : KV R) :
  bodyC Tryz.prog O [2, 3, 4, 6, 777777] fuel Tryz.f20 [.agg [.float .f64 p0_0, .float .f64 p0_1], .agg [.float .f64 p1_0, .float .f64 p1_1]] G k =
  (fmax .f64 p0_0 p1_0).bind fun r1 =>
  (fmin .f64 p0_1 p1_1).bind fun r2 =>
  bif (fgt .f64 r1 r2) then
  k (.tuple [.agg [.float .f64 (0 : Nat), .float .f64 (0 : Nat)], .bool false]) G
  else
  k (.tuple [.agg [.float .f64 r1, .float .f64 r2], .bool true]) G := by kernel_rfl

theorem r_span_Meet {R : Type} (fuel n p0_0 : Nat) (p0_1 p1_0 p1_1 : Nat) (G : GH) (k : KV R) :
  runC Tryz.prog lo0 fuel (n + 1) 20 [.agg [.float .f64 p0_0, .float .f64 p0_1], .agg [.float .f64 p1_0, .float .f64 p1_1]] G k = bodyC Tryz.prog (runC Tryz.prog lo0 fuel n) [2, 3, 4, 6, 777777] fuel Tryz.f20 [.agg [.float .f64 p0_0, .float .f64 p0_1], .agg [.float .f64 p1_0, .float .f64 p1_1]] G k := run_body Tryz.func20 rfl rfl

/-! ### lantern/lanternref02.Neg -/
theorem e_ref02_Neg {R : Type} (O : Ora R) (fuel p0_0 p0_1 : Nat) (G : GH) (k : KV R) :
  bodyC Tryz.prog O [1, 2, 777777] fuel Tryz.f45 [.agg [.float .f64 p0_0, .float .f64 p0_1]] G k =
  ((FloatKind.format .f64).sub (0 : Nat) p0_1).bind fun r1 =>
  ((FloatKind.format .f64).sub (0 : Nat) p0_0).bind fun r2 =>
  k (.agg [.float .f64 r1, .float .f64 r2]) G := by kernel_rfl

theorem r_ref02_Neg {R : Type} (fuel n p0_0 p0_1 : Nat) (G : GH) (k : KV R) :
  runC Tryz.prog lo0 fuel (n + 1) 45 [.agg [.float .f64 p0_0, .float .f64 p0_1]] G k = bodyC Tryz.prog (runC Tryz.prog lo0 fuel n) [1, 2, 777777] fuel Tryz.f45 [.agg [.float .f64 p0_0, .float .f64 p0_1]] G k := run_body Tryz.func45 rfl rfl

/-! ### lantern/lanternref02.Sub -/
theorem e_ref02_Sub {R : Type} (O : Ora R) (fuel p0_0 : Nat) (p0_1 p1_0 p1_1 : Nat) (G : GH) (k : KV R) :
  bodyC Tryz.prog O [2, 3, 4, 777777] fuel Tryz.f24 [.agg [.float .f64 p0_0, .float .f64 p0_1], .agg [.float .f64 p1_0, .float .f64 p1_1]] G k =
  O fn_ref02_Neg [.agg [.float .f64 p1_0, .float .f64 p1_1]] (gfreeze G) fun v1 _ =>
  (ivAgg 2 v1).bind fun c2 =>
  (ivFloat .f64 (c2.getD 0 undefI)).bind fun x3 =>
  (ivFloat .f64 (c2.getD 1 undefI)).bind fun x4 =>
  O fn_ref02_Add [.agg [.float .f64 p0_0, .float .f64 p0_1], .agg [.float .f64 x3, .float .f64 x4]] (gfreeze G) fun v5 _ =>
  (ivAgg 2 v5).bind fun c6 =>
  (ivFloat .f64 (c6.getD 0 undefI)).bind fun x7 =>
  (ivFloat .f64 (c6.getD 1 undefI)).bind fun x8 =>
  k (.agg [.float .f64 x7, .float .f64 x8]) G := by kernel_rfl

theorem r_ref02_Sub {R : Type} (fuel n p0_0 : Nat) (p0_1 p1_0 p1_1 : Nat) (G : GH) (k : KV R) :
  runC Tryz.prog lo0 fuel (n + 1) 24 [.agg [.float .f64 p0_0, .float .f64 p0_1], .agg [.float .f64 p1_0, .float .f64 p1_1]] G k = bodyC Tryz.prog (runC Tryz.prog lo0 fuel n) [2, 3, 4, 777777] fuel Tryz.f24 [.agg [.float .f64 p0_0, .float .f64 p0_1], .agg [.float .f64 p1_0, .float .f64 p1_1]] G k := run_body Tryz.func24 rfl rfl

/-! ### lantern/lanternref02.Meet -/
theorem e_ref02_Meet {R : Type} (O : Ora R) (fuel p0_0 : Nat) (p0_1 p1_0 p1_1 : Nat) (G : GH) (k : KV R) :
  bodyC Tryz.prog O [2, 3, 4, 777777] fuel Tryz.f22 [.agg [.float .f64 p0_0, .float .f64 p0_1], .agg [.float .f64 p1_0, .float .f64 p1_1]] G k =
  O fn_ref02_Greatest [.float .f64 p0_0, .float .f64 p1_0] (gfreeze G) fun v1 _ =>
  (ivFloat .f64 v1).bind fun x2 =>
  O fn_ref02_Least [.float .f64 p0_1, .float .f64 p1_1] (gfreeze G) fun v3 _ =>
  (ivFloat .f64 v3).bind fun x4 =>
  bif (fgt .f64 x2 x4) then
  k (.tuple [.agg [.float .f64 (0 : Nat), .float .f64 (0 : Nat)], .bool false]) G
  else
  k (.tuple [.agg [.float .f64 x2, .float .f64 x4], .bool true]) G := by kernel_rfl

theorem r_ref02_Meet {R : Type} (fuel n p0_0 : Nat) (p0_1 p1_0 p1_1 : Nat) (G : GH) (k : KV R) :
  runC Tryz.prog lo0 fuel (n + 1) 22 [.agg [.float .f64 p0_0, .float .f64 p0_1], .agg [.float .f64 p1_0, .float .f64 p1_1]] G k = bodyC Tryz.prog (runC Tryz.prog lo0 fuel n) [2, 3, 4, 777777] fuel Tryz.f22 [.agg [.float .f64 p0_0, .float .f64 p0_1], .agg [.float .f64 p1_0, .float .f64 p1_1]] G k := run_body Tryz.func22 rfl rfl

/-! ### lantern/lanternref03.Valid -/
theorem e_ref03_Valid {R : Type} (O : Ora R) (fuel p0_0 : Nat) (p0_1 p0_2 : Nat) (p0_3 p0_4 p0_5 : Nat) (G : GH) (k : KV R) :
  bodyC Tryz.prog O [1, 777777] fuel Tryz.f14 [.agg [.float .f64 p0_0, .float .f64 p0_1, .float .f64 p0_2, .float .f64 p0_3, .float .f64 p0_4, .float .f64 p0_5]] G k =
  O fn_ref02_Valid [.agg [.float .f64 p0_0, .float .f64 p0_1]] G fun v1 G2 =>
  (ivBool v1).bind fun x3 =>
  bif x3 then
  O fn_ref02_Valid [.agg [.float .f64 p0_2, .float .f64 p0_3]] G2 fun v4 G5 =>
  (ivBool v4).bind fun x6 =>
  bif x6 then
  O fn_ref02_Valid [.agg [.float .f64 p0_4, .float .f64 p0_5]] G5 fun v7 G8 =>
  (ivBool v7).bind fun x9 =>
  k (.bool x9) G8
  else
  k (.bool false) G5
  else
  k (.bool false) G2 := by kernel_rfl

theorem r_ref03_Valid {R : Type} (fuel n p0_0 : Nat) (p0_1 p0_2 : Nat) (p0_3 p0_4 p0_5 : Nat) (G : GH) (k : KV R) :
  runC Tryz.prog lo0 fuel (n + 1) 14 [.agg [.float .f64 p0_0, .float .f64 p0_1, .float .f64 p0_2, .float .f64 p0_3, .float .f64 p0_4, .float .f64 p0_5]] G k = bodyC Tryz.prog (runC Tryz.prog lo0 fuel n) [1, 777777] fuel Tryz.f14 [.agg [.float .f64 p0_0, .float .f64 p0_1, .float .f64 p0_2, .float .f64 p0_3, .float .f64 p0_4, .float .f64 p0_5]] G k := run_body Tryz.func14 rfl rfl

/-! ### lantern/lanternref10.ValidRay -/
theorem e_ref10_ValidRay {R : Type} (O : Ora R) (fuel p0_0 : Nat) (p0_1 p0_2 : Nat) (p0_3 p0_4 : Nat) (p0_5 p0_6 : Nat) (p0_7 p0_8 : Nat) (p0_9 p0_10 p0_11 : Nat) (G : GH) (k : KV R) :
  bodyC Tryz.prog O [1, 777777] fuel Tryz.f5 [.agg [.float .f64 p0_0, .float .f64 p0_1, .float .f64 p0_2, .float .f64 p0_3, .float .f64 p0_4, .float .f64 p0_5, .float .f64 p0_6, .float .f64 p0_7, .float .f64 p0_8, .float .f64 p0_9, .float .f64 p0_10, .float .f64 p0_11]] G k =
  O fn_ref03_Valid [.agg [.float .f64 p0_0, .float .f64 p0_1, .float .f64 p0_2, .float .f64 p0_3, .float .f64 p0_4, .float .f64 p0_5]] G fun v1 G2 =>
  (ivBool v1).bind fun x3 =>
  bif x3 then
  O fn_ref03_Valid [.agg [.float .f64 p0_6, .float .f64 p0_7, .float .f64 p0_8, .float .f64 p0_9, .float .f64 p0_10, .float .f64 p0_11]] G2 fun v4 G5 =>
  (ivBool v4).bind fun x6 =>
  k (.bool x6) G5
  else
  k (.bool false) G2 := by kernel_rfl

theorem r_ref10_ValidRay {R : Type} (fuel n p0_0 : Nat) (p0_1 p0_2 : Nat) (p0_3 p0_4 : Nat) (p0_5 p0_6 : Nat) (p0_7 p0_8 : Nat) (p0_9 p0_10 p0_11 : Nat) (G : GH) (k : KV R) :
  runC Tryz.prog lo0 fuel (n + 1) 5 [.agg [.float .f64 p0_0, .float .f64 p0_1, .float .f64 p0_2, .float .f64 p0_3, .float .f64 p0_4, .float .f64 p0_5, .float .f64 p0_6, .float .f64 p0_7, .float .f64 p0_8, .float .f64 p0_9, .float .f64 p0_10, .float .f64 p0_11]] G k = bodyC Tryz.prog (runC Tryz.prog lo0 fuel n) [1, 777777] fuel Tryz.f5 [.agg [.float .f64 p0_0, .float .f64 p0_1, .float .f64 p0_2, .float .f64 p0_3, .float .f64 p0_4, .float .f64 p0_5, .float .f64 p0_6, .float .f64 p0_7, .float .f64 p0_8, .float .f64 p0_9, .float .f64 p0_10, .float .f64 p0_11]] G k := run_body Tryz.func5 rfl rfl

/-! ### lantern/accel.Slab -/
theorem e_accel_Slab {R : Type} (O : Ora R) (fuel p0_0 : Nat) (p0_1 p0_2 : Nat) (p0_3 p0_4 : Nat) (p0_5 p1_0 : Nat) (p1_1 p1_2 : Nat) (p1_3 p1_4 : Nat) (p1_5 p1_6 : Nat) (p1_7 p1_8 : Nat) (p1_9 p1_10 p1_11 : Nat) (G : GH) (k : KV R) :
  bodyC Tryz.prog O [2, 3, 5, 6, 8, 9, 10, 777777] (fuel + 4) Tryz.f7 [.agg [.float .f64 p0_0, .float .f64 p0_1, .float .f64 p0_2, .float .f64 p0_3, .float .f64 p0_4, .float .f64 p0_5], .agg [.float .f64 p1_0, .float .f64 p1_1, .float .f64 p1_2, .float .f64 p1_3, .float .f64 p1_4, .float .f64 p1_5, .float .f64 p1_6, .float .f64 p1_7, .float .f64 p1_8, .float .f64 p1_9, .float .f64 p1_10, .float .f64 p1_11]] G k =
  O fn_math_Inf [.int .i64 (1 : Int)] G fun v1 G2 =>
  (ivFloat .f64 v1).bind fun x3 =>
  bif ((feq .f64 p1_6 (0 : Nat)) && ((feq .f64 p1_7 (0 : Nat)) && true)) then
  bif (flt .f64 p1_1 p0_0) then
  k (.tuple [.bool false, .agg [.float .f64 (0 : Nat), .float .f64 (0 : Nat)]]) G2
  else
  bif (fgt .f64 p1_0 p0_3) then
  k (.tuple [.bool false, .agg [.float .f64 (0 : Nat), .float .f64 (0 : Nat)]]) G2
  else
  bif ((feq .f64 p1_8 (0 : Nat)) && ((feq .f64 p1_9 (0 : Nat)) && true)) then
  bif (flt .f64 p1_3 p0_1) then
  k (.tuple [.bool false, .agg [.float .f64 (0 : Nat), .float .f64 (0 : Nat)]]) G2
  else
  bif (fgt .f64 p1_2 p0_4) then
  k (.tuple [.bool false, .agg [.float .f64 (0 : Nat), .float .f64 (0 : Nat)]]) G2
  else
  bif ((feq .f64 p1_10 (0 : Nat)) && ((feq .f64 p1_11 (0 : Nat)) && true)) then
  bif (flt .f64 p1_5 p0_2) then
  k (.tuple [.bool false, .agg [.float .f64 (0 : Nat), .float .f64 (0 : Nat)]]) G2
  else
  bif (fgt .f64 p1_4 p0_5) then
  k (.tuple [.bool false, .agg [.float .f64 (0 : Nat), .float .f64 (0 : Nat)]]) G2
  else
  k (.tuple [.bool true, .agg [.float .f64 (0 : Nat), .float .f64 x3]]) G2
  else
  O fn_span_Sub [.agg [.float .f64 p0_2, .float .f64 p0_5], .agg [.float .f64 p1_4, .float .f64 p1_5]] G2 fun v4 G5 =>
  (ivAgg 2 v4).bind fun c6 =>
  (ivFloat .f64 (c6.getD 0 undefI)).bind fun x7 =>
  (ivFloat .f64 (c6.getD 1 undefI)).bind fun x8 =>
  O fn_span_Div [.agg [.float .f64 x7, .float .f64 x8], .agg [.float .f64 p1_10, .float .f64 p1_11]] G5 fun v9 G10 =>
  (ivAgg 2 v9).bind fun c11 =>
  (ivFloat .f64 (c11.getD 0 undefI)).bind fun x12 =>
  (ivFloat .f64 (c11.getD 1 undefI)).bind fun x13 =>
  O fn_span_Meet [.agg [.float .f64 (0 : Nat), .float .f64 x3], .agg [.float .f64 x12, .float .f64 x13]] G10 fun v14 G15 =>
  (ivTup 2 v14).bind fun c16 =>
  (ivAgg 2 (c16.getD 0 undefI)).bind fun c17 =>
  (ivFloat .f64 (c17.getD 0 undefI)).bind fun x18 =>
  (ivFloat .f64 (c17.getD 1 undefI)).bind fun x19 =>
  (ivBool (c16.getD 1 undefI)).bind fun x20 =>
  bif (!x20) then
  k (.tuple [.bool false, .agg [.float .f64 (0 : Nat), .float .f64 (0 : Nat)]]) G15
  else
  k (.tuple [.bool true, .agg [.float .f64 x18, .float .f64 x19]]) G15
  else
  O fn_span_Sub [.agg [.float .f64 p0_1, .float .f64 p0_4], .agg [.float .f64 p1_2, .float .f64 p1_3]] G2 fun v21 G22 =>
  (ivAgg 2 v21).bind fun c23 =>
  (ivFloat .f64 (c23.getD 0 undefI)).bind fun x24 =>
  (ivFloat .f64 (c23.getD 1 undefI)).bind fun x25 =>
  O fn_span_Div [.agg [.float .f64 x24, .float .f64 x25], .agg [.float .f64 p1_8, .float .f64 p1_9]] G22 fun v26 G27 =>
  (ivAgg 2 v26).bind fun c28 =>
  (ivFloat .f64 (c28.getD 0 undefI)).bind fun x29 =>
  (ivFloat .f64 (c28.getD 1 undefI)).bind fun x30 =>
  O fn_span_Meet [.agg [.float .f64 (0 : Nat), .float .f64 x3], .agg [.float .f64 x29, .float .f64 x30]] G27 fun v31 G32 =>
  (ivTup 2 v31).bind fun c33 =>
  (ivAgg 2 (c33.getD 0 undefI)).bind fun c34 =>
  (ivFloat .f64 (c34.getD 0 undefI)).bind fun x35 =>
  (ivFloat .f64 (c34.getD 1 undefI)).bind fun x36 =>
  (ivBool (c33.getD 1 undefI)).bind fun x37 =>
  bif (!x37) then
  k (.tuple [.bool false, .agg [.float .f64 (0 : Nat), .float .f64 (0 : Nat)]]) G32
  else
  bif ((feq .f64 p1_10 (0 : Nat)) && ((feq .f64 p1_11 (0 : Nat)) && true)) then
  bif (flt .f64 p1_5 p0_2) then
  k (.tuple [.bool false, .agg [.float .f64 (0 : Nat), .float .f64 (0 : Nat)]]) G32
  else
  bif (fgt .f64 p1_4 p0_5) then
  k (.tuple [.bool false, .agg [.float .f64 (0 : Nat), .float .f64 (0 : Nat)]]) G32
  else
  k (.tuple [.bool true, .agg [.float .f64 x35, .float .f64 x36]]) G32
  else
  O fn_span_Sub [.agg [.float .f64 p0_2, .float .f64 p0_5], .agg [.float .f64 p1_4, .float .f64 p1_5]] G32 fun v38 G39 =>
  (ivAgg 2 v38).bind fun c40 =>
  (ivFloat .f64 (c40.getD 0 undefI)).bind fun x41 =>
  (ivFloat .f64 (c40.getD 1 undefI)).bind fun x42 =>
  O fn_span_Div [.agg [.float .f64 x41, .float .f64 x42], .agg [.float .f64 p1_10, .float .f64 p1_11]] G39 fun v43 G44 =>
  (ivAgg 2 v43).bind fun c45 =>
  (ivFloat .f64 (c45.getD 0 undefI)).bind fun x46 =>
  (ivFloat .f64 (c45.getD 1 undefI)).bind fun x47 =>
  O fn_span_Meet [.agg [.float .f64 x35, .float .f64 x36], .agg [.float .f64 x46, .float .f64 x47]] G44 fun v48 G49 =>
  (ivTup 2 v48).bind fun c50 =>
  (ivAgg 2 (c50.getD 0 undefI)).bind fun c51 =>
  (ivFloat .f64 (c51.getD 0 undefI)).bind fun x52 =>
  (ivFloat .f64 (c51.getD 1 undefI)).bind fun x53 =>
  (ivBool (c50.getD 1 undefI)).bind fun x54 =>
  bif (!x54) then
  k (.tuple [.bool false, .agg [.float .f64 (0 : Nat), .float .f64 (0 : Nat)]]) G49
  else
  k (.tuple [.bool true, .agg [.float .f64 x52, .float .f64 x53]]) G49
  else
  O fn_span_Sub [.agg [.float .f64 p0_0, .float .f64 p0_3], .agg [.float .f64 p1_0, .float .f64 p1_1]] G2 fun v55 G56 =>
  (ivAgg 2 v55).bind fun c57 =>
  (ivFloat .f64 (c57.getD 0 undefI)).bind fun x58 =>
  (ivFloat .f64 (c57.getD 1 undefI)).bind fun x59 =>
  O fn_span_Div [.agg [.float .f64 x58, .float .f64 x59], .agg [.float .f64 p1_6, .float .f64 p1_7]] G56 fun v60 G61 =>
  (ivAgg 2 v60).bind fun c62 =>
  (ivFloat .f64 (c62.getD 0 undefI)).bind fun x63 =>
  (ivFloat .f64 (c62.getD 1 undefI)).bind fun x64 =>
  O fn_span_Meet [.agg [.float .f64 (0 : Nat), .float .f64 x3], .agg [.float .f64 x63, .float .f64 x64]] G61 fun v65 G66 =>
  (ivTup 2 v65).bind fun c67 =>
  (ivAgg 2 (c67.getD 0 undefI)).bind fun c68 =>
  (ivFloat .f64 (c68.getD 0 undefI)).bind fun x69 =>
  (ivFloat .f64 (c68.getD 1 undefI)).bind fun x70 =>
  (ivBool (c67.getD 1 undefI)).bind fun x71 =>
  bif (!x71) then
  k (.tuple [.bool false, .agg [.float .f64 (0 : Nat), .float .f64 (0 : Nat)]]) G66
  else
  bif ((feq .f64 p1_8 (0 : Nat)) && ((feq .f64 p1_9 (0 : Nat)) && true)) then
  bif (flt .f64 p1_3 p0_1) then
  k (.tuple [.bool false, .agg [.float .f64 (0 : Nat), .float .f64 (0 : Nat)]]) G66
  else
  bif (fgt .f64 p1_2 p0_4) then
  k (.tuple [.bool false, .agg [.float .f64 (0 : Nat), .float .f64 (0 : Nat)]]) G66
  else
  bif ((feq .f64 p1_10 (0 : Nat)) && ((feq .f64 p1_11 (0 : Nat)) && true)) then
  bif (flt .f64 p1_5 p0_2) then
  k (.tuple [.bool false, .agg [.float .f64 (0 : Nat), .float .f64 (0 : Nat)]]) G66
  else
  bif (fgt .f64 p1_4 p0_5) then
  k (.tuple [.bool false, .agg [.float .f64 (0 : Nat), .float .f64 (0 : Nat)]]) G66
  else
  k (.tuple [.bool true, .agg [.float .f64 x69, .float .f64 x70]]) G66
  else
  O fn_span_Sub [.agg [.float .f64 p0_2, .float .f64 p0_5], .agg [.float .f64 p1_4, .float .f64 p1_5]] G66 fun v72 G73 =>
  (ivAgg 2 v72).bind fun c74 =>
  (ivFloat .f64 (c74.getD 0 undefI)).bind fun x75 =>
  (ivFloat .f64 (c74.getD 1 undefI)).bind fun x76 =>
  O fn_span_Div [.agg [.float .f64 x75, .float .f64 x76], .agg [.float .f64 p1_10, .float .f64 p1_11]] G73 fun v77 G78 =>
  (ivAgg 2 v77).bind fun c79 =>
  (ivFloat .f64 (c79.getD 0 undefI)).bind fun x80 =>
  (ivFloat .f64 (c79.getD 1 undefI)).bind fun x81 =>
  O fn_span_Meet [.agg [.float .f64 x69, .float .f64 x70], .agg [.float .f64 x80, .float .f64 x81]] G78 fun v82 G83 =>
  (ivTup 2 v82).bind fun c84 =>
  (ivAgg 2 (c84.getD 0 undefI)).bind fun c85 =>
  (ivFloat .f64 (c85.getD 0 undefI)).bind fun x86 =>
  (ivFloat .f64 (c85.getD 1 undefI)).bind fun x87 =>
  (ivBool (c84.getD 1 undefI)).bind fun x88 =>
  bif (!x88) then
  k (.tuple [.bool false, .agg [.float .f64 (0 : Nat), .float .f64 (0 : Nat)]]) G83
  else
  k (.tuple [.bool true, .agg [.float .f64 x86, .float .f64 x87]]) G83
  else
  O fn_span_Sub [.agg [.float .f64 p0_1, .float .f64 p0_4], .agg [.float .f64 p1_2, .float .f64 p1_3]] G66 fun v89 G90 =>
  (ivAgg 2 v89).bind fun c91 =>
  (ivFloat .f64 (c91.getD 0 undefI)).bind fun x92 =>
  (ivFloat .f64 (c91.getD 1 undefI)).bind fun x93 =>
  O fn_span_Div [.agg [.float .f64 x92, .float .f64 x93], .agg [.float .f64 p1_8, .float .f64 p1_9]] G90 fun v94 G95 =>
  (ivAgg 2 v94).bind fun c96 =>
  (ivFloat .f64 (c96.getD 0 undefI)).bind fun x97 =>
  (ivFloat .f64 (c96.getD 1 undefI)).bind fun x98 =>
  O fn_span_Meet [.agg [.float .f64 x69, .float .f64 x70], .agg [.float .f64 x97, .float .f64 x98]] G95 fun v99 G100 =>
  (ivTup 2 v99).bind fun c101 =>
  (ivAgg 2 (c101.getD 0 undefI)).bind fun c102 =>
  (ivFloat .f64 (c102.getD 0 undefI)).bind fun x103 =>
  (ivFloat .f64 (c102.getD 1 undefI)).bind fun x104 =>
  (ivBool (c101.getD 1 undefI)).bind fun x105 =>
  bif (!x105) then
  k (.tuple [.bool false, .agg [.float .f64 (0 : Nat), .float .f64 (0 : Nat)]]) G100
  else
  bif ((feq .f64 p1_10 (0 : Nat)) && ((feq .f64 p1_11 (0 : Nat)) && true)) then
  bif (flt .f64 p1_5 p0_2) then
  k (.tuple [.bool false, .agg [.float .f64 (0 : Nat), .float .f64 (0 : Nat)]]) G100
  else
  bif (fgt .f64 p1_4 p0_5) then
  k (.tuple [.bool false, .agg [.float .f64 (0 : Nat), .float .f64 (0 : Nat)]]) G100
  else
  k (.tuple [.bool true, .agg [.float .f64 x103, .float .f64 x104]]) G100
  else
  O fn_span_Sub [.agg [.float .f64 p0_2, .float .f64 p0_5], .agg [.float .f64 p1_4, .float .f64 p1_5]] G100 fun v106 G107 =>
  (ivAgg 2 v106).bind fun c108 =>
  (ivFloat .f64 (c108.getD 0 undefI)).bind fun x109 =>
  (ivFloat .f64 (c108.getD 1 undefI)).bind fun x110 =>
  O fn_span_Div [.agg [.float .f64 x109, .float .f64 x110], .agg [.float .f64 p1_10, .float .f64 p1_11]] G107 fun v111 G112 =>
  (ivAgg 2 v111).bind fun c113 =>
  (ivFloat .f64 (c113.getD 0 undefI)).bind fun x114 =>
  (ivFloat .f64 (c113.getD 1 undefI)).bind fun x115 =>
  O fn_span_Meet [.agg [.float .f64 x103, .float .f64 x104], .agg [.float .f64 x114, .float .f64 x115]] G112 fun v116 G117 =>
  (ivTup 2 v116).bind fun c118 =>
  (ivAgg 2 (c118.getD 0 undefI)).bind fun c119 =>
  (ivFloat .f64 (c119.getD 0 undefI)).bind fun x120 =>
  (ivFloat .f64 (c119.getD 1 undefI)).bind fun x121 =>
  (ivBool (c118.getD 1 undefI)).bind fun x122 =>
  bif (!x122) then
  k (.tuple [.bool false, .agg [.float .f64 (0 : Nat), .float .f64 (0 : Nat)]]) G117
  else
  k (.tuple [.bool true, .agg [.float .f64 x120, .float .f64 x121]]) G117 := by kernel_rfl

theorem r_accel_Slab {R : Type} (fuel n p0_0 : Nat) (p0_1 p0_2 : Nat) (p0_3 p0_4 : Nat) (p0_5 p1_0 : Nat) (p1_1 p1_2 : Nat) (p1_3 p1_4 : Nat) (p1_5 p1_6 : Nat) (p1_7 p1_8 : Nat) (p1_9 p1_10 p1_11 : Nat) (G : GH) (k : KV R) :
  runC Tryz.prog lo0 fuel (n + 1) 7 [.agg [.float .f64 p0_0, .float .f64 p0_1, .float .f64 p0_2, .float .f64 p0_3, .float .f64 p0_4, .float .f64 p0_5], .agg [.float .f64 p1_0, .float .f64 p1_1, .float .f64 p1_2, .float .f64 p1_3, .float .f64 p1_4, .float .f64 p1_5, .float .f64 p1_6, .float .f64 p1_7, .float .f64 p1_8, .float .f64 p1_9, .float .f64 p1_10, .float .f64 p1_11]] G k = bodyC Tryz.prog (runC Tryz.prog lo0 fuel n) [2, 3, 5, 6, 8, 9, 10, 777777] fuel Tryz.f7 [.agg [.float .f64 p0_0, .float .f64 p0_1, .float .f64 p0_2, .float .f64 p0_3, .float .f64 p0_4, .float .f64 p0_5], .agg [.float .f64 p1_0, .float .f64 p1_1, .float .f64 p1_2, .float .f64 p1_3, .float .f64 p1_4, .float .f64 p1_5, .float .f64 p1_6, .float .f64 p1_7, .float .f64 p1_8, .float .f64 p1_9, .float .f64 p1_10, .float .f64 p1_11]] G k := run_body Tryz.func7 rfl rfl

/-! ### lantern/lanternref11.Slab -/
theorem e_ref11_Slab {R : Type} (O : Ora R) (fuel p0_0 : Nat) (p0_1 p0_2 : Nat) (p0_3 p0_4 : Nat) (p0_5 p1_0 : Nat) (p1_1 p1_2 : Nat) (p1_3 p1_4 : Nat) (p1_5 p1_6 : Nat) (p1_7 p1_8 : Nat) (p1_9 p1_10 p1_11 : Nat) (G : GH) (k : KV R) :
  bodyC Tryz.prog O [2, 3, 5, 6, 8, 9, 777777] (fuel + 4) Tryz.f8 [.agg [.float .f64 p0_0, .float .f64 p0_1, .float .f64 p0_2, .float .f64 p0_3, .float .f64 p0_4, .float .f64 p0_5], .agg [.float .f64 p1_0, .float .f64 p1_1, .float .f64 p1_2, .float .f64 p1_3, .float .f64 p1_4, .float .f64 p1_5, .float .f64 p1_6, .float .f64 p1_7, .float .f64 p1_8, .float .f64 p1_9, .float .f64 p1_10, .float .f64 p1_11]] G k =
  O fn_ref02_All [] G fun v1 G2 =>
  (ivAgg 2 v1).bind fun c3 =>
  (ivFloat .f64 (c3.getD 0 undefI)).bind fun x4 =>
  (ivFloat .f64 (c3.getD 1 undefI)).bind fun x5 =>
  bif (feq .f64 p1_6 (0 : Nat)) then
  bif (feq .f64 p1_7 (0 : Nat)) then
  bif (flt .f64 p1_1 p0_0) then
  k (.tuple [.bool false, .agg [.float .f64 (0 : Nat), .float .f64 (0 : Nat)]]) G2
  else
  bif (fgt .f64 p1_0 p0_3) then
  k (.tuple [.bool false, .agg [.float .f64 (0 : Nat), .float .f64 (0 : Nat)]]) G2
  else
  bif (feq .f64 p1_8 (0 : Nat)) then
  bif (feq .f64 p1_9 (0 : Nat)) then
  bif (flt .f64 p1_3 p0_1) then
  k (.tuple [.bool false, .agg [.float .f64 (0 : Nat), .float .f64 (0 : Nat)]]) G2
  else
  bif (fgt .f64 p1_2 p0_4) then
  k (.tuple [.bool false, .agg [.float .f64 (0 : Nat), .float .f64 (0 : Nat)]]) G2
  else
  bif (feq .f64 p1_10 (0 : Nat)) then
  bif (feq .f64 p1_11 (0 : Nat)) then
  bif (flt .f64 p1_5 p0_2) then
  k (.tuple [.bool false, .agg [.float .f64 (0 : Nat), .float .f64 (0 : Nat)]]) G2
  else
  bif (fgt .f64 p1_4 p0_5) then
  k (.tuple [.bool false, .agg [.float .f64 (0 : Nat), .float .f64 (0 : Nat)]]) G2
  else
  k (.tuple [.bool true, .agg [.float .f64 (0 : Nat), .float .f64 x5]]) G2
  else
  O fn_ref02_Sub [.agg [.float .f64 p0_2, .float .f64 p0_5], .agg [.float .f64 p1_4, .float .f64 p1_5]] G2 fun v6 G7 =>
  (ivAgg 2 v6).bind fun c8 =>
  (ivFloat .f64 (c8.getD 0 undefI)).bind fun x9 =>
  (ivFloat .f64 (c8.getD 1 undefI)).bind fun x10 =>
  O fn_ref02_Div [.agg [.float .f64 x9, .float .f64 x10], .agg [.float .f64 p1_10, .float .f64 p1_11]] G7 fun v11 G12 =>
  (ivAgg 2 v11).bind fun c13 =>
  (ivFloat .f64 (c13.getD 0 undefI)).bind fun x14 =>
  (ivFloat .f64 (c13.getD 1 undefI)).bind fun x15 =>
  O fn_ref02_Meet [.agg [.float .f64 (0 : Nat), .float .f64 x5], .agg [.float .f64 x14, .float .f64 x15]] G12 fun v16 G17 =>
  (ivTup 2 v16).bind fun c18 =>
  (ivAgg 2 (c18.getD 0 undefI)).bind fun c19 =>
  (ivFloat .f64 (c19.getD 0 undefI)).bind fun x20 =>
  (ivFloat .f64 (c19.getD 1 undefI)).bind fun x21 =>
  (ivBool (c18.getD 1 undefI)).bind fun x22 =>
  bif (!x22) then
  k (.tuple [.bool false, .agg [.float .f64 (0 : Nat), .float .f64 (0 : Nat)]]) G17
  else
  k (.tuple [.bool true, .agg [.float .f64 x20, .float .f64 x21]]) G17
  else
  O fn_ref02_Sub [.agg [.float .f64 p0_2, .float .f64 p0_5], .agg [.float .f64 p1_4, .float .f64 p1_5]] G2 fun v23 G24 =>
  (ivAgg 2 v23).bind fun c25 =>
  (ivFloat .f64 (c25.getD 0 undefI)).bind fun x26 =>
  (ivFloat .f64 (c25.getD 1 undefI)).bind fun x27 =>
  O fn_ref02_Div [.agg [.float .f64 x26, .float .f64 x27], .agg [.float .f64 p1_10, .float .f64 p1_11]] G24 fun v28 G29 =>
  (ivAgg 2 v28).bind fun c30 =>
  (ivFloat .f64 (c30.getD 0 undefI)).bind fun x31 =>
  (ivFloat .f64 (c30.getD 1 undefI)).bind fun x32 =>
  O fn_ref02_Meet [.agg [.float .f64 (0 : Nat), .float .f64 x5], .agg [.float .f64 x31, .float .f64 x32]] G29 fun v33 G34 =>
  (ivTup 2 v33).bind fun c35 =>
  (ivAgg 2 (c35.getD 0 undefI)).bind fun c36 =>
  (ivFloat .f64 (c36.getD 0 undefI)).bind fun x37 =>
  (ivFloat .f64 (c36.getD 1 undefI)).bind fun x38 =>
  (ivBool (c35.getD 1 undefI)).bind fun x39 =>
  bif (!x39) then
  k (.tuple [.bool false, .agg [.float .f64 (0 : Nat), .float .f64 (0 : Nat)]]) G34
  else
  k (.tuple [.bool true, .agg [.float .f64 x37, .float .f64 x38]]) G34
  else
  O fn_ref02_Sub [.agg [.float .f64 p0_1, .float .f64 p0_4], .agg [.float .f64 p1_2, .float .f64 p1_3]] G2 fun v40 G41 =>
  (ivAgg 2 v40).bind fun c42 =>
  (ivFloat .f64 (c42.getD 0 undefI)).bind fun x43 =>
  (ivFloat .f64 (c42.getD 1 undefI)).bind fun x44 =>
  O fn_ref02_Div [.agg [.float .f64 x43, .float .f64 x44], .agg [.float .f64 p1_8, .float .f64 p1_9]] G41 fun v45 G46 =>
  (ivAgg 2 v45).bind fun c47 =>
  (ivFloat .f64 (c47.getD 0 undefI)).bind fun x48 =>
  (ivFloat .f64 (c47.getD 1 undefI)).bind fun x49 =>
  O fn_ref02_Meet [.agg [.float .f64 (0 : Nat), .float .f64 x5], .agg [.float .f64 x48, .float .f64 x49]] G46 fun v50 G51 =>
  (ivTup 2 v50).bind fun c52 =>
  (ivAgg 2 (c52.getD 0 undefI)).bind fun c53 =>
  (ivFloat .f64 (c53.getD 0 undefI)).bind fun x54 =>
  (ivFloat .f64 (c53.getD 1 undefI)).bind fun x55 =>
  (ivBool (c52.getD 1 undefI)).bind fun x56 =>
  bif (!x56) then
  k (.tuple [.bool false, .agg [.float .f64 (0 : Nat), .float .f64 (0 : Nat)]]) G51
  else
  bif (feq .f64 p1_10 (0 : Nat)) then
  bif (feq .f64 p1_11 (0 : Nat)) then
  bif (flt .f64 p1_5 p0_2) then
  k (.tuple [.bool false, .agg [.float .f64 (0 : Nat), .float .f64 (0 : Nat)]]) G51
  else
  bif (fgt .f64 p1_4 p0_5) then
  k (.tuple [.bool false, .agg [.float .f64 (0 : Nat), .float .f64 (0 : Nat)]]) G51
  else
  k (.tuple [.bool true, .agg [.float .f64 x54, .float .f64 x55]]) G51
  else
  O fn_ref02_Sub [.agg [.float .f64 p0_2, .float .f64 p0_5], .agg [.float .f64 p1_4, .float .f64 p1_5]] G51 fun v57 G58 =>
  (ivAgg 2 v57).bind fun c59 =>
  (ivFloat .f64 (c59.getD 0 undefI)).bind fun x60 =>
  (ivFloat .f64 (c59.getD 1 undefI)).bind fun x61 =>
  O fn_ref02_Div [.agg [.float .f64 x60, .float .f64 x61], .agg [.float .f64 p1_10, .float .f64 p1_11]] G58 fun v62 G63 =>
  (ivAgg 2 v62).bind fun c64 =>
  (ivFloat .f64 (c64.getD 0 undefI)).bind fun x65 =>
  (ivFloat .f64 (c64.getD 1 undefI)).bind fun x66 =>
  O fn_ref02_Meet [.agg [.float .f64 x54, .float .f64 x55], .agg [.float .f64 x65, .float .f64 x66]] G63 fun v67 G68 =>
  (ivTup 2 v67).bind fun c69 =>
  (ivAgg 2 (c69.getD 0 undefI)).bind fun c70 =>
  (ivFloat .f64 (c70.getD 0 undefI)).bind fun x71 =>
  (ivFloat .f64 (c70.getD 1 undefI)).bind fun x72 =>
  (ivBool (c69.getD 1 undefI)).bind fun x73 =>
  bif (!x73) then
  k (.tuple [.bool false, .agg [.float .f64 (0 : Nat), .float .f64 (0 : Nat)]]) G68
  else
  k (.tuple [.bool true, .agg [.float .f64 x71, .float .f64 x72]]) G68
  else
  O fn_ref02_Sub [.agg [.float .f64 p0_2, .float .f64 p0_5], .agg [.float .f64 p1_4, .float .f64 p1_5]] G51 fun v74 G75 =>
  (ivAgg 2 v74).bind fun c76 =>
  (ivFloat .f64 (c76.getD 0 undefI)).bind fun x77 =>
  (ivFloat .f64 (c76.getD 1 undefI)).bind fun x78 =>
  O fn_ref02_Div [.agg [.float .f64 x77, .float .f64 x78], .agg [.float .f64 p1_10, .float .f64 p1_11]] G75 fun v79 G80 =>
  (ivAgg 2 v79).bind fun c81 =>
  (ivFloat .f64 (c81.getD 0 undefI)).bind fun x82 =>
  (ivFloat .f64 (c81.getD 1 undefI)).bind fun x83 =>
  O fn_ref02_Meet [.agg [.float .f64 x54, .float .f64 x55], .agg [.float .f64 x82, .float .f64 x83]] G80 fun v84 G85 =>
  (ivTup 2 v84).bind fun c86 =>
  (ivAgg 2 (c86.getD 0 undefI)).bind fun c87 =>
  (ivFloat .f64 (c87.getD 0 undefI)).bind fun x88 =>
  (ivFloat .f64 (c87.getD 1 undefI)).bind fun x89 =>
  (ivBool (c86.getD 1 undefI)).bind fun x90 =>
  bif (!x90) then
  k (.tuple [.bool false, .agg [.float .f64 (0 : Nat), .float .f64 (0 : Nat)]]) G85
  else
  k (.tuple [.bool true, .agg [.float .f64 x88, .float .f64 x89]]) G85
  else
  O fn_ref02_Sub [.agg [.float .f64 p0_1, .float .f64 p0_4], .agg [.float .f64 p1_2, .float .f64 p1_3]] G2 fun v91 G92 =>
  (ivAgg 2 v91).bind fun c93 =>
  (ivFloat .f64 (c93.getD 0 undefI)).bind fun x94 =>
  (ivFloat .f64 (c93.getD 1 undefI)).bind fun x95 =>
  O fn_ref02_Div [.agg [.float .f64 x94, .float .f64 x95], .agg [.float .f64 p1_8, .float .f64 p1_9]] G92 fun v96 G97 =>
  (ivAgg 2 v96).bind fun c98 =>
  (ivFloat .f64 (c98.getD 0 undefI)).bind fun x99 =>
  (ivFloat .f64 (c98.getD 1 undefI)).bind fun x100 =>
  O fn_ref02_Meet [.agg [.float .f64 (0 : Nat), .float .f64 x5], .agg [.float .f64 x99, .float .f64 x100]] G97 fun v101 G102 =>
  (ivTup 2 v101).bind fun c103 =>
  (ivAgg 2 (c103.getD 0 undefI)).bind fun c104 =>
  (ivFloat .f64 (c104.getD 0 undefI)).bind fun x105 =>
  (ivFloat .f64 (c104.getD 1 undefI)).bind fun x106 =>
  (ivBool (c103.getD 1 undefI)).bind fun x107 =>
  bif (!x107) then
  k (.tuple [.bool false, .agg [.float .f64 (0 : Nat), .float .f64 (0 : Nat)]]) G102
  else
  bif (feq .f64 p1_10 (0 : Nat)) then
  bif (feq .f64 p1_11 (0 : Nat)) then
  bif (flt .f64 p1_5 p0_2) then
  k (.tuple [.bool false, .agg [.float .f64 (0 : Nat), .float .f64 (0 : Nat)]]) G102
  else
  bif (fgt .f64 p1_4 p0_5) then
  k (.tuple [.bool false, .agg [.float .f64 (0 : Nat), .float .f64 (0 : Nat)]]) G102
  else
  k (.tuple [.bool true, .agg [.float .f64 x105, .float .f64 x106]]) G102
  else
  O fn_ref02_Sub [.agg [.float .f64 p0_2, .float .f64 p0_5], .agg [.float .f64 p1_4, .float .f64 p1_5]] G102 fun v108 G109 =>
  (ivAgg 2 v108).bind fun c110 =>
  (ivFloat .f64 (c110.getD 0 undefI)).bind fun x111 =>
  (ivFloat .f64 (c110.getD 1 undefI)).bind fun x112 =>
  O fn_ref02_Div [.agg [.float .f64 x111, .float .f64 x112], .agg [.float .f64 p1_10, .float .f64 p1_11]] G109 fun v113 G114 =>
  (ivAgg 2 v113).bind fun c115 =>
  (ivFloat .f64 (c115.getD 0 undefI)).bind fun x116 =>
  (ivFloat .f64 (c115.getD 1 undefI)).bind fun x117 =>
  O fn_ref02_Meet [.agg [.float .f64 x105, .float .f64 x106], .agg [.float .f64 x116, .float .f64 x117]] G114 fun v118 G119 =>
  (ivTup 2 v118).bind fun c120 =>
  (ivAgg 2 (c120.getD 0 undefI)).bind fun c121 =>
  (ivFloat .f64 (c121.getD 0 undefI)).bind fun x122 =>
  (ivFloat .f64 (c121.getD 1 undefI)).bind fun x123 =>
  (ivBool (c120.getD 1 undefI)).bind fun x124 =>
  bif (!x124) then
  k (.tuple [.bool false, .agg [.float .f64 (0 : Nat), .float .f64 (0 : Nat)]]) G119
  else
  k (.tuple [.bool true, .agg [.float .f64 x122, .float .f64 x123]]) G119
  else
  O fn_ref02_Sub [.agg [.float .f64 p0_2, .float .f64 p0_5], .agg [.float .f64 p1_4, .float .f64 p1_5]] G102 fun v125 G126 =>
  (ivAgg 2 v125).bind fun c127 =>
  (ivFloat .f64 (c127.getD 0 undefI)).bind fun x128 =>
  (ivFloat .f64 (c127.getD 1 undefI)).bind fun x129 =>
  O fn_ref02_Div [.agg [.float .f64 x128, .float .f64 x129], .agg [.float .f64 p1_10, .float .f64 p1_11]] G126 fun v130 G131 =>
  (ivAgg 2 v130).bind fun c132 =>
  (ivFloat .f64 (c132.getD 0 undefI)).bind fun x133 =>
  (ivFloat .f64 (c132.getD 1 undefI)).bind fun x134 =>
  O fn_ref02_Meet [.agg [.float .f64 x105, .float .f64 x106], .agg [.float .f64 x133, .float .f64 x134]] G131 fun v135 G136 =>
  (ivTup 2 v135).bind fun c137 =>
  (ivAgg 2 (c137.getD 0 undefI)).bind fun c138 =>
  (ivFloat .f64 (c138.getD 0 undefI)).bind fun x139 =>
  (ivFloat .f64 (c138.getD 1 undefI)).bind fun x140 =>
  (ivBool (c137.getD 1 undefI)).bind fun x141 =>
  bif (!x141) then
  k (.tuple [.bool false, .agg [.float .f64 (0 : Nat), .float .f64 (0 : Nat)]]) G136
  else
  k (.tuple [.bool true, .agg [.float .f64 x139, .float .f64 x140]]) G136
  else
  O fn_ref02_Sub [.agg [.float .f64 p0_0, .float .f64 p0_3], .agg [.float .f64 p1_0, .float .f64 p1_1]] G2 fun v142 G143 =>
  (ivAgg 2 v142).bind fun c144 =>
  (ivFloat .f64 (c144.getD 0 undefI)).bind fun x145 =>
  (ivFloat .f64 (c144.getD 1 undefI)).bind fun x146 =>
  O fn_ref02_Div [.agg [.float .f64 x145, .float .f64 x146], .agg [.float .f64 p1_6, .float .f64 p1_7]] G143 fun v147 G148 =>
  (ivAgg 2 v147).bind fun c149 =>
  (ivFloat .f64 (c149.getD 0 undefI)).bind fun x150 =>
  (ivFloat .f64 (c149.getD 1 undefI)).bind fun x151 =>
  O fn_ref02_Meet [.agg [.float .f64 (0 : Nat), .float .f64 x5], .agg [.float .f64 x150, .float .f64 x151]] G148 fun v152 G153 =>
  (ivTup 2 v152).bind fun c154 =>
  (ivAgg 2 (c154.getD 0 undefI)).bind fun c155 =>
  (ivFloat .f64 (c155.getD 0 undefI)).bind fun x156 =>
  (ivFloat .f64 (c155.getD 1 undefI)).bind fun x157 =>
  (ivBool (c154.getD 1 undefI)).bind fun x158 =>
  bif (!x158) then
  k (.tuple [.bool false, .agg [.float .f64 (0 : Nat), .float .f64 (0 : Nat)]]) G153
  else
  bif (feq .f64 p1_8 (0 : Nat)) then
  bif (feq .f64 p1_9 (0 : Nat)) then
  bif (flt .f64 p1_3 p0_1) then
  k (.tuple [.bool false, .agg [.float .f64 (0 : Nat), .float .f64 (0 : Nat)]]) G153
  else
  bif (fgt .f64 p1_2 p0_4) then
  k (.tuple [.bool false, .agg [.float .f64 (0 : Nat), .float .f64 (0 : Nat)]]) G153
  else
  bif (feq .f64 p1_10 (0 : Nat)) then
  bif (feq .f64 p1_11 (0 : Nat)) then
  bif (flt .f64 p1_5 p0_2) then
  k (.tuple [.bool false, .agg [.float .f64 (0 : Nat), .float .f64 (0 : Nat)]]) G153
  else
  bif (fgt .f64 p1_4 p0_5) then
  k (.tuple [.bool false, .agg [.float .f64 (0 : Nat), .float .f64 (0 : Nat)]]) G153
  else
  k (.tuple [.bool true, .agg [.float .f64 x156, .float .f64 x157]]) G153
  else
  O fn_ref02_Sub [.agg [.float .f64 p0_2, .float .f64 p0_5], .agg [.float .f64 p1_4, .float .f64 p1_5]] G153 fun v159 G160 =>
  (ivAgg 2 v159).bind fun c161 =>
  (ivFloat .f64 (c161.getD 0 undefI)).bind fun x162 =>
  (ivFloat .f64 (c161.getD 1 undefI)).bind fun x163 =>
  O fn_ref02_Div [.agg [.float .f64 x162, .float .f64 x163], .agg [.float .f64 p1_10, .float .f64 p1_11]] G160 fun v164 G165 =>
  (ivAgg 2 v164).bind fun c166 =>
  (ivFloat .f64 (c166.getD 0 undefI)).bind fun x167 =>
  (ivFloat .f64 (c166.getD 1 undefI)).bind fun x168 =>
  O fn_ref02_Meet [.agg [.float .f64 x156, .float .f64 x157], .agg [.float .f64 x167, .float .f64 x168]] G165 fun v169 G170 =>
  (ivTup 2 v169).bind fun c171 =>
  (ivAgg 2 (c171.getD 0 undefI)).bind fun c172 =>
  (ivFloat .f64 (c172.getD 0 undefI)).bind fun x173 =>
  (ivFloat .f64 (c172.getD 1 undefI)).bind fun x174 =>
  (ivBool (c171.getD 1 undefI)).bind fun x175 =>
  bif (!x175) then
  k (.tuple [.bool false, .agg [.float .f64 (0 : Nat), .float .f64 (0 : Nat)]]) G170
  else
  k (.tuple [.bool true, .agg [.float .f64 x173, .float .f64 x174]]) G170
  else
  O fn_ref02_Sub [.agg [.float .f64 p0_2, .float .f64 p0_5], .agg [.float .f64 p1_4, .float .f64 p1_5]] G153 fun v176 G177 =>
  (ivAgg 2 v176).bind fun c178 =>
  (ivFloat .f64 (c178.getD 0 undefI)).bind fun x179 =>
  (ivFloat .f64 (c178.getD 1 undefI)).bind fun x180 =>
  O fn_ref02_Div [.agg [.float .f64 x179, .float .f64 x180], .agg [.float .f64 p1_10, .float .f64 p1_11]] G177 fun v181 G182 =>
  (ivAgg 2 v181).bind fun c183 =>
  (ivFloat .f64 (c183.getD 0 undefI)).bind fun x184 =>
  (ivFloat .f64 (c183.getD 1 undefI)).bind fun x185 =>
  O fn_ref02_Meet [.agg [.float .f64 x156, .float .f64 x157], .agg [.float .f64 x184, .float .f64 x185]] G182 fun v186 G187 =>
  (ivTup 2 v186).bind fun c188 =>
  (ivAgg 2 (c188.getD 0 undefI)).bind fun c189 =>
  (ivFloat .f64 (c189.getD 0 undefI)).bind fun x190 =>
  (ivFloat .f64 (c189.getD 1 undefI)).bind fun x191 =>
  (ivBool (c188.getD 1 undefI)).bind fun x192 =>
  bif (!x192) then
  k (.tuple [.bool false, .agg [.float .f64 (0 : Nat), .float .f64 (0 : Nat)]]) G187
  else
  k (.tuple [.bool true, .agg [.float .f64 x190, .float .f64 x191]]) G187
  else
  O fn_ref02_Sub [.agg [.float .f64 p0_1, .float .f64 p0_4], .agg [.float .f64 p1_2, .float .f64 p1_3]] G153 fun v193 G194 =>
  (ivAgg 2 v193).bind fun c195 =>
  (ivFloat .f64 (c195.getD 0 undefI)).bind fun x196 =>
  (ivFloat .f64 (c195.getD 1 undefI)).bind fun x197 =>
  O fn_ref02_Div [.agg [.float .f64 x196, .float .f64 x197], .agg [.float .f64 p1_8, .float .f64 p1_9]] G194 fun v198 G199 =>
  (ivAgg 2 v198).bind fun c200 =>
  (ivFloat .f64 (c200.getD 0 undefI)).bind fun x201 =>
  (ivFloat .f64 (c200.getD 1 undefI)).bind fun x202 =>
  O fn_ref02_Meet [.agg [.float .f64 x156, .float .f64 x157], .agg [.float .f64 x201, .float .f64 x202]] G199 fun v203 G204 =>
  (ivTup 2 v203).bind fun c205 =>
  (ivAgg 2 (c205.getD 0 undefI)).bind fun c206 =>
  (ivFloat .f64 (c206.getD 0 undefI)).bind fun x207 =>
  (ivFloat .f64 (c206.getD 1 undefI)).bind fun x208 =>
  (ivBool (c205.getD 1 undefI)).bind fun x209 =>
  bif (!x209) then
  k (.tuple [.bool false, .agg [.float .f64 (0 : Nat), .float .f64 (0 : Nat)]]) G204
  else
  bif (feq .f64 p1_10 (0 : Nat)) then
  bif (feq .f64 p1_11 (0 : Nat)) then
  bif (flt .f64 p1_5 p0_2) then
  k (.tuple [.bool false, .agg [.float .f64 (0 : Nat), .float .f64 (0 : Nat)]]) G204
  else
  bif (fgt .f64 p1_4 p0_5) then
  k (.tuple [.bool false, .agg [.float .f64 (0 : Nat), .float .f64 (0 : Nat)]]) G204
  else
  k (.tuple [.bool true, .agg [.float .f64 x207, .float .f64 x208]]) G204
  else
  O fn_ref02_Sub [.agg [.float .f64 p0_2, .float .f64 p0_5], .agg [.float .f64 p1_4, .float .f64 p1_5]] G204 fun v210 G211 =>
  (ivAgg 2 v210).bind fun c212 =>
  (ivFloat .f64 (c212.getD 0 undefI)).bind fun x213 =>
  (ivFloat .f64 (c212.getD 1 undefI)).bind fun x214 =>
  O fn_ref02_Div [.agg [.float .f64 x213, .float .f64 x214], .agg [.float .f64 p1_10, .float .f64 p1_11]] G211 fun v215 G216 =>
  (ivAgg 2 v215).bind fun c217 =>
  (ivFloat .f64 (c217.getD 0 undefI)).bind fun x218 =>
  (ivFloat .f64 (c217.getD 1 undefI)).bind fun x219 =>
  O fn_ref02_Meet [.agg [.float .f64 x207, .float .f64 x208], .agg [.float .f64 x218, .float .f64 x219]] G216 fun v220 G221 =>
  (ivTup 2 v220).bind fun c222 =>
  (ivAgg 2 (c222.getD 0 undefI)).bind fun c223 =>
  (ivFloat .f64 (c223.getD 0 undefI)).bind fun x224 =>
  (ivFloat .f64 (c223.getD 1 undefI)).bind fun x225 =>
  (ivBool (c222.getD 1 undefI)).bind fun x226 =>
  bif (!x226) then
  k (.tuple [.bool false, .agg [.float .f64 (0 : Nat), .float .f64 (0 : Nat)]]) G221
  else
  k (.tuple [.bool true, .agg [.float .f64 x224, .float .f64 x225]]) G221
  else
  O fn_ref02_Sub [.agg [.float .f64 p0_2, .float .f64 p0_5], .agg [.float .f64 p1_4, .float .f64 p1_5]] G204 fun v227 G228 =>
  (ivAgg 2 v227).bind fun c229 =>
  (ivFloat .f64 (c229.getD 0 undefI)).bind fun x230 =>
  (ivFloat .f64 (c229.getD 1 undefI)).bind fun x231 =>
  O fn_ref02_Div [.agg [.float .f64 x230, .float .f64 x231], .agg [.float .f64 p1_10, .float .f64 p1_11]] G228 fun v232 G233 =>
  (ivAgg 2 v232).bind fun c234 =>
  (ivFloat .f64 (c234.getD 0 undefI)).bind fun x235 =>
  (ivFloat .f64 (c234.getD 1 undefI)).bind fun x236 =>
  O fn_ref02_Meet [.agg [.float .f64 x207, .float .f64 x208], .agg [.float .f64 x235, .float .f64 x236]] G233 fun v237 G238 =>
  (ivTup 2 v237).bind fun c239 =>
  (ivAgg 2 (c239.getD 0 undefI)).bind fun c240 =>
  (ivFloat .f64 (c240.getD 0 undefI)).bind fun x241 =>
  (ivFloat .f64 (c240.getD 1 undefI)).bind fun x242 =>
  (ivBool (c239.getD 1 undefI)).bind fun x243 =>
  bif (!x243) then
  k (.tuple [.bool false, .agg [.float .f64 (0 : Nat), .float .f64 (0 : Nat)]]) G238
  else
  k (.tuple [.bool true, .agg [.float .f64 x241, .float .f64 x242]]) G238
  else
  O fn_ref02_Sub [.agg [.float .f64 p0_1, .float .f64 p0_4], .agg [.float .f64 p1_2, .float .f64 p1_3]] G153 fun v244 G245 =>
  (ivAgg 2 v244).bind fun c246 =>
  (ivFloat .f64 (c246.getD 0 undefI)).bind fun x247 =>
  (ivFloat .f64 (c246.getD 1 undefI)).bind fun x248 =>
  O fn_ref02_Div [.agg [.float .f64 x247, .float .f64 x248], .agg [.float .f64 p1_8, .float .f64 p1_9]] G245 fun v249 G250 =>
  (ivAgg 2 v249).bind fun c251 =>
  (ivFloat .f64 (c251.getD 0 undefI)).bind fun x252 =>
  (ivFloat .f64 (c251.getD 1 undefI)).bind fun x253 =>
  O fn_ref02_Meet [.agg [.float .f64 x156, .float .f64 x157], .agg [.float .f64 x252, .float .f64 x253]] G250 fun v254 G255 =>
  (ivTup 2 v254).bind fun c256 =>
  (ivAgg 2 (c256.getD 0 undefI)).bind fun c257 =>
  (ivFloat .f64 (c257.getD 0 undefI)).bind fun x258 =>
  (ivFloat .f64 (c257.getD 1 undefI)).bind fun x259 =>
  (ivBool (c256.getD 1 undefI)).bind fun x260 =>
  bif (!x260) then
  k (.tuple [.bool false, .agg [.float .f64 (0 : Nat), .float .f64 (0 : Nat)]]) G255
  else
  bif (feq .f64 p1_10 (0 : Nat)) then
  bif (feq .f64 p1_11 (0 : Nat)) then
  bif (flt .f64 p1_5 p0_2) then
  k (.tuple [.bool false, .agg [.float .f64 (0 : Nat), .float .f64 (0 : Nat)]]) G255
  else
  bif (fgt .f64 p1_4 p0_5) then
  k (.tuple [.bool false, .agg [.float .f64 (0 : Nat), .float .f64 (0 : Nat)]]) G255
  else
  k (.tuple [.bool true, .agg [.float .f64 x258, .float .f64 x259]]) G255
  else
  O fn_ref02_Sub [.agg [.float .f64 p0_2, .float .f64 p0_5], .agg [.float .f64 p1_4, .float .f64 p1_5]] G255 fun v261 G262 =>
  (ivAgg 2 v261).bind fun c263 =>
  (ivFloat .f64 (c263.getD 0 undefI)).bind fun x264 =>
  (ivFloat .f64 (c263.getD 1 undefI)).bind fun x265 =>
  O fn_ref02_Div [.agg [.float .f64 x264, .float .f64 x265], .agg [.float .f64 p1_10, .float .f64 p1_11]] G262 fun v266 G267 =>
  (ivAgg 2 v266).bind fun c268 =>
  (ivFloat .f64 (c268.getD 0 undefI)).bind fun x269 =>
  (ivFloat .f64 (c268.getD 1 undefI)).bind fun x270 =>
  O fn_ref02_Meet [.agg [.float .f64 x258, .float .f64 x259], .agg [.float .f64 x269, .float .f64 x270]] G267 fun v271 G272 =>
  (ivTup 2 v271).bind fun c273 =>
  (ivAgg 2 (c273.getD 0 undefI)).bind fun c274 =>
  (ivFloat .f64 (c274.getD 0 undefI)).bind fun x275 =>
  (ivFloat .f64 (c274.getD 1 undefI)).bind fun x276 =>
  (ivBool (c273.getD 1 undefI)).bind fun x277 =>
  bif (!x277) then
  k (.tuple [.bool false, .agg [.float .f64 (0 : Nat), .float .f64 (0 : Nat)]]) G272
  else
  k (.tuple [.bool true, .agg [.float .f64 x275, .float .f64 x276]]) G272
  else
  O fn_ref02_Sub [.agg [.float .f64 p0_2, .float .f64 p0_5], .agg [.float .f64 p1_4, .float .f64 p1_5]] G255 fun v278 G279 =>
  (ivAgg 2 v278).bind fun c280 =>
  (ivFloat .f64 (c280.getD 0 undefI)).bind fun x281 =>
  (ivFloat .f64 (c280.getD 1 undefI)).bind fun x282 =>
  O fn_ref02_Div [.agg [.float .f64 x281, .float .f64 x282], .agg [.float .f64 p1_10, .float .f64 p1_11]] G279 fun v283 G284 =>
  (ivAgg 2 v283).bind fun c285 =>
  (ivFloat .f64 (c285.getD 0 undefI)).bind fun x286 =>
  (ivFloat .f64 (c285.getD 1 undefI)).bind fun x287 =>
  O fn_ref02_Meet [.agg [.float .f64 x258, .float .f64 x259], .agg [.float .f64 x286, .float .f64 x287]] G284 fun v288 G289 =>
  (ivTup 2 v288).bind fun c290 =>
  (ivAgg 2 (c290.getD 0 undefI)).bind fun c291 =>
  (ivFloat .f64 (c291.getD 0 undefI)).bind fun x292 =>
  (ivFloat .f64 (c291.getD 1 undefI)).bind fun x293 =>
  (ivBool (c290.getD 1 undefI)).bind fun x294 =>
  bif (!x294) then
  k (.tuple [.bool false, .agg [.float .f64 (0 : Nat), .float .f64 (0 : Nat)]]) G289
  else
  k (.tuple [.bool true, .agg [.float .f64 x292, .float .f64 x293]]) G289
  else
  O fn_ref02_Sub [.agg [.float .f64 p0_0, .float .f64 p0_3], .agg [.float .f64 p1_0, .float .f64 p1_1]] G2 fun v295 G296 =>
  (ivAgg 2 v295).bind fun c297 =>
  (ivFloat .f64 (c297.getD 0 undefI)).bind fun x298 =>
  (ivFloat .f64 (c297.getD 1 undefI)).bind fun x299 =>
  O fn_ref02_Div [.agg [.float .f64 x298, .float .f64 x299], .agg [.float .f64 p1_6, .float .f64 p1_7]] G296 fun v300 G301 =>
  (ivAgg 2 v300).bind fun c302 =>
  (ivFloat .f64 (c302.getD 0 undefI)).bind fun x303 =>
  (ivFloat .f64 (c302.getD 1 undefI)).bind fun x304 =>
  O fn_ref02_Meet [.agg [.float .f64 (0 : Nat), .float .f64 x5], .agg [.float .f64 x303, .float .f64 x304]] G301 fun v305 G306 =>
  (ivTup 2 v305).bind fun c307 =>
  (ivAgg 2 (c307.getD 0 undefI)).bind fun c308 =>
  (ivFloat .f64 (c308.getD 0 undefI)).bind fun x309 =>
  (ivFloat .f64 (c308.getD 1 undefI)).bind fun x310 =>
  (ivBool (c307.getD 1 undefI)).bind fun x311 =>
  bif (!x311) then
  k (.tuple [.bool false, .agg [.float .f64 (0 : Nat), .float .f64 (0 : Nat)]]) G306
  else
  bif (feq .f64 p1_8 (0 : Nat)) then
  bif (feq .f64 p1_9 (0 : Nat)) then
  bif (flt .f64 p1_3 p0_1) then
  k (.tuple [.bool false, .agg [.float .f64 (0 : Nat), .float .f64 (0 : Nat)]]) G306
  else
  bif (fgt .f64 p1_2 p0_4) then
  k (.tuple [.bool false, .agg [.float .f64 (0 : Nat), .float .f64 (0 : Nat)]]) G306
  else
  bif (feq .f64 p1_10 (0 : Nat)) then
  bif (feq .f64 p1_11 (0 : Nat)) then
  bif (flt .f64 p1_5 p0_2) then
  k (.tuple [.bool false, .agg [.float .f64 (0 : Nat), .float .f64 (0 : Nat)]]) G306
  else
  bif (fgt .f64 p1_4 p0_5) then
  k (.tuple [.bool false, .agg [.float .f64 (0 : Nat), .float .f64 (0 : Nat)]]) G306
  else
  k (.tuple [.bool true, .agg [.float .f64 x309, .float .f64 x310]]) G306
  else
  O fn_ref02_Sub [.agg [.float .f64 p0_2, .float .f64 p0_5], .agg [.float .f64 p1_4, .float .f64 p1_5]] G306 fun v312 G313 =>
  (ivAgg 2 v312).bind fun c314 =>
  (ivFloat .f64 (c314.getD 0 undefI)).bind fun x315 =>
  (ivFloat .f64 (c314.getD 1 undefI)).bind fun x316 =>
  O fn_ref02_Div [.agg [.float .f64 x315, .float .f64 x316], .agg [.float .f64 p1_10, .float .f64 p1_11]] G313 fun v317 G318 =>
  (ivAgg 2 v317).bind fun c319 =>
  (ivFloat .f64 (c319.getD 0 undefI)).bind fun x320 =>
  (ivFloat .f64 (c319.getD 1 undefI)).bind fun x321 =>
  O fn_ref02_Meet [.agg [.float .f64 x309, .float .f64 x310], .agg [.float .f64 x320, .float .f64 x321]] G318 fun v322 G323 =>
  (ivTup 2 v322).bind fun c324 =>
  (ivAgg 2 (c324.getD 0 undefI)).bind fun c325 =>
  (ivFloat .f64 (c325.getD 0 undefI)).bind fun x326 =>
  (ivFloat .f64 (c325.getD 1 undefI)).bind fun x327 =>
  (ivBool (c324.getD 1 undefI)).bind fun x328 =>
  bif (!x328) then
  k (.tuple [.bool false, .agg [.float .f64 (0 : Nat), .float .f64 (0 : Nat)]]) G323
  else
  k (.tuple [.bool true, .agg [.float .f64 x326, .float .f64 x327]]) G323
  else
  O fn_ref02_Sub [.agg [.float .f64 p0_2, .float .f64 p0_5], .agg [.float .f64 p1_4, .float .f64 p1_5]] G306 fun v329 G330 =>
  (ivAgg 2 v329).bind fun c331 =>
  (ivFloat .f64 (c331.getD 0 undefI)).bind fun x332 =>
  (ivFloat .f64 (c331.getD 1 undefI)).bind fun x333 =>
  O fn_ref02_Div [.agg [.float .f64 x332, .float .f64 x333], .agg [.float .f64 p1_10, .float .f64 p1_11]] G330 fun v334 G335 =>
  (ivAgg 2 v334).bind fun c336 =>
  (ivFloat .f64 (c336.getD 0 undefI)).bind fun x337 =>
  (ivFloat .f64 (c336.getD 1 undefI)).bind fun x338 =>
  O fn_ref02_Meet [.agg [.float .f64 x309, .float .f64 x310], .agg [.float .f64 x337, .float .f64 x338]] G335 fun v339 G340 =>
  (ivTup 2 v339).bind fun c341 =>
  (ivAgg 2 (c341.getD 0 undefI)).bind fun c342 =>
  (ivFloat .f64 (c342.getD 0 undefI)).bind fun x343 =>
  (ivFloat .f64 (c342.getD 1 undefI)).bind fun x344 =>
  (ivBool (c341.getD 1 undefI)).bind fun x345 =>
  bif (!x345) then
  k (.tuple [.bool false, .agg [.float .f64 (0 : Nat), .float .f64 (0 : Nat)]]) G340
  else
  k (.tuple [.bool true, .agg [.float .f64 x343, .float .f64 x344]]) G340
  else
  O fn_ref02_Sub [.agg [.float .f64 p0_1, .float .f64 p0_4], .agg [.float .f64 p1_2, .float .f64 p1_3]] G306 fun v346 G347 =>
  (ivAgg 2 v346).bind fun c348 =>
  (ivFloat .f64 (c348.getD 0 undefI)).bind fun x349 =>
  (ivFloat .f64 (c348.getD 1 undefI)).bind fun x350 =>
  O fn_ref02_Div [.agg [.float .f64 x349, .float .f64 x350], .agg [.float .f64 p1_8, .float .f64 p1_9]] G347 fun v351 G352 =>
  (ivAgg 2 v351).bind fun c353 =>
  (ivFloat .f64 (c353.getD 0 undefI)).bind fun x354 =>
  (ivFloat .f64 (c353.getD 1 undefI)).bind fun x355 =>
  O fn_ref02_Meet [.agg [.float .f64 x309, .float .f64 x310], .agg [.float .f64 x354, .float .f64 x355]] G352 fun v356 G357 =>
  (ivTup 2 v356).bind fun c358 =>
  (ivAgg 2 (c358.getD 0 undefI)).bind fun c359 =>
  (ivFloat .f64 (c359.getD 0 undefI)).bind fun x360 =>
  (ivFloat .f64 (c359.getD 1 undefI)).bind fun x361 =>
  (ivBool (c358.getD 1 undefI)).bind fun x362 =>
  bif (!x362) then
  k (.tuple [.bool false, .agg [.float .f64 (0 : Nat), .float .f64 (0 : Nat)]]) G357
  else
  bif (feq .f64 p1_10 (0 : Nat)) then
  bif (feq .f64 p1_11 (0 : Nat)) then
  bif (flt .f64 p1_5 p0_2) then
  k (.tuple [.bool false, .agg [.float .f64 (0 : Nat), .float .f64 (0 : Nat)]]) G357
  else
  bif (fgt .f64 p1_4 p0_5) then
  k (.tuple [.bool false, .agg [.float .f64 (0 : Nat), .float .f64 (0 : Nat)]]) G357
  else
  k (.tuple [.bool true, .agg [.float .f64 x360, .float .f64 x361]]) G357
  else
  O fn_ref02_Sub [.agg [.float .f64 p0_2, .float .f64 p0_5], .agg [.float .f64 p1_4, .float .f64 p1_5]] G357 fun v363 G364 =>
  (ivAgg 2 v363).bind fun c365 =>
  (ivFloat .f64 (c365.getD 0 undefI)).bind fun x366 =>
  (ivFloat .f64 (c365.getD 1 undefI)).bind fun x367 =>
  O fn_ref02_Div [.agg [.float .f64 x366, .float .f64 x367], .agg [.float .f64 p1_10, .float .f64 p1_11]] G364 fun v368 G369 =>
  (ivAgg 2 v368).bind fun c370 =>
  (ivFloat .f64 (c370.getD 0 undefI)).bind fun x371 =>
  (ivFloat .f64 (c370.getD 1 undefI)).bind fun x372 =>
  O fn_ref02_Meet [.agg [.float .f64 x360, .float .f64 x361], .agg [.float .f64 x371, .float .f64 x372]] G369 fun v373 G374 =>
  (ivTup 2 v373).bind fun c375 =>
  (ivAgg 2 (c375.getD 0 undefI)).bind fun c376 =>
  (ivFloat .f64 (c376.getD 0 undefI)).bind fun x377 =>
  (ivFloat .f64 (c376.getD 1 undefI)).bind fun x378 =>
  (ivBool (c375.getD 1 undefI)).bind fun x379 =>
  bif (!x379) then
  k (.tuple [.bool false, .agg [.float .f64 (0 : Nat), .float .f64 (0 : Nat)]]) G374
  else
  k (.tuple [.bool true, .agg [.float .f64 x377, .float .f64 x378]]) G374
  else
  O fn_ref02_Sub [.agg [.float .f64 p0_2, .float .f64 p0_5], .agg [.float .f64 p1_4, .float .f64 p1_5]] G357 fun v380 G381 =>
  (ivAgg 2 v380).bind fun c382 =>
  (ivFloat .f64 (c382.getD 0 undefI)).bind fun x383 =>
  (ivFloat .f64 (c382.getD 1 undefI)).bind fun x384 =>
  O fn_ref02_Div [.agg [.float .f64 x383, .float .f64 x384], .agg [.float .f64 p1_10, .float .f64 p1_11]] G381 fun v385 G386 =>
  (ivAgg 2 v385).bind fun c387 =>
  (ivFloat .f64 (c387.getD 0 undefI)).bind fun x388 =>
  (ivFloat .f64 (c387.getD 1 undefI)).bind fun x389 =>
  O fn_ref02_Meet [.agg [.float .f64 x360, .float .f64 x361], .agg [.float .f64 x388, .float .f64 x389]] G386 fun v390 G391 =>
  (ivTup 2 v390).bind fun c392 =>
  (ivAgg 2 (c392.getD 0 undefI)).bind fun c393 =>
  (ivFloat .f64 (c393.getD 0 undefI)).bind fun x394 =>
  (ivFloat .f64 (c393.getD 1 undefI)).bind fun x395 =>
  (ivBool (c392.getD 1 undefI)).bind fun x396 =>
  bif (!x396) then
  k (.tuple [.bool false, .agg [.float .f64 (0 : Nat), .float .f64 (0 : Nat)]]) G391
  else
  k (.tuple [.bool true, .agg [.float .f64 x394, .float .f64 x395]]) G391
  else
  O fn_ref02_Sub [.agg [.float .f64 p0_1, .float .f64 p0_4], .agg [.float .f64 p1_2, .float .f64 p1_3]] G306 fun v397 G398 =>
  (ivAgg 2 v397).bind fun c399 =>
  (ivFloat .f64 (c399.getD 0 undefI)).bind fun x400 =>
  (ivFloat .f64 (c399.getD 1 undefI)).bind fun x401 =>
  O fn_ref02_Div [.agg [.float .f64 x400, .float .f64 x401], .agg [.float .f64 p1_8, .float .f64 p1_9]] G398 fun v402 G403 =>
  (ivAgg 2 v402).bind fun c404 =>
  (ivFloat .f64 (c404.getD 0 undefI)).bind fun x405 =>
  (ivFloat .f64 (c404.getD 1 undefI)).bind fun x406 =>
  O fn_ref02_Meet [.agg [.float .f64 x309, .float .f64 x310], .agg [.float .f64 x405, .float .f64 x406]] G403 fun v407 G408 =>
  (ivTup 2 v407).bind fun c409 =>
  (ivAgg 2 (c409.getD 0 undefI)).bind fun c410 =>
  (ivFloat .f64 (c410.getD 0 undefI)).bind fun x411 =>
  (ivFloat .f64 (c410.getD 1 undefI)).bind fun x412 =>
  (ivBool (c409.getD 1 undefI)).bind fun x413 =>
  bif (!x413) then
  k (.tuple [.bool false, .agg [.float .f64 (0 : Nat), .float .f64 (0 : Nat)]]) G408
  else
  bif (feq .f64 p1_10 (0 : Nat)) then
  bif (feq .f64 p1_11 (0 : Nat)) then
  bif (flt .f64 p1_5 p0_2) then
  k (.tuple [.bool false, .agg [.float .f64 (0 : Nat), .float .f64 (0 : Nat)]]) G408
  else
  bif (fgt .f64 p1_4 p0_5) then
  k (.tuple [.bool false, .agg [.float .f64 (0 : Nat), .float .f64 (0 : Nat)]]) G408
  else
  k (.tuple [.bool true, .agg [.float .f64 x411, .float .f64 x412]]) G408
  else
  O fn_ref02_Sub [.agg [.float .f64 p0_2, .float .f64 p0_5], .agg [.float .f64 p1_4, .float .f64 p1_5]] G408 fun v414 G415 =>
  (ivAgg 2 v414).bind fun c416 =>
  (ivFloat .f64 (c416.getD 0 undefI)).bind fun x417 =>
  (ivFloat .f64 (c416.getD 1 undefI)).bind fun x418 =>
  O fn_ref02_Div [.agg [.float .f64 x417, .float .f64 x418], .agg [.float .f64 p1_10, .float .f64 p1_11]] G415 fun v419 G420 =>
  (ivAgg 2 v419).bind fun c421 =>
  (ivFloat .f64 (c421.getD 0 undefI)).bind fun x422 =>
  (ivFloat .f64 (c421.getD 1 undefI)).bind fun x423 =>
  O fn_ref02_Meet [.agg [.float .f64 x411, .float .f64 x412], .agg [.float .f64 x422, .float .f64 x423]] G420 fun v424 G425 =>
  (ivTup 2 v424).bind fun c426 =>
  (ivAgg 2 (c426.getD 0 undefI)).bind fun c427 =>
  (ivFloat .f64 (c427.getD 0 undefI)).bind fun x428 =>
  (ivFloat .f64 (c427.getD 1 undefI)).bind fun x429 =>
  (ivBool (c426.getD 1 undefI)).bind fun x430 =>
  bif (!x430) then
  k (.tuple [.bool false, .agg [.float .f64 (0 : Nat), .float .f64 (0 : Nat)]]) G425
  else
  k (.tuple [.bool true, .agg [.float .f64 x428, .float .f64 x429]]) G425
  else
  O fn_ref02_Sub [.agg [.float .f64 p0_2, .float .f64 p0_5], .agg [.float .f64 p1_4, .float .f64 p1_5]] G408 fun v431 G432 =>
  (ivAgg 2 v431).bind fun c433 =>
  (ivFloat .f64 (c433.getD 0 undefI)).bind fun x434 =>
  (ivFloat .f64 (c433.getD 1 undefI)).bind fun x435 =>
  O fn_ref02_Div [.agg [.float .f64 x434, .float .f64 x435], .agg [.float .f64 p1_10, .float .f64 p1_11]] G432 fun v436 G437 =>
  (ivAgg 2 v436).bind fun c438 =>
  (ivFloat .f64 (c438.getD 0 undefI)).bind fun x439 =>
  (ivFloat .f64 (c438.getD 1 undefI)).bind fun x440 =>
  O fn_ref02_Meet [.agg [.float .f64 x411, .float .f64 x412], .agg [.float .f64 x439, .float .f64 x440]] G437 fun v441 G442 =>
  (ivTup 2 v441).bind fun c443 =>
  (ivAgg 2 (c443.getD 0 undefI)).bind fun c444 =>
  (ivFloat .f64 (c444.getD 0 undefI)).bind fun x445 =>
  (ivFloat .f64 (c444.getD 1 undefI)).bind fun x446 =>
  (ivBool (c443.getD 1 undefI)).bind fun x447 =>
  bif (!x447) then
  k (.tuple [.bool false, .agg [.float .f64 (0 : Nat), .float .f64 (0 : Nat)]]) G442
  else
  k (.tuple [.bool true, .agg [.float .f64 x445, .float .f64 x446]]) G442 := by kernel_rfl

theorem r_ref11_Slab {R : Type} (fuel n p0_0 : Nat) (p0_1 p0_2 : Nat) (p0_3 p0_4 : Nat) (p0_5 p1_0 : Nat) (p1_1 p1_2 : Nat) (p1_3 p1_4 : Nat) (p1_5 p1_6 : Nat) (p1_7 p1_8 : Nat) (p1_9 p1_10 p1_11 : Nat) (G : GH) (k : KV R) :
  runC Tryz.prog lo0 fuel (n + 1) 8 [.agg [.float .f64 p0_0, .float .f64 p0_1, .float .f64 p0_2, .float .f64 p0_3, .float .f64 p0_4, .float .f64 p0_5], .agg [.float .f64 p1_0, .float .f64 p1_1, .float .f64 p1_2, .float .f64 p1_3, .float .f64 p1_4, .float .f64 p1_5, .float .f64 p1_6, .float .f64 p1_7, .float .f64 p1_8, .float .f64 p1_9, .float .f64 p1_10, .float .f64 p1_11]] G k = bodyC Tryz.prog (runC Tryz.prog lo0 fuel n) [2, 3, 5, 6, 8, 9, 777777] fuel Tryz.f8 [.agg [.float .f64 p0_0, .float .f64 p0_1, .float .f64 p0_2, .float .f64 p0_3, .float .f64 p0_4, .float .f64 p0_5], .agg [.float .f64 p1_0, .float .f64 p1_1, .float .f64 p1_2, .float .f64 p1_3, .float .f64 p1_4, .float .f64 p1_5, .float .f64 p1_6, .float .f64 p1_7, .float .f64 p1_8, .float .f64 p1_9, .float .f64 p1_10, .float .f64 p1_11]] G k := run_body Tryz.func8 rfl rfl

/-! ### lantern/lanternlaw11.AccelSlabs -/
theorem e_law11_AccelSlabs {R : Type} (O : Ora R) (fuel p0_0 : Nat) (p0_1 p0_2 : Nat) (p1_0 p1_1 : Nat) (p1_2 p2_0 : Nat) (p2_1 p2_2 : Nat) (p2_3 p2_4 : Nat) (p2_5 p2_6 : Nat) (p2_7 p2_8 : Nat) (p2_9 p2_10 p2_11 : Nat) (G : GH) (k : KV R) :
  bodyC Tryz.prog O [3, 4, 5, 8, 10, 12, 777777] (fuel + 4) Tryz.f3 [.agg [.float .f64 p0_0, .float .f64 p0_1, .float .f64 p0_2], .agg [.float .f64 p1_0, .float .f64 p1_1, .float .f64 p1_2], .agg [.float .f64 p2_0, .float .f64 p2_1, .float .f64 p2_2, .float .f64 p2_3, .float .f64 p2_4, .float .f64 p2_5, .float .f64 p2_6, .float .f64 p2_7, .float .f64 p2_8, .float .f64 p2_9, .float .f64 p2_10, .float .f64 p2_11]] G k =
  O fn_law11_Awake [] G fun v1 G2 =>
  (ivBool v1).bind fun x3 =>
  bif (!x3) then
  k (.bool false) G2
  else
  O fn_ref10_ValidRay [.agg [.float .f64 p2_0, .float .f64 p2_1, .float .f64 p2_2, .float .f64 p2_3, .float .f64 p2_4, .float .f64 p2_5, .float .f64 p2_6, .float .f64 p2_7, .float .f64 p2_8, .float .f64 p2_9, .float .f64 p2_10, .float .f64 p2_11]] G2 fun v4 G5 =>
  (ivBool v4).bind fun x6 =>
  bif (!x6) then
  k (.bool true) G5
  else
  O fn_ref02_Valid [.agg [.float .f64 p0_0, .float .f64 p1_0]] G5 fun v7 G8 =>
  (ivBool v7).bind fun x9 =>
  bif (!x9) then
  k (.bool true) G8
  else
  O fn_ref02_Valid [.agg [.float .f64 p0_1, .float .f64 p1_1]] G8 fun v10 G11 =>
  (ivBool v10).bind fun x12 =>
  bif (!x12) then
  k (.bool true) G11
  else
  O fn_ref02_Valid [.agg [.float .f64 p0_2, .float .f64 p1_2]] G11 fun v13 G14 =>
  (ivBool v13).bind fun x15 =>
  bif (!x15) then
  k (.bool true) G14
  else
  O fn_accel_Slab [.agg [.float .f64 p0_0, .float .f64 p0_1, .float .f64 p0_2, .float .f64 p1_0, .float .f64 p1_1, .float .f64 p1_2], .agg [.float .f64 p2_0, .float .f64 p2_1, .float .f64 p2_2, .float .f64 p2_3, .float .f64 p2_4, .float .f64 p2_5, .float .f64 p2_6, .float .f64 p2_7, .float .f64 p2_8, .float .f64 p2_9, .float .f64 p2_10, .float .f64 p2_11]] G14 fun v16 G17 =>
  (ivTup 2 v16).bind fun c18 =>
  (ivBool (c18.getD 0 undefI)).bind fun x19 =>
  (ivAgg 2 (c18.getD 1 undefI)).bind fun c20 =>
  (ivFloat .f64 (c20.getD 0 undefI)).bind fun x21 =>
  (ivFloat .f64 (c20.getD 1 undefI)).bind fun x22 =>
  O fn_ref11_Slab [.agg [.float .f64 p0_0, .float .f64 p0_1, .float .f64 p0_2, .float .f64 p1_0, .float .f64 p1_1, .float .f64 p1_2], .agg [.float .f64 p2_0, .float .f64 p2_1, .float .f64 p2_2, .float .f64 p2_3, .float .f64 p2_4, .float .f64 p2_5, .float .f64 p2_6, .float .f64 p2_7, .float .f64 p2_8, .float .f64 p2_9, .float .f64 p2_10, .float .f64 p2_11]] G17 fun v23 G24 =>
  (ivTup 2 v23).bind fun c25 =>
  (ivBool (c25.getD 0 undefI)).bind fun x26 =>
  (ivAgg 2 (c25.getD 1 undefI)).bind fun c27 =>
  (ivFloat .f64 (c27.getD 0 undefI)).bind fun x28 =>
  (ivFloat .f64 (c27.getD 1 undefI)).bind fun x29 =>
  bif (x19 == x26) then
  O fn_ref02_Same [.agg [.float .f64 x21, .float .f64 x22], .agg [.float .f64 x28, .float .f64 x29]] G24 fun v30 G31 =>
  (ivBool v30).bind fun x32 =>
  k (.bool x32) G31
  else
  k (.bool false) G24 := by kernel_rfl

theorem r_law11_AccelSlabs {R : Type} (fuel n p0_0 : Nat) (p0_1 p0_2 : Nat) (p1_0 p1_1 : Nat) (p1_2 p2_0 : Nat) (p2_1 p2_2 : Nat) (p2_3 p2_4 : Nat) (p2_5 p2_6 : Nat) (p2_7 p2_8 : Nat) (p2_9 p2_10 p2_11 : Nat) (G : GH) (k : KV R) :
  runC Tryz.prog lo0 fuel (n + 1) 3 [.agg [.float .f64 p0_0, .float .f64 p0_1, .float .f64 p0_2], .agg [.float .f64 p1_0, .float .f64 p1_1, .float .f64 p1_2], .agg [.float .f64 p2_0, .float .f64 p2_1, .float .f64 p2_2, .float .f64 p2_3, .float .f64 p2_4, .float .f64 p2_5, .float .f64 p2_6, .float .f64 p2_7, .float .f64 p2_8, .float .f64 p2_9, .float .f64 p2_10, .float .f64 p2_11]] G k = bodyC Tryz.prog (runC Tryz.prog lo0 fuel n) [3, 4, 5, 8, 10, 12, 777777] fuel Tryz.f3 [.agg [.float .f64 p0_0, .float .f64 p0_1, .float .f64 p0_2], .agg [.float .f64 p1_0, .float .f64 p1_1, .float .f64 p1_2], .agg [.float .f64 p2_0, .float .f64 p2_1, .float .f64 p2_2, .float .f64 p2_3, .float .f64 p2_4, .float .f64 p2_5, .float .f64 p2_6, .float .f64 p2_7, .float .f64 p2_8, .float .f64 p2_9, .float .f64 p2_10, .float .f64 p2_11]] G k := run_body Tryz.func3 rfl rfl

end Go.LI.Film
