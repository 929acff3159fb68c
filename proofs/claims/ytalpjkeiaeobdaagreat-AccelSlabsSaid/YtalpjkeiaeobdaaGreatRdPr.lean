/- What the interpreter gives for quotients of spans (written by slab.py). -/
import Derived.Test.YtalpjkeiaeobdaaGreatSeatA
namespace Go.LI.Film
open Go.Proofs.YtalpjkeiaeobdaaGreat Go Go.Proofs Go.LI
set_option maxRecDepth 100000
set_option linter.unusedVariables false
set_option linter.unusedSimpArgs false
/-! ### lantern/span.Of -/
theorem e_span_Of {R : Type} (O : Ora R) (fuel p0 : Nat) (G : GH) (k : KV R) :
  bodyC Tryz.prog O [2, 777777] fuel Tryz.f82 [.float .f64 p0] G k =
  O fn_round_Number [.float .f64 p0] G fun v1 G2 =>
  (ivBool v1).bind fun x3 =>
  bif (!x3) then
  O fn_span_All [] G2 fun v4 G5 =>
  (ivAgg 2 v4).bind fun c6 =>
  (ivFloat .f64 (c6.getD 0 undefI)).bind fun x7 =>
  (ivFloat .f64 (c6.getD 1 undefI)).bind fun x8 =>
  k (.agg [.float .f64 x7, .float .f64 x8]) G5
  else
  ((FloatKind.format .f64).add p0 (0 : Nat)).bind fun r9 =>
  ((FloatKind.format .f64).add p0 (0 : Nat)).bind fun r10 =>
  k (.agg [.float .f64 r9, .float .f64 r10]) G2 := by kernel_rfl

theorem r_span_Of {R : Type} (fuel n p0 : Nat) (G : GH) (k : KV R) :
  runC Tryz.prog lo0 fuel (n + 1) 82 [.float .f64 p0] G k = bodyC Tryz.prog (runC Tryz.prog lo0 fuel n) [2, 777777] fuel Tryz.f82 [.float .f64 p0] G k := run_body Tryz.func82 rfl rfl

/-! ### lantern/span.All -/
theorem e_span_All {R : Type} (O : Ora R) (fuel : Nat)  (G : GH) (k : KV R) :
  bodyC Tryz.prog O [0, 777777] fuel Tryz.f36 [] G k =
  O fn_math_Inf [.int .i64 ((-1 : Int))] G fun v1 G2 =>
  (ivFloat .f64 v1).bind fun x3 =>
  O fn_math_Inf [.int .i64 (1 : Int)] G2 fun v4 G5 =>
  (ivFloat .f64 v4).bind fun x6 =>
  k (.agg [.float .f64 x3, .float .f64 x6]) G5 := by kernel_rfl

theorem r_span_All {R : Type} (fuel n : Nat)  (G : GH) (k : KV R) :
  runC Tryz.prog lo0 fuel (n + 1) 36 [] G k = bodyC Tryz.prog (runC Tryz.prog lo0 fuel n) [0, 777777] fuel Tryz.f36 [] G k := run_body Tryz.func36 rfl rfl

/-! ### lantern/span.Wide -/
theorem e_span_Wide {R : Type} (O : Ora R) (fuel p0_0 p0_1 : Nat) (G : GH) (k : KV R) :
  bodyC Tryz.prog O [1, 777777] fuel Tryz.f35 [.agg [.float .f64 p0_0, .float .f64 p0_1]] G k =
  O fn_math_IsInf [.float .f64 p0_0, .int .i64 (0 : Int)] G fun v1 G2 =>
  (ivBool v1).bind fun x3 =>
  bif x3 then
  k (.bool true) G2
  else
  O fn_math_IsInf [.float .f64 p0_1, .int .i64 (0 : Int)] G2 fun v4 G5 =>
  (ivBool v4).bind fun x6 =>
  k (.bool x6) G5 := by kernel_rfl

theorem r_span_Wide {R : Type} (fuel n p0_0 p0_1 : Nat) (G : GH) (k : KV R) :
  runC Tryz.prog lo0 fuel (n + 1) 35 [.agg [.float .f64 p0_0, .float .f64 p0_1]] G k = bodyC Tryz.prog (runC Tryz.prog lo0 fuel n) [1, 777777] fuel Tryz.f35 [.agg [.float .f64 p0_0, .float .f64 p0_1]] G k := run_body Tryz.func35 rfl rfl

/-! ### lantern/span.Div -/
theorem e_span_Div {R : Type} (O : Ora R) (fuel p0_0 : Nat) (p0_1 p1_0 p1_1 : Nat) (G : GH) (k : KV R) :
  bodyC Tryz.prog O [2, 3, 4, 5, 777777] (fuel + 4) Tryz.f18 [.agg [.float .f64 p0_0, .float .f64 p0_1], .agg [.float .f64 p1_0, .float .f64 p1_1]] G k =
  bif (fle .f64 p1_0 (0 : Nat)) then
  bif (fge .f64 p1_1 (0 : Nat)) then
  O fn_span_All [] G fun v1 G2 =>
  (ivAgg 2 v1).bind fun c3 =>
  (ivFloat .f64 (c3.getD 0 undefI)).bind fun x4 =>
  (ivFloat .f64 (c3.getD 1 undefI)).bind fun x5 =>
  k (.agg [.float .f64 x4, .float .f64 x5]) G2
  else
  O fn_span_Wide [.agg [.float .f64 p0_0, .float .f64 p0_1]] G fun v6 G7 =>
  (ivBool v6).bind fun x8 =>
  bif x8 then
  O fn_span_All [] G7 fun v9 G10 =>
  (ivAgg 2 v9).bind fun c11 =>
  (ivFloat .f64 (c11.getD 0 undefI)).bind fun x12 =>
  (ivFloat .f64 (c11.getD 1 undefI)).bind fun x13 =>
  k (.agg [.float .f64 x12, .float .f64 x13]) G10
  else
  O fn_span_Wide [.agg [.float .f64 p1_0, .float .f64 p1_1]] G7 fun v14 G15 =>
  (ivBool v14).bind fun x16 =>
  bif x16 then
  O fn_span_All [] G15 fun v17 G18 =>
  (ivAgg 2 v17).bind fun c19 =>
  (ivFloat .f64 (c19.getD 0 undefI)).bind fun x20 =>
  (ivFloat .f64 (c19.getD 1 undefI)).bind fun x21 =>
  k (.agg [.float .f64 x20, .float .f64 x21]) G18
  else
  O fn_math_Inf [.int .i64 (1 : Int)] G15 fun v22 G23 =>
  (ivFloat .f64 v22).bind fun x24 =>
  O fn_math_Inf [.int .i64 ((-1 : Int))] G23 fun v25 G26 =>
  (ivFloat .f64 v25).bind fun x27 =>
  O fn_round_Div [.float .f64 p0_0, .float .f64 p1_0, .bool true] G26 fun v28 G29 =>
  (ivTup 2 v28).bind fun c30 =>
  (ivFloat .f64 (c30.getD 0 undefI)).bind fun x31 =>
  (ivInt .i64 (c30.getD 1 undefI)).bind fun x32 =>
  O fn_round_Div [.float .f64 p0_0, .float .f64 p1_0, .bool false] G29 fun v33 G34 =>
  (ivTup 2 v33).bind fun c35 =>
  (ivFloat .f64 (c35.getD 0 undefI)).bind fun x36 =>
  (ivInt .i64 (c35.getD 1 undefI)).bind fun x37 =>
  (fmin .f64 x24 x31).bind fun r38 =>
  (fmax .f64 x27 x36).bind fun r39 =>
  O fn_round_Div [.float .f64 p0_0, .float .f64 p1_1, .bool true] G34 fun v40 G41 =>
  (ivTup 2 v40).bind fun c42 =>
  (ivFloat .f64 (c42.getD 0 undefI)).bind fun x43 =>
  (ivInt .i64 (c42.getD 1 undefI)).bind fun x44 =>
  O fn_round_Div [.float .f64 p0_0, .float .f64 p1_1, .bool false] G41 fun v45 G46 =>
  (ivTup 2 v45).bind fun c47 =>
  (ivFloat .f64 (c47.getD 0 undefI)).bind fun x48 =>
  (ivInt .i64 (c47.getD 1 undefI)).bind fun x49 =>
  (fmin .f64 r38 x43).bind fun r50 =>
  (fmax .f64 r39 x48).bind fun r51 =>
  O fn_round_Div [.float .f64 p0_1, .float .f64 p1_0, .bool true] G46 fun v52 G53 =>
  (ivTup 2 v52).bind fun c54 =>
  (ivFloat .f64 (c54.getD 0 undefI)).bind fun x55 =>
  (ivInt .i64 (c54.getD 1 undefI)).bind fun x56 =>
  O fn_round_Div [.float .f64 p0_1, .float .f64 p1_0, .bool false] G53 fun v57 G58 =>
  (ivTup 2 v57).bind fun c59 =>
  (ivFloat .f64 (c59.getD 0 undefI)).bind fun x60 =>
  (ivInt .i64 (c59.getD 1 undefI)).bind fun x61 =>
  (fmin .f64 r50 x55).bind fun r62 =>
  (fmax .f64 r51 x60).bind fun r63 =>
  O fn_round_Div [.float .f64 p0_1, .float .f64 p1_1, .bool true] G58 fun v64 G65 =>
  (ivTup 2 v64).bind fun c66 =>
  (ivFloat .f64 (c66.getD 0 undefI)).bind fun x67 =>
  (ivInt .i64 (c66.getD 1 undefI)).bind fun x68 =>
  O fn_round_Div [.float .f64 p0_1, .float .f64 p1_1, .bool false] G65 fun v69 G70 =>
  (ivTup 2 v69).bind fun c71 =>
  (ivFloat .f64 (c71.getD 0 undefI)).bind fun x72 =>
  (ivInt .i64 (c71.getD 1 undefI)).bind fun x73 =>
  (fmin .f64 r62 x67).bind fun r74 =>
  (fmax .f64 r63 x72).bind fun r75 =>
  k (.agg [.float .f64 r74, .float .f64 r75]) G70
  else
  O fn_span_Wide [.agg [.float .f64 p0_0, .float .f64 p0_1]] G fun v76 G77 =>
  (ivBool v76).bind fun x78 =>
  bif x78 then
  O fn_span_All [] G77 fun v79 G80 =>
  (ivAgg 2 v79).bind fun c81 =>
  (ivFloat .f64 (c81.getD 0 undefI)).bind fun x82 =>
  (ivFloat .f64 (c81.getD 1 undefI)).bind fun x83 =>
  k (.agg [.float .f64 x82, .float .f64 x83]) G80
  else
  O fn_span_Wide [.agg [.float .f64 p1_0, .float .f64 p1_1]] G77 fun v84 G85 =>
  (ivBool v84).bind fun x86 =>
  bif x86 then
  O fn_span_All [] G85 fun v87 G88 =>
  (ivAgg 2 v87).bind fun c89 =>
  (ivFloat .f64 (c89.getD 0 undefI)).bind fun x90 =>
  (ivFloat .f64 (c89.getD 1 undefI)).bind fun x91 =>
  k (.agg [.float .f64 x90, .float .f64 x91]) G88
  else
  O fn_math_Inf [.int .i64 (1 : Int)] G85 fun v92 G93 =>
  (ivFloat .f64 v92).bind fun x94 =>
  O fn_math_Inf [.int .i64 ((-1 : Int))] G93 fun v95 G96 =>
  (ivFloat .f64 v95).bind fun x97 =>
  O fn_round_Div [.float .f64 p0_0, .float .f64 p1_0, .bool true] G96 fun v98 G99 =>
  (ivTup 2 v98).bind fun c100 =>
  (ivFloat .f64 (c100.getD 0 undefI)).bind fun x101 =>
  (ivInt .i64 (c100.getD 1 undefI)).bind fun x102 =>
  O fn_round_Div [.float .f64 p0_0, .float .f64 p1_0, .bool false] G99 fun v103 G104 =>
  (ivTup 2 v103).bind fun c105 =>
  (ivFloat .f64 (c105.getD 0 undefI)).bind fun x106 =>
  (ivInt .i64 (c105.getD 1 undefI)).bind fun x107 =>
  (fmin .f64 x94 x101).bind fun r108 =>
  (fmax .f64 x97 x106).bind fun r109 =>
  O fn_round_Div [.float .f64 p0_0, .float .f64 p1_1, .bool true] G104 fun v110 G111 =>
  (ivTup 2 v110).bind fun c112 =>
  (ivFloat .f64 (c112.getD 0 undefI)).bind fun x113 =>
  (ivInt .i64 (c112.getD 1 undefI)).bind fun x114 =>
  O fn_round_Div [.float .f64 p0_0, .float .f64 p1_1, .bool false] G111 fun v115 G116 =>
  (ivTup 2 v115).bind fun c117 =>
  (ivFloat .f64 (c117.getD 0 undefI)).bind fun x118 =>
  (ivInt .i64 (c117.getD 1 undefI)).bind fun x119 =>
  (fmin .f64 r108 x113).bind fun r120 =>
  (fmax .f64 r109 x118).bind fun r121 =>
  O fn_round_Div [.float .f64 p0_1, .float .f64 p1_0, .bool true] G116 fun v122 G123 =>
  (ivTup 2 v122).bind fun c124 =>
  (ivFloat .f64 (c124.getD 0 undefI)).bind fun x125 =>
  (ivInt .i64 (c124.getD 1 undefI)).bind fun x126 =>
  O fn_round_Div [.float .f64 p0_1, .float .f64 p1_0, .bool false] G123 fun v127 G128 =>
  (ivTup 2 v127).bind fun c129 =>
  (ivFloat .f64 (c129.getD 0 undefI)).bind fun x130 =>
  (ivInt .i64 (c129.getD 1 undefI)).bind fun x131 =>
  (fmin .f64 r120 x125).bind fun r132 =>
  (fmax .f64 r121 x130).bind fun r133 =>
  O fn_round_Div [.float .f64 p0_1, .float .f64 p1_1, .bool true] G128 fun v134 G135 =>
  (ivTup 2 v134).bind fun c136 =>
  (ivFloat .f64 (c136.getD 0 undefI)).bind fun x137 =>
  (ivInt .i64 (c136.getD 1 undefI)).bind fun x138 =>
  O fn_round_Div [.float .f64 p0_1, .float .f64 p1_1, .bool false] G135 fun v139 G140 =>
  (ivTup 2 v139).bind fun c141 =>
  (ivFloat .f64 (c141.getD 0 undefI)).bind fun x142 =>
  (ivInt .i64 (c141.getD 1 undefI)).bind fun x143 =>
  (fmin .f64 r132 x137).bind fun r144 =>
  (fmax .f64 r133 x142).bind fun r145 =>
  k (.agg [.float .f64 r144, .float .f64 r145]) G140 := by kernel_rfl

theorem r_span_Div {R : Type} (fuel n p0_0 : Nat) (p0_1 p1_0 p1_1 : Nat) (G : GH) (k : KV R) :
  runC Tryz.prog lo0 fuel (n + 1) 18 [.agg [.float .f64 p0_0, .float .f64 p0_1], .agg [.float .f64 p1_0, .float .f64 p1_1]] G k = bodyC Tryz.prog (runC Tryz.prog lo0 fuel n) [2, 3, 4, 5, 777777] fuel Tryz.f18 [.agg [.float .f64 p0_0, .float .f64 p0_1], .agg [.float .f64 p1_0, .float .f64 p1_1]] G k := run_body Tryz.func18 rfl rfl

/-! ### lantern/lanternref02.Of -/
theorem e_ref02_Of {R : Type} (O : Ora R) (fuel p0 : Nat) (G : GH) (k : KV R) :
  bodyC Tryz.prog O [2, 777777] fuel Tryz.f46 [.float .f64 p0] G k =
  O fn_ref01_Number [.float .f64 p0] G fun v1 G2 =>
  (ivBool v1).bind fun x3 =>
  bif (!x3) then
  O fn_ref02_All [] G2 fun v4 G5 =>
  (ivAgg 2 v4).bind fun c6 =>
  (ivFloat .f64 (c6.getD 0 undefI)).bind fun x7 =>
  (ivFloat .f64 (c6.getD 1 undefI)).bind fun x8 =>
  k (.agg [.float .f64 x7, .float .f64 x8]) G5
  else
  O fn_ref01_Zeroed [.float .f64 p0] G2 fun v9 G10 =>
  (ivFloat .f64 v9).bind fun x11 =>
  O fn_ref01_Zeroed [.float .f64 p0] G10 fun v12 G13 =>
  (ivFloat .f64 v12).bind fun x14 =>
  k (.agg [.float .f64 x11, .float .f64 x14]) G13 := by kernel_rfl

theorem r_ref02_Of {R : Type} (fuel n p0 : Nat) (G : GH) (k : KV R) :
  runC Tryz.prog lo0 fuel (n + 1) 46 [.float .f64 p0] G k = bodyC Tryz.prog (runC Tryz.prog lo0 fuel n) [2, 777777] fuel Tryz.f46 [.float .f64 p0] G k := run_body Tryz.func46 rfl rfl

/-! ### lantern/lanternref02.All -/
theorem e_ref02_All {R : Type} (O : Ora R) (fuel : Nat)  (G : GH) (k : KV R) :
  bodyC Tryz.prog O [0, 777777] fuel Tryz.f21 [] G k =
  O fn_ref01_Inf [] G fun v1 G2 =>
  (ivFloat .f64 v1).bind fun x3 =>
  O fn_ref01_Inf [] G2 fun v4 G5 =>
  (ivFloat .f64 v4).bind fun x6 =>
  k (.agg [.float .f64 (Op.negFloat .f64 x3), .float .f64 x6]) G5 := by kernel_rfl

theorem r_ref02_All {R : Type} (fuel n : Nat)  (G : GH) (k : KV R) :
  runC Tryz.prog lo0 fuel (n + 1) 21 [] G k = bodyC Tryz.prog (runC Tryz.prog lo0 fuel n) [0, 777777] fuel Tryz.f21 [] G k := run_body Tryz.func21 rfl rfl

/-! ### lantern/lanternref02.Wide -/
theorem e_ref02_Wide {R : Type} (O : Ora R) (fuel p0_0 p0_1 : Nat) (G : GH) (k : KV R) :
  bodyC Tryz.prog O [1, 777777] fuel Tryz.f42 [.agg [.float .f64 p0_0, .float .f64 p0_1]] G k =
  O fn_ref01_Number [.float .f64 p0_0] G fun v1 G2 =>
  (ivBool v1).bind fun x3 =>
  bif (!x3) then
  k (.bool true) G2
  else
  O fn_ref01_Number [.float .f64 p0_1] G2 fun v4 G5 =>
  (ivBool v4).bind fun x6 =>
  k (.bool (!x6)) G5 := by kernel_rfl

theorem r_ref02_Wide {R : Type} (fuel n p0_0 p0_1 : Nat) (G : GH) (k : KV R) :
  runC Tryz.prog lo0 fuel (n + 1) 42 [.agg [.float .f64 p0_0, .float .f64 p0_1]] G k = bodyC Tryz.prog (runC Tryz.prog lo0 fuel n) [1, 777777] fuel Tryz.f42 [.agg [.float .f64 p0_0, .float .f64 p0_1]] G k := run_body Tryz.func42 rfl rfl

/-! ### lantern/lanternref02.Div -/
def u_ref02_Div_0 {R : Type} (O : Ora R) (KN : Bool → Nat → Nat → Nat → Nat → Nat → Nat → GH → Option R) (b0_0 b0_1 : Nat) (b1_0 b1_1 : Nat) (b2_0 b2_1 : Nat) (G : GH) : Option R :=
  bif (fle .f64 b1_0 (0 : Nat)) then
  bif (fge .f64 b1_1 (0 : Nat)) then
  KN true b0_0 b0_1 b1_0 b1_1 b2_0 b2_1 G
  else
  O fn_ref02_Wide [.agg [.float .f64 b0_0, .float .f64 b0_1]] G fun v1 G2 =>
  (ivBool v1).bind fun x3 =>
  bif x3 then
  KN true b0_0 b0_1 b1_0 b1_1 b2_0 b2_1 G2
  else
  O fn_ref02_Wide [.agg [.float .f64 b1_0, .float .f64 b1_1]] G2 fun v4 G5 =>
  (ivBool v4).bind fun x6 =>
  KN x6 b0_0 b0_1 b1_0 b1_1 b2_0 b2_1 G5
  else
  O fn_ref02_Wide [.agg [.float .f64 b0_0, .float .f64 b0_1]] G fun v7 G8 =>
  (ivBool v7).bind fun x9 =>
  bif x9 then
  KN true b0_0 b0_1 b1_0 b1_1 b2_0 b2_1 G8
  else
  O fn_ref02_Wide [.agg [.float .f64 b1_0, .float .f64 b1_1]] G8 fun v10 G11 =>
  (ivBool v10).bind fun x12 =>
  KN x12 b0_0 b0_1 b1_0 b1_1 b2_0 b2_1 G11

def l_ref02_Div_0 {R : Type} (O : Ora R) (KN : Bool → Nat → Nat → Nat → Nat → Nat → Nat → GH → Option R) : Nat → Nat → Nat → Nat → Nat → Nat → GH → Option R := fun b0_0 b0_1 b1_0 b1_1 b2_0 b2_1 G => u_ref02_Div_0 O KN b0_0 b0_1 b1_0 b1_1 b2_0 b2_1 G

theorem u_ref02_Div_0_raw {R : Type} (O : Ora R) (fuel b0_0 : Nat) (b0_1 b1_0 : Nat) (b1_1 b2_0 b2_1 : Nat) (G : GH) (k : KE R) :
  loopD Tryz.prog O lo23 fuel (nav (Tryz.f23.body.getD .skip) [1, 0, 0]) 11 (mkE 91 [(2, .loc 0 0), (3, .loc 1 0), (4, .loc 2 0)]) [[.float .f64 b0_0, .float .f64 b0_1], [.float .f64 b1_0, .float .f64 b1_1], [.float .f64 b2_0, .float .f64 b2_1]] G k =
  u_ref02_Div_0 O (fun s29 b0_0 b0_1 b1_0 b1_1 b2_0 b2_1 G => k .normal (mkE 91 [(2, .loc 0 0), (3, .loc 1 0), (4, .loc 2 0), (29, .bool s29)]) [[.float .f64 b0_0, .float .f64 b0_1], [.float .f64 b1_0, .float .f64 b1_1], [.float .f64 b2_0, .float .f64 b2_1]] G) b0_0 b0_1 b1_0 b1_1 b2_0 b2_1 G := by kernel_rfl

theorem l_ref02_Div_0_eq {R : Type} (O : Ora R) (fuel : Nat) (k : KE R) : ∀ (b0_0 b0_1 : Nat) (b1_0 b1_1 : Nat) (b2_0 b2_1 : Nat) (G : GH),
  loopD Tryz.prog O lo23 fuel (nav (Tryz.f23.body.getD .skip) [1, 0, 0]) 11 (mkE 91 [(2, .loc 0 0), (3, .loc 1 0), (4, .loc 2 0)]) [[.float .f64 b0_0, .float .f64 b0_1], [.float .f64 b1_0, .float .f64 b1_1], [.float .f64 b2_0, .float .f64 b2_1]] G k = l_ref02_Div_0 O (fun s29 b0_0 b0_1 b1_0 b1_1 b2_0 b2_1 G => k .normal (mkE 91 [(2, .loc 0 0), (3, .loc 1 0), (4, .loc 2 0), (29, .bool s29)]) [[.float .f64 b0_0, .float .f64 b0_1], [.float .f64 b1_0, .float .f64 b1_1], [.float .f64 b2_0, .float .f64 b2_1]] G) b0_0 b0_1 b1_0 b1_1 b2_0 b2_1 G := by
  intros
  rw [u_ref02_Div_0_raw]
  simp only [l_ref02_Div_0]

def u_ref02_Div_3 {R : Type} (O : Ora R) (KN : Nat → Nat → OG → Nat → OG → Nat → Int → Nat → Nat → Nat → Nat → Nat → Nat → Nat → GH → Option R) (s5 s6 : Nat) (s7a : OG) (s7n : Nat) (s8a : OG) (s8n : Nat) (s9 : Int) (s10 s12 : Nat) (b0_0 b0_1 : Nat) (b1_0 b1_1 : Nat) (b2_0 b2_1 : Nat) (G : GH) : Option R :=
  bif (flt .f64 s10 s5) then
  KN s10 s6 s7a s7n s8a s8n s9 s12 b0_0 b0_1 b1_0 b1_1 b2_0 b2_1 G
  else
  KN s5 s6 s7a s7n s8a s8n s9 s12 b0_0 b0_1 b1_0 b1_1 b2_0 b2_1 G

def l_ref02_Div_3 {R : Type} (O : Ora R) (KN : Nat → Nat → OG → Nat → OG → Nat → Int → Nat → Nat → Nat → Nat → Nat → Nat → Nat → GH → Option R) : Nat → Nat → OG → Nat → OG → Nat → Int → Nat → Nat → Nat → Nat → Nat → Nat → Nat → Nat → GH → Option R := fun s5 s6 s7a s7n s8a s8n s9 s10 s12 b0_0 b0_1 b1_0 b1_1 b2_0 b2_1 G => u_ref02_Div_3 O KN s5 s6 s7a s7n s8a s8n s9 s10 s12 b0_0 b0_1 b1_0 b1_1 b2_0 b2_1 G

theorem u_ref02_Div_3_raw {R : Type} (O : Ora R) (fuel s5 s6 : Nat) (s7a : OG) (s7n : Nat) (s8a : OG) (s8n : Nat) (s9 : Int) (s10 s12 : Nat) (b0_0 b0_1 : Nat) (b1_0 b1_1 : Nat) (b2_0 b2_1 : Nat) (G : GH) (k : KE R) :
  loopD Tryz.prog O lo23 fuel (nav (Tryz.f23.body.getD .skip) [1, 1, 1, 1, 1, 0, 1, 0, 0, 1, 0, 0, 1, 1, 0]) 55 (mkE 91 [(4, .loc 2 0), (5, .float .f64 s5), (6, .float .f64 s6), (7, .slice s7a s7n), (8, .slice s8a s8n), (9, .int .i64 s9), (10, .float .f64 s10), (12, .float .f64 s12)]) [[.float .f64 b0_0, .float .f64 b0_1], [.float .f64 b1_0, .float .f64 b1_1], [.float .f64 b2_0, .float .f64 b2_1]] G k =
  u_ref02_Div_3 O (fun s5 s6 s7a s7n s8a s8n s9 s12 b0_0 b0_1 b1_0 b1_1 b2_0 b2_1 G => k .normal (mkE 91 [(4, .loc 2 0), (5, .float .f64 s5), (6, .float .f64 s6), (7, .slice s7a s7n), (8, .slice s8a s8n), (9, .int .i64 s9), (12, .float .f64 s12)]) [[.float .f64 b0_0, .float .f64 b0_1], [.float .f64 b1_0, .float .f64 b1_1], [.float .f64 b2_0, .float .f64 b2_1]] G) s5 s6 s7a s7n s8a s8n s9 s10 s12 b0_0 b0_1 b1_0 b1_1 b2_0 b2_1 G := by kernel_rfl

theorem l_ref02_Div_3_eq {R : Type} (O : Ora R) (fuel : Nat) (k : KE R) : ∀ (s5 s6 : Nat) (s7a : OG) (s7n : Nat) (s8a : OG) (s8n : Nat) (s9 : Int) (s10 s12 : Nat) (b0_0 b0_1 : Nat) (b1_0 b1_1 : Nat) (b2_0 b2_1 : Nat) (G : GH),
  loopD Tryz.prog O lo23 fuel (nav (Tryz.f23.body.getD .skip) [1, 1, 1, 1, 1, 0, 1, 0, 0, 1, 0, 0, 1, 1, 0]) 55 (mkE 91 [(4, .loc 2 0), (5, .float .f64 s5), (6, .float .f64 s6), (7, .slice s7a s7n), (8, .slice s8a s8n), (9, .int .i64 s9), (10, .float .f64 s10), (12, .float .f64 s12)]) [[.float .f64 b0_0, .float .f64 b0_1], [.float .f64 b1_0, .float .f64 b1_1], [.float .f64 b2_0, .float .f64 b2_1]] G k = l_ref02_Div_3 O (fun s5 s6 s7a s7n s8a s8n s9 s12 b0_0 b0_1 b1_0 b1_1 b2_0 b2_1 G => k .normal (mkE 91 [(4, .loc 2 0), (5, .float .f64 s5), (6, .float .f64 s6), (7, .slice s7a s7n), (8, .slice s8a s8n), (9, .int .i64 s9), (12, .float .f64 s12)]) [[.float .f64 b0_0, .float .f64 b0_1], [.float .f64 b1_0, .float .f64 b1_1], [.float .f64 b2_0, .float .f64 b2_1]] G) s5 s6 s7a s7n s8a s8n s9 s10 s12 b0_0 b0_1 b1_0 b1_1 b2_0 b2_1 G := by
  intros
  rw [u_ref02_Div_3_raw]
  simp only [l_ref02_Div_3]

def u_ref02_Div_2 {R : Type} (O : Ora R) (KN : Nat → Nat → OG → Nat → OG → Nat → Int → Nat → Nat → Nat → Nat → Nat → Nat → GH → Option R) (L3 : Nat → Nat → OG → Nat → OG → Nat → Int → Nat → Nat → Nat → Nat → Nat → Nat → Nat → Nat → GH → Option R) (s5 s6 : Nat) (s7a : OG) (s7n : Nat) (s8a : OG) (s8n : Nat) (s9 : Int) (b0_0 b0_1 : Nat) (b1_0 b1_1 : Nat) (b2_0 b2_1 : Nat) (G : GH) : Option R :=
  (idx? s7a s7n s9 1).bind fun a1 =>
  (ldFloat G .f64 a1).bind fun x2 =>
  (idx? s8a s8n s9 1).bind fun a3 =>
  (ldFloat G .f64 a3).bind fun x4 =>
  O fn_ref01_Div [.float .f64 x2, .float .f64 x4, .bool true] G fun v5 G6 =>
  (ivTup 2 v5).bind fun c7 =>
  (ivFloat .f64 (c7.getD 0 undefI)).bind fun x8 =>
  (ivInt .i64 (c7.getD 1 undefI)).bind fun x9 =>
  (idx? s7a s7n s9 1).bind fun a10 =>
  (ldFloat G6 .f64 a10).bind fun x11 =>
  (idx? s8a s8n s9 1).bind fun a12 =>
  (ldFloat G6 .f64 a12).bind fun x13 =>
  O fn_ref01_Div [.float .f64 x11, .float .f64 x13, .bool false] G6 fun v14 G15 =>
  (ivTup 2 v14).bind fun c16 =>
  (ivFloat .f64 (c16.getD 0 undefI)).bind fun x17 =>
  (ivInt .i64 (c16.getD 1 undefI)).bind fun x18 =>
  L3 s5 s6 s7a s7n s8a s8n s9 x8 x17 b0_0 b0_1 b1_0 b1_1 b2_0 b2_1 G15

def a_ref02_Div_3N {R : Type} (O : Ora R) (KN : Nat → Nat → OG → Nat → OG → Nat → Int → Nat → Nat → Nat → Nat → Nat → Nat → GH → Option R) (s5 s6 : Nat) (s7a : OG) (s7n : Nat) (s8a : OG) (s8n : Nat) (s9 : Int) (s12 b0_0 : Nat) (b0_1 b1_0 : Nat) (b1_1 b2_0 b2_1 : Nat) (G : GH) : Option R :=
  bif (fgt .f64 s12 s6) then
  KN s5 s12 s7a s7n s8a s8n s9 b0_0 b0_1 b1_0 b1_1 b2_0 b2_1 G
  else
  KN s5 s6 s7a s7n s8a s8n s9 b0_0 b0_1 b1_0 b1_1 b2_0 b2_1 G

def L_ref02_Div_3 {R : Type} (O : Ora R) (fuel : Nat) (KN : Nat → Nat → OG → Nat → OG → Nat → Int → Nat → Nat → Nat → Nat → Nat → Nat → GH → Option R) : Nat → Nat → OG → Nat → OG → Nat → Int → Nat → Nat → Nat → Nat → Nat → Nat → Nat → Nat → GH → Option R := fun s5 s6 s7a s7n s8a s8n s9 s10 s12 b0_0 b0_1 b1_0 b1_1 b2_0 b2_1 G =>
  stepN fuel (l_ref02_Div_3 O (a_ref02_Div_3N O KN) s5 s6 s7a s7n s8a s8n s9 s10 s12 b0_0 b0_1 b1_0 b1_1 b2_0 b2_1 G)

theorem a_ref02_Div_3N_raw {R : Type} (O : Ora R) (fuel s5 s6 : Nat) (s7a : OG) (s7n : Nat) (s8a : OG) (s8n : Nat) (s9 : Int) (s12 b0_0 : Nat) (b0_1 b1_0 : Nat) (b1_1 b2_0 b2_1 : Nat) (G : GH) (k : KE R) :
  contC Tryz.prog O lo23 fuel (nav (Tryz.f23.body.getD .skip) [1, 1, 1, 1, 1, 0, 1, 0, 0, 1, 0]) [0, 1, 1, 0] (kpD lo23 35 3 k) .normal (mkE 91 [(4, .loc 2 0), (5, .float .f64 s5), (6, .float .f64 s6), (7, .slice s7a s7n), (8, .slice s8a s8n), (9, .int .i64 s9), (12, .float .f64 s12)]) [[.float .f64 b0_0, .float .f64 b0_1], [.float .f64 b1_0, .float .f64 b1_1], [.float .f64 b2_0, .float .f64 b2_1]] G =
  a_ref02_Div_3N O (fun s5 s6 s7a s7n s8a s8n s9 b0_0 b0_1 b1_0 b1_1 b2_0 b2_1 G => k .normal (mkE 91 [(4, .loc 2 0), (5, .float .f64 s5), (6, .float .f64 s6), (7, .slice s7a s7n), (8, .slice s8a s8n), (9, .int .i64 s9)]) [[.float .f64 b0_0, .float .f64 b0_1], [.float .f64 b1_0, .float .f64 b1_1], [.float .f64 b2_0, .float .f64 b2_1]] G) s5 s6 s7a s7n s8a s8n s9 s12 b0_0 b0_1 b1_0 b1_1 b2_0 b2_1 G := by kernel_rfl

theorem L_ref02_Div_3_eq {R : Type} (O : Ora R) (fuel : Nat) (k : KE R) :
  (fun (s5 s6 : Nat) (s7a : OG) (s7n : Nat) (s8a : OG) (s8n : Nat) (s9 : Int) (s10 s12 : Nat) (b0_0 b0_1 : Nat) (b1_0 b1_1 : Nat) (b2_0 b2_1 : Nat) (G : GH) => stepN fuel (loopD Tryz.prog O lo23 fuel (nav (Tryz.f23.body.getD .skip) [1, 1, 1, 1, 1, 0, 1, 0, 0, 1, 0, 0, 1, 1, 0]) 55 (mkE 91 [(4, .loc 2 0), (5, .float .f64 s5), (6, .float .f64 s6), (7, .slice s7a s7n), (8, .slice s8a s8n), (9, .int .i64 s9), (10, .float .f64 s10), (12, .float .f64 s12)]) [[.float .f64 b0_0, .float .f64 b0_1], [.float .f64 b1_0, .float .f64 b1_1], [.float .f64 b2_0, .float .f64 b2_1]] G (contC Tryz.prog O lo23 fuel (nav (Tryz.f23.body.getD .skip) [1, 1, 1, 1, 1, 0, 1, 0, 0, 1, 0]) [0, 1, 1, 0] (kpD lo23 35 3 k)))) = L_ref02_Div_3 O fuel (fun (s5 s6 : Nat) (s7a : OG) (s7n : Nat) (s8a : OG) (s8n : Nat) (s9 : Int) (b0_0 b0_1 : Nat) (b1_0 b1_1 : Nat) (b2_0 b2_1 : Nat) (G : GH) => k .normal (mkE 91 [(4, .loc 2 0), (5, .float .f64 s5), (6, .float .f64 s6), (7, .slice s7a s7n), (8, .slice s8a s8n), (9, .int .i64 s9)]) [[.float .f64 b0_0, .float .f64 b0_1], [.float .f64 b1_0, .float .f64 b1_1], [.float .f64 b2_0, .float .f64 b2_1]] G) := by
  funext s5 s6 s7a s7n s8a s8n s9 s10 s12 b0_0 b0_1 b1_0 b1_1 b2_0 b2_1 G
  refine congrArg (stepN fuel) ?_
  refine (l_ref02_Div_3_eq O fuel _ s5 s6 s7a s7n s8a s8n s9 s10 s12 b0_0 b0_1 b1_0 b1_1 b2_0 b2_1 G).trans ?_
  refine congrFun (congrFun (congrFun (congrFun (congrFun (congrFun (congrFun (congrFun (congrFun (congrFun (congrFun (congrFun (congrFun (congrFun (congrFun (congrFun ?_ _) _) _) _) _) _) _) _) _) _) _) _) _) _) _) _
  refine congrArg (l_ref02_Div_3 O) ?_
  · funext s5 s6 s7a s7n s8a s8n s9 s12 b0_0 b0_1 b1_0 b1_1 b2_0 b2_1 G
    exact a_ref02_Div_3N_raw O fuel s5 s6 s7a s7n s8a s8n s9 s12 b0_0 b0_1 b1_0 b1_1 b2_0 b2_1 G k

def l_ref02_Div_2 {R : Type} (O : Ora R) (fuel : Nat) (KN : Nat → Nat → OG → Nat → OG → Nat → Int → Nat → Nat → Nat → Nat → Nat → Nat → GH → Option R) : Nat → Nat → OG → Nat → OG → Nat → Int → Nat → Nat → Nat → Nat → Nat → Nat → GH → Option R := fun s5 s6 s7a s7n s8a s8n s9 b0_0 b0_1 b1_0 b1_1 b2_0 b2_1 G => u_ref02_Div_2 O KN (L_ref02_Div_3 O fuel KN) s5 s6 s7a s7n s8a s8n s9 b0_0 b0_1 b1_0 b1_1 b2_0 b2_1 G

theorem u_ref02_Div_2_raw {R : Type} (O : Ora R) (fuel s5 s6 : Nat) (s7a : OG) (s7n : Nat) (s8a : OG) (s8n : Nat) (s9 : Int) (b0_0 b0_1 : Nat) (b1_0 b1_1 : Nat) (b2_0 b2_1 : Nat) (G : GH) (k : KE R) :
  loopD Tryz.prog O lo23 fuel (nav (Tryz.f23.body.getD .skip) [1, 1, 1, 1, 1, 0, 1, 0, 0, 1, 0]) 35 (mkE 91 [(4, .loc 2 0), (5, .float .f64 s5), (6, .float .f64 s6), (7, .slice s7a s7n), (8, .slice s8a s8n), (9, .int .i64 s9)]) [[.float .f64 b0_0, .float .f64 b0_1], [.float .f64 b1_0, .float .f64 b1_1], [.float .f64 b2_0, .float .f64 b2_1]] G k =
  u_ref02_Div_2 O (fun s5 s6 s7a s7n s8a s8n s9 b0_0 b0_1 b1_0 b1_1 b2_0 b2_1 G => k .normal (mkE 91 [(4, .loc 2 0), (5, .float .f64 s5), (6, .float .f64 s6), (7, .slice s7a s7n), (8, .slice s8a s8n), (9, .int .i64 s9)]) [[.float .f64 b0_0, .float .f64 b0_1], [.float .f64 b1_0, .float .f64 b1_1], [.float .f64 b2_0, .float .f64 b2_1]] G) (fun s5 s6 s7a s7n s8a s8n s9 s10 s12 b0_0 b0_1 b1_0 b1_1 b2_0 b2_1 G => stepN fuel (loopD Tryz.prog O lo23 fuel (nav (Tryz.f23.body.getD .skip) [1, 1, 1, 1, 1, 0, 1, 0, 0, 1, 0, 0, 1, 1, 0]) 55 (mkE 91 [(4, .loc 2 0), (5, .float .f64 s5), (6, .float .f64 s6), (7, .slice s7a s7n), (8, .slice s8a s8n), (9, .int .i64 s9), (10, .float .f64 s10), (12, .float .f64 s12)]) [[.float .f64 b0_0, .float .f64 b0_1], [.float .f64 b1_0, .float .f64 b1_1], [.float .f64 b2_0, .float .f64 b2_1]] G (contC Tryz.prog O lo23 fuel (nav (Tryz.f23.body.getD .skip) [1, 1, 1, 1, 1, 0, 1, 0, 0, 1, 0]) [0, 1, 1, 0] (kpD lo23 35 3 k)))) s5 s6 s7a s7n s8a s8n s9 b0_0 b0_1 b1_0 b1_1 b2_0 b2_1 G := by kernel_rfl

theorem l_ref02_Div_2_eq {R : Type} (O : Ora R) (fuel : Nat) (k : KE R) : ∀ (s5 s6 : Nat) (s7a : OG) (s7n : Nat) (s8a : OG) (s8n : Nat) (s9 : Int) (b0_0 b0_1 : Nat) (b1_0 b1_1 : Nat) (b2_0 b2_1 : Nat) (G : GH),
  loopD Tryz.prog O lo23 fuel (nav (Tryz.f23.body.getD .skip) [1, 1, 1, 1, 1, 0, 1, 0, 0, 1, 0]) 35 (mkE 91 [(4, .loc 2 0), (5, .float .f64 s5), (6, .float .f64 s6), (7, .slice s7a s7n), (8, .slice s8a s8n), (9, .int .i64 s9)]) [[.float .f64 b0_0, .float .f64 b0_1], [.float .f64 b1_0, .float .f64 b1_1], [.float .f64 b2_0, .float .f64 b2_1]] G k = l_ref02_Div_2 O fuel (fun s5 s6 s7a s7n s8a s8n s9 b0_0 b0_1 b1_0 b1_1 b2_0 b2_1 G => k .normal (mkE 91 [(4, .loc 2 0), (5, .float .f64 s5), (6, .float .f64 s6), (7, .slice s7a s7n), (8, .slice s8a s8n), (9, .int .i64 s9)]) [[.float .f64 b0_0, .float .f64 b0_1], [.float .f64 b1_0, .float .f64 b1_1], [.float .f64 b2_0, .float .f64 b2_1]] G) s5 s6 s7a s7n s8a s8n s9 b0_0 b0_1 b1_0 b1_1 b2_0 b2_1 G := by
  intros
  rw [u_ref02_Div_2_raw]
  simp only [l_ref02_Div_2, L_ref02_Div_3_eq]

def u_ref02_Div_1 {R : Type} (O : Ora R) (KN : Nat → Nat → OG → Nat → OG → Nat → Int → Nat → Nat → Nat → Nat → Nat → Nat → GH → Option R) (K0 : Nat → Nat → Nat → Nat → Nat → Nat → Nat → Nat → GH → Option R) (L2 : Nat → Nat → OG → Nat → OG → Nat → Int → Nat → Nat → Nat → Nat → Nat → Nat → GH → Option R) (s5 s6 : Nat) (s7a : OG) (s7n : Nat) (s8a : OG) (s8n : Nat) (s9 : Int) (b0_0 b0_1 : Nat) (b1_0 b1_1 : Nat) (b2_0 b2_1 : Nat) (G : GH) : Option R :=
  bif (decide (s9 < (4 : Int))) then
  L2 s5 s6 s7a s7n s8a s8n s9 b0_0 b0_1 b1_0 b1_1 b2_0 b2_1 G
  else
  K0 s5 s6 b0_0 b0_1 b1_0 b1_1 b2_0 b2_1 G

def a_ref02_Div_2N {R : Type} (O : Ora R) (KN : Nat → Nat → OG → Nat → OG → Nat → Int → Nat → Nat → Nat → Nat → Nat → Nat → GH → Option R) (K0 : Nat → Nat → Nat → Nat → Nat → Nat → Nat → Nat → GH → Option R) (s5 s6 : Nat) (s7a : OG) (s7n : Nat) (s8a : OG) (s8n : Nat) (s9 : Int) (b0_0 b0_1 : Nat) (b1_0 b1_1 : Nat) (b2_0 b2_1 : Nat) (G : GH) : Option R :=
  KN s5 s6 s7a s7n s8a s8n (IntKind.wrap .i64 (s9 + (1 : Int))) b0_0 b0_1 b1_0 b1_1 b2_0 b2_1 G

def L_ref02_Div_2 {R : Type} (O : Ora R) (fuel : Nat) (KN : Nat → Nat → OG → Nat → OG → Nat → Int → Nat → Nat → Nat → Nat → Nat → Nat → GH → Option R) (K0 : Nat → Nat → Nat → Nat → Nat → Nat → Nat → Nat → GH → Option R) : Nat → Nat → OG → Nat → OG → Nat → Int → Nat → Nat → Nat → Nat → Nat → Nat → GH → Option R := fun s5 s6 s7a s7n s8a s8n s9 b0_0 b0_1 b1_0 b1_1 b2_0 b2_1 G =>
  stepN fuel (l_ref02_Div_2 O fuel (a_ref02_Div_2N O KN K0) s5 s6 s7a s7n s8a s8n s9 b0_0 b0_1 b1_0 b1_1 b2_0 b2_1 G)

theorem a_ref02_Div_2N_raw {R : Type} (O : Ora R) (fuel s5 s6 : Nat) (s7a : OG) (s7n : Nat) (s8a : OG) (s8n : Nat) (s9 : Int) (b0_0 b0_1 : Nat) (b1_0 b1_1 : Nat) (b2_0 b2_1 : Nat) (G : GH) (k : KE R) :
  contC Tryz.prog O lo23 fuel (nav (Tryz.f23.body.getD .skip) [1, 1, 1, 1, 1, 0, 1, 0, 0]) [1, 0] (kpD lo23 28 3 k) .normal (mkE 91 [(4, .loc 2 0), (5, .float .f64 s5), (6, .float .f64 s6), (7, .slice s7a s7n), (8, .slice s8a s8n), (9, .int .i64 s9)]) [[.float .f64 b0_0, .float .f64 b0_1], [.float .f64 b1_0, .float .f64 b1_1], [.float .f64 b2_0, .float .f64 b2_1]] G =
  a_ref02_Div_2N O (fun s5 s6 s7a s7n s8a s8n s9 b0_0 b0_1 b1_0 b1_1 b2_0 b2_1 G => k .normal (mkE 91 [(4, .loc 2 0), (5, .float .f64 s5), (6, .float .f64 s6), (7, .slice s7a s7n), (8, .slice s8a s8n), (9, .int .i64 s9)]) [[.float .f64 b0_0, .float .f64 b0_1], [.float .f64 b1_0, .float .f64 b1_1], [.float .f64 b2_0, .float .f64 b2_1]] G) (fun s5 s6 b0_0 b0_1 b1_0 b1_1 b2_0 b2_1 G => k (.exit 0) (mkE 91 [(4, .loc 2 0), (5, .float .f64 s5), (6, .float .f64 s6)]) [[.float .f64 b0_0, .float .f64 b0_1], [.float .f64 b1_0, .float .f64 b1_1], [.float .f64 b2_0, .float .f64 b2_1]] G) s5 s6 s7a s7n s8a s8n s9 b0_0 b0_1 b1_0 b1_1 b2_0 b2_1 G := by kernel_rfl

theorem L_ref02_Div_2_eq {R : Type} (O : Ora R) (fuel : Nat) (k : KE R) :
  (fun (s5 s6 : Nat) (s7a : OG) (s7n : Nat) (s8a : OG) (s8n : Nat) (s9 : Int) (b0_0 b0_1 : Nat) (b1_0 b1_1 : Nat) (b2_0 b2_1 : Nat) (G : GH) => stepN fuel (loopD Tryz.prog O lo23 fuel (nav (Tryz.f23.body.getD .skip) [1, 1, 1, 1, 1, 0, 1, 0, 0, 1, 0]) 35 (mkE 91 [(4, .loc 2 0), (5, .float .f64 s5), (6, .float .f64 s6), (7, .slice s7a s7n), (8, .slice s8a s8n), (9, .int .i64 s9)]) [[.float .f64 b0_0, .float .f64 b0_1], [.float .f64 b1_0, .float .f64 b1_1], [.float .f64 b2_0, .float .f64 b2_1]] G (contC Tryz.prog O lo23 fuel (nav (Tryz.f23.body.getD .skip) [1, 1, 1, 1, 1, 0, 1, 0, 0]) [1, 0] (kpD lo23 28 3 k)))) = L_ref02_Div_2 O fuel (fun (s5 s6 : Nat) (s7a : OG) (s7n : Nat) (s8a : OG) (s8n : Nat) (s9 : Int) (b0_0 b0_1 : Nat) (b1_0 b1_1 : Nat) (b2_0 b2_1 : Nat) (G : GH) => k .normal (mkE 91 [(4, .loc 2 0), (5, .float .f64 s5), (6, .float .f64 s6), (7, .slice s7a s7n), (8, .slice s8a s8n), (9, .int .i64 s9)]) [[.float .f64 b0_0, .float .f64 b0_1], [.float .f64 b1_0, .float .f64 b1_1], [.float .f64 b2_0, .float .f64 b2_1]] G) (fun (s5 s6 : Nat) (b0_0 b0_1 : Nat) (b1_0 b1_1 : Nat) (b2_0 b2_1 : Nat) (G : GH) => k (.exit 0) (mkE 91 [(4, .loc 2 0), (5, .float .f64 s5), (6, .float .f64 s6)]) [[.float .f64 b0_0, .float .f64 b0_1], [.float .f64 b1_0, .float .f64 b1_1], [.float .f64 b2_0, .float .f64 b2_1]] G) := by
  funext s5 s6 s7a s7n s8a s8n s9 b0_0 b0_1 b1_0 b1_1 b2_0 b2_1 G
  refine congrArg (stepN fuel) ?_
  refine (l_ref02_Div_2_eq O fuel _ s5 s6 s7a s7n s8a s8n s9 b0_0 b0_1 b1_0 b1_1 b2_0 b2_1 G).trans ?_
  refine congrFun (congrFun (congrFun (congrFun (congrFun (congrFun (congrFun (congrFun (congrFun (congrFun (congrFun (congrFun (congrFun (congrFun ?_ _) _) _) _) _) _) _) _) _) _) _) _) _) _
  refine congrArg (l_ref02_Div_2 O fuel) ?_
  · funext s5 s6 s7a s7n s8a s8n s9 b0_0 b0_1 b1_0 b1_1 b2_0 b2_1 G
    exact a_ref02_Div_2N_raw O fuel s5 s6 s7a s7n s8a s8n s9 b0_0 b0_1 b1_0 b1_1 b2_0 b2_1 G k

def l_ref02_Div_1 {R : Type} (O : Ora R) (fuel : Nat) (K0 : Nat → Nat → Nat → Nat → Nat → Nat → Nat → Nat → GH → Option R) : Nat → Nat → Nat → OG → Nat → OG → Nat → Int → Nat → Nat → Nat → Nat → Nat → Nat → GH → Option R
  | 0, _, _, _, _, _, _, _, _, _, _, _, _, _, _ => none
  | n + 1, s5, s6, s7a, s7n, s8a, s8n, s9, b0_0, b0_1, b1_0, b1_1, b2_0, b2_1, G => u_ref02_Div_1 O (l_ref02_Div_1 O fuel K0 n) K0 (L_ref02_Div_2 O fuel (l_ref02_Div_1 O fuel K0 n) K0) s5 s6 s7a s7n s8a s8n s9 b0_0 b0_1 b1_0 b1_1 b2_0 b2_1 G

theorem u_ref02_Div_1_raw {R : Type} (O : Ora R) (fuel s5 s6 : Nat) (s7a : OG) (s7n : Nat) (s8a : OG) (s8n : Nat) (s9 : Int) (b0_0 b0_1 : Nat) (b1_0 b1_1 : Nat) (b2_0 b2_1 : Nat) (G : GH) (k : KE R) :
  loopD Tryz.prog O lo23 fuel (nav (Tryz.f23.body.getD .skip) [1, 1, 1, 1, 1, 0, 1, 0, 0]) 28 (mkE 91 [(4, .loc 2 0), (5, .float .f64 s5), (6, .float .f64 s6), (7, .slice s7a s7n), (8, .slice s8a s8n), (9, .int .i64 s9)]) [[.float .f64 b0_0, .float .f64 b0_1], [.float .f64 b1_0, .float .f64 b1_1], [.float .f64 b2_0, .float .f64 b2_1]] G k =
  u_ref02_Div_1 O (fun s5 s6 s7a s7n s8a s8n s9 b0_0 b0_1 b1_0 b1_1 b2_0 b2_1 G => k .normal (mkE 91 [(4, .loc 2 0), (5, .float .f64 s5), (6, .float .f64 s6), (7, .slice s7a s7n), (8, .slice s8a s8n), (9, .int .i64 s9)]) [[.float .f64 b0_0, .float .f64 b0_1], [.float .f64 b1_0, .float .f64 b1_1], [.float .f64 b2_0, .float .f64 b2_1]] G) (fun s5 s6 b0_0 b0_1 b1_0 b1_1 b2_0 b2_1 G => k (.exit 0) (mkE 91 [(4, .loc 2 0), (5, .float .f64 s5), (6, .float .f64 s6)]) [[.float .f64 b0_0, .float .f64 b0_1], [.float .f64 b1_0, .float .f64 b1_1], [.float .f64 b2_0, .float .f64 b2_1]] G) (fun s5 s6 s7a s7n s8a s8n s9 b0_0 b0_1 b1_0 b1_1 b2_0 b2_1 G => stepN fuel (loopD Tryz.prog O lo23 fuel (nav (Tryz.f23.body.getD .skip) [1, 1, 1, 1, 1, 0, 1, 0, 0, 1, 0]) 35 (mkE 91 [(4, .loc 2 0), (5, .float .f64 s5), (6, .float .f64 s6), (7, .slice s7a s7n), (8, .slice s8a s8n), (9, .int .i64 s9)]) [[.float .f64 b0_0, .float .f64 b0_1], [.float .f64 b1_0, .float .f64 b1_1], [.float .f64 b2_0, .float .f64 b2_1]] G (contC Tryz.prog O lo23 fuel (nav (Tryz.f23.body.getD .skip) [1, 1, 1, 1, 1, 0, 1, 0, 0]) [1, 0] (kpD lo23 28 3 k)))) s5 s6 s7a s7n s8a s8n s9 b0_0 b0_1 b1_0 b1_1 b2_0 b2_1 G := by kernel_rfl

theorem l_ref02_Div_1_eq {R : Type} (O : Ora R) (fuel : Nat) (k : KE R) : ∀ (n s5 s6 : Nat) (s7a : OG) (s7n : Nat) (s8a : OG) (s8n : Nat) (s9 : Int) (b0_0 b0_1 : Nat) (b1_0 b1_1 : Nat) (b2_0 b2_1 : Nat) (G : GH),
  loopN (loopD Tryz.prog O lo23 fuel (nav (Tryz.f23.body.getD .skip) [1, 1, 1, 1, 1, 0, 1, 0, 0]) 28) n (mkE 91 [(4, .loc 2 0), (5, .float .f64 s5), (6, .float .f64 s6), (7, .slice s7a s7n), (8, .slice s8a s8n), (9, .int .i64 s9)]) [[.float .f64 b0_0, .float .f64 b0_1], [.float .f64 b1_0, .float .f64 b1_1], [.float .f64 b2_0, .float .f64 b2_1]] G k = l_ref02_Div_1 O fuel (fun s5 s6 b0_0 b0_1 b1_0 b1_1 b2_0 b2_1 G => k (.exit 0) (mkE 91 [(4, .loc 2 0), (5, .float .f64 s5), (6, .float .f64 s6)]) [[.float .f64 b0_0, .float .f64 b0_1], [.float .f64 b1_0, .float .f64 b1_1], [.float .f64 b2_0, .float .f64 b2_1]] G) n s5 s6 s7a s7n s8a s8n s9 b0_0 b0_1 b1_0 b1_1 b2_0 b2_1 G := by
  intro n
  induction n with
  | zero => intros; simp only [loopN, l_ref02_Div_1]
  | succ n ih =>
    intros
    rw [loopN_succ, u_ref02_Div_1_raw]
    simp only [l_ref02_Div_1, loopK_normal, loopK_exit, loopK_ret, ih, L_ref02_Div_2_eq]

def u_ref02_Div {R : Type} (O : Ora R) (k : KV R) (L0 : Nat → Nat → Nat → Nat → Nat → Nat → GH → Option R) (p0_0 p0_1 : Nat) (p1_0 p1_1 : Nat) (G : GH) : Option R :=
  L0 p0_0 p0_1 p1_0 p1_1 (0 : Nat) (0 : Nat) G

def a_ref02_Div_0N {R : Type} (O : Ora R) (k : KV R) (L1 : Nat → Nat → OG → Nat → OG → Nat → Int → Nat → Nat → Nat → Nat → Nat → Nat → GH → Option R) (s29 : Bool) (b0_0 b0_1 : Nat) (b1_0 b1_1 : Nat) (b2_0 b2_1 : Nat) (G : GH) : Option R :=
  bif s29 then
  O fn_ref02_All [] G fun v1 G2 =>
  (ivAgg 2 v1).bind fun c3 =>
  (ivFloat .f64 (c3.getD 0 undefI)).bind fun x4 =>
  (ivFloat .f64 (c3.getD 1 undefI)).bind fun x5 =>
  k (.agg [.float .f64 x4, .float .f64 x5]) G2
  else
  O fn_ref01_Inf [] G fun v6 G7 =>
  (ivFloat .f64 v6).bind fun x8 =>
  O fn_ref01_Inf [] G7 fun v9 G10 =>
  (ivFloat .f64 v9).bind fun x11 =>
  L1 x8 (Op.negFloat .f64 x11) (some (gaddr G10)) 4 (some (gaddr (gnew G10 [.float .f64 b0_0, .float .f64 b0_0, .float .f64 b0_1, .float .f64 b0_1] 22))) 4 (0 : Int) b0_0 b0_1 b1_0 b1_1 b2_0 b2_1 (gnew (gnew G10 [.float .f64 b0_0, .float .f64 b0_0, .float .f64 b0_1, .float .f64 b0_1] 22) [.float .f64 b1_0, .float .f64 b1_1, .float .f64 b1_0, .float .f64 b1_1] 22)

def a_ref02_Div_10 {R : Type} (O : Ora R) (k : KV R) (s5 s6 : Nat) (b0_0 b0_1 : Nat) (b1_0 b1_1 : Nat) (b2_0 b2_1 : Nat) (G : GH) : Option R :=
  k (.agg [.float .f64 s5, .float .f64 s6]) G

def L_ref02_Div_1 {R : Type} (O : Ora R) (fuel : Nat) (k : KV R) : Nat → Nat → OG → Nat → OG → Nat → Int → Nat → Nat → Nat → Nat → Nat → Nat → GH → Option R := fun s5 s6 s7a s7n s8a s8n s9 b0_0 b0_1 b1_0 b1_1 b2_0 b2_1 G =>
  l_ref02_Div_1 O fuel (a_ref02_Div_10 O k) fuel s5 s6 s7a s7n s8a s8n s9 b0_0 b0_1 b1_0 b1_1 b2_0 b2_1 G

theorem a_ref02_Div_10_raw {R : Type} (O : Ora R) (fuel s5 : Nat) (s6 b0_0 : Nat) (b0_1 b1_0 : Nat) (b1_1 b2_0 b2_1 : Nat) (G : GH) (k : KV R) :
  contC Tryz.prog O lo23 fuel (Tryz.f23.body.getD .skip) [1, 1, 1, 1, 1, 0, 1, 0] (fun e env F G => match e with | .exit _ => none | _ => resC Tryz.prog Tryz.f23 env F G k) (.exit 0) (mkE 91 [(4, .loc 2 0), (5, .float .f64 s5), (6, .float .f64 s6)]) [[.float .f64 b0_0, .float .f64 b0_1], [.float .f64 b1_0, .float .f64 b1_1], [.float .f64 b2_0, .float .f64 b2_1]] G =
  a_ref02_Div_10 O k s5 s6 b0_0 b0_1 b1_0 b1_1 b2_0 b2_1 G := by kernel_rfl

theorem L_ref02_Div_1_eq {R : Type} (O : Ora R) (fuel : Nat) (k : KV R) :
  (fun (s5 s6 : Nat) (s7a : OG) (s7n : Nat) (s8a : OG) (s8n : Nat) (s9 : Int) (b0_0 b0_1 : Nat) (b1_0 b1_1 : Nat) (b2_0 b2_1 : Nat) (G : GH) => loopN (loopD Tryz.prog O lo23 fuel (nav (Tryz.f23.body.getD .skip) [1, 1, 1, 1, 1, 0, 1, 0, 0]) 28) fuel (mkE 91 [(4, .loc 2 0), (5, .float .f64 s5), (6, .float .f64 s6), (7, .slice s7a s7n), (8, .slice s8a s8n), (9, .int .i64 s9)]) [[.float .f64 b0_0, .float .f64 b0_1], [.float .f64 b1_0, .float .f64 b1_1], [.float .f64 b2_0, .float .f64 b2_1]] G (contC Tryz.prog O lo23 fuel (Tryz.f23.body.getD .skip) [1, 1, 1, 1, 1, 0, 1, 0] (fun e env F G => match e with | .exit _ => none | _ => resC Tryz.prog Tryz.f23 env F G k))) = L_ref02_Div_1 O fuel k := by
  funext s5 s6 s7a s7n s8a s8n s9 b0_0 b0_1 b1_0 b1_1 b2_0 b2_1 G
  simp only [L_ref02_Div_1, l_ref02_Div_1_eq, a_ref02_Div_10_raw]

def L_ref02_Div_0 {R : Type} (O : Ora R) (fuel : Nat) (k : KV R) : Nat → Nat → Nat → Nat → Nat → Nat → GH → Option R := fun b0_0 b0_1 b1_0 b1_1 b2_0 b2_1 G =>
  stepN fuel (l_ref02_Div_0 O (a_ref02_Div_0N O k (L_ref02_Div_1 O fuel k)) b0_0 b0_1 b1_0 b1_1 b2_0 b2_1 G)

theorem a_ref02_Div_0N_raw {R : Type} (O : Ora R) (fuel : Nat) (s29 : Bool) (b0_0 b0_1 : Nat) (b1_0 b1_1 : Nat) (b2_0 b2_1 : Nat) (G : GH) (k : KV R) :
  contC Tryz.prog O lo23 fuel (Tryz.f23.body.getD .skip) [1, 0, 0] (fun e env F G => match e with | .exit _ => none | _ => resC Tryz.prog Tryz.f23 env F G k) .normal (mkE 91 [(2, .loc 0 0), (3, .loc 1 0), (4, .loc 2 0), (29, .bool s29)]) [[.float .f64 b0_0, .float .f64 b0_1], [.float .f64 b1_0, .float .f64 b1_1], [.float .f64 b2_0, .float .f64 b2_1]] G =
  a_ref02_Div_0N O k (fun s5 s6 s7a s7n s8a s8n s9 b0_0 b0_1 b1_0 b1_1 b2_0 b2_1 G => loopN (loopD Tryz.prog O lo23 fuel (nav (Tryz.f23.body.getD .skip) [1, 1, 1, 1, 1, 0, 1, 0, 0]) 28) fuel (mkE 91 [(4, .loc 2 0), (5, .float .f64 s5), (6, .float .f64 s6), (7, .slice s7a s7n), (8, .slice s8a s8n), (9, .int .i64 s9)]) [[.float .f64 b0_0, .float .f64 b0_1], [.float .f64 b1_0, .float .f64 b1_1], [.float .f64 b2_0, .float .f64 b2_1]] G (contC Tryz.prog O lo23 fuel (Tryz.f23.body.getD .skip) [1, 1, 1, 1, 1, 0, 1, 0] (fun e env F G => match e with | .exit _ => none | _ => resC Tryz.prog Tryz.f23 env F G k))) s29 b0_0 b0_1 b1_0 b1_1 b2_0 b2_1 G := by kernel_rfl

theorem L_ref02_Div_0_eq {R : Type} (O : Ora R) (fuel : Nat) (k : KV R) :
  (fun (b0_0 b0_1 : Nat) (b1_0 b1_1 : Nat) (b2_0 b2_1 : Nat) (G : GH) => stepN fuel (loopD Tryz.prog O lo23 fuel (nav (Tryz.f23.body.getD .skip) [1, 0, 0]) 11 (mkE 91 [(2, .loc 0 0), (3, .loc 1 0), (4, .loc 2 0)]) [[.float .f64 b0_0, .float .f64 b0_1], [.float .f64 b1_0, .float .f64 b1_1], [.float .f64 b2_0, .float .f64 b2_1]] G (contC Tryz.prog O lo23 fuel (Tryz.f23.body.getD .skip) [1, 0, 0] (fun e env F G => match e with | .exit _ => none | _ => resC Tryz.prog Tryz.f23 env F G k)))) = L_ref02_Div_0 O fuel k := by
  funext b0_0 b0_1 b1_0 b1_1 b2_0 b2_1 G
  refine congrArg (stepN fuel) ?_
  refine (l_ref02_Div_0_eq O fuel _ b0_0 b0_1 b1_0 b1_1 b2_0 b2_1 G).trans ?_
  refine congrFun (congrFun (congrFun (congrFun (congrFun (congrFun (congrFun ?_ _) _) _) _) _) _) _
  refine congrArg (l_ref02_Div_0 O) ?_
  · funext s29 b0_0 b0_1 b1_0 b1_1 b2_0 b2_1 G
    rw [← L_ref02_Div_1_eq]
    exact a_ref02_Div_0N_raw O fuel s29 b0_0 b0_1 b1_0 b1_1 b2_0 b2_1 G k

theorem e_ref02_Div_raw {R : Type} (O : Ora R) (fuel p0_0 : Nat) (p0_1 p1_0 p1_1 : Nat) (G : GH) (k : KV R) :
  bodyC Tryz.prog O lo23 fuel Tryz.f23 [.agg [.float .f64 p0_0, .float .f64 p0_1], .agg [.float .f64 p1_0, .float .f64 p1_1]] G k =
  u_ref02_Div O k (fun b0_0 b0_1 b1_0 b1_1 b2_0 b2_1 G => stepN fuel (loopD Tryz.prog O lo23 fuel (nav (Tryz.f23.body.getD .skip) [1, 0, 0]) 11 (mkE 91 [(2, .loc 0 0), (3, .loc 1 0), (4, .loc 2 0)]) [[.float .f64 b0_0, .float .f64 b0_1], [.float .f64 b1_0, .float .f64 b1_1], [.float .f64 b2_0, .float .f64 b2_1]] G (contC Tryz.prog O lo23 fuel (Tryz.f23.body.getD .skip) [1, 0, 0] (fun e env F G => match e with | .exit _ => none | _ => resC Tryz.prog Tryz.f23 env F G k)))) p0_0 p0_1 p1_0 p1_1 G := by kernel_rfl

theorem e_ref02_Div {R : Type} (O : Ora R) (fuel p0_0 : Nat) (p0_1 p1_0 p1_1 : Nat) (G : GH) (k : KV R) :
  bodyC Tryz.prog O lo23 fuel Tryz.f23 [.agg [.float .f64 p0_0, .float .f64 p0_1], .agg [.float .f64 p1_0, .float .f64 p1_1]] G k =
  u_ref02_Div O k (L_ref02_Div_0 O fuel k) p0_0 p0_1 p1_0 p1_1 G := by
  rw [e_ref02_Div_raw, L_ref02_Div_0_eq]

theorem r_ref02_Div {R : Type} (fuel n p0_0 : Nat) (p0_1 p1_0 p1_1 : Nat) (G : GH) (k : KV R) :
  runC Tryz.prog lo0 fuel (n + 1) 23 [.agg [.float .f64 p0_0, .float .f64 p0_1], .agg [.float .f64 p1_0, .float .f64 p1_1]] G k = bodyC Tryz.prog (runC Tryz.prog lo0 fuel n) lo23 fuel Tryz.f23 [.agg [.float .f64 p0_0, .float .f64 p0_1], .agg [.float .f64 p1_0, .float .f64 p1_1]] G k := run_body Tryz.func23 rfl rfl

/-! ### lantern/lanternref02.Least -/
theorem e_ref02_Least {R : Type} (O : Ora R) (fuel p0 p1 : Nat) (G : GH) (k : KV R) :
  bodyC Tryz.prog O [777777] fuel Tryz.f41 [.float .f64 p0, .float .f64 p1] G k =
  bif (flt .f64 p0 p1) then
  k (.float .f64 p0) G
  else
  k (.float .f64 p1) G := by kernel_rfl

theorem r_ref02_Least {R : Type} (fuel n p0 p1 : Nat) (G : GH) (k : KV R) :
  runC Tryz.prog lo0 fuel (n + 1) 41 [.float .f64 p0, .float .f64 p1] G k = bodyC Tryz.prog (runC Tryz.prog lo0 fuel n) [777777] fuel Tryz.f41 [.float .f64 p0, .float .f64 p1] G k := run_body Tryz.func41 rfl rfl

/-! ### lantern/lanternref02.Greatest -/
theorem e_ref02_Greatest {R : Type} (O : Ora R) (fuel p0 p1 : Nat) (G : GH) (k : KV R) :
  bodyC Tryz.prog O [777777] fuel Tryz.f40 [.float .f64 p0, .float .f64 p1] G k =
  bif (fgt .f64 p0 p1) then
  k (.float .f64 p0) G
  else
  k (.float .f64 p1) G := by kernel_rfl

theorem r_ref02_Greatest {R : Type} (fuel n p0 p1 : Nat) (G : GH) (k : KV R) :
  runC Tryz.prog lo0 fuel (n + 1) 40 [.float .f64 p0, .float .f64 p1] G k = bodyC Tryz.prog (runC Tryz.prog lo0 fuel n) [777777] fuel Tryz.f40 [.float .f64 p0, .float .f64 p1] G k := run_body Tryz.func40 rfl rfl

end Go.LI.Film
