/- What the interpreter gives for spans (written by slab.py). -/
import Derived.Test.YtalpjkeiaeobdaaGreatSeatA
namespace Go.LI.Film
open Go.Proofs.YtalpjkeiaeobdaaGreat Go Go.Proofs Go.LI
set_option maxRecDepth 100000
set_option linter.unusedVariables false
set_option linter.unusedSimpArgs false
/-! ### lantern/span.low -/
theorem e_span_low {R : Type} (O : Ora R) (fuel p0 : Nat) (p1 : Int) (G : GH) (k : KV R) :
  bodyC Tryz.prog O [777777] fuel Tryz.f60 [.float .f64 p0, .int .i64 p1] G k =
  bif (p1 != (0 : Int)) then
  O fn_math_Inf [.int .i64 ((-1 : Int))] G fun v1 G2 =>
  (ivFloat .f64 v1).bind fun x3 =>
  k (.float .f64 x3) G2
  else
  k (.float .f64 p0) G := by kernel_rfl

theorem r_span_low {R : Type} (fuel n p0 : Nat) (p1 : Int) (G : GH) (k : KV R) :
  runC Tryz.prog lo0 fuel (n + 1) 60 [.float .f64 p0, .int .i64 p1] G k = bodyC Tryz.prog (runC Tryz.prog lo0 fuel n) [777777] fuel Tryz.f60 [.float .f64 p0, .int .i64 p1] G k := run_body Tryz.func60 rfl rfl

/-! ### lantern/span.high -/
theorem e_span_high {R : Type} (O : Ora R) (fuel p0 : Nat) (p1 : Int) (G : GH) (k : KV R) :
  bodyC Tryz.prog O [777777] fuel Tryz.f62 [.float .f64 p0, .int .i64 p1] G k =
  bif (p1 != (0 : Int)) then
  O fn_math_Inf [.int .i64 (1 : Int)] G fun v1 G2 =>
  (ivFloat .f64 v1).bind fun x3 =>
  k (.float .f64 x3) G2
  else
  k (.float .f64 p0) G := by kernel_rfl

theorem r_span_high {R : Type} (fuel n p0 : Nat) (p1 : Int) (G : GH) (k : KV R) :
  runC Tryz.prog lo0 fuel (n + 1) 62 [.float .f64 p0, .int .i64 p1] G k = bodyC Tryz.prog (runC Tryz.prog lo0 fuel n) [777777] fuel Tryz.f62 [.float .f64 p0, .int .i64 p1] G k := run_body Tryz.func62 rfl rfl

/-! ### lantern/span.Add -/
theorem e_span_Add {R : Type} (O : Ora R) (fuel p0_0 : Nat) (p0_1 p1_0 p1_1 : Nat) (G : GH) (k : KV R) :
  bodyC Tryz.prog O [2, 3, 4, 777777] fuel Tryz.f38 [.agg [.float .f64 p0_0, .float .f64 p0_1], .agg [.float .f64 p1_0, .float .f64 p1_1]] G k =
  O fn_round_Add [.float .f64 p0_0, .float .f64 p1_0, .bool true] (gfreeze G) fun v1 _ =>
  (ivTup 2 v1).bind fun c2 =>
  (ivFloat .f64 (c2.getD 0 undefI)).bind fun x3 =>
  (ivInt .i64 (c2.getD 1 undefI)).bind fun x4 =>
  O fn_span_low [.float .f64 x3, .int .i64 x4] (gfreeze G) fun v5 _ =>
  (ivFloat .f64 v5).bind fun x6 =>
  O fn_round_Add [.float .f64 p0_1, .float .f64 p1_1, .bool false] (gfreeze G) fun v7 _ =>
  (ivTup 2 v7).bind fun c8 =>
  (ivFloat .f64 (c8.getD 0 undefI)).bind fun x9 =>
  (ivInt .i64 (c8.getD 1 undefI)).bind fun x10 =>
  O fn_span_high [.float .f64 x9, .int .i64 x10] (gfreeze G) fun v11 _ =>
  (ivFloat .f64 v11).bind fun x12 =>
  k (.agg [.float .f64 x6, .float .f64 x12]) G := by kernel_rfl

theorem r_span_Add {R : Type} (fuel n p0_0 : Nat) (p0_1 p1_0 p1_1 : Nat) (G : GH) (k : KV R) :
  runC Tryz.prog lo0 fuel (n + 1) 38 [.agg [.float .f64 p0_0, .float .f64 p0_1], .agg [.float .f64 p1_0, .float .f64 p1_1]] G k = bodyC Tryz.prog (runC Tryz.prog lo0 fuel n) [2, 3, 4, 777777] fuel Tryz.f38 [.agg [.float .f64 p0_0, .float .f64 p0_1], .agg [.float .f64 p1_0, .float .f64 p1_1]] G k := run_body Tryz.func38 rfl rfl

/-! ### lantern/lanternref02.minus -/
theorem e_ref02_minus {R : Type} (O : Ora R) (fuel p0 : Nat) (G : GH) (k : KV R) :
  bodyC Tryz.prog O [777777] fuel Tryz.f16 [.float .f64 p0] G k =
  bif (feq .f64 p0 (0 : Nat)) then
  O fn_math_Float64bits [.float .f64 p0] G fun v1 G2 =>
  (ivInt .u64 v1).bind fun x3 =>
  k (.bool (x3 != (0 : Int))) G2
  else
  k (.bool false) G := by kernel_rfl

theorem r_ref02_minus {R : Type} (fuel n p0 : Nat) (G : GH) (k : KV R) :
  runC Tryz.prog lo0 fuel (n + 1) 16 [.float .f64 p0] G k = bodyC Tryz.prog (runC Tryz.prog lo0 fuel n) [777777] fuel Tryz.f16 [.float .f64 p0] G k := run_body Tryz.func16 rfl rfl

/-! ### lantern/lanternref02.Valid -/
theorem e_ref02_Valid {R : Type} (O : Ora R) (fuel p0_0 p0_1 : Nat) (G : GH) (k : KV R) :
  bodyC Tryz.prog O [1, 777777] fuel Tryz.f6 [.agg [.float .f64 p0_0, .float .f64 p0_1]] G k =
  bif (fle .f64 p0_0 p0_1) then
  O fn_ref01_Inf [] (gfreeze G) fun v1 _ =>
  (ivFloat .f64 v1).bind fun x2 =>
  bif (!feq .f64 p0_0 x2) then
  O fn_ref01_Inf [] (gfreeze G) fun v3 _ =>
  (ivFloat .f64 v3).bind fun x4 =>
  bif (!feq .f64 p0_1 (Op.negFloat .f64 x4)) then
  O fn_ref02_minus [.float .f64 p0_0] (gfreeze G) fun v5 _ =>
  (ivBool v5).bind fun x6 =>
  bif (!x6) then
  O fn_ref02_minus [.float .f64 p0_1] (gfreeze G) fun v7 _ =>
  (ivBool v7).bind fun x8 =>
  k (.bool (!x8)) G
  else
  k (.bool false) G
  else
  k (.bool false) G
  else
  k (.bool false) G
  else
  k (.bool false) G := by kernel_rfl

theorem r_ref02_Valid {R : Type} (fuel n p0_0 p0_1 : Nat) (G : GH) (k : KV R) :
  runC Tryz.prog lo0 fuel (n + 1) 6 [.agg [.float .f64 p0_0, .float .f64 p0_1]] G k = bodyC Tryz.prog (runC Tryz.prog lo0 fuel n) [1, 777777] fuel Tryz.f6 [.agg [.float .f64 p0_0, .float .f64 p0_1]] G k := run_body Tryz.func6 rfl rfl

/-! ### lantern/lanternref02.Same -/
theorem e_ref02_Same {R : Type} (O : Ora R) (fuel p0_0 : Nat) (p0_1 p1_0 p1_1 : Nat) (G : GH) (k : KV R) :
  bodyC Tryz.prog O [2, 3, 777777] fuel Tryz.f9 [.agg [.float .f64 p0_0, .float .f64 p0_1], .agg [.float .f64 p1_0, .float .f64 p1_1]] G k =
  O fn_math_Float64bits [.float .f64 p0_0] (gfreeze G) fun v1 _ =>
  (ivInt .u64 v1).bind fun x2 =>
  O fn_math_Float64bits [.float .f64 p1_0] (gfreeze G) fun v3 _ =>
  (ivInt .u64 v3).bind fun x4 =>
  bif (x2 == x4) then
  O fn_math_Float64bits [.float .f64 p0_1] (gfreeze G) fun v5 _ =>
  (ivInt .u64 v5).bind fun x6 =>
  O fn_math_Float64bits [.float .f64 p1_1] (gfreeze G) fun v7 _ =>
  (ivInt .u64 v7).bind fun x8 =>
  k (.bool (x6 == x8)) G
  else
  k (.bool false) G := by kernel_rfl

theorem r_ref02_Same {R : Type} (fuel n p0_0 : Nat) (p0_1 p1_0 p1_1 : Nat) (G : GH) (k : KV R) :
  runC Tryz.prog lo0 fuel (n + 1) 9 [.agg [.float .f64 p0_0, .float .f64 p0_1], .agg [.float .f64 p1_0, .float .f64 p1_1]] G k = bodyC Tryz.prog (runC Tryz.prog lo0 fuel n) [2, 3, 777777] fuel Tryz.f9 [.agg [.float .f64 p0_0, .float .f64 p0_1], .agg [.float .f64 p1_0, .float .f64 p1_1]] G k := run_body Tryz.func9 rfl rfl

/-! ### lantern/lanternref02.Add -/
def u_ref02_Add_0 {R : Type} (O : Ora R) (KN : Nat → Nat → Nat → Nat → Nat → Nat → Nat → GH → Option R) (s5 : Nat) (s6 : Int) (b0_0 b0_1 : Nat) (b1_0 b1_1 : Nat) (b2_0 b2_1 : Nat) (G : GH) : Option R :=
  bif (s6 != (0 : Int)) then
  O fn_ref01_Inf [] G fun v1 G2 =>
  (ivFloat .f64 v1).bind fun x3 =>
  KN (Op.negFloat .f64 x3) b0_0 b0_1 b1_0 b1_1 b2_0 b2_1 G2
  else
  KN s5 b0_0 b0_1 b1_0 b1_1 b2_0 b2_1 G

def l_ref02_Add_0 {R : Type} (O : Ora R) (KN : Nat → Nat → Nat → Nat → Nat → Nat → Nat → GH → Option R) : Nat → Int → Nat → Nat → Nat → Nat → Nat → Nat → GH → Option R := fun s5 s6 b0_0 b0_1 b1_0 b1_1 b2_0 b2_1 G => u_ref02_Add_0 O KN s5 s6 b0_0 b0_1 b1_0 b1_1 b2_0 b2_1 G

theorem u_ref02_Add_0_raw {R : Type} (O : Ora R) (fuel s5 : Nat) (s6 : Int) (b0_0 b0_1 : Nat) (b1_0 b1_1 : Nat) (b2_0 b2_1 : Nat) (G : GH) (k : KE R) :
  loopD Tryz.prog O lo44 fuel (nav (Tryz.f44.body.getD .skip) [1, 1, 0]) 19 (mkE 34 [(2, .loc 0 0), (3, .loc 1 0), (4, .loc 2 0), (5, .float .f64 s5), (6, .int .i64 s6)]) [[.float .f64 b0_0, .float .f64 b0_1], [.float .f64 b1_0, .float .f64 b1_1], [.float .f64 b2_0, .float .f64 b2_1]] G k =
  u_ref02_Add_0 O (fun s5 b0_0 b0_1 b1_0 b1_1 b2_0 b2_1 G => k .normal (mkE 34 [(2, .loc 0 0), (3, .loc 1 0), (4, .loc 2 0), (5, .float .f64 s5)]) [[.float .f64 b0_0, .float .f64 b0_1], [.float .f64 b1_0, .float .f64 b1_1], [.float .f64 b2_0, .float .f64 b2_1]] G) s5 s6 b0_0 b0_1 b1_0 b1_1 b2_0 b2_1 G := by kernel_rfl

theorem l_ref02_Add_0_eq {R : Type} (O : Ora R) (fuel : Nat) (k : KE R) : ∀ (s5 : Nat) (s6 : Int) (b0_0 b0_1 : Nat) (b1_0 b1_1 : Nat) (b2_0 b2_1 : Nat) (G : GH),
  loopD Tryz.prog O lo44 fuel (nav (Tryz.f44.body.getD .skip) [1, 1, 0]) 19 (mkE 34 [(2, .loc 0 0), (3, .loc 1 0), (4, .loc 2 0), (5, .float .f64 s5), (6, .int .i64 s6)]) [[.float .f64 b0_0, .float .f64 b0_1], [.float .f64 b1_0, .float .f64 b1_1], [.float .f64 b2_0, .float .f64 b2_1]] G k = l_ref02_Add_0 O (fun s5 b0_0 b0_1 b1_0 b1_1 b2_0 b2_1 G => k .normal (mkE 34 [(2, .loc 0 0), (3, .loc 1 0), (4, .loc 2 0), (5, .float .f64 s5)]) [[.float .f64 b0_0, .float .f64 b0_1], [.float .f64 b1_0, .float .f64 b1_1], [.float .f64 b2_0, .float .f64 b2_1]] G) s5 s6 b0_0 b0_1 b1_0 b1_1 b2_0 b2_1 G := by
  intros
  rw [u_ref02_Add_0_raw]
  simp only [l_ref02_Add_0]

def u_ref02_Add_1 {R : Type} (O : Ora R) (KN : Nat → Nat → Nat → Nat → Nat → Nat → Nat → Nat → GH → Option R) (s5 : Nat) (s6 : Int) (s7 b0_0 : Nat) (b0_1 b1_0 : Nat) (b1_1 b2_0 b2_1 : Nat) (G : GH) : Option R :=
  bif (s6 != (0 : Int)) then
  O fn_ref01_Inf [] G fun v1 G2 =>
  (ivFloat .f64 v1).bind fun x3 =>
  KN s5 x3 b0_0 b0_1 b1_0 b1_1 b2_0 b2_1 G2
  else
  KN s5 s7 b0_0 b0_1 b1_0 b1_1 b2_0 b2_1 G

def l_ref02_Add_1 {R : Type} (O : Ora R) (KN : Nat → Nat → Nat → Nat → Nat → Nat → Nat → Nat → GH → Option R) : Nat → Int → Nat → Nat → Nat → Nat → Nat → Nat → Nat → GH → Option R := fun s5 s6 s7 b0_0 b0_1 b1_0 b1_1 b2_0 b2_1 G => u_ref02_Add_1 O KN s5 s6 s7 b0_0 b0_1 b1_0 b1_1 b2_0 b2_1 G

theorem u_ref02_Add_1_raw {R : Type} (O : Ora R) (fuel s5 : Nat) (s6 : Int) (s7 b0_0 : Nat) (b0_1 b1_0 : Nat) (b1_1 b2_0 b2_1 : Nat) (G : GH) (k : KE R) :
  loopD Tryz.prog O lo44 fuel (nav (Tryz.f44.body.getD .skip) [1, 1, 1, 1, 0]) 31 (mkE 34 [(4, .loc 2 0), (5, .float .f64 s5), (6, .int .i64 s6), (7, .float .f64 s7)]) [[.float .f64 b0_0, .float .f64 b0_1], [.float .f64 b1_0, .float .f64 b1_1], [.float .f64 b2_0, .float .f64 b2_1]] G k =
  u_ref02_Add_1 O (fun s5 s7 b0_0 b0_1 b1_0 b1_1 b2_0 b2_1 G => k .normal (mkE 34 [(4, .loc 2 0), (5, .float .f64 s5), (7, .float .f64 s7)]) [[.float .f64 b0_0, .float .f64 b0_1], [.float .f64 b1_0, .float .f64 b1_1], [.float .f64 b2_0, .float .f64 b2_1]] G) s5 s6 s7 b0_0 b0_1 b1_0 b1_1 b2_0 b2_1 G := by kernel_rfl

theorem l_ref02_Add_1_eq {R : Type} (O : Ora R) (fuel : Nat) (k : KE R) : ∀ (s5 : Nat) (s6 : Int) (s7 b0_0 : Nat) (b0_1 b1_0 : Nat) (b1_1 b2_0 b2_1 : Nat) (G : GH),
  loopD Tryz.prog O lo44 fuel (nav (Tryz.f44.body.getD .skip) [1, 1, 1, 1, 0]) 31 (mkE 34 [(4, .loc 2 0), (5, .float .f64 s5), (6, .int .i64 s6), (7, .float .f64 s7)]) [[.float .f64 b0_0, .float .f64 b0_1], [.float .f64 b1_0, .float .f64 b1_1], [.float .f64 b2_0, .float .f64 b2_1]] G k = l_ref02_Add_1 O (fun s5 s7 b0_0 b0_1 b1_0 b1_1 b2_0 b2_1 G => k .normal (mkE 34 [(4, .loc 2 0), (5, .float .f64 s5), (7, .float .f64 s7)]) [[.float .f64 b0_0, .float .f64 b0_1], [.float .f64 b1_0, .float .f64 b1_1], [.float .f64 b2_0, .float .f64 b2_1]] G) s5 s6 s7 b0_0 b0_1 b1_0 b1_1 b2_0 b2_1 G := by
  intros
  rw [u_ref02_Add_1_raw]
  simp only [l_ref02_Add_1]

def u_ref02_Add {R : Type} (O : Ora R) (k : KV R) (L0 : Nat → Int → Nat → Nat → Nat → Nat → Nat → Nat → GH → Option R) (p0_0 p0_1 : Nat) (p1_0 p1_1 : Nat) (G : GH) : Option R :=
  O fn_ref01_Add [.float .f64 p0_0, .float .f64 p1_0, .bool true] G fun v1 G2 =>
  (ivTup 2 v1).bind fun c3 =>
  (ivFloat .f64 (c3.getD 0 undefI)).bind fun x4 =>
  (ivInt .i64 (c3.getD 1 undefI)).bind fun x5 =>
  L0 x4 x5 p0_0 p0_1 p1_0 p1_1 (0 : Nat) (0 : Nat) G2

def a_ref02_Add_0N {R : Type} (O : Ora R) (k : KV R) (L1 : Nat → Int → Nat → Nat → Nat → Nat → Nat → Nat → Nat → GH → Option R) (s5 b0_0 : Nat) (b0_1 b1_0 : Nat) (b1_1 b2_0 b2_1 : Nat) (G : GH) : Option R :=
  O fn_ref01_Add [.float .f64 b0_1, .float .f64 b1_1, .bool false] G fun v1 G2 =>
  (ivTup 2 v1).bind fun c3 =>
  (ivFloat .f64 (c3.getD 0 undefI)).bind fun x4 =>
  (ivInt .i64 (c3.getD 1 undefI)).bind fun x5 =>
  L1 s5 x5 x4 b0_0 b0_1 b1_0 b1_1 b2_0 b2_1 G2

def a_ref02_Add_1N {R : Type} (O : Ora R) (k : KV R) (s5 s7 : Nat) (b0_0 b0_1 : Nat) (b1_0 b1_1 : Nat) (b2_0 b2_1 : Nat) (G : GH) : Option R :=
  k (.agg [.float .f64 s5, .float .f64 s7]) G

def L_ref02_Add_1 {R : Type} (O : Ora R) (fuel : Nat) (k : KV R) : Nat → Int → Nat → Nat → Nat → Nat → Nat → Nat → Nat → GH → Option R := fun s5 s6 s7 b0_0 b0_1 b1_0 b1_1 b2_0 b2_1 G =>
  stepN fuel (l_ref02_Add_1 O (a_ref02_Add_1N O k) s5 s6 s7 b0_0 b0_1 b1_0 b1_1 b2_0 b2_1 G)

theorem a_ref02_Add_1N_raw {R : Type} (O : Ora R) (fuel s5 : Nat) (s7 b0_0 : Nat) (b0_1 b1_0 : Nat) (b1_1 b2_0 b2_1 : Nat) (G : GH) (k : KV R) :
  contC Tryz.prog O lo44 fuel (Tryz.f44.body.getD .skip) [1, 1, 1, 1, 0] (fun e env F G => match e with | .exit _ => none | _ => resC Tryz.prog Tryz.f44 env F G k) .normal (mkE 34 [(4, .loc 2 0), (5, .float .f64 s5), (7, .float .f64 s7)]) [[.float .f64 b0_0, .float .f64 b0_1], [.float .f64 b1_0, .float .f64 b1_1], [.float .f64 b2_0, .float .f64 b2_1]] G =
  a_ref02_Add_1N O k s5 s7 b0_0 b0_1 b1_0 b1_1 b2_0 b2_1 G := by kernel_rfl

theorem L_ref02_Add_1_eq {R : Type} (O : Ora R) (fuel : Nat) (k : KV R) :
  (fun (s5 : Nat) (s6 : Int) (s7 b0_0 : Nat) (b0_1 b1_0 : Nat) (b1_1 b2_0 b2_1 : Nat) (G : GH) => stepN fuel (loopD Tryz.prog O lo44 fuel (nav (Tryz.f44.body.getD .skip) [1, 1, 1, 1, 0]) 31 (mkE 34 [(4, .loc 2 0), (5, .float .f64 s5), (6, .int .i64 s6), (7, .float .f64 s7)]) [[.float .f64 b0_0, .float .f64 b0_1], [.float .f64 b1_0, .float .f64 b1_1], [.float .f64 b2_0, .float .f64 b2_1]] G (contC Tryz.prog O lo44 fuel (Tryz.f44.body.getD .skip) [1, 1, 1, 1, 0] (fun e env F G => match e with | .exit _ => none | _ => resC Tryz.prog Tryz.f44 env F G k)))) = L_ref02_Add_1 O fuel k := by
  funext s5 s6 s7 b0_0 b0_1 b1_0 b1_1 b2_0 b2_1 G
  simp only [L_ref02_Add_1, l_ref02_Add_1_eq, a_ref02_Add_1N_raw]

def L_ref02_Add_0 {R : Type} (O : Ora R) (fuel : Nat) (k : KV R) : Nat → Int → Nat → Nat → Nat → Nat → Nat → Nat → GH → Option R := fun s5 s6 b0_0 b0_1 b1_0 b1_1 b2_0 b2_1 G =>
  stepN fuel (l_ref02_Add_0 O (a_ref02_Add_0N O k (L_ref02_Add_1 O fuel k)) s5 s6 b0_0 b0_1 b1_0 b1_1 b2_0 b2_1 G)

theorem a_ref02_Add_0N_raw {R : Type} (O : Ora R) (fuel s5 : Nat) (b0_0 b0_1 : Nat) (b1_0 b1_1 : Nat) (b2_0 b2_1 : Nat) (G : GH) (k : KV R) :
  contC Tryz.prog O lo44 fuel (Tryz.f44.body.getD .skip) [1, 1, 0] (fun e env F G => match e with | .exit _ => none | _ => resC Tryz.prog Tryz.f44 env F G k) .normal (mkE 34 [(2, .loc 0 0), (3, .loc 1 0), (4, .loc 2 0), (5, .float .f64 s5)]) [[.float .f64 b0_0, .float .f64 b0_1], [.float .f64 b1_0, .float .f64 b1_1], [.float .f64 b2_0, .float .f64 b2_1]] G =
  a_ref02_Add_0N O k (fun s5 s6 s7 b0_0 b0_1 b1_0 b1_1 b2_0 b2_1 G => stepN fuel (loopD Tryz.prog O lo44 fuel (nav (Tryz.f44.body.getD .skip) [1, 1, 1, 1, 0]) 31 (mkE 34 [(4, .loc 2 0), (5, .float .f64 s5), (6, .int .i64 s6), (7, .float .f64 s7)]) [[.float .f64 b0_0, .float .f64 b0_1], [.float .f64 b1_0, .float .f64 b1_1], [.float .f64 b2_0, .float .f64 b2_1]] G (contC Tryz.prog O lo44 fuel (Tryz.f44.body.getD .skip) [1, 1, 1, 1, 0] (fun e env F G => match e with | .exit _ => none | _ => resC Tryz.prog Tryz.f44 env F G k)))) s5 b0_0 b0_1 b1_0 b1_1 b2_0 b2_1 G := by kernel_rfl

theorem L_ref02_Add_0_eq {R : Type} (O : Ora R) (fuel : Nat) (k : KV R) :
  (fun (s5 : Nat) (s6 : Int) (b0_0 b0_1 : Nat) (b1_0 b1_1 : Nat) (b2_0 b2_1 : Nat) (G : GH) => stepN fuel (loopD Tryz.prog O lo44 fuel (nav (Tryz.f44.body.getD .skip) [1, 1, 0]) 19 (mkE 34 [(2, .loc 0 0), (3, .loc 1 0), (4, .loc 2 0), (5, .float .f64 s5), (6, .int .i64 s6)]) [[.float .f64 b0_0, .float .f64 b0_1], [.float .f64 b1_0, .float .f64 b1_1], [.float .f64 b2_0, .float .f64 b2_1]] G (contC Tryz.prog O lo44 fuel (Tryz.f44.body.getD .skip) [1, 1, 0] (fun e env F G => match e with | .exit _ => none | _ => resC Tryz.prog Tryz.f44 env F G k)))) = L_ref02_Add_0 O fuel k := by
  funext s5 s6 b0_0 b0_1 b1_0 b1_1 b2_0 b2_1 G
  simp only [L_ref02_Add_0, l_ref02_Add_0_eq, a_ref02_Add_0N_raw, L_ref02_Add_1_eq]

theorem e_ref02_Add_raw {R : Type} (O : Ora R) (fuel p0_0 : Nat) (p0_1 p1_0 p1_1 : Nat) (G : GH) (k : KV R) :
  bodyC Tryz.prog O lo44 fuel Tryz.f44 [.agg [.float .f64 p0_0, .float .f64 p0_1], .agg [.float .f64 p1_0, .float .f64 p1_1]] G k =
  u_ref02_Add O k (fun s5 s6 b0_0 b0_1 b1_0 b1_1 b2_0 b2_1 G => stepN fuel (loopD Tryz.prog O lo44 fuel (nav (Tryz.f44.body.getD .skip) [1, 1, 0]) 19 (mkE 34 [(2, .loc 0 0), (3, .loc 1 0), (4, .loc 2 0), (5, .float .f64 s5), (6, .int .i64 s6)]) [[.float .f64 b0_0, .float .f64 b0_1], [.float .f64 b1_0, .float .f64 b1_1], [.float .f64 b2_0, .float .f64 b2_1]] G (contC Tryz.prog O lo44 fuel (Tryz.f44.body.getD .skip) [1, 1, 0] (fun e env F G => match e with | .exit _ => none | _ => resC Tryz.prog Tryz.f44 env F G k)))) p0_0 p0_1 p1_0 p1_1 G := by kernel_rfl

theorem e_ref02_Add {R : Type} (O : Ora R) (fuel p0_0 : Nat) (p0_1 p1_0 p1_1 : Nat) (G : GH) (k : KV R) :
  bodyC Tryz.prog O lo44 fuel Tryz.f44 [.agg [.float .f64 p0_0, .float .f64 p0_1], .agg [.float .f64 p1_0, .float .f64 p1_1]] G k =
  u_ref02_Add O k (L_ref02_Add_0 O fuel k) p0_0 p0_1 p1_0 p1_1 G := by
  rw [e_ref02_Add_raw, L_ref02_Add_0_eq]

theorem r_ref02_Add {R : Type} (fuel n p0_0 : Nat) (p0_1 p1_0 p1_1 : Nat) (G : GH) (k : KV R) :
  runC Tryz.prog lo0 fuel (n + 1) 44 [.agg [.float .f64 p0_0, .float .f64 p0_1], .agg [.float .f64 p1_0, .float .f64 p1_1]] G k = bodyC Tryz.prog (runC Tryz.prog lo0 fuel n) lo44 fuel Tryz.f44 [.agg [.float .f64 p0_0, .float .f64 p0_1], .agg [.float .f64 p1_0, .float .f64 p1_1]] G k := run_body Tryz.func44 rfl rfl

/-! ### lantern/lanternref03.Valid -/
theorem e_ref03_Valid {R : Type} (O : Ora R) (fuel p0_0 : Nat) (p0_1 p0_2 : Nat) (p0_3 p0_4 p0_5 : Nat) (G : GH) (k : KV R) :
  bodyC Tryz.prog O [1, 777777] fuel Tryz.f14 [.agg [.float .f64 p0_0, .float .f64 p0_1, .float .f64 p0_2, .float .f64 p0_3, .float .f64 p0_4, .float .f64 p0_5]] G k =
  O fn_ref02_Valid [.agg [.float .f64 p0_0, .float .f64 p0_1]] G fun v1 G2 =>
  (ivBool v1).bind fun x3 =>
  bif x3 then
  O fn_ref02_Valid [.agg [.float .f64 p0_2, .float .f64 p0_3]] G2 fun v4 G5 =>
  (ivBool v4).bind fun x6 =>
  bif x6 then
  O fn_ref02_Valid [.agg [.float .f64 p0_4, .float .f64 p0_5]] G5 fun v7 G8 =>
  (ivBool v7).bind fun x9 =>
  k (.bool x9) G8
  else
  k (.bool false) G5
  else
  k (.bool false) G2 := by kernel_rfl

theorem r_ref03_Valid {R : Type} (fuel n p0_0 : Nat) (p0_1 p0_2 : Nat) (p0_3 p0_4 p0_5 : Nat) (G : GH) (k : KV R) :
  runC Tryz.prog lo0 fuel (n + 1) 14 [.agg [.float .f64 p0_0, .float .f64 p0_1, .float .f64 p0_2, .float .f64 p0_3, .float .f64 p0_4, .float .f64 p0_5]] G k = bodyC Tryz.prog (runC Tryz.prog lo0 fuel n) [1, 777777] fuel Tryz.f14 [.agg [.float .f64 p0_0, .float .f64 p0_1, .float .f64 p0_2, .float .f64 p0_3, .float .f64 p0_4, .float .f64 p0_5]] G k := run_body Tryz.func14 rfl rfl

end Go.LI.Film
