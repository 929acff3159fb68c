/- What the interpreter gives for spans and pixels (written by rnd.py). -/
import Derived.Test.YtmhoddmenfondaaSeatA
namespace Go.LI.Film
open Go.Proofs.Ytmhoddmenfondaa Go Go.Proofs Go.LI
set_option maxRecDepth 100000
set_option linter.unusedVariables false
set_option linter.unusedSimpArgs false
/-! ### lantern/span.low -/
theorem e_zO1 {R : Type} (O : Ora R) (fuel p0 : Nat) (p1 : Int) (G : GH) (k : KV R) :
  bodyC Try.prog O [777777] fuel Try.f80 [.float .f64 p0, .int .i64 p1] G k =
  bif (p1 != (0 : Int)) then
  O fn_zs [.int .i64 ((-1 : Int))] G fun v1 G2 =>
  (ivFloat .f64 v1).bind fun x3 =>
  k (.float .f64 x3) G2
  else
  k (.float .f64 p0) G := by kernel_rfl

theorem r_zO1 {R : Type} (fuel n p0 : Nat) (p1 : Int) (G : GH) (k : KV R) :
  runC Try.prog lo0 fuel (n + 1) 80 [.float .f64 p0, .int .i64 p1] G k = bodyC Try.prog (runC Try.prog lo0 fuel n) [777777] fuel Try.f80 [.float .f64 p0, .int .i64 p1] G k := run_body Try.func80 rfl rfl

/-! ### lantern/span.high -/
theorem e_zP1 {R : Type} (O : Ora R) (fuel p0 : Nat) (p1 : Int) (G : GH) (k : KV R) :
  bodyC Try.prog O [777777] fuel Try.f81 [.float .f64 p0, .int .i64 p1] G k =
  bif (p1 != (0 : Int)) then
  O fn_zs [.int .i64 (1 : Int)] G fun v1 G2 =>
  (ivFloat .f64 v1).bind fun x3 =>
  k (.float .f64 x3) G2
  else
  k (.float .f64 p0) G := by kernel_rfl

theorem r_zP1 {R : Type} (fuel n p0 : Nat) (p1 : Int) (G : GH) (k : KV R) :
  runC Try.prog lo0 fuel (n + 1) 81 [.float .f64 p0, .int .i64 p1] G k = bodyC Try.prog (runC Try.prog lo0 fuel n) [777777] fuel Try.f81 [.float .f64 p0, .int .i64 p1] G k := run_body Try.func81 rfl rfl

/-! ### lantern/span.Add -/
theorem e_zs1 {R : Type} (O : Ora R) (fuel p0_0 : Nat) (p0_1 p1_0 p1_1 : Nat) (G : GH) (k : KV R) :
  bodyC Try.prog O [2, 3, 4, 777777] fuel Try.f66 [.agg [.float .f64 p0_0, .float .f64 p0_1], .agg [.float .f64 p1_0, .float .f64 p1_1]] G k =
  O fn_zP [.float .f64 p0_0, .float .f64 p1_0, .bool true] (gfreeze G) fun v1 _ =>
  (ivTup 2 v1).bind fun c2 =>
  (ivFloat .f64 (c2.getD 0 undefI)).bind fun x3 =>
  (ivInt .i64 (c2.getD 1 undefI)).bind fun x4 =>
  O fn_zO1 [.float .f64 x3, .int .i64 x4] (gfreeze G) fun v5 _ =>
  (ivFloat .f64 v5).bind fun x6 =>
  O fn_zP [.float .f64 p0_1, .float .f64 p1_1, .bool false] (gfreeze G) fun v7 _ =>
  (ivTup 2 v7).bind fun c8 =>
  (ivFloat .f64 (c8.getD 0 undefI)).bind fun x9 =>
  (ivInt .i64 (c8.getD 1 undefI)).bind fun x10 =>
  O fn_zP1 [.float .f64 x9, .int .i64 x10] (gfreeze G) fun v11 _ =>
  (ivFloat .f64 v11).bind fun x12 =>
  k (.agg [.float .f64 x6, .float .f64 x12]) G := by kernel_rfl

theorem r_zs1 {R : Type} (fuel n p0_0 : Nat) (p0_1 p1_0 p1_1 : Nat) (G : GH) (k : KV R) :
  runC Try.prog lo0 fuel (n + 1) 66 [.agg [.float .f64 p0_0, .float .f64 p0_1], .agg [.float .f64 p1_0, .float .f64 p1_1]] G k = bodyC Try.prog (runC Try.prog lo0 fuel n) [2, 3, 4, 777777] fuel Try.f66 [.agg [.float .f64 p0_0, .float .f64 p0_1], .agg [.float .f64 p1_0, .float .f64 p1_1]] G k := run_body Try.func66 rfl rfl

/-! ### lantern/vec.Add -/
theorem e_zF1 {R : Type} (O : Ora R) (fuel p0_0 : Nat) (p0_1 p0_2 : Nat) (p0_3 p0_4 : Nat) (p0_5 p1_0 : Nat) (p1_1 p1_2 : Nat) (p1_3 p1_4 p1_5 : Nat) (G : GH) (k : KV R) :
  bodyC Try.prog O [2, 3, 4, 777777] fuel Try.f49 [.agg [.float .f64 p0_0, .float .f64 p0_1, .float .f64 p0_2, .float .f64 p0_3, .float .f64 p0_4, .float .f64 p0_5], .agg [.float .f64 p1_0, .float .f64 p1_1, .float .f64 p1_2, .float .f64 p1_3, .float .f64 p1_4, .float .f64 p1_5]] G k =
  O fn_zL1 [.agg [.float .f64 p0_0, .float .f64 p0_1, .float .f64 p0_2, .float .f64 p0_3, .float .f64 p0_4, .float .f64 p0_5], .agg [.float .f64 p1_0, .float .f64 p1_1, .float .f64 p1_2, .float .f64 p1_3, .float .f64 p1_4, .float .f64 p1_5], .func 66 []] G fun v1 G2 =>
  (ivAgg 6 v1).bind fun c3 =>
  (ivFloat .f64 (c3.getD 0 undefI)).bind fun x4 =>
  (ivFloat .f64 (c3.getD 1 undefI)).bind fun x5 =>
  (ivFloat .f64 (c3.getD 2 undefI)).bind fun x6 =>
  (ivFloat .f64 (c3.getD 3 undefI)).bind fun x7 =>
  (ivFloat .f64 (c3.getD 4 undefI)).bind fun x8 =>
  (ivFloat .f64 (c3.getD 5 undefI)).bind fun x9 =>
  k (.agg [.float .f64 x4, .float .f64 x5, .float .f64 x6, .float .f64 x7, .float .f64 x8, .float .f64 x9]) G2 := by kernel_rfl

theorem r_zF1 {R : Type} (fuel n p0_0 : Nat) (p0_1 p0_2 : Nat) (p0_3 p0_4 : Nat) (p0_5 p1_0 : Nat) (p1_1 p1_2 : Nat) (p1_3 p1_4 p1_5 : Nat) (G : GH) (k : KV R) :
  runC Try.prog lo0 fuel (n + 1) 49 [.agg [.float .f64 p0_0, .float .f64 p0_1, .float .f64 p0_2, .float .f64 p0_3, .float .f64 p0_4, .float .f64 p0_5], .agg [.float .f64 p1_0, .float .f64 p1_1, .float .f64 p1_2, .float .f64 p1_3, .float .f64 p1_4, .float .f64 p1_5]] G k = bodyC Try.prog (runC Try.prog lo0 fuel n) [2, 3, 4, 777777] fuel Try.f49 [.agg [.float .f64 p0_0, .float .f64 p0_1, .float .f64 p0_2, .float .f64 p0_3, .float .f64 p0_4, .float .f64 p0_5], .agg [.float .f64 p1_0, .float .f64 p1_1, .float .f64 p1_2, .float .f64 p1_3, .float .f64 p1_4, .float .f64 p1_5]] G k := run_body Try.func49 rfl rfl

/-! ### lantern/lanternref02.minus -/
theorem e_zz1 {R : Type} (O : Ora R) (fuel p0 : Nat) (G : GH) (k : KV R) :
  bodyC Try.prog O [777777] fuel Try.f78 [.float .f64 p0] G k =
  bif (feq .f64 p0 (0 : Nat)) then
  O fn_zJ [.float .f64 p0] G fun v1 G2 =>
  (ivInt .u64 v1).bind fun x3 =>
  k (.bool (x3 != (0 : Int))) G2
  else
  k (.bool false) G := by kernel_rfl

theorem r_zz1 {R : Type} (fuel n p0 : Nat) (G : GH) (k : KV R) :
  runC Try.prog lo0 fuel (n + 1) 78 [.float .f64 p0] G k = bodyC Try.prog (runC Try.prog lo0 fuel n) [777777] fuel Try.f78 [.float .f64 p0] G k := run_body Try.func78 rfl rfl

/-! ### lantern/lanternref02.Valid -/
theorem e_zr1 {R : Type} (O : Ora R) (fuel p0_0 p0_1 : Nat) (G : GH) (k : KV R) :
  bodyC Try.prog O [1, 777777] fuel Try.f62 [.agg [.float .f64 p0_0, .float .f64 p0_1]] G k =
  bif (fle .f64 p0_0 p0_1) then
  O fn_zK [] (gfreeze G) fun v1 _ =>
  (ivFloat .f64 v1).bind fun x2 =>
  bif (!feq .f64 p0_0 x2) then
  O fn_zK [] (gfreeze G) fun v3 _ =>
  (ivFloat .f64 v3).bind fun x4 =>
  bif (!feq .f64 p0_1 (Op.negFloat .f64 x4)) then
  O fn_zz1 [.float .f64 p0_0] (gfreeze G) fun v5 _ =>
  (ivBool v5).bind fun x6 =>
  bif (!x6) then
  O fn_zz1 [.float .f64 p0_1] (gfreeze G) fun v7 _ =>
  (ivBool v7).bind fun x8 =>
  k (.bool (!x8)) G
  else
  k (.bool false) G
  else
  k (.bool false) G
  else
  k (.bool false) G
  else
  k (.bool false) G := by kernel_rfl

theorem r_zr1 {R : Type} (fuel n p0_0 p0_1 : Nat) (G : GH) (k : KV R) :
  runC Try.prog lo0 fuel (n + 1) 62 [.agg [.float .f64 p0_0, .float .f64 p0_1]] G k = bodyC Try.prog (runC Try.prog lo0 fuel n) [1, 777777] fuel Try.f62 [.agg [.float .f64 p0_0, .float .f64 p0_1]] G k := run_body Try.func62 rfl rfl

/-! ### lantern/lanternref02.Same -/
theorem e_zo1 {R : Type} (O : Ora R) (fuel p0_0 : Nat) (p0_1 p1_0 p1_1 : Nat) (G : GH) (k : KV R) :
  bodyC Try.prog O [2, 3, 777777] fuel Try.f56 [.agg [.float .f64 p0_0, .float .f64 p0_1], .agg [.float .f64 p1_0, .float .f64 p1_1]] G k =
  O fn_zJ [.float .f64 p0_0] (gfreeze G) fun v1 _ =>
  (ivInt .u64 v1).bind fun x2 =>
  O fn_zJ [.float .f64 p1_0] (gfreeze G) fun v3 _ =>
  (ivInt .u64 v3).bind fun x4 =>
  bif (x2 == x4) then
  O fn_zJ [.float .f64 p0_1] (gfreeze G) fun v5 _ =>
  (ivInt .u64 v5).bind fun x6 =>
  O fn_zJ [.float .f64 p1_1] (gfreeze G) fun v7 _ =>
  (ivInt .u64 v7).bind fun x8 =>
  k (.bool (x6 == x8)) G
  else
  k (.bool false) G := by kernel_rfl

theorem r_zo1 {R : Type} (fuel n p0_0 : Nat) (p0_1 p1_0 p1_1 : Nat) (G : GH) (k : KV R) :
  runC Try.prog lo0 fuel (n + 1) 56 [.agg [.float .f64 p0_0, .float .f64 p0_1], .agg [.float .f64 p1_0, .float .f64 p1_1]] G k = bodyC Try.prog (runC Try.prog lo0 fuel n) [2, 3, 777777] fuel Try.f56 [.agg [.float .f64 p0_0, .float .f64 p0_1], .agg [.float .f64 p1_0, .float .f64 p1_1]] G k := run_body Try.func56 rfl rfl

/-! ### lantern/lanternref02.Add -/
def u_zr_0 {R : Type} (O : Ora R) (KN : Nat → Nat → Nat → Nat → Nat → Nat → Nat → GH → Option R) (s5 : Nat) (s6 : Int) (b0_0 b0_1 : Nat) (b1_0 b1_1 : Nat) (b2_0 b2_1 : Nat) (G : GH) : Option R :=
  bif (s6 != (0 : Int)) then
  O fn_zK [] G fun v1 G2 =>
  (ivFloat .f64 v1).bind fun x3 =>
  KN (Op.negFloat .f64 x3) b0_0 b0_1 b1_0 b1_1 b2_0 b2_1 G2
  else
  KN s5 b0_0 b0_1 b1_0 b1_1 b2_0 b2_1 G

def l_zr_0 {R : Type} (O : Ora R) (KN : Nat → Nat → Nat → Nat → Nat → Nat → Nat → GH → Option R) : Nat → Int → Nat → Nat → Nat → Nat → Nat → Nat → GH → Option R := fun s5 s6 b0_0 b0_1 b1_0 b1_1 b2_0 b2_1 G => u_zr_0 O KN s5 s6 b0_0 b0_1 b1_0 b1_1 b2_0 b2_1 G

theorem u_zr_0_raw {R : Type} (O : Ora R) (fuel s5 : Nat) (s6 : Int) (b0_0 b0_1 : Nat) (b1_0 b1_1 : Nat) (b2_0 b2_1 : Nat) (G : GH) (k : KE R) :
  loopD Try.prog O lo79 fuel (nav (Try.f79.body.getD .skip) [1, 1, 0]) 19 (mkE 34 [(2, .loc 0 0), (3, .loc 1 0), (4, .loc 2 0), (5, .float .f64 s5), (6, .int .i64 s6)]) [[.float .f64 b0_0, .float .f64 b0_1], [.float .f64 b1_0, .float .f64 b1_1], [.float .f64 b2_0, .float .f64 b2_1]] G k =
  u_zr_0 O (fun s5 b0_0 b0_1 b1_0 b1_1 b2_0 b2_1 G => k .normal (mkE 34 [(2, .loc 0 0), (3, .loc 1 0), (4, .loc 2 0), (5, .float .f64 s5)]) [[.float .f64 b0_0, .float .f64 b0_1], [.float .f64 b1_0, .float .f64 b1_1], [.float .f64 b2_0, .float .f64 b2_1]] G) s5 s6 b0_0 b0_1 b1_0 b1_1 b2_0 b2_1 G := by kernel_rfl

theorem l_zr_0_eq {R : Type} (O : Ora R) (fuel : Nat) (k : KE R) : ∀ (s5 : Nat) (s6 : Int) (b0_0 b0_1 : Nat) (b1_0 b1_1 : Nat) (b2_0 b2_1 : Nat) (G : GH),
  loopD Try.prog O lo79 fuel (nav (Try.f79.body.getD .skip) [1, 1, 0]) 19 (mkE 34 [(2, .loc 0 0), (3, .loc 1 0), (4, .loc 2 0), (5, .float .f64 s5), (6, .int .i64 s6)]) [[.float .f64 b0_0, .float .f64 b0_1], [.float .f64 b1_0, .float .f64 b1_1], [.float .f64 b2_0, .float .f64 b2_1]] G k = l_zr_0 O (fun s5 b0_0 b0_1 b1_0 b1_1 b2_0 b2_1 G => k .normal (mkE 34 [(2, .loc 0 0), (3, .loc 1 0), (4, .loc 2 0), (5, .float .f64 s5)]) [[.float .f64 b0_0, .float .f64 b0_1], [.float .f64 b1_0, .float .f64 b1_1], [.float .f64 b2_0, .float .f64 b2_1]] G) s5 s6 b0_0 b0_1 b1_0 b1_1 b2_0 b2_1 G := by
  intros
  rw [u_zr_0_raw]
  simp only [l_zr_0]

def u_zr_1 {R : Type} (O : Ora R) (KN : Nat → Nat → Nat → Nat → Nat → Nat → Nat → Nat → GH → Option R) (s5 : Nat) (s6 : Int) (s7 b0_0 : Nat) (b0_1 b1_0 : Nat) (b1_1 b2_0 b2_1 : Nat) (G : GH) : Option R :=
  bif (s6 != (0 : Int)) then
  O fn_zK [] G fun v1 G2 =>
  (ivFloat .f64 v1).bind fun x3 =>
  KN s5 x3 b0_0 b0_1 b1_0 b1_1 b2_0 b2_1 G2
  else
  KN s5 s7 b0_0 b0_1 b1_0 b1_1 b2_0 b2_1 G

def l_zr_1 {R : Type} (O : Ora R) (KN : Nat → Nat → Nat → Nat → Nat → Nat → Nat → Nat → GH → Option R) : Nat → Int → Nat → Nat → Nat → Nat → Nat → Nat → Nat → GH → Option R := fun s5 s6 s7 b0_0 b0_1 b1_0 b1_1 b2_0 b2_1 G => u_zr_1 O KN s5 s6 s7 b0_0 b0_1 b1_0 b1_1 b2_0 b2_1 G

theorem u_zr_1_raw {R : Type} (O : Ora R) (fuel s5 : Nat) (s6 : Int) (s7 b0_0 : Nat) (b0_1 b1_0 : Nat) (b1_1 b2_0 b2_1 : Nat) (G : GH) (k : KE R) :
  loopD Try.prog O lo79 fuel (nav (Try.f79.body.getD .skip) [1, 1, 1, 1, 0]) 31 (mkE 34 [(4, .loc 2 0), (5, .float .f64 s5), (6, .int .i64 s6), (7, .float .f64 s7)]) [[.float .f64 b0_0, .float .f64 b0_1], [.float .f64 b1_0, .float .f64 b1_1], [.float .f64 b2_0, .float .f64 b2_1]] G k =
  u_zr_1 O (fun s5 s7 b0_0 b0_1 b1_0 b1_1 b2_0 b2_1 G => k .normal (mkE 34 [(4, .loc 2 0), (5, .float .f64 s5), (7, .float .f64 s7)]) [[.float .f64 b0_0, .float .f64 b0_1], [.float .f64 b1_0, .float .f64 b1_1], [.float .f64 b2_0, .float .f64 b2_1]] G) s5 s6 s7 b0_0 b0_1 b1_0 b1_1 b2_0 b2_1 G := by kernel_rfl

theorem l_zr_1_eq {R : Type} (O : Ora R) (fuel : Nat) (k : KE R) : ∀ (s5 : Nat) (s6 : Int) (s7 b0_0 : Nat) (b0_1 b1_0 : Nat) (b1_1 b2_0 b2_1 : Nat) (G : GH),
  loopD Try.prog O lo79 fuel (nav (Try.f79.body.getD .skip) [1, 1, 1, 1, 0]) 31 (mkE 34 [(4, .loc 2 0), (5, .float .f64 s5), (6, .int .i64 s6), (7, .float .f64 s7)]) [[.float .f64 b0_0, .float .f64 b0_1], [.float .f64 b1_0, .float .f64 b1_1], [.float .f64 b2_0, .float .f64 b2_1]] G k = l_zr_1 O (fun s5 s7 b0_0 b0_1 b1_0 b1_1 b2_0 b2_1 G => k .normal (mkE 34 [(4, .loc 2 0), (5, .float .f64 s5), (7, .float .f64 s7)]) [[.float .f64 b0_0, .float .f64 b0_1], [.float .f64 b1_0, .float .f64 b1_1], [.float .f64 b2_0, .float .f64 b2_1]] G) s5 s6 s7 b0_0 b0_1 b1_0 b1_1 b2_0 b2_1 G := by
  intros
  rw [u_zr_1_raw]
  simp only [l_zr_1]

def u_zr {R : Type} (O : Ora R) (k : KV R) (L0 : Nat → Int → Nat → Nat → Nat → Nat → Nat → Nat → GH → Option R) (p0_0 p0_1 : Nat) (p1_0 p1_1 : Nat) (G : GH) : Option R :=
  O fn_zf [.float .f64 p0_0, .float .f64 p1_0, .bool true] G fun v1 G2 =>
  (ivTup 2 v1).bind fun c3 =>
  (ivFloat .f64 (c3.getD 0 undefI)).bind fun x4 =>
  (ivInt .i64 (c3.getD 1 undefI)).bind fun x5 =>
  L0 x4 x5 p0_0 p0_1 p1_0 p1_1 (0 : Nat) (0 : Nat) G2

def a_zr_0N {R : Type} (O : Ora R) (k : KV R) (L1 : Nat → Int → Nat → Nat → Nat → Nat → Nat → Nat → Nat → GH → Option R) (s5 b0_0 : Nat) (b0_1 b1_0 : Nat) (b1_1 b2_0 b2_1 : Nat) (G : GH) : Option R :=
  O fn_zf [.float .f64 b0_1, .float .f64 b1_1, .bool false] G fun v1 G2 =>
  (ivTup 2 v1).bind fun c3 =>
  (ivFloat .f64 (c3.getD 0 undefI)).bind fun x4 =>
  (ivInt .i64 (c3.getD 1 undefI)).bind fun x5 =>
  L1 s5 x5 x4 b0_0 b0_1 b1_0 b1_1 b2_0 b2_1 G2

def a_zr_1N {R : Type} (O : Ora R) (k : KV R) (s5 s7 : Nat) (b0_0 b0_1 : Nat) (b1_0 b1_1 : Nat) (b2_0 b2_1 : Nat) (G : GH) : Option R :=
  k (.agg [.float .f64 s5, .float .f64 s7]) G

def L_zr_1 {R : Type} (O : Ora R) (fuel : Nat) (k : KV R) : Nat → Int → Nat → Nat → Nat → Nat → Nat → Nat → Nat → GH → Option R := fun s5 s6 s7 b0_0 b0_1 b1_0 b1_1 b2_0 b2_1 G =>
  stepN fuel (l_zr_1 O (a_zr_1N O k) s5 s6 s7 b0_0 b0_1 b1_0 b1_1 b2_0 b2_1 G)

theorem a_zr_1N_raw {R : Type} (O : Ora R) (fuel s5 : Nat) (s7 b0_0 : Nat) (b0_1 b1_0 : Nat) (b1_1 b2_0 b2_1 : Nat) (G : GH) (k : KV R) :
  contC Try.prog O lo79 fuel (Try.f79.body.getD .skip) [1, 1, 1, 1, 0] (fun e env F G => match e with | .exit _ => none | _ => resC Try.prog Try.f79 env F G k) .normal (mkE 34 [(4, .loc 2 0), (5, .float .f64 s5), (7, .float .f64 s7)]) [[.float .f64 b0_0, .float .f64 b0_1], [.float .f64 b1_0, .float .f64 b1_1], [.float .f64 b2_0, .float .f64 b2_1]] G =
  a_zr_1N O k s5 s7 b0_0 b0_1 b1_0 b1_1 b2_0 b2_1 G := by kernel_rfl

theorem L_zr_1_eq {R : Type} (O : Ora R) (fuel : Nat) (k : KV R) :
  (fun (s5 : Nat) (s6 : Int) (s7 b0_0 : Nat) (b0_1 b1_0 : Nat) (b1_1 b2_0 b2_1 : Nat) (G : GH) => stepN fuel (loopD Try.prog O lo79 fuel (nav (Try.f79.body.getD .skip) [1, 1, 1, 1, 0]) 31 (mkE 34 [(4, .loc 2 0), (5, .float .f64 s5), (6, .int .i64 s6), (7, .float .f64 s7)]) [[.float .f64 b0_0, .float .f64 b0_1], [.float .f64 b1_0, .float .f64 b1_1], [.float .f64 b2_0, .float .f64 b2_1]] G (contC Try.prog O lo79 fuel (Try.f79.body.getD .skip) [1, 1, 1, 1, 0] (fun e env F G => match e with | .exit _ => none | _ => resC Try.prog Try.f79 env F G k)))) = L_zr_1 O fuel k := by
  funext s5 s6 s7 b0_0 b0_1 b1_0 b1_1 b2_0 b2_1 G
  simp only [L_zr_1, l_zr_1_eq, a_zr_1N_raw]

def L_zr_0 {R : Type} (O : Ora R) (fuel : Nat) (k : KV R) : Nat → Int → Nat → Nat → Nat → Nat → Nat → Nat → GH → Option R := fun s5 s6 b0_0 b0_1 b1_0 b1_1 b2_0 b2_1 G =>
  stepN fuel (l_zr_0 O (a_zr_0N O k (L_zr_1 O fuel k)) s5 s6 b0_0 b0_1 b1_0 b1_1 b2_0 b2_1 G)

theorem a_zr_0N_raw {R : Type} (O : Ora R) (fuel s5 : Nat) (b0_0 b0_1 : Nat) (b1_0 b1_1 : Nat) (b2_0 b2_1 : Nat) (G : GH) (k : KV R) :
  contC Try.prog O lo79 fuel (Try.f79.body.getD .skip) [1, 1, 0] (fun e env F G => match e with | .exit _ => none | _ => resC Try.prog Try.f79 env F G k) .normal (mkE 34 [(2, .loc 0 0), (3, .loc 1 0), (4, .loc 2 0), (5, .float .f64 s5)]) [[.float .f64 b0_0, .float .f64 b0_1], [.float .f64 b1_0, .float .f64 b1_1], [.float .f64 b2_0, .float .f64 b2_1]] G =
  a_zr_0N O k (fun s5 s6 s7 b0_0 b0_1 b1_0 b1_1 b2_0 b2_1 G => stepN fuel (loopD Try.prog O lo79 fuel (nav (Try.f79.body.getD .skip) [1, 1, 1, 1, 0]) 31 (mkE 34 [(4, .loc 2 0), (5, .float .f64 s5), (6, .int .i64 s6), (7, .float .f64 s7)]) [[.float .f64 b0_0, .float .f64 b0_1], [.float .f64 b1_0, .float .f64 b1_1], [.float .f64 b2_0, .float .f64 b2_1]] G (contC Try.prog O lo79 fuel (Try.f79.body.getD .skip) [1, 1, 1, 1, 0] (fun e env F G => match e with | .exit _ => none | _ => resC Try.prog Try.f79 env F G k)))) s5 b0_0 b0_1 b1_0 b1_1 b2_0 b2_1 G := by kernel_rfl

theorem L_zr_0_eq {R : Type} (O : Ora R) (fuel : Nat) (k : KV R) :
  (fun (s5 : Nat) (s6 : Int) (b0_0 b0_1 : Nat) (b1_0 b1_1 : Nat) (b2_0 b2_1 : Nat) (G : GH) => stepN fuel (loopD Try.prog O lo79 fuel (nav (Try.f79.body.getD .skip) [1, 1, 0]) 19 (mkE 34 [(2, .loc 0 0), (3, .loc 1 0), (4, .loc 2 0), (5, .float .f64 s5), (6, .int .i64 s6)]) [[.float .f64 b0_0, .float .f64 b0_1], [.float .f64 b1_0, .float .f64 b1_1], [.float .f64 b2_0, .float .f64 b2_1]] G (contC Try.prog O lo79 fuel (Try.f79.body.getD .skip) [1, 1, 0] (fun e env F G => match e with | .exit _ => none | _ => resC Try.prog Try.f79 env F G k)))) = L_zr_0 O fuel k := by
  funext s5 s6 b0_0 b0_1 b1_0 b1_1 b2_0 b2_1 G
  simp only [L_zr_0, l_zr_0_eq, a_zr_0N_raw, L_zr_1_eq]

theorem e_zr_raw {R : Type} (O : Ora R) (fuel p0_0 : Nat) (p0_1 p1_0 p1_1 : Nat) (G : GH) (k : KV R) :
  bodyC Try.prog O lo79 fuel Try.f79 [.agg [.float .f64 p0_0, .float .f64 p0_1], .agg [.float .f64 p1_0, .float .f64 p1_1]] G k =
  u_zr O k (fun s5 s6 b0_0 b0_1 b1_0 b1_1 b2_0 b2_1 G => stepN fuel (loopD Try.prog O lo79 fuel (nav (Try.f79.body.getD .skip) [1, 1, 0]) 19 (mkE 34 [(2, .loc 0 0), (3, .loc 1 0), (4, .loc 2 0), (5, .float .f64 s5), (6, .int .i64 s6)]) [[.float .f64 b0_0, .float .f64 b0_1], [.float .f64 b1_0, .float .f64 b1_1], [.float .f64 b2_0, .float .f64 b2_1]] G (contC Try.prog O lo79 fuel (Try.f79.body.getD .skip) [1, 1, 0] (fun e env F G => match e with | .exit _ => none | _ => resC Try.prog Try.f79 env F G k)))) p0_0 p0_1 p1_0 p1_1 G := by kernel_rfl

theorem e_zr {R : Type} (O : Ora R) (fuel p0_0 : Nat) (p0_1 p1_0 p1_1 : Nat) (G : GH) (k : KV R) :
  bodyC Try.prog O lo79 fuel Try.f79 [.agg [.float .f64 p0_0, .float .f64 p0_1], .agg [.float .f64 p1_0, .float .f64 p1_1]] G k =
  u_zr O k (L_zr_0 O fuel k) p0_0 p0_1 p1_0 p1_1 G := by
  rw [e_zr_raw, L_zr_0_eq]

theorem r_zr {R : Type} (fuel n p0_0 : Nat) (p0_1 p1_0 p1_1 : Nat) (G : GH) (k : KV R) :
  runC Try.prog lo0 fuel (n + 1) 79 [.agg [.float .f64 p0_0, .float .f64 p0_1], .agg [.float .f64 p1_0, .float .f64 p1_1]] G k = bodyC Try.prog (runC Try.prog lo0 fuel n) lo79 fuel Try.f79 [.agg [.float .f64 p0_0, .float .f64 p0_1], .agg [.float .f64 p1_0, .float .f64 p1_1]] G k := run_body Try.func79 rfl rfl

/-! ### lantern/lanternref03.Valid -/
theorem e_zE1 {R : Type} (O : Ora R) (fuel p0_0 : Nat) (p0_1 p0_2 : Nat) (p0_3 p0_4 p0_5 : Nat) (G : GH) (k : KV R) :
  bodyC Try.prog O [1, 777777] fuel Try.f43 [.agg [.float .f64 p0_0, .float .f64 p0_1, .float .f64 p0_2, .float .f64 p0_3, .float .f64 p0_4, .float .f64 p0_5]] G k =
  O fn_zr1 [.agg [.float .f64 p0_0, .float .f64 p0_1]] G fun v1 G2 =>
  (ivBool v1).bind fun x3 =>
  bif x3 then
  O fn_zr1 [.agg [.float .f64 p0_2, .float .f64 p0_3]] G2 fun v4 G5 =>
  (ivBool v4).bind fun x6 =>
  bif x6 then
  O fn_zr1 [.agg [.float .f64 p0_4, .float .f64 p0_5]] G5 fun v7 G8 =>
  (ivBool v7).bind fun x9 =>
  k (.bool x9) G8
  else
  k (.bool false) G5
  else
  k (.bool false) G2 := by kernel_rfl

theorem r_zE1 {R : Type} (fuel n p0_0 : Nat) (p0_1 p0_2 : Nat) (p0_3 p0_4 p0_5 : Nat) (G : GH) (k : KV R) :
  runC Try.prog lo0 fuel (n + 1) 43 [.agg [.float .f64 p0_0, .float .f64 p0_1, .float .f64 p0_2, .float .f64 p0_3, .float .f64 p0_4, .float .f64 p0_5]] G k = bodyC Try.prog (runC Try.prog lo0 fuel n) [1, 777777] fuel Try.f43 [.agg [.float .f64 p0_0, .float .f64 p0_1, .float .f64 p0_2, .float .f64 p0_3, .float .f64 p0_4, .float .f64 p0_5]] G k := run_body Try.func43 rfl rfl

/-! ### lantern/lanternref03.Same -/
theorem e_zu1 {R : Type} (O : Ora R) (fuel p0_0 : Nat) (p0_1 p0_2 : Nat) (p0_3 p0_4 : Nat) (p0_5 p1_0 : Nat) (p1_1 p1_2 : Nat) (p1_3 p1_4 p1_5 : Nat) (G : GH) (k : KV R) :
  bodyC Try.prog O [2, 3, 777777] fuel Try.f29 [.agg [.float .f64 p0_0, .float .f64 p0_1, .float .f64 p0_2, .float .f64 p0_3, .float .f64 p0_4, .float .f64 p0_5], .agg [.float .f64 p1_0, .float .f64 p1_1, .float .f64 p1_2, .float .f64 p1_3, .float .f64 p1_4, .float .f64 p1_5]] G k =
  O fn_zo1 [.agg [.float .f64 p0_0, .float .f64 p0_1], .agg [.float .f64 p1_0, .float .f64 p1_1]] G fun v1 G2 =>
  (ivBool v1).bind fun x3 =>
  bif x3 then
  O fn_zo1 [.agg [.float .f64 p0_2, .float .f64 p0_3], .agg [.float .f64 p1_2, .float .f64 p1_3]] G2 fun v4 G5 =>
  (ivBool v4).bind fun x6 =>
  bif x6 then
  O fn_zo1 [.agg [.float .f64 p0_4, .float .f64 p0_5], .agg [.float .f64 p1_4, .float .f64 p1_5]] G5 fun v7 G8 =>
  (ivBool v7).bind fun x9 =>
  k (.bool x9) G8
  else
  k (.bool false) G5
  else
  k (.bool false) G2 := by kernel_rfl

theorem r_zu1 {R : Type} (fuel n p0_0 : Nat) (p0_1 p0_2 : Nat) (p0_3 p0_4 : Nat) (p0_5 p1_0 : Nat) (p1_1 p1_2 : Nat) (p1_3 p1_4 p1_5 : Nat) (G : GH) (k : KV R) :
  runC Try.prog lo0 fuel (n + 1) 29 [.agg [.float .f64 p0_0, .float .f64 p0_1, .float .f64 p0_2, .float .f64 p0_3, .float .f64 p0_4, .float .f64 p0_5], .agg [.float .f64 p1_0, .float .f64 p1_1, .float .f64 p1_2, .float .f64 p1_3, .float .f64 p1_4, .float .f64 p1_5]] G k = bodyC Try.prog (runC Try.prog lo0 fuel n) [2, 3, 777777] fuel Try.f29 [.agg [.float .f64 p0_0, .float .f64 p0_1, .float .f64 p0_2, .float .f64 p0_3, .float .f64 p0_4, .float .f64 p0_5], .agg [.float .f64 p1_0, .float .f64 p1_1, .float .f64 p1_2, .float .f64 p1_3, .float .f64 p1_4, .float .f64 p1_5]] G k := run_body Try.func29 rfl rfl

/-! ### lantern/lanternref03.Add -/
theorem e_zK1 {R : Type} (O : Ora R) (fuel p0_0 : Nat) (p0_1 p0_2 : Nat) (p0_3 p0_4 : Nat) (p0_5 p1_0 : Nat) (p1_1 p1_2 : Nat) (p1_3 p1_4 p1_5 : Nat) (G : GH) (k : KV R) :
  bodyC Try.prog O [2, 3, 4, 777777] fuel Try.f63 [.agg [.float .f64 p0_0, .float .f64 p0_1, .float .f64 p0_2, .float .f64 p0_3, .float .f64 p0_4, .float .f64 p0_5], .agg [.float .f64 p1_0, .float .f64 p1_1, .float .f64 p1_2, .float .f64 p1_3, .float .f64 p1_4, .float .f64 p1_5]] G k =
  O fn_zr [.agg [.float .f64 p0_0, .float .f64 p0_1], .agg [.float .f64 p1_0, .float .f64 p1_1]] (gfreeze G) fun v1 _ =>
  (ivAgg 2 v1).bind fun c2 =>
  (ivFloat .f64 (c2.getD 0 undefI)).bind fun x3 =>
  (ivFloat .f64 (c2.getD 1 undefI)).bind fun x4 =>
  O fn_zr [.agg [.float .f64 p0_2, .float .f64 p0_3], .agg [.float .f64 p1_2, .float .f64 p1_3]] (gfreeze G) fun v5 _ =>
  (ivAgg 2 v5).bind fun c6 =>
  (ivFloat .f64 (c6.getD 0 undefI)).bind fun x7 =>
  (ivFloat .f64 (c6.getD 1 undefI)).bind fun x8 =>
  O fn_zr [.agg [.float .f64 p0_4, .float .f64 p0_5], .agg [.float .f64 p1_4, .float .f64 p1_5]] (gfreeze G) fun v9 _ =>
  (ivAgg 2 v9).bind fun c10 =>
  (ivFloat .f64 (c10.getD 0 undefI)).bind fun x11 =>
  (ivFloat .f64 (c10.getD 1 undefI)).bind fun x12 =>
  k (.agg [.float .f64 x3, .float .f64 x4, .float .f64 x7, .float .f64 x8, .float .f64 x11, .float .f64 x12]) G := by kernel_rfl

theorem r_zK1 {R : Type} (fuel n p0_0 : Nat) (p0_1 p0_2 : Nat) (p0_3 p0_4 : Nat) (p0_5 p1_0 : Nat) (p1_1 p1_2 : Nat) (p1_3 p1_4 p1_5 : Nat) (G : GH) (k : KV R) :
  runC Try.prog lo0 fuel (n + 1) 63 [.agg [.float .f64 p0_0, .float .f64 p0_1, .float .f64 p0_2, .float .f64 p0_3, .float .f64 p0_4, .float .f64 p0_5], .agg [.float .f64 p1_0, .float .f64 p1_1, .float .f64 p1_2, .float .f64 p1_3, .float .f64 p1_4, .float .f64 p1_5]] G k = bodyC Try.prog (runC Try.prog lo0 fuel n) [2, 3, 4, 777777] fuel Try.f63 [.agg [.float .f64 p0_0, .float .f64 p0_1, .float .f64 p0_2, .float .f64 p0_3, .float .f64 p0_4, .float .f64 p0_5], .agg [.float .f64 p1_0, .float .f64 p1_1, .float .f64 p1_2, .float .f64 p1_3, .float .f64 p1_4, .float .f64 p1_5]] G k := run_body Try.func63 rfl rfl

/-! ### lantern/lanternref19.Add -/
theorem e_zw1 {R : Type} (O : Ora R) (fuel p0_0 : Nat) (p0_1 p0_2 : Nat) (p0_3 p0_4 p0_5 : Nat) (p0_6 p0_7 : Int) (p1_0 p1_1 : Nat) (p1_2 p1_3 : Nat) (p1_4 p1_5 : Nat) (p1_6 : Bool) (p1_7a : OG) (p1_7n : Nat) (G : GH) (k : KV R) :
  bodyC Try.prog O [2, 3, 4, 777777] fuel Try.f44 [.agg [.float .f64 p0_0, .float .f64 p0_1, .float .f64 p0_2, .float .f64 p0_3, .float .f64 p0_4, .float .f64 p0_5, .int .i64 p0_6, .int .i64 p0_7], .agg [.float .f64 p1_0, .float .f64 p1_1, .float .f64 p1_2, .float .f64 p1_3, .float .f64 p1_4, .float .f64 p1_5, .bool p1_6, .slice p1_7a p1_7n]] G k =
  O fn_zK1 [.agg [.float .f64 p0_0, .float .f64 p0_1, .float .f64 p0_2, .float .f64 p0_3, .float .f64 p0_4, .float .f64 p0_5], .agg [.float .f64 p1_0, .float .f64 p1_1, .float .f64 p1_2, .float .f64 p1_3, .float .f64 p1_4, .float .f64 p1_5]] G fun v1 G2 =>
  (ivAgg 6 v1).bind fun c3 =>
  (ivFloat .f64 (c3.getD 0 undefI)).bind fun x4 =>
  (ivFloat .f64 (c3.getD 1 undefI)).bind fun x5 =>
  (ivFloat .f64 (c3.getD 2 undefI)).bind fun x6 =>
  (ivFloat .f64 (c3.getD 3 undefI)).bind fun x7 =>
  (ivFloat .f64 (c3.getD 4 undefI)).bind fun x8 =>
  (ivFloat .f64 (c3.getD 5 undefI)).bind fun x9 =>
  bif (!p1_6) then
  k (.agg [.float .f64 x4, .float .f64 x5, .float .f64 x6, .float .f64 x7, .float .f64 x8, .float .f64 x9, .int .i64 (IntKind.wrap .i64 (p0_6 + (1 : Int))), .int .i64 (IntKind.wrap .i64 (p0_7 + (1 : Int)))]) G2
  else
  k (.agg [.float .f64 x4, .float .f64 x5, .float .f64 x6, .float .f64 x7, .float .f64 x8, .float .f64 x9, .int .i64 (IntKind.wrap .i64 (p0_6 + (1 : Int))), .int .i64 p0_7]) G2 := by kernel_rfl

theorem r_zw1 {R : Type} (fuel n p0_0 : Nat) (p0_1 p0_2 : Nat) (p0_3 p0_4 p0_5 : Nat) (p0_6 p0_7 : Int) (p1_0 p1_1 : Nat) (p1_2 p1_3 : Nat) (p1_4 p1_5 : Nat) (p1_6 : Bool) (p1_7a : OG) (p1_7n : Nat) (G : GH) (k : KV R) :
  runC Try.prog lo0 fuel (n + 1) 44 [.agg [.float .f64 p0_0, .float .f64 p0_1, .float .f64 p0_2, .float .f64 p0_3, .float .f64 p0_4, .float .f64 p0_5, .int .i64 p0_6, .int .i64 p0_7], .agg [.float .f64 p1_0, .float .f64 p1_1, .float .f64 p1_2, .float .f64 p1_3, .float .f64 p1_4, .float .f64 p1_5, .bool p1_6, .slice p1_7a p1_7n]] G k = bodyC Try.prog (runC Try.prog lo0 fuel n) [2, 3, 4, 777777] fuel Try.f44 [.agg [.float .f64 p0_0, .float .f64 p0_1, .float .f64 p0_2, .float .f64 p0_3, .float .f64 p0_4, .float .f64 p0_5, .int .i64 p0_6, .int .i64 p0_7], .agg [.float .f64 p1_0, .float .f64 p1_1, .float .f64 p1_2, .float .f64 p1_3, .float .f64 p1_4, .float .f64 p1_5, .bool p1_6, .slice p1_7a p1_7n]] G k := run_body Try.func44 rfl rfl

/-! ### lantern/lanternref19.SamePixel -/
theorem e_zf1 {R : Type} (O : Ora R) (fuel p0_0 : Nat) (p0_1 p0_2 : Nat) (p0_3 p0_4 p0_5 : Nat) (p0_6 p0_7 : Int) (p1_0 p1_1 : Nat) (p1_2 p1_3 : Nat) (p1_4 p1_5 : Nat) (p1_6 p1_7 : Int) (G : GH) (k : KV R) :
  bodyC Try.prog O [2, 3, 777777] fuel Try.f24 [.agg [.float .f64 p0_0, .float .f64 p0_1, .float .f64 p0_2, .float .f64 p0_3, .float .f64 p0_4, .float .f64 p0_5, .int .i64 p0_6, .int .i64 p0_7], .agg [.float .f64 p1_0, .float .f64 p1_1, .float .f64 p1_2, .float .f64 p1_3, .float .f64 p1_4, .float .f64 p1_5, .int .i64 p1_6, .int .i64 p1_7]] G k =
  bif (p0_6 == p1_6) then
  bif (p0_7 == p1_7) then
  O fn_zu1 [.agg [.float .f64 p0_0, .float .f64 p0_1, .float .f64 p0_2, .float .f64 p0_3, .float .f64 p0_4, .float .f64 p0_5], .agg [.float .f64 p1_0, .float .f64 p1_1, .float .f64 p1_2, .float .f64 p1_3, .float .f64 p1_4, .float .f64 p1_5]] G fun v1 G2 =>
  (ivBool v1).bind fun x3 =>
  k (.bool x3) G2
  else
  k (.bool false) G
  else
  k (.bool false) G := by kernel_rfl

theorem r_zf1 {R : Type} (fuel n p0_0 : Nat) (p0_1 p0_2 : Nat) (p0_3 p0_4 p0_5 : Nat) (p0_6 p0_7 : Int) (p1_0 p1_1 : Nat) (p1_2 p1_3 : Nat) (p1_4 p1_5 : Nat) (p1_6 p1_7 : Int) (G : GH) (k : KV R) :
  runC Try.prog lo0 fuel (n + 1) 24 [.agg [.float .f64 p0_0, .float .f64 p0_1, .float .f64 p0_2, .float .f64 p0_3, .float .f64 p0_4, .float .f64 p0_5, .int .i64 p0_6, .int .i64 p0_7], .agg [.float .f64 p1_0, .float .f64 p1_1, .float .f64 p1_2, .float .f64 p1_3, .float .f64 p1_4, .float .f64 p1_5, .int .i64 p1_6, .int .i64 p1_7]] G k = bodyC Try.prog (runC Try.prog lo0 fuel n) [2, 3, 777777] fuel Try.f24 [.agg [.float .f64 p0_0, .float .f64 p0_1, .float .f64 p0_2, .float .f64 p0_3, .float .f64 p0_4, .float .f64 p0_5, .int .i64 p0_6, .int .i64 p0_7], .agg [.float .f64 p1_0, .float .f64 p1_1, .float .f64 p1_2, .float .f64 p1_3, .float .f64 p1_4, .float .f64 p1_5, .int .i64 p1_6, .int .i64 p1_7]] G k := run_body Try.func24 rfl rfl

end Go.LI.Film
