/- What the interpreter gives for textures: Eval (written by tex.py). -/
import Derived.Test.YtbjcipikclbecaaSeatA
namespace Go.LI.Film
open Go.Proofs.Ytbjcipikclbecaa Go Go.Proofs Go.LI
set_option maxRecDepth 100000
set_option linter.unusedVariables false
set_option linter.unusedSimpArgs false
/-! ### lantern/texture.numbers -/
theorem e_texture_numbers {R : Type} (O : Ora R) (fuel p0_0 : Nat) (p0_1 p0_2 : Nat) (G : GH) (k : KV R) :
  bodyC Try.prog O [1, 777777] fuel Try.f39 [.agg [.float .f64 p0_0, .float .f64 p0_1, .float .f64 p0_2]] G k =
  O fn_round_Number [.float .f64 p0_0] G fun v1 G2 =>
  (ivBool v1).bind fun x3 =>
  bif x3 then
  O fn_round_Number [.float .f64 p0_1] G2 fun v4 G5 =>
  (ivBool v4).bind fun x6 =>
  bif x6 then
  O fn_round_Number [.float .f64 p0_2] G5 fun v7 G8 =>
  (ivBool v7).bind fun x9 =>
  k (.bool x9) G8
  else
  k (.bool false) G5
  else
  k (.bool false) G2 := by kernel_rfl

theorem r_texture_numbers {R : Type} (fuel n p0_0 : Nat) (p0_1 p0_2 : Nat) (G : GH) (k : KV R) :
  runC Try.prog lo0 fuel (n + 1) 39 [.agg [.float .f64 p0_0, .float .f64 p0_1, .float .f64 p0_2]] G k = bodyC Try.prog (runC Try.prog lo0 fuel n) [1, 777777] fuel Try.f39 [.agg [.float .f64 p0_0, .float .f64 p0_1, .float .f64 p0_2]] G k := run_body Try.func39 rfl rfl

/-! ### lantern/texture.check$1 -/
theorem e_texture_check_1 {R : Type} (O : Ora R) (fuel : Nat) (p0 : Int) (p1 : GA) (G : GH) (k : KV R) :
  bodyC Try.prog O [777777] fuel Try.f38 [.int .i64 p0, .ptr (some p1)] G k =
  bif (decide (p0 ≥ (0 : Int))) then
  (ldInt G .i64 p1).bind fun x1 =>
  k (.bool (decide (p0 < x1))) G
  else
  k (.bool false) G := by kernel_rfl

theorem r_texture_check_1 {R : Type} (fuel n : Nat) (p0 : Int) (p1 : GA) (G : GH) (k : KV R) :
  runC Try.prog lo0 fuel (n + 1) 38 [.int .i64 p0, .ptr (some p1)] G k = bodyC Try.prog (runC Try.prog lo0 fuel n) [777777] fuel Try.f38 [.int .i64 p0, .ptr (some p1)] G k := run_body Try.func38 rfl rfl

/-! ### lantern/texture.check -/
def u_texture_check_0 {R : Type} (O : Ora R) (KN : Int → GA → Bool → Int → Nat → Nat → Nat → Int → Int → Nat → Int → GH → Option R) (s2 : Int) (s7_0 : GA) (b0_0 : Int) (b0_1 b0_2 b0_3 : Nat) (b0_4 b0_5 : Int) (b0_6 : Nat) (b0_7 : Int) (G : GH) : Option R :=
  bif (decide (b0_0 < (1 : Int))) then
  KN s2 s7_0 true b0_0 b0_1 b0_2 b0_3 b0_4 b0_5 b0_6 b0_7 G
  else
  KN s2 s7_0 (decide (b0_0 > (5 : Int))) b0_0 b0_1 b0_2 b0_3 b0_4 b0_5 b0_6 b0_7 G

def l_texture_check_0 {R : Type} (O : Ora R) (KN : Int → GA → Bool → Int → Nat → Nat → Nat → Int → Int → Nat → Int → GH → Option R) : Int → GA → Int → Nat → Nat → Nat → Int → Int → Nat → Int → GH → Option R := fun s2 s7_0 b0_0 b0_1 b0_2 b0_3 b0_4 b0_5 b0_6 b0_7 G => u_texture_check_0 O KN s2 s7_0 b0_0 b0_1 b0_2 b0_3 b0_4 b0_5 b0_6 b0_7 G

theorem u_texture_check_0_raw {R : Type} (O : Ora R) (fuel : Nat) (s2 : Int) (s7_0 : GA) (b0_0 : Int) (b0_1 b0_2 b0_3 : Nat) (b0_4 b0_5 : Int) (b0_6 : Nat) (b0_7 : Int) (G : GH) (k : KE R) :
  loopD Try.prog O lo22 fuel (nav (Try.f22.body.getD .skip) [1, 1, 0, 0, 0]) 15 (mkE 110 [(2, .int .i64 s2), (3, .loc 0 0), (7, .func 38 [.ptr (some s7_0)])]) [[.int .i64 b0_0, .float .f64 b0_1, .float .f64 b0_2, .float .f64 b0_3, .int .i64 b0_4, .int .i64 b0_5, .float .f64 b0_6, .int .i64 b0_7]] G k =
  u_texture_check_0 O (fun s2 s7_0 s9 b0_0 b0_1 b0_2 b0_3 b0_4 b0_5 b0_6 b0_7 G => k .normal (mkE 110 [(2, .int .i64 s2), (3, .loc 0 0), (7, .func 38 [.ptr (some s7_0)]), (9, .bool s9)]) [[.int .i64 b0_0, .float .f64 b0_1, .float .f64 b0_2, .float .f64 b0_3, .int .i64 b0_4, .int .i64 b0_5, .float .f64 b0_6, .int .i64 b0_7]] G) s2 s7_0 b0_0 b0_1 b0_2 b0_3 b0_4 b0_5 b0_6 b0_7 G := by kernel_rfl

theorem l_texture_check_0_eq {R : Type} (O : Ora R) (fuel : Nat) (k : KE R) : ∀ (s2 : Int) (s7_0 : GA) (b0_0 : Int) (b0_1 b0_2 b0_3 : Nat) (b0_4 b0_5 : Int) (b0_6 : Nat) (b0_7 : Int) (G : GH),
  loopD Try.prog O lo22 fuel (nav (Try.f22.body.getD .skip) [1, 1, 0, 0, 0]) 15 (mkE 110 [(2, .int .i64 s2), (3, .loc 0 0), (7, .func 38 [.ptr (some s7_0)])]) [[.int .i64 b0_0, .float .f64 b0_1, .float .f64 b0_2, .float .f64 b0_3, .int .i64 b0_4, .int .i64 b0_5, .float .f64 b0_6, .int .i64 b0_7]] G k = l_texture_check_0 O (fun s2 s7_0 s9 b0_0 b0_1 b0_2 b0_3 b0_4 b0_5 b0_6 b0_7 G => k .normal (mkE 110 [(2, .int .i64 s2), (3, .loc 0 0), (7, .func 38 [.ptr (some s7_0)]), (9, .bool s9)]) [[.int .i64 b0_0, .float .f64 b0_1, .float .f64 b0_2, .float .f64 b0_3, .int .i64 b0_4, .int .i64 b0_5, .float .f64 b0_6, .int .i64 b0_7]] G) s2 s7_0 b0_0 b0_1 b0_2 b0_3 b0_4 b0_5 b0_6 b0_7 G := by
  intros
  rw [u_texture_check_0_raw]
  simp only [l_texture_check_0]

def u_texture_check_1 {R : Type} (O : Ora R) (KN : Int → GA → Bool → Int → Nat → Nat → Nat → Int → Int → Nat → Int → GH → Option R) (s2 : Int) (s7_0 : GA) (b0_0 : Int) (b0_1 b0_2 b0_3 : Nat) (b0_4 b0_5 : Int) (b0_6 : Nat) (b0_7 : Int) (G : GH) : Option R :=
  bif (b0_0 == (1 : Int)) then
  O fn_texture_numbers [.agg [.float .f64 b0_1, .float .f64 b0_2, .float .f64 b0_3]] G fun v1 G2 =>
  (ivBool v1).bind fun x3 =>
  KN s2 s7_0 (!x3) b0_0 b0_1 b0_2 b0_3 b0_4 b0_5 b0_6 b0_7 G2
  else
  bif (b0_0 == (5 : Int)) then
  O fn_texture_numbers [.agg [.float .f64 b0_1, .float .f64 b0_2, .float .f64 b0_3]] G fun v4 G5 =>
  (ivBool v4).bind fun x6 =>
  KN s2 s7_0 (!x6) b0_0 b0_1 b0_2 b0_3 b0_4 b0_5 b0_6 b0_7 G5
  else
  KN s2 s7_0 false b0_0 b0_1 b0_2 b0_3 b0_4 b0_5 b0_6 b0_7 G

def l_texture_check_1 {R : Type} (O : Ora R) (KN : Int → GA → Bool → Int → Nat → Nat → Nat → Int → Int → Nat → Int → GH → Option R) : Int → GA → Int → Nat → Nat → Nat → Int → Int → Nat → Int → GH → Option R := fun s2 s7_0 b0_0 b0_1 b0_2 b0_3 b0_4 b0_5 b0_6 b0_7 G => u_texture_check_1 O KN s2 s7_0 b0_0 b0_1 b0_2 b0_3 b0_4 b0_5 b0_6 b0_7 G

theorem u_texture_check_1_raw {R : Type} (O : Ora R) (fuel : Nat) (s2 : Int) (s7_0 : GA) (b0_0 : Int) (b0_1 b0_2 b0_3 : Nat) (b0_4 b0_5 : Int) (b0_6 : Nat) (b0_7 : Int) (G : GH) (k : KE R) :
  loopD Try.prog O lo22 fuel (nav (Try.f22.body.getD .skip) [1, 1, 0, 0, 1, 1, 0]) 23 (mkE 110 [(2, .int .i64 s2), (3, .loc 0 0), (7, .func 38 [.ptr (some s7_0)])]) [[.int .i64 b0_0, .float .f64 b0_1, .float .f64 b0_2, .float .f64 b0_3, .int .i64 b0_4, .int .i64 b0_5, .float .f64 b0_6, .int .i64 b0_7]] G k =
  u_texture_check_1 O (fun s2 s7_0 s18 b0_0 b0_1 b0_2 b0_3 b0_4 b0_5 b0_6 b0_7 G => k .normal (mkE 110 [(2, .int .i64 s2), (3, .loc 0 0), (7, .func 38 [.ptr (some s7_0)]), (18, .bool s18)]) [[.int .i64 b0_0, .float .f64 b0_1, .float .f64 b0_2, .float .f64 b0_3, .int .i64 b0_4, .int .i64 b0_5, .float .f64 b0_6, .int .i64 b0_7]] G) s2 s7_0 b0_0 b0_1 b0_2 b0_3 b0_4 b0_5 b0_6 b0_7 G := by kernel_rfl

theorem l_texture_check_1_eq {R : Type} (O : Ora R) (fuel : Nat) (k : KE R) : ∀ (s2 : Int) (s7_0 : GA) (b0_0 : Int) (b0_1 b0_2 b0_3 : Nat) (b0_4 b0_5 : Int) (b0_6 : Nat) (b0_7 : Int) (G : GH),
  loopD Try.prog O lo22 fuel (nav (Try.f22.body.getD .skip) [1, 1, 0, 0, 1, 1, 0]) 23 (mkE 110 [(2, .int .i64 s2), (3, .loc 0 0), (7, .func 38 [.ptr (some s7_0)])]) [[.int .i64 b0_0, .float .f64 b0_1, .float .f64 b0_2, .float .f64 b0_3, .int .i64 b0_4, .int .i64 b0_5, .float .f64 b0_6, .int .i64 b0_7]] G k = l_texture_check_1 O (fun s2 s7_0 s18 b0_0 b0_1 b0_2 b0_3 b0_4 b0_5 b0_6 b0_7 G => k .normal (mkE 110 [(2, .int .i64 s2), (3, .loc 0 0), (7, .func 38 [.ptr (some s7_0)]), (18, .bool s18)]) [[.int .i64 b0_0, .float .f64 b0_1, .float .f64 b0_2, .float .f64 b0_3, .int .i64 b0_4, .int .i64 b0_5, .float .f64 b0_6, .int .i64 b0_7]] G) s2 s7_0 b0_0 b0_1 b0_2 b0_3 b0_4 b0_5 b0_6 b0_7 G := by
  intros
  rw [u_texture_check_1_raw]
  simp only [l_texture_check_1]

def u_texture_check_2 {R : Type} (O : Ora R) (KN : Int → GA → Bool → Int → Nat → Nat → Nat → Int → Int → Nat → Int → GH → Option R) (s2 : Int) (s7_0 : GA) (b0_0 : Int) (b0_1 b0_2 b0_3 : Nat) (b0_4 b0_5 : Int) (b0_6 : Nat) (b0_7 : Int) (G : GH) : Option R :=
  bif (decide (b0_0 ≥ (2 : Int))) then
  bif (decide (b0_0 ≤ (4 : Int))) then
  O fn_round_Number [.float .f64 b0_6] G fun v1 G2 =>
  (ivBool v1).bind fun x3 =>
  KN s2 s7_0 (!x3) b0_0 b0_1 b0_2 b0_3 b0_4 b0_5 b0_6 b0_7 G2
  else
  KN s2 s7_0 false b0_0 b0_1 b0_2 b0_3 b0_4 b0_5 b0_6 b0_7 G
  else
  KN s2 s7_0 false b0_0 b0_1 b0_2 b0_3 b0_4 b0_5 b0_6 b0_7 G

def l_texture_check_2 {R : Type} (O : Ora R) (KN : Int → GA → Bool → Int → Nat → Nat → Nat → Int → Int → Nat → Int → GH → Option R) : Int → GA → Int → Nat → Nat → Nat → Int → Int → Nat → Int → GH → Option R := fun s2 s7_0 b0_0 b0_1 b0_2 b0_3 b0_4 b0_5 b0_6 b0_7 G => u_texture_check_2 O KN s2 s7_0 b0_0 b0_1 b0_2 b0_3 b0_4 b0_5 b0_6 b0_7 G

theorem u_texture_check_2_raw {R : Type} (O : Ora R) (fuel : Nat) (s2 : Int) (s7_0 : GA) (b0_0 : Int) (b0_1 b0_2 b0_3 : Nat) (b0_4 b0_5 : Int) (b0_6 : Nat) (b0_7 : Int) (G : GH) (k : KE R) :
  loopD Try.prog O lo22 fuel (nav (Try.f22.body.getD .skip) [1, 1, 0, 0, 1, 1, 1, 1, 0]) 31 (mkE 110 [(2, .int .i64 s2), (3, .loc 0 0), (7, .func 38 [.ptr (some s7_0)])]) [[.int .i64 b0_0, .float .f64 b0_1, .float .f64 b0_2, .float .f64 b0_3, .int .i64 b0_4, .int .i64 b0_5, .float .f64 b0_6, .int .i64 b0_7]] G k =
  u_texture_check_2 O (fun s2 s7_0 s33 b0_0 b0_1 b0_2 b0_3 b0_4 b0_5 b0_6 b0_7 G => k .normal (mkE 110 [(2, .int .i64 s2), (3, .loc 0 0), (7, .func 38 [.ptr (some s7_0)]), (33, .bool s33)]) [[.int .i64 b0_0, .float .f64 b0_1, .float .f64 b0_2, .float .f64 b0_3, .int .i64 b0_4, .int .i64 b0_5, .float .f64 b0_6, .int .i64 b0_7]] G) s2 s7_0 b0_0 b0_1 b0_2 b0_3 b0_4 b0_5 b0_6 b0_7 G := by kernel_rfl

theorem l_texture_check_2_eq {R : Type} (O : Ora R) (fuel : Nat) (k : KE R) : ∀ (s2 : Int) (s7_0 : GA) (b0_0 : Int) (b0_1 b0_2 b0_3 : Nat) (b0_4 b0_5 : Int) (b0_6 : Nat) (b0_7 : Int) (G : GH),
  loopD Try.prog O lo22 fuel (nav (Try.f22.body.getD .skip) [1, 1, 0, 0, 1, 1, 1, 1, 0]) 31 (mkE 110 [(2, .int .i64 s2), (3, .loc 0 0), (7, .func 38 [.ptr (some s7_0)])]) [[.int .i64 b0_0, .float .f64 b0_1, .float .f64 b0_2, .float .f64 b0_3, .int .i64 b0_4, .int .i64 b0_5, .float .f64 b0_6, .int .i64 b0_7]] G k = l_texture_check_2 O (fun s2 s7_0 s33 b0_0 b0_1 b0_2 b0_3 b0_4 b0_5 b0_6 b0_7 G => k .normal (mkE 110 [(2, .int .i64 s2), (3, .loc 0 0), (7, .func 38 [.ptr (some s7_0)]), (33, .bool s33)]) [[.int .i64 b0_0, .float .f64 b0_1, .float .f64 b0_2, .float .f64 b0_3, .int .i64 b0_4, .int .i64 b0_5, .float .f64 b0_6, .int .i64 b0_7]] G) s2 s7_0 b0_0 b0_1 b0_2 b0_3 b0_4 b0_5 b0_6 b0_7 G := by
  intros
  rw [u_texture_check_2_raw]
  simp only [l_texture_check_2]

def u_texture_check_3 {R : Type} (O : Ora R) (KN : Int → GA → Bool → Int → Nat → Nat → Nat → Int → Int → Nat → Int → GH → Option R) (s2 : Int) (s7_0 : GA) (b0_0 : Int) (b0_1 b0_2 b0_3 : Nat) (b0_4 b0_5 : Int) (b0_6 : Nat) (b0_7 : Int) (G : GH) : Option R :=
  bif (b0_0 == (3 : Int)) then
  bif (flt .f64 b0_6 (0 : Nat)) then
  KN s2 s7_0 true b0_0 b0_1 b0_2 b0_3 b0_4 b0_5 b0_6 b0_7 G
  else
  KN s2 s7_0 (fgt .f64 b0_6 (4607182418800017408 : Nat)) b0_0 b0_1 b0_2 b0_3 b0_4 b0_5 b0_6 b0_7 G
  else
  KN s2 s7_0 false b0_0 b0_1 b0_2 b0_3 b0_4 b0_5 b0_6 b0_7 G

def l_texture_check_3 {R : Type} (O : Ora R) (KN : Int → GA → Bool → Int → Nat → Nat → Nat → Int → Int → Nat → Int → GH → Option R) : Int → GA → Int → Nat → Nat → Nat → Int → Int → Nat → Int → GH → Option R := fun s2 s7_0 b0_0 b0_1 b0_2 b0_3 b0_4 b0_5 b0_6 b0_7 G => u_texture_check_3 O KN s2 s7_0 b0_0 b0_1 b0_2 b0_3 b0_4 b0_5 b0_6 b0_7 G

theorem u_texture_check_3_raw {R : Type} (O : Ora R) (fuel : Nat) (s2 : Int) (s7_0 : GA) (b0_0 : Int) (b0_1 b0_2 b0_3 : Nat) (b0_4 b0_5 : Int) (b0_6 : Nat) (b0_7 : Int) (G : GH) (k : KE R) :
  loopD Try.prog O lo22 fuel (nav (Try.f22.body.getD .skip) [1, 1, 0, 0, 1, 1, 1, 1, 1, 1, 0]) 39 (mkE 110 [(2, .int .i64 s2), (3, .loc 0 0), (7, .func 38 [.ptr (some s7_0)])]) [[.int .i64 b0_0, .float .f64 b0_1, .float .f64 b0_2, .float .f64 b0_3, .int .i64 b0_4, .int .i64 b0_5, .float .f64 b0_6, .int .i64 b0_7]] G k =
  u_texture_check_3 O (fun s2 s7_0 s48 b0_0 b0_1 b0_2 b0_3 b0_4 b0_5 b0_6 b0_7 G => k .normal (mkE 110 [(2, .int .i64 s2), (3, .loc 0 0), (7, .func 38 [.ptr (some s7_0)]), (48, .bool s48)]) [[.int .i64 b0_0, .float .f64 b0_1, .float .f64 b0_2, .float .f64 b0_3, .int .i64 b0_4, .int .i64 b0_5, .float .f64 b0_6, .int .i64 b0_7]] G) s2 s7_0 b0_0 b0_1 b0_2 b0_3 b0_4 b0_5 b0_6 b0_7 G := by kernel_rfl

theorem l_texture_check_3_eq {R : Type} (O : Ora R) (fuel : Nat) (k : KE R) : ∀ (s2 : Int) (s7_0 : GA) (b0_0 : Int) (b0_1 b0_2 b0_3 : Nat) (b0_4 b0_5 : Int) (b0_6 : Nat) (b0_7 : Int) (G : GH),
  loopD Try.prog O lo22 fuel (nav (Try.f22.body.getD .skip) [1, 1, 0, 0, 1, 1, 1, 1, 1, 1, 0]) 39 (mkE 110 [(2, .int .i64 s2), (3, .loc 0 0), (7, .func 38 [.ptr (some s7_0)])]) [[.int .i64 b0_0, .float .f64 b0_1, .float .f64 b0_2, .float .f64 b0_3, .int .i64 b0_4, .int .i64 b0_5, .float .f64 b0_6, .int .i64 b0_7]] G k = l_texture_check_3 O (fun s2 s7_0 s48 b0_0 b0_1 b0_2 b0_3 b0_4 b0_5 b0_6 b0_7 G => k .normal (mkE 110 [(2, .int .i64 s2), (3, .loc 0 0), (7, .func 38 [.ptr (some s7_0)]), (48, .bool s48)]) [[.int .i64 b0_0, .float .f64 b0_1, .float .f64 b0_2, .float .f64 b0_3, .int .i64 b0_4, .int .i64 b0_5, .float .f64 b0_6, .int .i64 b0_7]] G) s2 s7_0 b0_0 b0_1 b0_2 b0_3 b0_4 b0_5 b0_6 b0_7 G := by
  intros
  rw [u_texture_check_3_raw]
  simp only [l_texture_check_3]

def u_texture_check_5 {R : Type} (O : Ora R) (KN : Int → GA → Bool → Int → Nat → Nat → Nat → Int → Int → Nat → Int → GH → Option R) (s2 : Int) (s7_0 : GA) (b0_0 : Int) (b0_1 b0_2 b0_3 : Nat) (b0_4 b0_5 : Int) (b0_6 : Nat) (b0_7 : Int) (G : GH) : Option R :=
  bif (b0_0 == (2 : Int)) then
  O fn_texture_check_1 [.int .i64 b0_4, .ptr (some s7_0)] G fun v1 G2 =>
  (ivBool v1).bind fun x3 =>
  bif (!x3) then
  KN s2 s7_0 true b0_0 b0_1 b0_2 b0_3 b0_4 b0_5 b0_6 b0_7 G2
  else
  O fn_texture_check_1 [.int .i64 b0_5, .ptr (some s7_0)] G2 fun v4 G5 =>
  (ivBool v4).bind fun x6 =>
  KN s2 s7_0 (!x6) b0_0 b0_1 b0_2 b0_3 b0_4 b0_5 b0_6 b0_7 G5
  else
  bif (b0_0 == (3 : Int)) then
  O fn_texture_check_1 [.int .i64 b0_4, .ptr (some s7_0)] G fun v7 G8 =>
  (ivBool v7).bind fun x9 =>
  bif (!x9) then
  KN s2 s7_0 true b0_0 b0_1 b0_2 b0_3 b0_4 b0_5 b0_6 b0_7 G8
  else
  O fn_texture_check_1 [.int .i64 b0_5, .ptr (some s7_0)] G8 fun v10 G11 =>
  (ivBool v10).bind fun x12 =>
  KN s2 s7_0 (!x12) b0_0 b0_1 b0_2 b0_3 b0_4 b0_5 b0_6 b0_7 G11
  else
  KN s2 s7_0 false b0_0 b0_1 b0_2 b0_3 b0_4 b0_5 b0_6 b0_7 G

def l_texture_check_5 {R : Type} (O : Ora R) (KN : Int → GA → Bool → Int → Nat → Nat → Nat → Int → Int → Nat → Int → GH → Option R) : Int → GA → Int → Nat → Nat → Nat → Int → Int → Nat → Int → GH → Option R := fun s2 s7_0 b0_0 b0_1 b0_2 b0_3 b0_4 b0_5 b0_6 b0_7 G => u_texture_check_5 O KN s2 s7_0 b0_0 b0_1 b0_2 b0_3 b0_4 b0_5 b0_6 b0_7 G

theorem u_texture_check_5_raw {R : Type} (O : Ora R) (fuel : Nat) (s2 : Int) (s7_0 : GA) (b0_0 : Int) (b0_1 b0_2 b0_3 : Nat) (b0_4 b0_5 : Int) (b0_6 : Nat) (b0_7 : Int) (G : GH) (k : KE R) :
  loopD Try.prog O lo22 fuel (nav (Try.f22.body.getD .skip) [1, 1, 0, 0, 1, 1, 1, 1, 1, 1, 1, 1, 0, 0]) 3 (mkE 110 [(2, .int .i64 s2), (3, .loc 0 0), (7, .func 38 [.ptr (some s7_0)])]) [[.int .i64 b0_0, .float .f64 b0_1, .float .f64 b0_2, .float .f64 b0_3, .int .i64 b0_4, .int .i64 b0_5, .float .f64 b0_6, .int .i64 b0_7]] G k =
  u_texture_check_5 O (fun s2 s7_0 s62 b0_0 b0_1 b0_2 b0_3 b0_4 b0_5 b0_6 b0_7 G => k .normal (mkE 110 [(2, .int .i64 s2), (3, .loc 0 0), (7, .func 38 [.ptr (some s7_0)]), (62, .bool s62)]) [[.int .i64 b0_0, .float .f64 b0_1, .float .f64 b0_2, .float .f64 b0_3, .int .i64 b0_4, .int .i64 b0_5, .float .f64 b0_6, .int .i64 b0_7]] G) s2 s7_0 b0_0 b0_1 b0_2 b0_3 b0_4 b0_5 b0_6 b0_7 G := by kernel_rfl

theorem l_texture_check_5_eq {R : Type} (O : Ora R) (fuel : Nat) (k : KE R) : ∀ (s2 : Int) (s7_0 : GA) (b0_0 : Int) (b0_1 b0_2 b0_3 : Nat) (b0_4 b0_5 : Int) (b0_6 : Nat) (b0_7 : Int) (G : GH),
  loopD Try.prog O lo22 fuel (nav (Try.f22.body.getD .skip) [1, 1, 0, 0, 1, 1, 1, 1, 1, 1, 1, 1, 0, 0]) 3 (mkE 110 [(2, .int .i64 s2), (3, .loc 0 0), (7, .func 38 [.ptr (some s7_0)])]) [[.int .i64 b0_0, .float .f64 b0_1, .float .f64 b0_2, .float .f64 b0_3, .int .i64 b0_4, .int .i64 b0_5, .float .f64 b0_6, .int .i64 b0_7]] G k = l_texture_check_5 O (fun s2 s7_0 s62 b0_0 b0_1 b0_2 b0_3 b0_4 b0_5 b0_6 b0_7 G => k .normal (mkE 110 [(2, .int .i64 s2), (3, .loc 0 0), (7, .func 38 [.ptr (some s7_0)]), (62, .bool s62)]) [[.int .i64 b0_0, .float .f64 b0_1, .float .f64 b0_2, .float .f64 b0_3, .int .i64 b0_4, .int .i64 b0_5, .float .f64 b0_6, .int .i64 b0_7]] G) s2 s7_0 b0_0 b0_1 b0_2 b0_3 b0_4 b0_5 b0_6 b0_7 G := by
  intros
  rw [u_texture_check_5_raw]
  simp only [l_texture_check_5]

def u_texture_check_4 {R : Type} (O : Ora R) (KN : Int → Bool → Int → Nat → Nat → Nat → Int → Int → Nat → Int → GH → Option R) (L5 : Int → GA → Int → Nat → Nat → Nat → Int → Int → Nat → Int → GH → Option R) (s2 : Int) (s7_0 : GA) (b0_0 : Int) (b0_1 b0_2 b0_3 : Nat) (b0_4 b0_5 : Int) (b0_6 : Nat) (b0_7 : Int) (G : GH) : Option R :=
  L5 s2 s7_0 b0_0 b0_1 b0_2 b0_3 b0_4 b0_5 b0_6 b0_7 G

def a_texture_check_5N {R : Type} (O : Ora R) (KN : Int → Bool → Int → Nat → Nat → Nat → Int → Int → Nat → Int → GH → Option R) (s2 : Int) (s7_0 : GA) (s62 : Bool) (b0_0 : Int) (b0_1 b0_2 b0_3 : Nat) (b0_4 b0_5 : Int) (b0_6 : Nat) (b0_7 : Int) (G : GH) : Option R :=
  bif s62 then
  KN s2 s62 b0_0 b0_1 b0_2 b0_3 b0_4 b0_5 b0_6 b0_7 G
  else
  bif (b0_0 == (5 : Int)) then
  O fn_texture_check_1 [.int .i64 b0_4, .ptr (some s7_0)] G fun v1 G2 =>
  (ivBool v1).bind fun x3 =>
  KN s2 (!x3) b0_0 b0_1 b0_2 b0_3 b0_4 b0_5 b0_6 b0_7 G2
  else
  KN s2 false b0_0 b0_1 b0_2 b0_3 b0_4 b0_5 b0_6 b0_7 G

def L_texture_check_5 {R : Type} (O : Ora R) (fuel : Nat) (KN : Int → Bool → Int → Nat → Nat → Nat → Int → Int → Nat → Int → GH → Option R) : Int → GA → Int → Nat → Nat → Nat → Int → Int → Nat → Int → GH → Option R := fun s2 s7_0 b0_0 b0_1 b0_2 b0_3 b0_4 b0_5 b0_6 b0_7 G =>
  stepN fuel (l_texture_check_5 O (a_texture_check_5N O KN) s2 s7_0 b0_0 b0_1 b0_2 b0_3 b0_4 b0_5 b0_6 b0_7 G)

theorem a_texture_check_5N_raw {R : Type} (O : Ora R) (fuel : Nat) (s2 : Int) (s7_0 : GA) (s62 : Bool) (b0_0 : Int) (b0_1 b0_2 b0_3 : Nat) (b0_4 b0_5 : Int) (b0_6 : Nat) (b0_7 : Int) (G : GH) (k : KE R) :
  contC Try.prog O lo22 fuel (nav (Try.f22.body.getD .skip) [1, 1, 0, 0, 1, 1, 1, 1, 1, 1, 1, 1, 0]) [0] (kpD lo22 51 1 k) .normal (mkE 110 [(2, .int .i64 s2), (3, .loc 0 0), (7, .func 38 [.ptr (some s7_0)]), (62, .bool s62)]) [[.int .i64 b0_0, .float .f64 b0_1, .float .f64 b0_2, .float .f64 b0_3, .int .i64 b0_4, .int .i64 b0_5, .float .f64 b0_6, .int .i64 b0_7]] G =
  a_texture_check_5N O (fun s2 s62 b0_0 b0_1 b0_2 b0_3 b0_4 b0_5 b0_6 b0_7 G => k .normal (mkE 110 [(2, .int .i64 s2), (3, .loc 0 0), (62, .bool s62)]) [[.int .i64 b0_0, .float .f64 b0_1, .float .f64 b0_2, .float .f64 b0_3, .int .i64 b0_4, .int .i64 b0_5, .float .f64 b0_6, .int .i64 b0_7]] G) s2 s7_0 s62 b0_0 b0_1 b0_2 b0_3 b0_4 b0_5 b0_6 b0_7 G := by kernel_rfl

theorem L_texture_check_5_eq {R : Type} (O : Ora R) (fuel : Nat) (k : KE R) :
  (fun (s2 : Int) (s7_0 : GA) (b0_0 : Int) (b0_1 b0_2 b0_3 : Nat) (b0_4 b0_5 : Int) (b0_6 : Nat) (b0_7 : Int) (G : GH) => stepN fuel (loopD Try.prog O lo22 fuel (nav (Try.f22.body.getD .skip) [1, 1, 0, 0, 1, 1, 1, 1, 1, 1, 1, 1, 0, 0]) 3 (mkE 110 [(2, .int .i64 s2), (3, .loc 0 0), (7, .func 38 [.ptr (some s7_0)])]) [[.int .i64 b0_0, .float .f64 b0_1, .float .f64 b0_2, .float .f64 b0_3, .int .i64 b0_4, .int .i64 b0_5, .float .f64 b0_6, .int .i64 b0_7]] G (contC Try.prog O lo22 fuel (nav (Try.f22.body.getD .skip) [1, 1, 0, 0, 1, 1, 1, 1, 1, 1, 1, 1, 0]) [0] (kpD lo22 51 1 k)))) = L_texture_check_5 O fuel (fun (s2 : Int) (s62 : Bool) (b0_0 : Int) (b0_1 b0_2 b0_3 : Nat) (b0_4 b0_5 : Int) (b0_6 : Nat) (b0_7 : Int) (G : GH) => k .normal (mkE 110 [(2, .int .i64 s2), (3, .loc 0 0), (62, .bool s62)]) [[.int .i64 b0_0, .float .f64 b0_1, .float .f64 b0_2, .float .f64 b0_3, .int .i64 b0_4, .int .i64 b0_5, .float .f64 b0_6, .int .i64 b0_7]] G) := by
  funext s2 s7_0 b0_0 b0_1 b0_2 b0_3 b0_4 b0_5 b0_6 b0_7 G
  simp only [L_texture_check_5, l_texture_check_5_eq, a_texture_check_5N_raw]

def l_texture_check_4 {R : Type} (O : Ora R) (fuel : Nat) (KN : Int → Bool → Int → Nat → Nat → Nat → Int → Int → Nat → Int → GH → Option R) : Int → GA → Int → Nat → Nat → Nat → Int → Int → Nat → Int → GH → Option R := fun s2 s7_0 b0_0 b0_1 b0_2 b0_3 b0_4 b0_5 b0_6 b0_7 G => u_texture_check_4 O KN (L_texture_check_5 O fuel KN) s2 s7_0 b0_0 b0_1 b0_2 b0_3 b0_4 b0_5 b0_6 b0_7 G

theorem u_texture_check_4_raw {R : Type} (O : Ora R) (fuel : Nat) (s2 : Int) (s7_0 : GA) (b0_0 : Int) (b0_1 b0_2 b0_3 : Nat) (b0_4 b0_5 : Int) (b0_6 : Nat) (b0_7 : Int) (G : GH) (k : KE R) :
  loopD Try.prog O lo22 fuel (nav (Try.f22.body.getD .skip) [1, 1, 0, 0, 1, 1, 1, 1, 1, 1, 1, 1, 0]) 51 (mkE 110 [(2, .int .i64 s2), (3, .loc 0 0), (7, .func 38 [.ptr (some s7_0)])]) [[.int .i64 b0_0, .float .f64 b0_1, .float .f64 b0_2, .float .f64 b0_3, .int .i64 b0_4, .int .i64 b0_5, .float .f64 b0_6, .int .i64 b0_7]] G k =
  u_texture_check_4 O (fun s2 s62 b0_0 b0_1 b0_2 b0_3 b0_4 b0_5 b0_6 b0_7 G => k .normal (mkE 110 [(2, .int .i64 s2), (3, .loc 0 0), (62, .bool s62)]) [[.int .i64 b0_0, .float .f64 b0_1, .float .f64 b0_2, .float .f64 b0_3, .int .i64 b0_4, .int .i64 b0_5, .float .f64 b0_6, .int .i64 b0_7]] G) (fun s2 s7_0 b0_0 b0_1 b0_2 b0_3 b0_4 b0_5 b0_6 b0_7 G => stepN fuel (loopD Try.prog O lo22 fuel (nav (Try.f22.body.getD .skip) [1, 1, 0, 0, 1, 1, 1, 1, 1, 1, 1, 1, 0, 0]) 3 (mkE 110 [(2, .int .i64 s2), (3, .loc 0 0), (7, .func 38 [.ptr (some s7_0)])]) [[.int .i64 b0_0, .float .f64 b0_1, .float .f64 b0_2, .float .f64 b0_3, .int .i64 b0_4, .int .i64 b0_5, .float .f64 b0_6, .int .i64 b0_7]] G (contC Try.prog O lo22 fuel (nav (Try.f22.body.getD .skip) [1, 1, 0, 0, 1, 1, 1, 1, 1, 1, 1, 1, 0]) [0] (kpD lo22 51 1 k)))) s2 s7_0 b0_0 b0_1 b0_2 b0_3 b0_4 b0_5 b0_6 b0_7 G := by kernel_rfl

theorem l_texture_check_4_eq {R : Type} (O : Ora R) (fuel : Nat) (k : KE R) : ∀ (s2 : Int) (s7_0 : GA) (b0_0 : Int) (b0_1 b0_2 b0_3 : Nat) (b0_4 b0_5 : Int) (b0_6 : Nat) (b0_7 : Int) (G : GH),
  loopD Try.prog O lo22 fuel (nav (Try.f22.body.getD .skip) [1, 1, 0, 0, 1, 1, 1, 1, 1, 1, 1, 1, 0]) 51 (mkE 110 [(2, .int .i64 s2), (3, .loc 0 0), (7, .func 38 [.ptr (some s7_0)])]) [[.int .i64 b0_0, .float .f64 b0_1, .float .f64 b0_2, .float .f64 b0_3, .int .i64 b0_4, .int .i64 b0_5, .float .f64 b0_6, .int .i64 b0_7]] G k = l_texture_check_4 O fuel (fun s2 s62 b0_0 b0_1 b0_2 b0_3 b0_4 b0_5 b0_6 b0_7 G => k .normal (mkE 110 [(2, .int .i64 s2), (3, .loc 0 0), (62, .bool s62)]) [[.int .i64 b0_0, .float .f64 b0_1, .float .f64 b0_2, .float .f64 b0_3, .int .i64 b0_4, .int .i64 b0_5, .float .f64 b0_6, .int .i64 b0_7]] G) s2 s7_0 b0_0 b0_1 b0_2 b0_3 b0_4 b0_5 b0_6 b0_7 G := by
  intros
  rw [u_texture_check_4_raw]
  simp only [l_texture_check_4, L_texture_check_5_eq]

def u_texture_check {R : Type} (O : Ora R) (k : KV R) (L0 : Int → GA → Int → Nat → Nat → Nat → Int → Int → Nat → Int → GH → Option R) (p0_0 : Int) (p0_1 p0_2 p0_3 : Nat) (p0_4 p0_5 : Int) (p0_6 : Nat) (p0_7 p1 p2 : Int) (G : GH) : Option R :=
  L0 p2 (gaddr G) p0_0 p0_1 p0_2 p0_3 p0_4 p0_5 p0_6 p0_7 (gnew G [.int .i64 p1] 3)

def a_texture_check_0N {R : Type} (O : Ora R) (k : KV R) (L1 : Int → GA → Int → Nat → Nat → Nat → Int → Int → Nat → Int → GH → Option R) (s2 : Int) (s7_0 : GA) (s9 : Bool) (b0_0 : Int) (b0_1 b0_2 b0_3 : Nat) (b0_4 b0_5 : Int) (b0_6 : Nat) (b0_7 : Int) (G : GH) : Option R :=
  bif s9 then
  k (.int .i64 (2 : Int)) G
  else
  L1 s2 s7_0 b0_0 b0_1 b0_2 b0_3 b0_4 b0_5 b0_6 b0_7 G

def a_texture_check_1N {R : Type} (O : Ora R) (k : KV R) (L2 : Int → GA → Int → Nat → Nat → Nat → Int → Int → Nat → Int → GH → Option R) (s2 : Int) (s7_0 : GA) (s18 : Bool) (b0_0 : Int) (b0_1 b0_2 b0_3 : Nat) (b0_4 b0_5 : Int) (b0_6 : Nat) (b0_7 : Int) (G : GH) : Option R :=
  bif s18 then
  k (.int .i64 (10 : Int)) G
  else
  L2 s2 s7_0 b0_0 b0_1 b0_2 b0_3 b0_4 b0_5 b0_6 b0_7 G

def a_texture_check_2N {R : Type} (O : Ora R) (k : KV R) (L3 : Int → GA → Int → Nat → Nat → Nat → Int → Int → Nat → Int → GH → Option R) (s2 : Int) (s7_0 : GA) (s33 : Bool) (b0_0 : Int) (b0_1 b0_2 b0_3 : Nat) (b0_4 b0_5 : Int) (b0_6 : Nat) (b0_7 : Int) (G : GH) : Option R :=
  bif s33 then
  k (.int .i64 (10 : Int)) G
  else
  L3 s2 s7_0 b0_0 b0_1 b0_2 b0_3 b0_4 b0_5 b0_6 b0_7 G

def a_texture_check_3N {R : Type} (O : Ora R) (k : KV R) (L4 : Int → GA → Int → Nat → Nat → Nat → Int → Int → Nat → Int → GH → Option R) (s2 : Int) (s7_0 : GA) (s48 : Bool) (b0_0 : Int) (b0_1 b0_2 b0_3 : Nat) (b0_4 b0_5 : Int) (b0_6 : Nat) (b0_7 : Int) (G : GH) : Option R :=
  bif s48 then
  k (.int .i64 (2 : Int)) G
  else
  L4 s2 s7_0 b0_0 b0_1 b0_2 b0_3 b0_4 b0_5 b0_6 b0_7 G

def a_texture_check_4N {R : Type} (O : Ora R) (k : KV R) (s2 : Int) (s62 : Bool) (b0_0 : Int) (b0_1 b0_2 b0_3 : Nat) (b0_4 b0_5 : Int) (b0_6 : Nat) (b0_7 : Int) (G : GH) : Option R :=
  bif s62 then
  k (.int .i64 (110 : Int)) G
  else
  bif (b0_0 == (4 : Int)) then
  bif (decide (b0_7 < (0 : Int))) then
  k (.int .i64 (110 : Int)) G
  else
  bif (decide (b0_7 ≥ s2)) then
  k (.int .i64 (110 : Int)) G
  else
  k (.int .i64 (0 : Int)) G
  else
  k (.int .i64 (0 : Int)) G

def L_texture_check_4 {R : Type} (O : Ora R) (fuel : Nat) (k : KV R) : Int → GA → Int → Nat → Nat → Nat → Int → Int → Nat → Int → GH → Option R := fun s2 s7_0 b0_0 b0_1 b0_2 b0_3 b0_4 b0_5 b0_6 b0_7 G =>
  stepN fuel (l_texture_check_4 O fuel (a_texture_check_4N O k) s2 s7_0 b0_0 b0_1 b0_2 b0_3 b0_4 b0_5 b0_6 b0_7 G)

theorem a_texture_check_4N_raw {R : Type} (O : Ora R) (fuel : Nat) (s2 : Int) (s62 : Bool) (b0_0 : Int) (b0_1 b0_2 b0_3 : Nat) (b0_4 b0_5 : Int) (b0_6 : Nat) (b0_7 : Int) (G : GH) (k : KV R) :
  contC Try.prog O lo22 fuel (Try.f22.body.getD .skip) [1, 1, 0, 0, 1, 1, 1, 1, 1, 1, 1, 1, 0] (fun e env F G => match e with | .exit _ => none | _ => resC Try.prog Try.f22 env F G k) .normal (mkE 110 [(2, .int .i64 s2), (3, .loc 0 0), (62, .bool s62)]) [[.int .i64 b0_0, .float .f64 b0_1, .float .f64 b0_2, .float .f64 b0_3, .int .i64 b0_4, .int .i64 b0_5, .float .f64 b0_6, .int .i64 b0_7]] G =
  a_texture_check_4N O k s2 s62 b0_0 b0_1 b0_2 b0_3 b0_4 b0_5 b0_6 b0_7 G := by kernel_rfl

theorem L_texture_check_4_eq {R : Type} (O : Ora R) (fuel : Nat) (k : KV R) :
  (fun (s2 : Int) (s7_0 : GA) (b0_0 : Int) (b0_1 b0_2 b0_3 : Nat) (b0_4 b0_5 : Int) (b0_6 : Nat) (b0_7 : Int) (G : GH) => stepN fuel (loopD Try.prog O lo22 fuel (nav (Try.f22.body.getD .skip) [1, 1, 0, 0, 1, 1, 1, 1, 1, 1, 1, 1, 0]) 51 (mkE 110 [(2, .int .i64 s2), (3, .loc 0 0), (7, .func 38 [.ptr (some s7_0)])]) [[.int .i64 b0_0, .float .f64 b0_1, .float .f64 b0_2, .float .f64 b0_3, .int .i64 b0_4, .int .i64 b0_5, .float .f64 b0_6, .int .i64 b0_7]] G (contC Try.prog O lo22 fuel (Try.f22.body.getD .skip) [1, 1, 0, 0, 1, 1, 1, 1, 1, 1, 1, 1, 0] (fun e env F G => match e with | .exit _ => none | _ => resC Try.prog Try.f22 env F G k)))) = L_texture_check_4 O fuel k := by
  funext s2 s7_0 b0_0 b0_1 b0_2 b0_3 b0_4 b0_5 b0_6 b0_7 G
  simp only [L_texture_check_4, l_texture_check_4_eq, a_texture_check_4N_raw]

def L_texture_check_3 {R : Type} (O : Ora R) (fuel : Nat) (k : KV R) : Int → GA → Int → Nat → Nat → Nat → Int → Int → Nat → Int → GH → Option R := fun s2 s7_0 b0_0 b0_1 b0_2 b0_3 b0_4 b0_5 b0_6 b0_7 G =>
  stepN fuel (l_texture_check_3 O (a_texture_check_3N O k (L_texture_check_4 O fuel k)) s2 s7_0 b0_0 b0_1 b0_2 b0_3 b0_4 b0_5 b0_6 b0_7 G)

theorem a_texture_check_3N_raw {R : Type} (O : Ora R) (fuel : Nat) (s2 : Int) (s7_0 : GA) (s48 : Bool) (b0_0 : Int) (b0_1 b0_2 b0_3 : Nat) (b0_4 b0_5 : Int) (b0_6 : Nat) (b0_7 : Int) (G : GH) (k : KV R) :
  contC Try.prog O lo22 fuel (Try.f22.body.getD .skip) [1, 1, 0, 0, 1, 1, 1, 1, 1, 1, 0] (fun e env F G => match e with | .exit _ => none | _ => resC Try.prog Try.f22 env F G k) .normal (mkE 110 [(2, .int .i64 s2), (3, .loc 0 0), (7, .func 38 [.ptr (some s7_0)]), (48, .bool s48)]) [[.int .i64 b0_0, .float .f64 b0_1, .float .f64 b0_2, .float .f64 b0_3, .int .i64 b0_4, .int .i64 b0_5, .float .f64 b0_6, .int .i64 b0_7]] G =
  a_texture_check_3N O k (fun s2 s7_0 b0_0 b0_1 b0_2 b0_3 b0_4 b0_5 b0_6 b0_7 G => stepN fuel (loopD Try.prog O lo22 fuel (nav (Try.f22.body.getD .skip) [1, 1, 0, 0, 1, 1, 1, 1, 1, 1, 1, 1, 0]) 51 (mkE 110 [(2, .int .i64 s2), (3, .loc 0 0), (7, .func 38 [.ptr (some s7_0)])]) [[.int .i64 b0_0, .float .f64 b0_1, .float .f64 b0_2, .float .f64 b0_3, .int .i64 b0_4, .int .i64 b0_5, .float .f64 b0_6, .int .i64 b0_7]] G (contC Try.prog O lo22 fuel (Try.f22.body.getD .skip) [1, 1, 0, 0, 1, 1, 1, 1, 1, 1, 1, 1, 0] (fun e env F G => match e with | .exit _ => none | _ => resC Try.prog Try.f22 env F G k)))) s2 s7_0 s48 b0_0 b0_1 b0_2 b0_3 b0_4 b0_5 b0_6 b0_7 G := by kernel_rfl

theorem L_texture_check_3_eq {R : Type} (O : Ora R) (fuel : Nat) (k : KV R) :
  (fun (s2 : Int) (s7_0 : GA) (b0_0 : Int) (b0_1 b0_2 b0_3 : Nat) (b0_4 b0_5 : Int) (b0_6 : Nat) (b0_7 : Int) (G : GH) => stepN fuel (loopD Try.prog O lo22 fuel (nav (Try.f22.body.getD .skip) [1, 1, 0, 0, 1, 1, 1, 1, 1, 1, 0]) 39 (mkE 110 [(2, .int .i64 s2), (3, .loc 0 0), (7, .func 38 [.ptr (some s7_0)])]) [[.int .i64 b0_0, .float .f64 b0_1, .float .f64 b0_2, .float .f64 b0_3, .int .i64 b0_4, .int .i64 b0_5, .float .f64 b0_6, .int .i64 b0_7]] G (contC Try.prog O lo22 fuel (Try.f22.body.getD .skip) [1, 1, 0, 0, 1, 1, 1, 1, 1, 1, 0] (fun e env F G => match e with | .exit _ => none | _ => resC Try.prog Try.f22 env F G k)))) = L_texture_check_3 O fuel k := by
  funext s2 s7_0 b0_0 b0_1 b0_2 b0_3 b0_4 b0_5 b0_6 b0_7 G
  simp only [L_texture_check_3, l_texture_check_3_eq, a_texture_check_3N_raw, L_texture_check_4_eq]

def L_texture_check_2 {R : Type} (O : Ora R) (fuel : Nat) (k : KV R) : Int → GA → Int → Nat → Nat → Nat → Int → Int → Nat → Int → GH → Option R := fun s2 s7_0 b0_0 b0_1 b0_2 b0_3 b0_4 b0_5 b0_6 b0_7 G =>
  stepN fuel (l_texture_check_2 O (a_texture_check_2N O k (L_texture_check_3 O fuel k)) s2 s7_0 b0_0 b0_1 b0_2 b0_3 b0_4 b0_5 b0_6 b0_7 G)

theorem a_texture_check_2N_raw {R : Type} (O : Ora R) (fuel : Nat) (s2 : Int) (s7_0 : GA) (s33 : Bool) (b0_0 : Int) (b0_1 b0_2 b0_3 : Nat) (b0_4 b0_5 : Int) (b0_6 : Nat) (b0_7 : Int) (G : GH) (k : KV R) :
  contC Try.prog O lo22 fuel (Try.f22.body.getD .skip) [1, 1, 0, 0, 1, 1, 1, 1, 0] (fun e env F G => match e with | .exit _ => none | _ => resC Try.prog Try.f22 env F G k) .normal (mkE 110 [(2, .int .i64 s2), (3, .loc 0 0), (7, .func 38 [.ptr (some s7_0)]), (33, .bool s33)]) [[.int .i64 b0_0, .float .f64 b0_1, .float .f64 b0_2, .float .f64 b0_3, .int .i64 b0_4, .int .i64 b0_5, .float .f64 b0_6, .int .i64 b0_7]] G =
  a_texture_check_2N O k (fun s2 s7_0 b0_0 b0_1 b0_2 b0_3 b0_4 b0_5 b0_6 b0_7 G => stepN fuel (loopD Try.prog O lo22 fuel (nav (Try.f22.body.getD .skip) [1, 1, 0, 0, 1, 1, 1, 1, 1, 1, 0]) 39 (mkE 110 [(2, .int .i64 s2), (3, .loc 0 0), (7, .func 38 [.ptr (some s7_0)])]) [[.int .i64 b0_0, .float .f64 b0_1, .float .f64 b0_2, .float .f64 b0_3, .int .i64 b0_4, .int .i64 b0_5, .float .f64 b0_6, .int .i64 b0_7]] G (contC Try.prog O lo22 fuel (Try.f22.body.getD .skip) [1, 1, 0, 0, 1, 1, 1, 1, 1, 1, 0] (fun e env F G => match e with | .exit _ => none | _ => resC Try.prog Try.f22 env F G k)))) s2 s7_0 s33 b0_0 b0_1 b0_2 b0_3 b0_4 b0_5 b0_6 b0_7 G := by kernel_rfl

theorem L_texture_check_2_eq {R : Type} (O : Ora R) (fuel : Nat) (k : KV R) :
  (fun (s2 : Int) (s7_0 : GA) (b0_0 : Int) (b0_1 b0_2 b0_3 : Nat) (b0_4 b0_5 : Int) (b0_6 : Nat) (b0_7 : Int) (G : GH) => stepN fuel (loopD Try.prog O lo22 fuel (nav (Try.f22.body.getD .skip) [1, 1, 0, 0, 1, 1, 1, 1, 0]) 31 (mkE 110 [(2, .int .i64 s2), (3, .loc 0 0), (7, .func 38 [.ptr (some s7_0)])]) [[.int .i64 b0_0, .float .f64 b0_1, .float .f64 b0_2, .float .f64 b0_3, .int .i64 b0_4, .int .i64 b0_5, .float .f64 b0_6, .int .i64 b0_7]] G (contC Try.prog O lo22 fuel (Try.f22.body.getD .skip) [1, 1, 0, 0, 1, 1, 1, 1, 0] (fun e env F G => match e with | .exit _ => none | _ => resC Try.prog Try.f22 env F G k)))) = L_texture_check_2 O fuel k := by
  funext s2 s7_0 b0_0 b0_1 b0_2 b0_3 b0_4 b0_5 b0_6 b0_7 G
  simp only [L_texture_check_2, l_texture_check_2_eq, a_texture_check_2N_raw, L_texture_check_3_eq]

def L_texture_check_1 {R : Type} (O : Ora R) (fuel : Nat) (k : KV R) : Int → GA → Int → Nat → Nat → Nat → Int → Int → Nat → Int → GH → Option R := fun s2 s7_0 b0_0 b0_1 b0_2 b0_3 b0_4 b0_5 b0_6 b0_7 G =>
  stepN fuel (l_texture_check_1 O (a_texture_check_1N O k (L_texture_check_2 O fuel k)) s2 s7_0 b0_0 b0_1 b0_2 b0_3 b0_4 b0_5 b0_6 b0_7 G)

theorem a_texture_check_1N_raw {R : Type} (O : Ora R) (fuel : Nat) (s2 : Int) (s7_0 : GA) (s18 : Bool) (b0_0 : Int) (b0_1 b0_2 b0_3 : Nat) (b0_4 b0_5 : Int) (b0_6 : Nat) (b0_7 : Int) (G : GH) (k : KV R) :
  contC Try.prog O lo22 fuel (Try.f22.body.getD .skip) [1, 1, 0, 0, 1, 1, 0] (fun e env F G => match e with | .exit _ => none | _ => resC Try.prog Try.f22 env F G k) .normal (mkE 110 [(2, .int .i64 s2), (3, .loc 0 0), (7, .func 38 [.ptr (some s7_0)]), (18, .bool s18)]) [[.int .i64 b0_0, .float .f64 b0_1, .float .f64 b0_2, .float .f64 b0_3, .int .i64 b0_4, .int .i64 b0_5, .float .f64 b0_6, .int .i64 b0_7]] G =
  a_texture_check_1N O k (fun s2 s7_0 b0_0 b0_1 b0_2 b0_3 b0_4 b0_5 b0_6 b0_7 G => stepN fuel (loopD Try.prog O lo22 fuel (nav (Try.f22.body.getD .skip) [1, 1, 0, 0, 1, 1, 1, 1, 0]) 31 (mkE 110 [(2, .int .i64 s2), (3, .loc 0 0), (7, .func 38 [.ptr (some s7_0)])]) [[.int .i64 b0_0, .float .f64 b0_1, .float .f64 b0_2, .float .f64 b0_3, .int .i64 b0_4, .int .i64 b0_5, .float .f64 b0_6, .int .i64 b0_7]] G (contC Try.prog O lo22 fuel (Try.f22.body.getD .skip) [1, 1, 0, 0, 1, 1, 1, 1, 0] (fun e env F G => match e with | .exit _ => none | _ => resC Try.prog Try.f22 env F G k)))) s2 s7_0 s18 b0_0 b0_1 b0_2 b0_3 b0_4 b0_5 b0_6 b0_7 G := by kernel_rfl

theorem L_texture_check_1_eq {R : Type} (O : Ora R) (fuel : Nat) (k : KV R) :
  (fun (s2 : Int) (s7_0 : GA) (b0_0 : Int) (b0_1 b0_2 b0_3 : Nat) (b0_4 b0_5 : Int) (b0_6 : Nat) (b0_7 : Int) (G : GH) => stepN fuel (loopD Try.prog O lo22 fuel (nav (Try.f22.body.getD .skip) [1, 1, 0, 0, 1, 1, 0]) 23 (mkE 110 [(2, .int .i64 s2), (3, .loc 0 0), (7, .func 38 [.ptr (some s7_0)])]) [[.int .i64 b0_0, .float .f64 b0_1, .float .f64 b0_2, .float .f64 b0_3, .int .i64 b0_4, .int .i64 b0_5, .float .f64 b0_6, .int .i64 b0_7]] G (contC Try.prog O lo22 fuel (Try.f22.body.getD .skip) [1, 1, 0, 0, 1, 1, 0] (fun e env F G => match e with | .exit _ => none | _ => resC Try.prog Try.f22 env F G k)))) = L_texture_check_1 O fuel k := by
  funext s2 s7_0 b0_0 b0_1 b0_2 b0_3 b0_4 b0_5 b0_6 b0_7 G
  simp only [L_texture_check_1, l_texture_check_1_eq, a_texture_check_1N_raw, L_texture_check_2_eq]

def L_texture_check_0 {R : Type} (O : Ora R) (fuel : Nat) (k : KV R) : Int → GA → Int → Nat → Nat → Nat → Int → Int → Nat → Int → GH → Option R := fun s2 s7_0 b0_0 b0_1 b0_2 b0_3 b0_4 b0_5 b0_6 b0_7 G =>
  stepN fuel (l_texture_check_0 O (a_texture_check_0N O k (L_texture_check_1 O fuel k)) s2 s7_0 b0_0 b0_1 b0_2 b0_3 b0_4 b0_5 b0_6 b0_7 G)

theorem a_texture_check_0N_raw {R : Type} (O : Ora R) (fuel : Nat) (s2 : Int) (s7_0 : GA) (s9 : Bool) (b0_0 : Int) (b0_1 b0_2 b0_3 : Nat) (b0_4 b0_5 : Int) (b0_6 : Nat) (b0_7 : Int) (G : GH) (k : KV R) :
  contC Try.prog O lo22 fuel (Try.f22.body.getD .skip) [1, 1, 0, 0, 0] (fun e env F G => match e with | .exit _ => none | _ => resC Try.prog Try.f22 env F G k) .normal (mkE 110 [(2, .int .i64 s2), (3, .loc 0 0), (7, .func 38 [.ptr (some s7_0)]), (9, .bool s9)]) [[.int .i64 b0_0, .float .f64 b0_1, .float .f64 b0_2, .float .f64 b0_3, .int .i64 b0_4, .int .i64 b0_5, .float .f64 b0_6, .int .i64 b0_7]] G =
  a_texture_check_0N O k (fun s2 s7_0 b0_0 b0_1 b0_2 b0_3 b0_4 b0_5 b0_6 b0_7 G => stepN fuel (loopD Try.prog O lo22 fuel (nav (Try.f22.body.getD .skip) [1, 1, 0, 0, 1, 1, 0]) 23 (mkE 110 [(2, .int .i64 s2), (3, .loc 0 0), (7, .func 38 [.ptr (some s7_0)])]) [[.int .i64 b0_0, .float .f64 b0_1, .float .f64 b0_2, .float .f64 b0_3, .int .i64 b0_4, .int .i64 b0_5, .float .f64 b0_6, .int .i64 b0_7]] G (contC Try.prog O lo22 fuel (Try.f22.body.getD .skip) [1, 1, 0, 0, 1, 1, 0] (fun e env F G => match e with | .exit _ => none | _ => resC Try.prog Try.f22 env F G k)))) s2 s7_0 s9 b0_0 b0_1 b0_2 b0_3 b0_4 b0_5 b0_6 b0_7 G := by kernel_rfl

theorem L_texture_check_0_eq {R : Type} (O : Ora R) (fuel : Nat) (k : KV R) :
  (fun (s2 : Int) (s7_0 : GA) (b0_0 : Int) (b0_1 b0_2 b0_3 : Nat) (b0_4 b0_5 : Int) (b0_6 : Nat) (b0_7 : Int) (G : GH) => stepN fuel (loopD Try.prog O lo22 fuel (nav (Try.f22.body.getD .skip) [1, 1, 0, 0, 0]) 15 (mkE 110 [(2, .int .i64 s2), (3, .loc 0 0), (7, .func 38 [.ptr (some s7_0)])]) [[.int .i64 b0_0, .float .f64 b0_1, .float .f64 b0_2, .float .f64 b0_3, .int .i64 b0_4, .int .i64 b0_5, .float .f64 b0_6, .int .i64 b0_7]] G (contC Try.prog O lo22 fuel (Try.f22.body.getD .skip) [1, 1, 0, 0, 0] (fun e env F G => match e with | .exit _ => none | _ => resC Try.prog Try.f22 env F G k)))) = L_texture_check_0 O fuel k := by
  funext s2 s7_0 b0_0 b0_1 b0_2 b0_3 b0_4 b0_5 b0_6 b0_7 G
  simp only [L_texture_check_0, l_texture_check_0_eq, a_texture_check_0N_raw, L_texture_check_1_eq]

theorem e_texture_check_raw {R : Type} (O : Ora R) (fuel : Nat) (p0_0 : Int) (p0_1 p0_2 p0_3 : Nat) (p0_4 p0_5 : Int) (p0_6 : Nat) (p0_7 p1 p2 : Int) (G : GH) (k : KV R) :
  bodyC Try.prog O lo22 fuel Try.f22 [.agg [.int .i64 p0_0, .float .f64 p0_1, .float .f64 p0_2, .float .f64 p0_3, .int .i64 p0_4, .int .i64 p0_5, .float .f64 p0_6, .int .i64 p0_7], .int .i64 p1, .int .i64 p2] G k =
  u_texture_check O k (fun s2 s7_0 b0_0 b0_1 b0_2 b0_3 b0_4 b0_5 b0_6 b0_7 G => stepN fuel (loopD Try.prog O lo22 fuel (nav (Try.f22.body.getD .skip) [1, 1, 0, 0, 0]) 15 (mkE 110 [(2, .int .i64 s2), (3, .loc 0 0), (7, .func 38 [.ptr (some s7_0)])]) [[.int .i64 b0_0, .float .f64 b0_1, .float .f64 b0_2, .float .f64 b0_3, .int .i64 b0_4, .int .i64 b0_5, .float .f64 b0_6, .int .i64 b0_7]] G (contC Try.prog O lo22 fuel (Try.f22.body.getD .skip) [1, 1, 0, 0, 0] (fun e env F G => match e with | .exit _ => none | _ => resC Try.prog Try.f22 env F G k)))) p0_0 p0_1 p0_2 p0_3 p0_4 p0_5 p0_6 p0_7 p1 p2 G := by kernel_rfl

theorem e_texture_check {R : Type} (O : Ora R) (fuel : Nat) (p0_0 : Int) (p0_1 p0_2 p0_3 : Nat) (p0_4 p0_5 : Int) (p0_6 : Nat) (p0_7 p1 p2 : Int) (G : GH) (k : KV R) :
  bodyC Try.prog O lo22 fuel Try.f22 [.agg [.int .i64 p0_0, .float .f64 p0_1, .float .f64 p0_2, .float .f64 p0_3, .int .i64 p0_4, .int .i64 p0_5, .float .f64 p0_6, .int .i64 p0_7], .int .i64 p1, .int .i64 p2] G k =
  u_texture_check O k (L_texture_check_0 O fuel k) p0_0 p0_1 p0_2 p0_3 p0_4 p0_5 p0_6 p0_7 p1 p2 G := by
  rw [e_texture_check_raw, L_texture_check_0_eq]

theorem r_texture_check {R : Type} (fuel n : Nat) (p0_0 : Int) (p0_1 p0_2 p0_3 : Nat) (p0_4 p0_5 : Int) (p0_6 : Nat) (p0_7 p1 p2 : Int) (G : GH) (k : KV R) :
  runC Try.prog lo0 fuel (n + 1) 22 [.agg [.int .i64 p0_0, .float .f64 p0_1, .float .f64 p0_2, .float .f64 p0_3, .int .i64 p0_4, .int .i64 p0_5, .float .f64 p0_6, .int .i64 p0_7], .int .i64 p1, .int .i64 p2] G k = bodyC Try.prog (runC Try.prog lo0 fuel n) lo22 fuel Try.f22 [.agg [.int .i64 p0_0, .float .f64 p0_1, .float .f64 p0_2, .float .f64 p0_3, .int .i64 p0_4, .int .i64 p0_5, .float .f64 p0_6, .int .i64 p0_7], .int .i64 p1, .int .i64 p2] G k := run_body Try.func22 rfl rfl

/-! ### lantern/texture.Check -/
def u_texture_Check_0 {R : Type} (O : Ora R) (Kret : Int → Int → GH → Option R) (KN : OG → Nat → OG → Nat → Int → Int → GH → Option R) (K0 : GH → Option R) (s1a : OG) (s1n : Nat) (s9a : OG) (s9n : Nat) (s10 s11 : Int) (G : GH) : Option R :=
  bif (decide (s11 < s10)) then
  (idx? s9a s9n s11 8).bind fun a1 =>
  (ldInt G .i64 (GA.add a1 0)).bind fun x2 =>
  (ldFloat G .f64 (GA.add a1 1)).bind fun x3 =>
  (ldFloat G .f64 (GA.add a1 2)).bind fun x4 =>
  (ldFloat G .f64 (GA.add a1 3)).bind fun x5 =>
  (ldInt G .i64 (GA.add a1 4)).bind fun x6 =>
  (ldInt G .i64 (GA.add a1 5)).bind fun x7 =>
  (ldFloat G .f64 (GA.add a1 6)).bind fun x8 =>
  (ldInt G .i64 (GA.add a1 7)).bind fun x9 =>
  O fn_texture_check [.agg [.int .i64 x2, .float .f64 x3, .float .f64 x4, .float .f64 x5, .int .i64 x6, .int .i64 x7, .float .f64 x8, .int .i64 x9], .int .i64 s11, .int .i64 (s1n : Int)] G fun v10 G11 =>
  (ivInt .i64 v10).bind fun x12 =>
  bif (x12 != (0 : Int)) then
  Kret s11 x12 G11
  else
  KN s1a s1n s9a s9n s10 (IntKind.wrap .i64 (s11 + (1 : Int))) G11
  else
  K0 G

def l_texture_Check_0 {R : Type} (O : Ora R) (Kret : Int → Int → GH → Option R) (K0 : GH → Option R) : Nat → OG → Nat → OG → Nat → Int → Int → GH → Option R
  | 0, _, _, _, _, _, _, _ => none
  | n + 1, s1a, s1n, s9a, s9n, s10, s11, G => u_texture_Check_0 O Kret (l_texture_Check_0 O Kret K0 n) K0 s1a s1n s9a s9n s10 s11 G

theorem u_texture_Check_0_raw {R : Type} (O : Ora R) (fuel : Nat) (s1a : OG) (s1n : Nat) (s9a : OG) (s9n : Nat) (s10 s11 : Int) (G : GH) (k : KE R) :
  loopD Try.prog O lo10 fuel (nav (Try.f10.body.getD .skip) [1, 0, 1, 0, 0]) 8 (mkE 26 [(1, .slice s1a s1n), (9, .slice s9a s9n), (10, .int .i64 s10), (11, .int .i64 s11)]) [] G k =
  u_texture_Check_0 O (fun s4 s5 G => k .ret (mkE 26 [(4, .int .i64 s4), (5, .int .i64 s5)]) [] G) (fun s1a s1n s9a s9n s10 s11 G => k .normal (mkE 26 [(1, .slice s1a s1n), (9, .slice s9a s9n), (10, .int .i64 s10), (11, .int .i64 s11)]) [] G) (fun G => k (.exit 0) (mkE 26 []) [] G) s1a s1n s9a s9n s10 s11 G := by kernel_rfl

theorem l_texture_Check_0_eq {R : Type} (O : Ora R) (fuel : Nat) (k : KE R) : ∀ (n : Nat) (s1a : OG) (s1n : Nat) (s9a : OG) (s9n : Nat) (s10 s11 : Int) (G : GH),
  loopN (loopD Try.prog O lo10 fuel (nav (Try.f10.body.getD .skip) [1, 0, 1, 0, 0]) 8) n (mkE 26 [(1, .slice s1a s1n), (9, .slice s9a s9n), (10, .int .i64 s10), (11, .int .i64 s11)]) [] G k = l_texture_Check_0 O (fun s4 s5 G => k .ret (mkE 26 [(4, .int .i64 s4), (5, .int .i64 s5)]) [] G) (fun G => k (.exit 0) (mkE 26 []) [] G) n s1a s1n s9a s9n s10 s11 G := by
  intro n
  induction n with
  | zero => intros; first | rfl | simp only [loopN, l_texture_Check_0]
  | succ n ih =>
    intros
    rw [loopN_succ, u_texture_Check_0_raw]
    simp only [l_texture_Check_0, loopK_normal, loopK_exit, loopK_ret, ih]

def u_texture_Check {R : Type} (O : Ora R) (k : KV R) (L0 : OG → Nat → OG → Nat → Int → Int → GH → Option R) (p0a : OG) (p0n : Nat) (p1a : OG) (p1n : Nat) (G : GH) : Option R :=
  L0 p1a p1n p0a p0n (p0n : Int) (0 : Int) G

def a_texture_Check_0ret {R : Type} (O : Ora R) (k : KV R) (s4 s5 : Int) (G : GH) : Option R :=
  k (.tuple [.int .i64 s4, .int .i64 s5]) G

def a_texture_Check_00 {R : Type} (O : Ora R) (k : KV R)  (G : GH) : Option R :=
  k (.tuple [.int .i64 (0 : Int), .int .i64 (0 : Int)]) G

def L_texture_Check_0 {R : Type} (O : Ora R) (fuel : Nat) (k : KV R) : OG → Nat → OG → Nat → Int → Int → GH → Option R := fun s1a s1n s9a s9n s10 s11 G =>
  l_texture_Check_0 O (a_texture_Check_0ret O k) (a_texture_Check_00 O k) fuel s1a s1n s9a s9n s10 s11 G

theorem a_texture_Check_0ret_raw {R : Type} (O : Ora R) (fuel : Nat) (s4 s5 : Int) (G : GH) (k : KV R) :
  contC Try.prog O lo10 fuel (Try.f10.body.getD .skip) [1, 0, 1, 0] (fun e env F G => match e with | .exit _ => none | _ => resC Try.prog Try.f10 env F G k) .ret (mkE 26 [(4, .int .i64 s4), (5, .int .i64 s5)]) [] G =
  a_texture_Check_0ret O k s4 s5 G := by kernel_rfl

theorem a_texture_Check_00_raw {R : Type} (O : Ora R) (fuel : Nat)  (G : GH) (k : KV R) :
  contC Try.prog O lo10 fuel (Try.f10.body.getD .skip) [1, 0, 1, 0] (fun e env F G => match e with | .exit _ => none | _ => resC Try.prog Try.f10 env F G k) (.exit 0) (mkE 26 []) [] G =
  a_texture_Check_00 O k G := by kernel_rfl

theorem L_texture_Check_0_eq {R : Type} (O : Ora R) (fuel : Nat) (k : KV R) :
  (fun (s1a : OG) (s1n : Nat) (s9a : OG) (s9n : Nat) (s10 s11 : Int) (G : GH) => loopN (loopD Try.prog O lo10 fuel (nav (Try.f10.body.getD .skip) [1, 0, 1, 0, 0]) 8) fuel (mkE 26 [(1, .slice s1a s1n), (9, .slice s9a s9n), (10, .int .i64 s10), (11, .int .i64 s11)]) [] G (contC Try.prog O lo10 fuel (Try.f10.body.getD .skip) [1, 0, 1, 0] (fun e env F G => match e with | .exit _ => none | _ => resC Try.prog Try.f10 env F G k))) = L_texture_Check_0 O fuel k := by
  funext s1a s1n s9a s9n s10 s11 G
  simp only [L_texture_Check_0, l_texture_Check_0_eq, a_texture_Check_0ret_raw, a_texture_Check_00_raw]

theorem e_texture_Check_raw {R : Type} (O : Ora R) (fuel : Nat) (p0a : OG) (p0n : Nat) (p1a : OG) (p1n : Nat) (G : GH) (k : KV R) :
  bodyC Try.prog O lo10 fuel Try.f10 [.slice p0a p0n, .slice p1a p1n] G k =
  u_texture_Check O k (fun s1a s1n s9a s9n s10 s11 G => loopN (loopD Try.prog O lo10 fuel (nav (Try.f10.body.getD .skip) [1, 0, 1, 0, 0]) 8) fuel (mkE 26 [(1, .slice s1a s1n), (9, .slice s9a s9n), (10, .int .i64 s10), (11, .int .i64 s11)]) [] G (contC Try.prog O lo10 fuel (Try.f10.body.getD .skip) [1, 0, 1, 0] (fun e env F G => match e with | .exit _ => none | _ => resC Try.prog Try.f10 env F G k))) p0a p0n p1a p1n G := by kernel_rfl

theorem e_texture_Check {R : Type} (O : Ora R) (fuel : Nat) (p0a : OG) (p0n : Nat) (p1a : OG) (p1n : Nat) (G : GH) (k : KV R) :
  bodyC Try.prog O lo10 fuel Try.f10 [.slice p0a p0n, .slice p1a p1n] G k =
  u_texture_Check O k (L_texture_Check_0 O fuel k) p0a p0n p1a p1n G := by
  rw [e_texture_Check_raw, L_texture_Check_0_eq]

theorem r_texture_Check {R : Type} (fuel n : Nat) (p0a : OG) (p0n : Nat) (p1a : OG) (p1n : Nat) (G : GH) (k : KV R) :
  runC Try.prog lo0 fuel (n + 1) 10 [.slice p0a p0n, .slice p1a p1n] G k = bodyC Try.prog (runC Try.prog lo0 fuel n) lo10 fuel Try.f10 [.slice p0a p0n, .slice p1a p1n] G k := run_body Try.func10 rfl rfl

/-! ### lantern/texture.needed -/
def u_texture_needed_4 {R : Type} (O : Ora R) (K3 : OG → Nat → OG → Nat → Int → GH → Option R) (KN : OG → Nat → OG → Nat → Int → Int → GH → Option R) (s0a : OG) (s0n : Nat) (s5a : OG) (s5n : Nat) (s6 s27 : Int) (G : GH) : Option R :=
  bif (s27 == (2 : Int)) then
  bif (s27 == (2 : Int)) then
  K3 s0a s0n s5a s5n s6 G
  else
  KN s0a s0n s5a s5n s6 s27 G
  else
  bif (s27 == (3 : Int)) then
  K3 s0a s0n s5a s5n s6 G
  else
  KN s0a s0n s5a s5n s6 s27 G

def l_texture_needed_4 {R : Type} (O : Ora R) (K3 : OG → Nat → OG → Nat → Int → GH → Option R) (KN : OG → Nat → OG → Nat → Int → Int → GH → Option R) : OG → Nat → OG → Nat → Int → Int → GH → Option R := fun s0a s0n s5a s5n s6 s27 G => u_texture_needed_4 O K3 KN s0a s0n s5a s5n s6 s27 G

theorem u_texture_needed_4_raw {R : Type} (O : Ora R) (fuel : Nat) (s0a : OG) (s0n : Nat) (s5a : OG) (s5n : Nat) (s6 s27 : Int) (G : GH) (k : KE R) :
  loopD Try.prog O lo27 fuel (nav (Try.f27.body.getD .skip) [1, 1, 1, 0, 1, 0, 0, 1, 0, 0, 1, 1, 0, 0, 0, 0, 0, 0, 0]) 43 (mkE 48 [(0, .slice s0a s0n), (5, .slice s5a s5n), (6, .int .i64 s6), (27, .int .i64 s27)]) [] G k =
  u_texture_needed_4 O (fun s0a s0n s5a s5n s6 G => k (.exit 3) (mkE 48 [(0, .slice s0a s0n), (5, .slice s5a s5n), (6, .int .i64 s6)]) [] G) (fun s0a s0n s5a s5n s6 s27 G => k .normal (mkE 48 [(0, .slice s0a s0n), (5, .slice s5a s5n), (6, .int .i64 s6), (27, .int .i64 s27)]) [] G) s0a s0n s5a s5n s6 s27 G := by kernel_rfl

theorem l_texture_needed_4_eq {R : Type} (O : Ora R) (fuel : Nat) (k : KE R) : ∀ (s0a : OG) (s0n : Nat) (s5a : OG) (s5n : Nat) (s6 s27 : Int) (G : GH),
  loopD Try.prog O lo27 fuel (nav (Try.f27.body.getD .skip) [1, 1, 1, 0, 1, 0, 0, 1, 0, 0, 1, 1, 0, 0, 0, 0, 0, 0, 0]) 43 (mkE 48 [(0, .slice s0a s0n), (5, .slice s5a s5n), (6, .int .i64 s6), (27, .int .i64 s27)]) [] G k = l_texture_needed_4 O (fun s0a s0n s5a s5n s6 G => k (.exit 3) (mkE 48 [(0, .slice s0a s0n), (5, .slice s5a s5n), (6, .int .i64 s6)]) [] G) (fun s0a s0n s5a s5n s6 s27 G => k .normal (mkE 48 [(0, .slice s0a s0n), (5, .slice s5a s5n), (6, .int .i64 s6), (27, .int .i64 s27)]) [] G) s0a s0n s5a s5n s6 s27 G := by
  intros
  rw [u_texture_needed_4_raw]
  simp only [l_texture_needed_4]

def u_texture_needed_3 {R : Type} (O : Ora R) (KN K4 K2 : OG → Nat → OG → Nat → Int → GH → Option R) (L4 : OG → Nat → OG → Nat → Int → Int → GH → Option R) (s0a : OG) (s0n : Nat) (s5a : OG) (s5n : Nat) (s6 s27 : Int) (G : GH) : Option R :=
  L4 s0a s0n s5a s5n s6 s27 G

def a_texture_needed_43 {R : Type} (O : Ora R) (KN K4 K2 : OG → Nat → OG → Nat → Int → GH → Option R) (s0a : OG) (s0n : Nat) (s5a : OG) (s5n : Nat) (s6 : Int) (G : GH) : Option R :=
  KN s0a s0n s5a s5n s6 G

def a_texture_needed_4N {R : Type} (O : Ora R) (KN K4 K2 : OG → Nat → OG → Nat → Int → GH → Option R) (s0a : OG) (s0n : Nat) (s5a : OG) (s5n : Nat) (s6 s27 : Int) (G : GH) : Option R :=
  bif (s27 == (5 : Int)) then
  K4 s0a s0n s5a s5n s6 G
  else
  K2 s0a s0n s5a s5n s6 G

def L_texture_needed_4 {R : Type} (O : Ora R) (fuel : Nat) (KN K4 K2 : OG → Nat → OG → Nat → Int → GH → Option R) : OG → Nat → OG → Nat → Int → Int → GH → Option R := fun s0a s0n s5a s5n s6 s27 G =>
  stepN fuel (l_texture_needed_4 O (a_texture_needed_43 O KN K4 K2) (a_texture_needed_4N O KN K4 K2) s0a s0n s5a s5n s6 s27 G)

theorem a_texture_needed_43_raw {R : Type} (O : Ora R) (fuel : Nat) (s0a : OG) (s0n : Nat) (s5a : OG) (s5n : Nat) (s6 : Int) (G : GH) (k : KE R) :
  contC Try.prog O lo27 fuel (nav (Try.f27.body.getD .skip) [1, 1, 1, 0, 1, 0, 0, 1, 0, 0, 1, 1, 0, 0, 0, 0]) [0, 0, 0] (kpD lo27 47 0 k) (.exit 3) (mkE 48 [(0, .slice s0a s0n), (5, .slice s5a s5n), (6, .int .i64 s6)]) [] G =
  a_texture_needed_43 O (fun s0a s0n s5a s5n s6 G => k .normal (mkE 48 [(0, .slice s0a s0n), (5, .slice s5a s5n), (6, .int .i64 s6)]) [] G) (fun s0a s0n s5a s5n s6 G => k (.exit 4) (mkE 48 [(0, .slice s0a s0n), (5, .slice s5a s5n), (6, .int .i64 s6)]) [] G) (fun s0a s0n s5a s5n s6 G => k (.exit 2) (mkE 48 [(0, .slice s0a s0n), (5, .slice s5a s5n), (6, .int .i64 s6)]) [] G) s0a s0n s5a s5n s6 G := by kernel_rfl

theorem a_texture_needed_4N_raw {R : Type} (O : Ora R) (fuel : Nat) (s0a : OG) (s0n : Nat) (s5a : OG) (s5n : Nat) (s6 s27 : Int) (G : GH) (k : KE R) :
  contC Try.prog O lo27 fuel (nav (Try.f27.body.getD .skip) [1, 1, 1, 0, 1, 0, 0, 1, 0, 0, 1, 1, 0, 0, 0, 0]) [0, 0, 0] (kpD lo27 47 0 k) .normal (mkE 48 [(0, .slice s0a s0n), (5, .slice s5a s5n), (6, .int .i64 s6), (27, .int .i64 s27)]) [] G =
  a_texture_needed_4N O (fun s0a s0n s5a s5n s6 G => k .normal (mkE 48 [(0, .slice s0a s0n), (5, .slice s5a s5n), (6, .int .i64 s6)]) [] G) (fun s0a s0n s5a s5n s6 G => k (.exit 4) (mkE 48 [(0, .slice s0a s0n), (5, .slice s5a s5n), (6, .int .i64 s6)]) [] G) (fun s0a s0n s5a s5n s6 G => k (.exit 2) (mkE 48 [(0, .slice s0a s0n), (5, .slice s5a s5n), (6, .int .i64 s6)]) [] G) s0a s0n s5a s5n s6 s27 G := by kernel_rfl

theorem L_texture_needed_4_eq {R : Type} (O : Ora R) (fuel : Nat) (k : KE R) :
  (fun (s0a : OG) (s0n : Nat) (s5a : OG) (s5n : Nat) (s6 s27 : Int) (G : GH) => stepN fuel (loopD Try.prog O lo27 fuel (nav (Try.f27.body.getD .skip) [1, 1, 1, 0, 1, 0, 0, 1, 0, 0, 1, 1, 0, 0, 0, 0, 0, 0, 0]) 43 (mkE 48 [(0, .slice s0a s0n), (5, .slice s5a s5n), (6, .int .i64 s6), (27, .int .i64 s27)]) [] G (contC Try.prog O lo27 fuel (nav (Try.f27.body.getD .skip) [1, 1, 1, 0, 1, 0, 0, 1, 0, 0, 1, 1, 0, 0, 0, 0]) [0, 0, 0] (kpD lo27 47 0 k)))) = L_texture_needed_4 O fuel (fun (s0a : OG) (s0n : Nat) (s5a : OG) (s5n : Nat) (s6 : Int) (G : GH) => k .normal (mkE 48 [(0, .slice s0a s0n), (5, .slice s5a s5n), (6, .int .i64 s6)]) [] G) (fun (s0a : OG) (s0n : Nat) (s5a : OG) (s5n : Nat) (s6 : Int) (G : GH) => k (.exit 4) (mkE 48 [(0, .slice s0a s0n), (5, .slice s5a s5n), (6, .int .i64 s6)]) [] G) (fun (s0a : OG) (s0n : Nat) (s5a : OG) (s5n : Nat) (s6 : Int) (G : GH) => k (.exit 2) (mkE 48 [(0, .slice s0a s0n), (5, .slice s5a s5n), (6, .int .i64 s6)]) [] G) := by
  funext s0a s0n s5a s5n s6 s27 G
  simp only [L_texture_needed_4, l_texture_needed_4_eq, a_texture_needed_43_raw, a_texture_needed_4N_raw]

def l_texture_needed_3 {R : Type} (O : Ora R) (fuel : Nat) (KN K4 K2 : OG → Nat → OG → Nat → Int → GH → Option R) : OG → Nat → OG → Nat → Int → Int → GH → Option R := fun s0a s0n s5a s5n s6 s27 G => u_texture_needed_3 O KN K4 K2 (L_texture_needed_4 O fuel KN K4 K2) s0a s0n s5a s5n s6 s27 G

theorem u_texture_needed_3_raw {R : Type} (O : Ora R) (fuel : Nat) (s0a : OG) (s0n : Nat) (s5a : OG) (s5n : Nat) (s6 s27 : Int) (G : GH) (k : KE R) :
  loopD Try.prog O lo27 fuel (nav (Try.f27.body.getD .skip) [1, 1, 1, 0, 1, 0, 0, 1, 0, 0, 1, 1, 0, 0, 0, 0]) 47 (mkE 48 [(0, .slice s0a s0n), (5, .slice s5a s5n), (6, .int .i64 s6), (27, .int .i64 s27)]) [] G k =
  u_texture_needed_3 O (fun s0a s0n s5a s5n s6 G => k .normal (mkE 48 [(0, .slice s0a s0n), (5, .slice s5a s5n), (6, .int .i64 s6)]) [] G) (fun s0a s0n s5a s5n s6 G => k (.exit 4) (mkE 48 [(0, .slice s0a s0n), (5, .slice s5a s5n), (6, .int .i64 s6)]) [] G) (fun s0a s0n s5a s5n s6 G => k (.exit 2) (mkE 48 [(0, .slice s0a s0n), (5, .slice s5a s5n), (6, .int .i64 s6)]) [] G) (fun s0a s0n s5a s5n s6 s27 G => stepN fuel (loopD Try.prog O lo27 fuel (nav (Try.f27.body.getD .skip) [1, 1, 1, 0, 1, 0, 0, 1, 0, 0, 1, 1, 0, 0, 0, 0, 0, 0, 0]) 43 (mkE 48 [(0, .slice s0a s0n), (5, .slice s5a s5n), (6, .int .i64 s6), (27, .int .i64 s27)]) [] G (contC Try.prog O lo27 fuel (nav (Try.f27.body.getD .skip) [1, 1, 1, 0, 1, 0, 0, 1, 0, 0, 1, 1, 0, 0, 0, 0]) [0, 0, 0] (kpD lo27 47 0 k)))) s0a s0n s5a s5n s6 s27 G := by kernel_rfl

theorem l_texture_needed_3_eq {R : Type} (O : Ora R) (fuel : Nat) (k : KE R) : ∀ (s0a : OG) (s0n : Nat) (s5a : OG) (s5n : Nat) (s6 s27 : Int) (G : GH),
  loopD Try.prog O lo27 fuel (nav (Try.f27.body.getD .skip) [1, 1, 1, 0, 1, 0, 0, 1, 0, 0, 1, 1, 0, 0, 0, 0]) 47 (mkE 48 [(0, .slice s0a s0n), (5, .slice s5a s5n), (6, .int .i64 s6), (27, .int .i64 s27)]) [] G k = l_texture_needed_3 O fuel (fun s0a s0n s5a s5n s6 G => k .normal (mkE 48 [(0, .slice s0a s0n), (5, .slice s5a s5n), (6, .int .i64 s6)]) [] G) (fun s0a s0n s5a s5n s6 G => k (.exit 4) (mkE 48 [(0, .slice s0a s0n), (5, .slice s5a s5n), (6, .int .i64 s6)]) [] G) (fun s0a s0n s5a s5n s6 G => k (.exit 2) (mkE 48 [(0, .slice s0a s0n), (5, .slice s5a s5n), (6, .int .i64 s6)]) [] G) s0a s0n s5a s5n s6 s27 G := by
  intros
  rw [u_texture_needed_3_raw]
  simp only [l_texture_needed_3, L_texture_needed_4_eq]

def u_texture_needed_2 {R : Type} (O : Ora R) (KN K2 : OG → Nat → OG → Nat → Int → GH → Option R) (L3 : OG → Nat → OG → Nat → Int → Int → GH → Option R) (s0a : OG) (s0n : Nat) (s5a : OG) (s5n : Nat) (s6 s27 : Int) (G : GH) : Option R :=
  L3 s0a s0n s5a s5n s6 s27 G

def a_texture_needed_3N {R : Type} (O : Ora R) (KN K2 : OG → Nat → OG → Nat → Int → GH → Option R) (s0a : OG) (s0n : Nat) (s5a : OG) (s5n : Nat) (s6 : Int) (G : GH) : Option R :=
  (idx? s0a s0n s6 8).bind fun a1 =>
  (ldInt G .i64 (GA.add a1 5)).bind fun x2 =>
  (idx? s5a s5n x2 1).bind fun a3 =>
  (gst G a3 [.bool true]).bind fun G4 =>
  KN s0a s0n s5a s5n s6 G4

def a_texture_needed_34 {R : Type} (O : Ora R) (KN K2 : OG → Nat → OG → Nat → Int → GH → Option R) (s0a : OG) (s0n : Nat) (s5a : OG) (s5n : Nat) (s6 : Int) (G : GH) : Option R :=
  KN s0a s0n s5a s5n s6 G

def a_texture_needed_32 {R : Type} (O : Ora R) (KN K2 : OG → Nat → OG → Nat → Int → GH → Option R) (s0a : OG) (s0n : Nat) (s5a : OG) (s5n : Nat) (s6 : Int) (G : GH) : Option R :=
  K2 s0a s0n s5a s5n s6 G

def L_texture_needed_3 {R : Type} (O : Ora R) (fuel : Nat) (KN K2 : OG → Nat → OG → Nat → Int → GH → Option R) : OG → Nat → OG → Nat → Int → Int → GH → Option R := fun s0a s0n s5a s5n s6 s27 G =>
  stepN fuel (l_texture_needed_3 O fuel (a_texture_needed_3N O KN K2) (a_texture_needed_34 O KN K2) (a_texture_needed_32 O KN K2) s0a s0n s5a s5n s6 s27 G)

theorem a_texture_needed_3N_raw {R : Type} (O : Ora R) (fuel : Nat) (s0a : OG) (s0n : Nat) (s5a : OG) (s5n : Nat) (s6 : Int) (G : GH) (k : KE R) :
  contC Try.prog O lo27 fuel (nav (Try.f27.body.getD .skip) [1, 1, 1, 0, 1, 0, 0, 1, 0, 0, 1, 1, 0, 0]) [0, 0] (kpD lo27 51 0 k) .normal (mkE 48 [(0, .slice s0a s0n), (5, .slice s5a s5n), (6, .int .i64 s6)]) [] G =
  a_texture_needed_3N O (fun s0a s0n s5a s5n s6 G => k .normal (mkE 48 [(0, .slice s0a s0n), (5, .slice s5a s5n), (6, .int .i64 s6)]) [] G) (fun s0a s0n s5a s5n s6 G => k (.exit 2) (mkE 48 [(0, .slice s0a s0n), (5, .slice s5a s5n), (6, .int .i64 s6)]) [] G) s0a s0n s5a s5n s6 G := by kernel_rfl

theorem a_texture_needed_34_raw {R : Type} (O : Ora R) (fuel : Nat) (s0a : OG) (s0n : Nat) (s5a : OG) (s5n : Nat) (s6 : Int) (G : GH) (k : KE R) :
  contC Try.prog O lo27 fuel (nav (Try.f27.body.getD .skip) [1, 1, 1, 0, 1, 0, 0, 1, 0, 0, 1, 1, 0, 0]) [0, 0] (kpD lo27 51 0 k) (.exit 4) (mkE 48 [(0, .slice s0a s0n), (5, .slice s5a s5n), (6, .int .i64 s6)]) [] G =
  a_texture_needed_34 O (fun s0a s0n s5a s5n s6 G => k .normal (mkE 48 [(0, .slice s0a s0n), (5, .slice s5a s5n), (6, .int .i64 s6)]) [] G) (fun s0a s0n s5a s5n s6 G => k (.exit 2) (mkE 48 [(0, .slice s0a s0n), (5, .slice s5a s5n), (6, .int .i64 s6)]) [] G) s0a s0n s5a s5n s6 G := by kernel_rfl

theorem a_texture_needed_32_raw {R : Type} (O : Ora R) (fuel : Nat) (s0a : OG) (s0n : Nat) (s5a : OG) (s5n : Nat) (s6 : Int) (G : GH) (k : KE R) :
  contC Try.prog O lo27 fuel (nav (Try.f27.body.getD .skip) [1, 1, 1, 0, 1, 0, 0, 1, 0, 0, 1, 1, 0, 0]) [0, 0] (kpD lo27 51 0 k) (.exit 2) (mkE 48 [(0, .slice s0a s0n), (5, .slice s5a s5n), (6, .int .i64 s6)]) [] G =
  a_texture_needed_32 O (fun s0a s0n s5a s5n s6 G => k .normal (mkE 48 [(0, .slice s0a s0n), (5, .slice s5a s5n), (6, .int .i64 s6)]) [] G) (fun s0a s0n s5a s5n s6 G => k (.exit 2) (mkE 48 [(0, .slice s0a s0n), (5, .slice s5a s5n), (6, .int .i64 s6)]) [] G) s0a s0n s5a s5n s6 G := by kernel_rfl

theorem L_texture_needed_3_eq {R : Type} (O : Ora R) (fuel : Nat) (k : KE R) :
  (fun (s0a : OG) (s0n : Nat) (s5a : OG) (s5n : Nat) (s6 s27 : Int) (G : GH) => stepN fuel (loopD Try.prog O lo27 fuel (nav (Try.f27.body.getD .skip) [1, 1, 1, 0, 1, 0, 0, 1, 0, 0, 1, 1, 0, 0, 0, 0]) 47 (mkE 48 [(0, .slice s0a s0n), (5, .slice s5a s5n), (6, .int .i64 s6), (27, .int .i64 s27)]) [] G (contC Try.prog O lo27 fuel (nav (Try.f27.body.getD .skip) [1, 1, 1, 0, 1, 0, 0, 1, 0, 0, 1, 1, 0, 0]) [0, 0] (kpD lo27 51 0 k)))) = L_texture_needed_3 O fuel (fun (s0a : OG) (s0n : Nat) (s5a : OG) (s5n : Nat) (s6 : Int) (G : GH) => k .normal (mkE 48 [(0, .slice s0a s0n), (5, .slice s5a s5n), (6, .int .i64 s6)]) [] G) (fun (s0a : OG) (s0n : Nat) (s5a : OG) (s5n : Nat) (s6 : Int) (G : GH) => k (.exit 2) (mkE 48 [(0, .slice s0a s0n), (5, .slice s5a s5n), (6, .int .i64 s6)]) [] G) := by
  funext s0a s0n s5a s5n s6 s27 G
  simp only [L_texture_needed_3, l_texture_needed_3_eq, a_texture_needed_3N_raw, a_texture_needed_34_raw, a_texture_needed_32_raw]

def l_texture_needed_2 {R : Type} (O : Ora R) (fuel : Nat) (KN K2 : OG → Nat → OG → Nat → Int → GH → Option R) : OG → Nat → OG → Nat → Int → Int → GH → Option R := fun s0a s0n s5a s5n s6 s27 G => u_texture_needed_2 O KN K2 (L_texture_needed_3 O fuel KN K2) s0a s0n s5a s5n s6 s27 G

theorem u_texture_needed_2_raw {R : Type} (O : Ora R) (fuel : Nat) (s0a : OG) (s0n : Nat) (s5a : OG) (s5n : Nat) (s6 s27 : Int) (G : GH) (k : KE R) :
  loopD Try.prog O lo27 fuel (nav (Try.f27.body.getD .skip) [1, 1, 1, 0, 1, 0, 0, 1, 0, 0, 1, 1, 0, 0]) 51 (mkE 48 [(0, .slice s0a s0n), (5, .slice s5a s5n), (6, .int .i64 s6), (27, .int .i64 s27)]) [] G k =
  u_texture_needed_2 O (fun s0a s0n s5a s5n s6 G => k .normal (mkE 48 [(0, .slice s0a s0n), (5, .slice s5a s5n), (6, .int .i64 s6)]) [] G) (fun s0a s0n s5a s5n s6 G => k (.exit 2) (mkE 48 [(0, .slice s0a s0n), (5, .slice s5a s5n), (6, .int .i64 s6)]) [] G) (fun s0a s0n s5a s5n s6 s27 G => stepN fuel (loopD Try.prog O lo27 fuel (nav (Try.f27.body.getD .skip) [1, 1, 1, 0, 1, 0, 0, 1, 0, 0, 1, 1, 0, 0, 0, 0]) 47 (mkE 48 [(0, .slice s0a s0n), (5, .slice s5a s5n), (6, .int .i64 s6), (27, .int .i64 s27)]) [] G (contC Try.prog O lo27 fuel (nav (Try.f27.body.getD .skip) [1, 1, 1, 0, 1, 0, 0, 1, 0, 0, 1, 1, 0, 0]) [0, 0] (kpD lo27 51 0 k)))) s0a s0n s5a s5n s6 s27 G := by kernel_rfl

theorem l_texture_needed_2_eq {R : Type} (O : Ora R) (fuel : Nat) (k : KE R) : ∀ (s0a : OG) (s0n : Nat) (s5a : OG) (s5n : Nat) (s6 s27 : Int) (G : GH),
  loopD Try.prog O lo27 fuel (nav (Try.f27.body.getD .skip) [1, 1, 1, 0, 1, 0, 0, 1, 0, 0, 1, 1, 0, 0]) 51 (mkE 48 [(0, .slice s0a s0n), (5, .slice s5a s5n), (6, .int .i64 s6), (27, .int .i64 s27)]) [] G k = l_texture_needed_2 O fuel (fun s0a s0n s5a s5n s6 G => k .normal (mkE 48 [(0, .slice s0a s0n), (5, .slice s5a s5n), (6, .int .i64 s6)]) [] G) (fun s0a s0n s5a s5n s6 G => k (.exit 2) (mkE 48 [(0, .slice s0a s0n), (5, .slice s5a s5n), (6, .int .i64 s6)]) [] G) s0a s0n s5a s5n s6 s27 G := by
  intros
  rw [u_texture_needed_2_raw]
  simp only [l_texture_needed_2, L_texture_needed_3_eq]

def u_texture_needed_1 {R : Type} (O : Ora R) (KN : OG → Nat → OG → Nat → Int → GH → Option R) (L2 : OG → Nat → OG → Nat → Int → Int → GH → Option R) (s0a : OG) (s0n : Nat) (s5a : OG) (s5n : Nat) (s6 : Int) (G : GH) : Option R :=
  (idx? s5a s5n s6 1).bind fun a1 =>
  (ldBool G a1).bind fun x2 =>
  bif (!x2) then
  KN s0a s0n s5a s5n s6 G
  else
  (idx? s0a s0n s6 8).bind fun a3 =>
  (ldInt G .i64 (GA.add a3 0)).bind fun x4 =>
  L2 s0a s0n s5a s5n s6 x4 G

def a_texture_needed_2N {R : Type} (O : Ora R) (KN : OG → Nat → OG → Nat → Int → GH → Option R) (s0a : OG) (s0n : Nat) (s5a : OG) (s5n : Nat) (s6 : Int) (G : GH) : Option R :=
  (idx? s0a s0n s6 8).bind fun a1 =>
  (ldInt G .i64 (GA.add a1 4)).bind fun x2 =>
  (idx? s5a s5n x2 1).bind fun a3 =>
  (gst G a3 [.bool true]).bind fun G4 =>
  KN s0a s0n s5a s5n s6 G4

def a_texture_needed_22 {R : Type} (O : Ora R) (KN : OG → Nat → OG → Nat → Int → GH → Option R) (s0a : OG) (s0n : Nat) (s5a : OG) (s5n : Nat) (s6 : Int) (G : GH) : Option R :=
  KN s0a s0n s5a s5n s6 G

def L_texture_needed_2 {R : Type} (O : Ora R) (fuel : Nat) (KN : OG → Nat → OG → Nat → Int → GH → Option R) : OG → Nat → OG → Nat → Int → Int → GH → Option R := fun s0a s0n s5a s5n s6 s27 G =>
  stepN fuel (l_texture_needed_2 O fuel (a_texture_needed_2N O KN) (a_texture_needed_22 O KN) s0a s0n s5a s5n s6 s27 G)

theorem a_texture_needed_2N_raw {R : Type} (O : Ora R) (fuel : Nat) (s0a : OG) (s0n : Nat) (s5a : OG) (s5n : Nat) (s6 : Int) (G : GH) (k : KE R) :
  contC Try.prog O lo27 fuel (nav (Try.f27.body.getD .skip) [1, 1, 1, 0, 1, 0, 0, 1, 0]) [0, 1, 1, 0, 0] (kpD lo27 23 0 k) .normal (mkE 48 [(0, .slice s0a s0n), (5, .slice s5a s5n), (6, .int .i64 s6)]) [] G =
  a_texture_needed_2N O (fun s0a s0n s5a s5n s6 G => k .normal (mkE 48 [(0, .slice s0a s0n), (5, .slice s5a s5n), (6, .int .i64 s6)]) [] G) s0a s0n s5a s5n s6 G := by kernel_rfl

theorem a_texture_needed_22_raw {R : Type} (O : Ora R) (fuel : Nat) (s0a : OG) (s0n : Nat) (s5a : OG) (s5n : Nat) (s6 : Int) (G : GH) (k : KE R) :
  contC Try.prog O lo27 fuel (nav (Try.f27.body.getD .skip) [1, 1, 1, 0, 1, 0, 0, 1, 0]) [0, 1, 1, 0, 0] (kpD lo27 23 0 k) (.exit 2) (mkE 48 [(0, .slice s0a s0n), (5, .slice s5a s5n), (6, .int .i64 s6)]) [] G =
  a_texture_needed_22 O (fun s0a s0n s5a s5n s6 G => k .normal (mkE 48 [(0, .slice s0a s0n), (5, .slice s5a s5n), (6, .int .i64 s6)]) [] G) s0a s0n s5a s5n s6 G := by kernel_rfl

theorem L_texture_needed_2_eq {R : Type} (O : Ora R) (fuel : Nat) (k : KE R) :
  (fun (s0a : OG) (s0n : Nat) (s5a : OG) (s5n : Nat) (s6 s27 : Int) (G : GH) => stepN fuel (loopD Try.prog O lo27 fuel (nav (Try.f27.body.getD .skip) [1, 1, 1, 0, 1, 0, 0, 1, 0, 0, 1, 1, 0, 0]) 51 (mkE 48 [(0, .slice s0a s0n), (5, .slice s5a s5n), (6, .int .i64 s6), (27, .int .i64 s27)]) [] G (contC Try.prog O lo27 fuel (nav (Try.f27.body.getD .skip) [1, 1, 1, 0, 1, 0, 0, 1, 0]) [0, 1, 1, 0, 0] (kpD lo27 23 0 k)))) = L_texture_needed_2 O fuel (fun (s0a : OG) (s0n : Nat) (s5a : OG) (s5n : Nat) (s6 : Int) (G : GH) => k .normal (mkE 48 [(0, .slice s0a s0n), (5, .slice s5a s5n), (6, .int .i64 s6)]) [] G) := by
  funext s0a s0n s5a s5n s6 s27 G
  simp only [L_texture_needed_2, l_texture_needed_2_eq, a_texture_needed_2N_raw, a_texture_needed_22_raw]

def l_texture_needed_1 {R : Type} (O : Ora R) (fuel : Nat) (KN : OG → Nat → OG → Nat → Int → GH → Option R) : OG → Nat → OG → Nat → Int → GH → Option R := fun s0a s0n s5a s5n s6 G => u_texture_needed_1 O KN (L_texture_needed_2 O fuel KN) s0a s0n s5a s5n s6 G

theorem u_texture_needed_1_raw {R : Type} (O : Ora R) (fuel : Nat) (s0a : OG) (s0n : Nat) (s5a : OG) (s5n : Nat) (s6 : Int) (G : GH) (k : KE R) :
  loopD Try.prog O lo27 fuel (nav (Try.f27.body.getD .skip) [1, 1, 1, 0, 1, 0, 0, 1, 0]) 23 (mkE 48 [(0, .slice s0a s0n), (5, .slice s5a s5n), (6, .int .i64 s6)]) [] G k =
  u_texture_needed_1 O (fun s0a s0n s5a s5n s6 G => k .normal (mkE 48 [(0, .slice s0a s0n), (5, .slice s5a s5n), (6, .int .i64 s6)]) [] G) (fun s0a s0n s5a s5n s6 s27 G => stepN fuel (loopD Try.prog O lo27 fuel (nav (Try.f27.body.getD .skip) [1, 1, 1, 0, 1, 0, 0, 1, 0, 0, 1, 1, 0, 0]) 51 (mkE 48 [(0, .slice s0a s0n), (5, .slice s5a s5n), (6, .int .i64 s6), (27, .int .i64 s27)]) [] G (contC Try.prog O lo27 fuel (nav (Try.f27.body.getD .skip) [1, 1, 1, 0, 1, 0, 0, 1, 0]) [0, 1, 1, 0, 0] (kpD lo27 23 0 k)))) s0a s0n s5a s5n s6 G := by kernel_rfl

theorem l_texture_needed_1_eq {R : Type} (O : Ora R) (fuel : Nat) (k : KE R) : ∀ (s0a : OG) (s0n : Nat) (s5a : OG) (s5n : Nat) (s6 : Int) (G : GH),
  loopD Try.prog O lo27 fuel (nav (Try.f27.body.getD .skip) [1, 1, 1, 0, 1, 0, 0, 1, 0]) 23 (mkE 48 [(0, .slice s0a s0n), (5, .slice s5a s5n), (6, .int .i64 s6)]) [] G k = l_texture_needed_1 O fuel (fun s0a s0n s5a s5n s6 G => k .normal (mkE 48 [(0, .slice s0a s0n), (5, .slice s5a s5n), (6, .int .i64 s6)]) [] G) s0a s0n s5a s5n s6 G := by
  intros
  rw [u_texture_needed_1_raw]
  simp only [l_texture_needed_1, L_texture_needed_2_eq]

def u_texture_needed_0 {R : Type} (O : Ora R) (KN : OG → Nat → OG → Nat → Int → GH → Option R) (K0 : OG → Nat → GH → Option R) (L1 : OG → Nat → OG → Nat → Int → GH → Option R) (s0a : OG) (s0n : Nat) (s5a : OG) (s5n : Nat) (s6 : Int) (G : GH) : Option R :=
  bif (decide (s6 ≥ (0 : Int))) then
  L1 s0a s0n s5a s5n s6 G
  else
  K0 s5a s5n G

def a_texture_needed_1N {R : Type} (O : Ora R) (KN : OG → Nat → OG → Nat → Int → GH → Option R) (K0 : OG → Nat → GH → Option R) (s0a : OG) (s0n : Nat) (s5a : OG) (s5n : Nat) (s6 : Int) (G : GH) : Option R :=
  KN s0a s0n s5a s5n (IntKind.wrap .i64 (s6 - (1 : Int))) G

def L_texture_needed_1 {R : Type} (O : Ora R) (fuel : Nat) (KN : OG → Nat → OG → Nat → Int → GH → Option R) (K0 : OG → Nat → GH → Option R) : OG → Nat → OG → Nat → Int → GH → Option R := fun s0a s0n s5a s5n s6 G =>
  stepN fuel (l_texture_needed_1 O fuel (a_texture_needed_1N O KN K0) s0a s0n s5a s5n s6 G)

theorem a_texture_needed_1N_raw {R : Type} (O : Ora R) (fuel : Nat) (s0a : OG) (s0n : Nat) (s5a : OG) (s5n : Nat) (s6 : Int) (G : GH) (k : KE R) :
  contC Try.prog O lo27 fuel (nav (Try.f27.body.getD .skip) [1, 1, 1, 0, 1, 0, 0]) [1, 0] (kpD lo27 16 0 k) .normal (mkE 48 [(0, .slice s0a s0n), (5, .slice s5a s5n), (6, .int .i64 s6)]) [] G =
  a_texture_needed_1N O (fun s0a s0n s5a s5n s6 G => k .normal (mkE 48 [(0, .slice s0a s0n), (5, .slice s5a s5n), (6, .int .i64 s6)]) [] G) (fun s5a s5n G => k (.exit 0) (mkE 48 [(5, .slice s5a s5n)]) [] G) s0a s0n s5a s5n s6 G := by kernel_rfl

theorem L_texture_needed_1_eq {R : Type} (O : Ora R) (fuel : Nat) (k : KE R) :
  (fun (s0a : OG) (s0n : Nat) (s5a : OG) (s5n : Nat) (s6 : Int) (G : GH) => stepN fuel (loopD Try.prog O lo27 fuel (nav (Try.f27.body.getD .skip) [1, 1, 1, 0, 1, 0, 0, 1, 0]) 23 (mkE 48 [(0, .slice s0a s0n), (5, .slice s5a s5n), (6, .int .i64 s6)]) [] G (contC Try.prog O lo27 fuel (nav (Try.f27.body.getD .skip) [1, 1, 1, 0, 1, 0, 0]) [1, 0] (kpD lo27 16 0 k)))) = L_texture_needed_1 O fuel (fun (s0a : OG) (s0n : Nat) (s5a : OG) (s5n : Nat) (s6 : Int) (G : GH) => k .normal (mkE 48 [(0, .slice s0a s0n), (5, .slice s5a s5n), (6, .int .i64 s6)]) [] G) (fun (s5a : OG) (s5n : Nat) (G : GH) => k (.exit 0) (mkE 48 [(5, .slice s5a s5n)]) [] G) := by
  funext s0a s0n s5a s5n s6 G
  simp only [L_texture_needed_1, l_texture_needed_1_eq, a_texture_needed_1N_raw]

def l_texture_needed_0 {R : Type} (O : Ora R) (fuel : Nat) (K0 : OG → Nat → GH → Option R) : Nat → OG → Nat → OG → Nat → Int → GH → Option R
  | 0, _, _, _, _, _, _ => none
  | n + 1, s0a, s0n, s5a, s5n, s6, G => u_texture_needed_0 O (l_texture_needed_0 O fuel K0 n) K0 (L_texture_needed_1 O fuel (l_texture_needed_0 O fuel K0 n) K0) s0a s0n s5a s5n s6 G

theorem u_texture_needed_0_raw {R : Type} (O : Ora R) (fuel : Nat) (s0a : OG) (s0n : Nat) (s5a : OG) (s5n : Nat) (s6 : Int) (G : GH) (k : KE R) :
  loopD Try.prog O lo27 fuel (nav (Try.f27.body.getD .skip) [1, 1, 1, 0, 1, 0, 0]) 16 (mkE 48 [(0, .slice s0a s0n), (5, .slice s5a s5n), (6, .int .i64 s6)]) [] G k =
  u_texture_needed_0 O (fun s0a s0n s5a s5n s6 G => k .normal (mkE 48 [(0, .slice s0a s0n), (5, .slice s5a s5n), (6, .int .i64 s6)]) [] G) (fun s5a s5n G => k (.exit 0) (mkE 48 [(5, .slice s5a s5n)]) [] G) (fun s0a s0n s5a s5n s6 G => stepN fuel (loopD Try.prog O lo27 fuel (nav (Try.f27.body.getD .skip) [1, 1, 1, 0, 1, 0, 0, 1, 0]) 23 (mkE 48 [(0, .slice s0a s0n), (5, .slice s5a s5n), (6, .int .i64 s6)]) [] G (contC Try.prog O lo27 fuel (nav (Try.f27.body.getD .skip) [1, 1, 1, 0, 1, 0, 0]) [1, 0] (kpD lo27 16 0 k)))) s0a s0n s5a s5n s6 G := by kernel_rfl

theorem l_texture_needed_0_eq {R : Type} (O : Ora R) (fuel : Nat) (k : KE R) : ∀ (n : Nat) (s0a : OG) (s0n : Nat) (s5a : OG) (s5n : Nat) (s6 : Int) (G : GH),
  loopN (loopD Try.prog O lo27 fuel (nav (Try.f27.body.getD .skip) [1, 1, 1, 0, 1, 0, 0]) 16) n (mkE 48 [(0, .slice s0a s0n), (5, .slice s5a s5n), (6, .int .i64 s6)]) [] G k = l_texture_needed_0 O fuel (fun s5a s5n G => k (.exit 0) (mkE 48 [(5, .slice s5a s5n)]) [] G) n s0a s0n s5a s5n s6 G := by
  intro n
  induction n with
  | zero => intros; first | rfl | simp only [loopN, l_texture_needed_0]
  | succ n ih =>
    intros
    rw [loopN_succ, u_texture_needed_0_raw]
    simp only [l_texture_needed_0, loopK_normal, loopK_exit, loopK_ret, ih, L_texture_needed_1_eq]

def u_texture_needed {R : Type} (O : Ora R) (k : KV R) (L0 : OG → Nat → OG → Nat → Int → GH → Option R) (p0a : OG) (p0n : Nat) (p1 : Int) (G : GH) : Option R :=
  bif (decide (0 ≤ (IntKind.wrap .i64 (p1 + (1 : Int))) ∧ (IntKind.wrap .i64 (p1 + (1 : Int))) ≤ (IntKind.wrap .i64 (p1 + (1 : Int))) ∧ (IntKind.wrap .i64 (p1 + (1 : Int))) * 1 ≤ roomI ∧ (IntKind.wrap .i64 (p1 + (1 : Int))) ≤ roomI) && true && true) then
  (idx? (some (gaddr G)) (Int.toNat (IntKind.wrap .i64 (p1 + (1 : Int)))) p1 1).bind fun a1 =>
  (gst (gnew G (List.replicate (Int.toNat (IntKind.wrap .i64 (p1 + (1 : Int)))) [.bool false]).flatten 4) a1 [.bool true]).bind fun G2 =>
  L0 p0a p0n (some (gaddr G)) (Int.toNat (IntKind.wrap .i64 (p1 + (1 : Int)))) p1 G2
  else none

def a_texture_needed_00 {R : Type} (O : Ora R) (k : KV R) (s5a : OG) (s5n : Nat) (G : GH) : Option R :=
  k (.slice s5a s5n) G

def L_texture_needed_0 {R : Type} (O : Ora R) (fuel : Nat) (k : KV R) : OG → Nat → OG → Nat → Int → GH → Option R := fun s0a s0n s5a s5n s6 G =>
  l_texture_needed_0 O fuel (a_texture_needed_00 O k) fuel s0a s0n s5a s5n s6 G

theorem a_texture_needed_00_raw {R : Type} (O : Ora R) (fuel : Nat) (s5a : OG) (s5n : Nat) (G : GH) (k : KV R) :
  contC Try.prog O lo27 fuel (Try.f27.body.getD .skip) [1, 1, 1, 0, 1, 0] (fun e env F G => match e with | .exit _ => none | _ => resC Try.prog Try.f27 env F G k) (.exit 0) (mkE 48 [(5, .slice s5a s5n)]) [] G =
  a_texture_needed_00 O k s5a s5n G := by kernel_rfl

theorem L_texture_needed_0_eq {R : Type} (O : Ora R) (fuel : Nat) (k : KV R) :
  (fun (s0a : OG) (s0n : Nat) (s5a : OG) (s5n : Nat) (s6 : Int) (G : GH) => loopN (loopD Try.prog O lo27 fuel (nav (Try.f27.body.getD .skip) [1, 1, 1, 0, 1, 0, 0]) 16) fuel (mkE 48 [(0, .slice s0a s0n), (5, .slice s5a s5n), (6, .int .i64 s6)]) [] G (contC Try.prog O lo27 fuel (Try.f27.body.getD .skip) [1, 1, 1, 0, 1, 0] (fun e env F G => match e with | .exit _ => none | _ => resC Try.prog Try.f27 env F G k))) = L_texture_needed_0 O fuel k := by
  funext s0a s0n s5a s5n s6 G
  simp only [L_texture_needed_0, l_texture_needed_0_eq, a_texture_needed_00_raw]

theorem e_texture_needed_raw {R : Type} (O : Ora R) (fuel : Nat) (p0a : OG) (p0n : Nat) (p1 : Int) (G : GH) (k : KV R) :
  bodyC Try.prog O lo27 fuel Try.f27 [.slice p0a p0n, .int .i64 p1] G k =
  u_texture_needed O k (fun s0a s0n s5a s5n s6 G => loopN (loopD Try.prog O lo27 fuel (nav (Try.f27.body.getD .skip) [1, 1, 1, 0, 1, 0, 0]) 16) fuel (mkE 48 [(0, .slice s0a s0n), (5, .slice s5a s5n), (6, .int .i64 s6)]) [] G (contC Try.prog O lo27 fuel (Try.f27.body.getD .skip) [1, 1, 1, 0, 1, 0] (fun e env F G => match e with | .exit _ => none | _ => resC Try.prog Try.f27 env F G k))) p0a p0n p1 G := by kernel_rfl

theorem e_texture_needed {R : Type} (O : Ora R) (fuel : Nat) (p0a : OG) (p0n : Nat) (p1 : Int) (G : GH) (k : KV R) :
  bodyC Try.prog O lo27 fuel Try.f27 [.slice p0a p0n, .int .i64 p1] G k =
  u_texture_needed O k (L_texture_needed_0 O fuel k) p0a p0n p1 G := by
  rw [e_texture_needed_raw, L_texture_needed_0_eq]

theorem r_texture_needed {R : Type} (fuel n : Nat) (p0a : OG) (p0n : Nat) (p1 : Int) (G : GH) (k : KV R) :
  runC Try.prog lo0 fuel (n + 1) 27 [.slice p0a p0n, .int .i64 p1] G k = bodyC Try.prog (runC Try.prog lo0 fuel n) lo27 fuel Try.f27 [.slice p0a p0n, .int .i64 p1] G k := run_body Try.func27 rfl rfl

/-! ### lantern/texture.both -/
theorem e_texture_both {R : Type} (O : Ora R) (fuel : Nat) (p0 p1 : Int) (G : GH) (k : KV R) :
  bodyC Try.prog O [777777] fuel Try.f47 [.int .i64 p0, .int .i64 p1] G k =
  bif (p0 == (1 : Int)) then
  bif (p1 == (1 : Int)) then
  k (.int .i64 (1 : Int)) G
  else
  k (.int .i64 (2 : Int)) G
  else
  k (.int .i64 (2 : Int)) G := by kernel_rfl

theorem r_texture_both {R : Type} (fuel n : Nat) (p0 p1 : Int) (G : GH) (k : KV R) :
  runC Try.prog lo0 fuel (n + 1) 47 [.int .i64 p0, .int .i64 p1] G k = bodyC Try.prog (runC Try.prog lo0 fuel n) [777777] fuel Try.f47 [.int .i64 p0, .int .i64 p1] G k := run_body Try.func47 rfl rfl

/-! ### lantern/image.New[lantern/api.Triple] -/
def u_image_New_api_Triple_0 {R : Type} (O : Ora R) (KN : Int → Int → Bool → GH → Option R) (s0 s1 : Int) (G : GH) : Option R :=
  bif (decide (s0 < (1 : Int))) then
  KN s0 s1 true G
  else
  bif (decide (s1 < (1 : Int))) then
  KN s0 s1 true G
  else
  bif (decide (s0 > (1024 : Int))) then
  KN s0 s1 true G
  else
  bif (decide (s1 > (1024 : Int))) then
  KN s0 s1 true G
  else
  KN s0 s1 (decide ((IntKind.wrap .i64 (s0 * s1)) > (65536 : Int))) G

def l_image_New_api_Triple_0 {R : Type} (O : Ora R) (KN : Int → Int → Bool → GH → Option R) : Int → Int → GH → Option R := fun s0 s1 G => u_image_New_api_Triple_0 O KN s0 s1 G

theorem u_image_New_api_Triple_0_raw {R : Type} (O : Ora R) (fuel : Nat) (s0 s1 : Int) (G : GH) (k : KE R) :
  loopD Try.prog O lo76 fuel (nav (Try.f76.body.getD .skip) [1, 0, 0]) 11 (mkE 34 [(0, .int .i64 s0), (1, .int .i64 s1)]) [] G k =
  u_image_New_api_Triple_0 O (fun s0 s1 s25 G => k .normal (mkE 34 [(0, .int .i64 s0), (1, .int .i64 s1), (25, .bool s25)]) [] G) s0 s1 G := by kernel_rfl

theorem l_image_New_api_Triple_0_eq {R : Type} (O : Ora R) (fuel : Nat) (k : KE R) : ∀ (s0 s1 : Int) (G : GH),
  loopD Try.prog O lo76 fuel (nav (Try.f76.body.getD .skip) [1, 0, 0]) 11 (mkE 34 [(0, .int .i64 s0), (1, .int .i64 s1)]) [] G k = l_image_New_api_Triple_0 O (fun s0 s1 s25 G => k .normal (mkE 34 [(0, .int .i64 s0), (1, .int .i64 s1), (25, .bool s25)]) [] G) s0 s1 G := by
  intros
  rw [u_image_New_api_Triple_0_raw]
  simp only [l_image_New_api_Triple_0]

def u_image_New_api_Triple {R : Type} (O : Ora R) (k : KV R) (L0 : Int → Int → GH → Option R) (p0 p1 : Int) (G : GH) : Option R :=
  L0 p0 p1 G

def a_image_New_api_Triple_0N {R : Type} (O : Ora R) (k : KV R) (s0 s1 : Int) (s25 : Bool) (G : GH) : Option R :=
  bif s25 then
  k (.tuple [.ptr none, .int .i64 (70 : Int)]) G
  else
  bif (decide (0 ≤ (IntKind.wrap .i64 (s0 * s1)) ∧ (IntKind.wrap .i64 (s0 * s1)) ≤ (IntKind.wrap .i64 (s0 * s1)) ∧ (IntKind.wrap .i64 (s0 * s1)) * 24 ≤ roomI ∧ (IntKind.wrap .i64 (s0 * s1)) ≤ roomI) && true && true) then
  k (.tuple [.ptr (some (gaddr (gnew G (List.replicate (Int.toNat (IntKind.wrap .i64 (s0 * s1))) [.float .f64 (0 : Nat), .float .f64 (0 : Nat), .float .f64 (0 : Nat)]).flatten 48))), .int .i64 (0 : Int)]) (gnew (gnew G (List.replicate (Int.toNat (IntKind.wrap .i64 (s0 * s1))) [.float .f64 (0 : Nat), .float .f64 (0 : Nat), .float .f64 (0 : Nat)]).flatten 48) [.int .i64 s0, .int .i64 s1, .slice (some (gaddr G)) (Int.toNat (IntKind.wrap .i64 (s0 * s1)))] 110)
  else none

def L_image_New_api_Triple_0 {R : Type} (O : Ora R) (fuel : Nat) (k : KV R) : Int → Int → GH → Option R := fun s0 s1 G =>
  stepN fuel (l_image_New_api_Triple_0 O (a_image_New_api_Triple_0N O k) s0 s1 G)

theorem a_image_New_api_Triple_0N_raw {R : Type} (O : Ora R) (fuel : Nat) (s0 s1 : Int) (s25 : Bool) (G : GH) (k : KV R) :
  contC Try.prog O lo76 fuel (Try.f76.body.getD .skip) [1, 0, 0] (fun e env F G => match e with | .exit _ => none | _ => resC Try.prog Try.f76 env F G k) .normal (mkE 34 [(0, .int .i64 s0), (1, .int .i64 s1), (25, .bool s25)]) [] G =
  a_image_New_api_Triple_0N O k s0 s1 s25 G := by kernel_rfl

theorem L_image_New_api_Triple_0_eq {R : Type} (O : Ora R) (fuel : Nat) (k : KV R) :
  (fun (s0 s1 : Int) (G : GH) => stepN fuel (loopD Try.prog O lo76 fuel (nav (Try.f76.body.getD .skip) [1, 0, 0]) 11 (mkE 34 [(0, .int .i64 s0), (1, .int .i64 s1)]) [] G (contC Try.prog O lo76 fuel (Try.f76.body.getD .skip) [1, 0, 0] (fun e env F G => match e with | .exit _ => none | _ => resC Try.prog Try.f76 env F G k)))) = L_image_New_api_Triple_0 O fuel k := by
  funext s0 s1 G
  simp only [L_image_New_api_Triple_0, l_image_New_api_Triple_0_eq, a_image_New_api_Triple_0N_raw]

theorem e_image_New_api_Triple_raw {R : Type} (O : Ora R) (fuel : Nat) (p0 p1 : Int) (G : GH) (k : KV R) :
  bodyC Try.prog O lo76 fuel Try.f76 [.int .i64 p0, .int .i64 p1] G k =
  u_image_New_api_Triple O k (fun s0 s1 G => stepN fuel (loopD Try.prog O lo76 fuel (nav (Try.f76.body.getD .skip) [1, 0, 0]) 11 (mkE 34 [(0, .int .i64 s0), (1, .int .i64 s1)]) [] G (contC Try.prog O lo76 fuel (Try.f76.body.getD .skip) [1, 0, 0] (fun e env F G => match e with | .exit _ => none | _ => resC Try.prog Try.f76 env F G k)))) p0 p1 G := by kernel_rfl

theorem e_image_New_api_Triple {R : Type} (O : Ora R) (fuel : Nat) (p0 p1 : Int) (G : GH) (k : KV R) :
  bodyC Try.prog O lo76 fuel Try.f76 [.int .i64 p0, .int .i64 p1] G k =
  u_image_New_api_Triple O k (L_image_New_api_Triple_0 O fuel k) p0 p1 G := by
  rw [e_image_New_api_Triple_raw, L_image_New_api_Triple_0_eq]

theorem r_image_New_api_Triple {R : Type} (fuel n : Nat) (p0 p1 : Int) (G : GH) (k : KV R) :
  runC Try.prog lo0 fuel (n + 1) 76 [.int .i64 p0, .int .i64 p1] G k = bodyC Try.prog (runC Try.prog lo0 fuel n) lo76 fuel Try.f76 [.int .i64 p0, .int .i64 p1] G k := run_body Try.func76 rfl rfl

/-! ### lantern/image.Of[lantern/api.Triple] -/
theorem e_image_Of_api_Triple {R : Type} (O : Ora R) (fuel : Nat) (p0 p1 : Int) (p2a : OG) (p2n : Nat) (G : GH) (k : KV R) :
  bodyC Try.prog O [777777] fuel Try.f64 [.int .i64 p0, .int .i64 p1, .slice p2a p2n] G k =
  O fn_image_New_api_Triple [.int .i64 p0, .int .i64 p1] G fun v1 G2 =>
  (ivTup 2 v1).bind fun c3 =>
  (ivPtr (c3.getD 0 undefI)).bind fun x4 =>
  (ivInt .i64 (c3.getD 1 undefI)).bind fun x5 =>
  bif (x5 != (0 : Int)) then
  k (.tuple [.ptr none, .int .i64 x5]) G2
  else
  bif ((p2n : Int) != (IntKind.wrap .i64 (p0 * p1))) then
  k (.tuple [.ptr none, .int .i64 (70 : Int)]) G2
  else
  (x4).bind fun a6 =>
  (ldSlice G2 (GA.add a6 2)).bind fun x7 =>
  copyK G2 3 x7.1 x7.2 p2a p2n fun x8 G9 =>
  k (.tuple [.ptr x4, .int .i64 (0 : Int)]) G9 := by kernel_rfl

theorem r_image_Of_api_Triple {R : Type} (fuel n : Nat) (p0 p1 : Int) (p2a : OG) (p2n : Nat) (G : GH) (k : KV R) :
  runC Try.prog lo0 fuel (n + 1) 64 [.int .i64 p0, .int .i64 p1, .slice p2a p2n] G k = bodyC Try.prog (runC Try.prog lo0 fuel n) [777777] fuel Try.f64 [.int .i64 p0, .int .i64 p1, .slice p2a p2n] G k := run_body Try.func64 rfl rfl

/-! ### lantern/image.wrap -/
theorem e_image_wrap {R : Type} (O : Ora R) (fuel : Nat) (p0 p1 : Int) (G : GH) (k : KV R) :
  bodyC Try.prog O [777777] fuel Try.f77 [.int .i64 p0, .int .i64 p1] G k =
  bif p1 == 0 then none else
  bif (decide ((Int.tmod p0 p1) < (0 : Int))) then
  k (.int .i64 (IntKind.wrap .i64 ((Int.tmod p0 p1) + p1))) G
  else
  k (.int .i64 (Int.tmod p0 p1)) G := by kernel_rfl

theorem r_image_wrap {R : Type} (fuel n : Nat) (p0 p1 : Int) (G : GH) (k : KV R) :
  runC Try.prog lo0 fuel (n + 1) 77 [.int .i64 p0, .int .i64 p1] G k = bodyC Try.prog (runC Try.prog lo0 fuel n) [777777] fuel Try.f77 [.int .i64 p0, .int .i64 p1] G k := run_body Try.func77 rfl rfl

/-! ### (*lantern/image.Image[lantern/api.Triple]).Wrapped -/
theorem e_image_Image_api_Triple_Wrapped {R : Type} (O : Ora R) (fuel : Nat) (p0 : GA) (p1 p2 : Int) (G : GH) (k : KV R) :
  bodyC Try.prog O [6, 7, 777777] fuel Try.f65 [.ptr (some p0), .int .i64 p1, .int .i64 p2] G k =
  (ldSlice G (GA.add p0 2)).bind fun x1 =>
  (ldInt G .i64 (GA.add p0 1)).bind fun x2 =>
  O fn_image_wrap [.int .i64 p2, .int .i64 x2] (gfreeze G) fun v3 _ =>
  (ivInt .i64 v3).bind fun x4 =>
  (ldInt G .i64 (GA.add p0 0)).bind fun x5 =>
  (ldInt G .i64 (GA.add p0 0)).bind fun x6 =>
  O fn_image_wrap [.int .i64 p1, .int .i64 x6] (gfreeze G) fun v7 _ =>
  (ivInt .i64 v7).bind fun x8 =>
  (idx? x1.1 x1.2 (IntKind.wrap .i64 ((IntKind.wrap .i64 (x4 * x5)) + x8)) 3).bind fun a9 =>
  (ldFloat G .f64 (GA.add a9 0)).bind fun x10 =>
  (ldFloat G .f64 (GA.add a9 1)).bind fun x11 =>
  (ldFloat G .f64 (GA.add a9 2)).bind fun x12 =>
  k (.agg [.float .f64 x10, .float .f64 x11, .float .f64 x12]) G := by kernel_rfl

theorem r_image_Image_api_Triple_Wrapped {R : Type} (fuel n : Nat) (p0 : GA) (p1 p2 : Int) (G : GH) (k : KV R) :
  runC Try.prog lo0 fuel (n + 1) 65 [.ptr (some p0), .int .i64 p1, .int .i64 p2] G k = bodyC Try.prog (runC Try.prog lo0 fuel n) [6, 7, 777777] fuel Try.f65 [.ptr (some p0), .int .i64 p1, .int .i64 p2] G k := run_body Try.func65 rfl rfl

/-! ### lantern/texture.sample -/
theorem e_texture_sample {R : Type} (O : Ora R) (fuel : Nat) (p0_0 p0_1 : Int) (p0_2a : OG) (p0_2n p1_0 : Nat) (p1_1 p2_0 p2_1 : Nat) (G : GH) (k : KV R) :
  bodyC Try.prog O [3, 4, 5, 6, 777777] fuel Try.f51 [.agg [.int .i64 p0_0, .int .i64 p0_1, .slice p0_2a p0_2n], .agg [.float .f64 p1_0, .float .f64 p1_1], .agg [.float .f64 p2_0, .float .f64 p2_1]] G k =
  O fn_image_Of_api_Triple [.int .i64 p0_0, .int .i64 p0_1, .slice p0_2a p0_2n] G fun v1 G2 =>
  (ivTup 2 v1).bind fun c3 =>
  (ivPtr (c3.getD 0 undefI)).bind fun x4 =>
  (ivInt .i64 (c3.getD 1 undefI)).bind fun x5 =>
  bif (x5 != (0 : Int)) then
  k (.agg [.float .f64 (0 : Nat), .float .f64 (0 : Nat), .float .f64 (0 : Nat), .float .f64 (0 : Nat), .float .f64 (0 : Nat), .float .f64 (0 : Nat), .int .i64 (2 : Int)]) G2
  else
  O fn_span_Of [.float .f64 (FloatKind.nearest .f64 p0_0)] (gfreeze G2) fun v6 _ =>
  (ivAgg 2 v6).bind fun c7 =>
  (ivFloat .f64 (c7.getD 0 undefI)).bind fun x8 =>
  (ivFloat .f64 (c7.getD 1 undefI)).bind fun x9 =>
  O fn_span_Mul [.agg [.float .f64 p1_0, .float .f64 p1_1], .agg [.float .f64 x8, .float .f64 x9]] (gfreeze G2) fun v10 _ =>
  (ivAgg 2 v10).bind fun c11 =>
  (ivFloat .f64 (c11.getD 0 undefI)).bind fun x12 =>
  (ivFloat .f64 (c11.getD 1 undefI)).bind fun x13 =>
  O fn_span_Floor [.agg [.float .f64 x12, .float .f64 x13]] (gfreeze G2) fun v14 _ =>
  (ivTup 2 v14).bind fun c15 =>
  (ivInt .i64 (c15.getD 0 undefI)).bind fun x16 =>
  (ivInt .i64 (c15.getD 1 undefI)).bind fun x17 =>
  O fn_span_Of [.float .f64 (FloatKind.nearest .f64 p0_1)] (gfreeze G2) fun v18 _ =>
  (ivAgg 2 v18).bind fun c19 =>
  (ivFloat .f64 (c19.getD 0 undefI)).bind fun x20 =>
  (ivFloat .f64 (c19.getD 1 undefI)).bind fun x21 =>
  O fn_span_Mul [.agg [.float .f64 p2_0, .float .f64 p2_1], .agg [.float .f64 x20, .float .f64 x21]] (gfreeze G2) fun v22 _ =>
  (ivAgg 2 v22).bind fun c23 =>
  (ivFloat .f64 (c23.getD 0 undefI)).bind fun x24 =>
  (ivFloat .f64 (c23.getD 1 undefI)).bind fun x25 =>
  O fn_span_Floor [.agg [.float .f64 x24, .float .f64 x25]] (gfreeze G2) fun v26 _ =>
  (ivTup 2 v26).bind fun c27 =>
  (ivInt .i64 (c27.getD 0 undefI)).bind fun x28 =>
  (ivInt .i64 (c27.getD 1 undefI)).bind fun x29 =>
  O fn_image_Image_api_Triple_Wrapped [.ptr x4, .int .i64 x16, .int .i64 x28] G2 fun v30 G31 =>
  (ivAgg 3 v30).bind fun c32 =>
  (ivFloat .f64 (c32.getD 0 undefI)).bind fun x33 =>
  (ivFloat .f64 (c32.getD 1 undefI)).bind fun x34 =>
  (ivFloat .f64 (c32.getD 2 undefI)).bind fun x35 =>
  O fn_vec_Of [.agg [.float .f64 x33, .float .f64 x34, .float .f64 x35]] G31 fun v36 G37 =>
  (ivAgg 6 v36).bind fun c38 =>
  (ivFloat .f64 (c38.getD 0 undefI)).bind fun x39 =>
  (ivFloat .f64 (c38.getD 1 undefI)).bind fun x40 =>
  (ivFloat .f64 (c38.getD 2 undefI)).bind fun x41 =>
  (ivFloat .f64 (c38.getD 3 undefI)).bind fun x42 =>
  (ivFloat .f64 (c38.getD 4 undefI)).bind fun x43 =>
  (ivFloat .f64 (c38.getD 5 undefI)).bind fun x44 =>
  O fn_texture_both [.int .i64 x17, .int .i64 x29] G37 fun v45 G46 =>
  (ivInt .i64 v45).bind fun x47 =>
  k (.agg [.float .f64 x39, .float .f64 x40, .float .f64 x41, .float .f64 x42, .float .f64 x43, .float .f64 x44, .int .i64 x47]) G46 := by kernel_rfl

theorem r_texture_sample {R : Type} (fuel n : Nat) (p0_0 p0_1 : Int) (p0_2a : OG) (p0_2n p1_0 : Nat) (p1_1 p2_0 p2_1 : Nat) (G : GH) (k : KV R) :
  runC Try.prog lo0 fuel (n + 1) 51 [.agg [.int .i64 p0_0, .int .i64 p0_1, .slice p0_2a p0_2n], .agg [.float .f64 p1_0, .float .f64 p1_1], .agg [.float .f64 p2_0, .float .f64 p2_1]] G k = bodyC Try.prog (runC Try.prog lo0 fuel n) [3, 4, 5, 6, 777777] fuel Try.f51 [.agg [.int .i64 p0_0, .int .i64 p0_1, .slice p0_2a p0_2n], .agg [.float .f64 p1_0, .float .f64 p1_1], .agg [.float .f64 p2_0, .float .f64 p2_1]] G k := run_body Try.func51 rfl rfl

/-! ### lantern/texture.one -/
def u_texture_one_0 {R : Type} (O : Ora R) (KN : Int → Int → Int → Nat → Nat → Nat → Int → Int → Nat → Int → Nat → Nat → Nat → Nat → Nat → Nat → Nat → Nat → Nat → Nat → Int → Nat → Nat → Nat → Nat → Nat → Nat → Nat → Nat → Int → GH → Option R) (s2a : OG) (s2n : Nat) (s12 s13 : Int) (s14 s15 b0_0 : Int) (b0_1 b0_2 b0_3 : Nat) (b0_4 b0_5 : Int) (b0_6 : Nat) (b0_7 : Int) (b1_0 b1_1 : Nat) (b2_0 b2_1 : Nat) (b3_0 b3_1 : Nat) (b3_2 b3_3 : Nat) (b3_4 b3_5 : Nat) (b3_6 : Int) (b4_0 b4_1 : Nat) (b5_0 b5_1 : Nat) (b5_2 b5_3 : Nat) (b5_4 b5_5 : Nat) (b5_6 : Int) (G : GH) : Option R :=
  bif ((Int.tmod (IntKind.wrap .i64 (s12 + s14)) (2 : Int)) != (0 : Int)) then
  (idx? s2a s2n b0_5 7).bind fun a1 =>
  (ldFloat G .f64 (GA.add a1 0)).bind fun x2 =>
  (ldFloat G .f64 (GA.add a1 1)).bind fun x3 =>
  (ldFloat G .f64 (GA.add a1 2)).bind fun x4 =>
  (ldFloat G .f64 (GA.add a1 3)).bind fun x5 =>
  (ldFloat G .f64 (GA.add a1 4)).bind fun x6 =>
  (ldFloat G .f64 (GA.add a1 5)).bind fun x7 =>
  (ldInt G .i64 (GA.add a1 6)).bind fun x8 =>
  KN s13 s15 b0_0 b0_1 b0_2 b0_3 b0_4 b0_5 b0_6 b0_7 b1_0 b1_1 b2_0 b2_1 b3_0 b3_1 b3_2 b3_3 b3_4 b3_5 b3_6 b4_0 b4_1 x2 x3 x4 x5 x6 x7 x8 G
  else
  KN s13 s15 b0_0 b0_1 b0_2 b0_3 b0_4 b0_5 b0_6 b0_7 b1_0 b1_1 b2_0 b2_1 b3_0 b3_1 b3_2 b3_3 b3_4 b3_5 b3_6 b4_0 b4_1 b5_0 b5_1 b5_2 b5_3 b5_4 b5_5 b5_6 G

def l_texture_one_0 {R : Type} (O : Ora R) (KN : Int → Int → Int → Nat → Nat → Nat → Int → Int → Nat → Int → Nat → Nat → Nat → Nat → Nat → Nat → Nat → Nat → Nat → Nat → Int → Nat → Nat → Nat → Nat → Nat → Nat → Nat → Nat → Int → GH → Option R) : OG → Nat → Int → Int → Int → Int → Int → Nat → Nat → Nat → Int → Int → Nat → Int → Nat → Nat → Nat → Nat → Nat → Nat → Nat → Nat → Nat → Nat → Int → Nat → Nat → Nat → Nat → Nat → Nat → Nat → Nat → Int → GH → Option R := fun s2a s2n s12 s13 s14 s15 b0_0 b0_1 b0_2 b0_3 b0_4 b0_5 b0_6 b0_7 b1_0 b1_1 b2_0 b2_1 b3_0 b3_1 b3_2 b3_3 b3_4 b3_5 b3_6 b4_0 b4_1 b5_0 b5_1 b5_2 b5_3 b5_4 b5_5 b5_6 G => u_texture_one_0 O KN s2a s2n s12 s13 s14 s15 b0_0 b0_1 b0_2 b0_3 b0_4 b0_5 b0_6 b0_7 b1_0 b1_1 b2_0 b2_1 b3_0 b3_1 b3_2 b3_3 b3_4 b3_5 b3_6 b4_0 b4_1 b5_0 b5_1 b5_2 b5_3 b5_4 b5_5 b5_6 G

theorem u_texture_one_0_raw {R : Type} (O : Ora R) (fuel : Nat) (s2a : OG) (s2n : Nat) (s12 s13 : Int) (s14 s15 b0_0 : Int) (b0_1 b0_2 b0_3 : Nat) (b0_4 b0_5 : Int) (b0_6 : Nat) (b0_7 : Int) (b1_0 b1_1 : Nat) (b2_0 b2_1 : Nat) (b3_0 b3_1 : Nat) (b3_2 b3_3 : Nat) (b3_4 b3_5 : Nat) (b3_6 : Int) (b4_0 b4_1 : Nat) (b5_0 b5_1 : Nat) (b5_2 b5_3 : Nat) (b5_4 b5_5 : Nat) (b5_6 : Int) (G : GH) (k : KE R) :
  loopD Try.prog O lo28 fuel (nav (Try.f28.body.getD .skip) [1, 1, 0, 1, 0, 1, 0, 1, 1, 1, 0]) 39 (mkE 132 [(2, .slice s2a s2n), (5, .loc 0 0), (10, .loc 3 0), (12, .int .i64 s12), (13, .int .i64 s13), (14, .int .i64 s14), (15, .int .i64 s15), (16, .loc 5 0)]) [[.int .i64 b0_0, .float .f64 b0_1, .float .f64 b0_2, .float .f64 b0_3, .int .i64 b0_4, .int .i64 b0_5, .float .f64 b0_6, .int .i64 b0_7], [.float .f64 b1_0, .float .f64 b1_1], [.float .f64 b2_0, .float .f64 b2_1], [.float .f64 b3_0, .float .f64 b3_1, .float .f64 b3_2, .float .f64 b3_3, .float .f64 b3_4, .float .f64 b3_5, .int .i64 b3_6], [.float .f64 b4_0, .float .f64 b4_1], [.float .f64 b5_0, .float .f64 b5_1, .float .f64 b5_2, .float .f64 b5_3, .float .f64 b5_4, .float .f64 b5_5, .int .i64 b5_6]] G k =
  u_texture_one_0 O (fun s13 s15 b0_0 b0_1 b0_2 b0_3 b0_4 b0_5 b0_6 b0_7 b1_0 b1_1 b2_0 b2_1 b3_0 b3_1 b3_2 b3_3 b3_4 b3_5 b3_6 b4_0 b4_1 b5_0 b5_1 b5_2 b5_3 b5_4 b5_5 b5_6 G => k .normal (mkE 132 [(10, .loc 3 0), (13, .int .i64 s13), (15, .int .i64 s15), (16, .loc 5 0)]) [[.int .i64 b0_0, .float .f64 b0_1, .float .f64 b0_2, .float .f64 b0_3, .int .i64 b0_4, .int .i64 b0_5, .float .f64 b0_6, .int .i64 b0_7], [.float .f64 b1_0, .float .f64 b1_1], [.float .f64 b2_0, .float .f64 b2_1], [.float .f64 b3_0, .float .f64 b3_1, .float .f64 b3_2, .float .f64 b3_3, .float .f64 b3_4, .float .f64 b3_5, .int .i64 b3_6], [.float .f64 b4_0, .float .f64 b4_1], [.float .f64 b5_0, .float .f64 b5_1, .float .f64 b5_2, .float .f64 b5_3, .float .f64 b5_4, .float .f64 b5_5, .int .i64 b5_6]] G) s2a s2n s12 s13 s14 s15 b0_0 b0_1 b0_2 b0_3 b0_4 b0_5 b0_6 b0_7 b1_0 b1_1 b2_0 b2_1 b3_0 b3_1 b3_2 b3_3 b3_4 b3_5 b3_6 b4_0 b4_1 b5_0 b5_1 b5_2 b5_3 b5_4 b5_5 b5_6 G := by kernel_rfl

theorem l_texture_one_0_eq {R : Type} (O : Ora R) (fuel : Nat) (k : KE R) : ∀ (s2a : OG) (s2n : Nat) (s12 s13 : Int) (s14 s15 b0_0 : Int) (b0_1 b0_2 b0_3 : Nat) (b0_4 b0_5 : Int) (b0_6 : Nat) (b0_7 : Int) (b1_0 b1_1 : Nat) (b2_0 b2_1 : Nat) (b3_0 b3_1 : Nat) (b3_2 b3_3 : Nat) (b3_4 b3_5 : Nat) (b3_6 : Int) (b4_0 b4_1 : Nat) (b5_0 b5_1 : Nat) (b5_2 b5_3 : Nat) (b5_4 b5_5 : Nat) (b5_6 : Int) (G : GH),
  loopD Try.prog O lo28 fuel (nav (Try.f28.body.getD .skip) [1, 1, 0, 1, 0, 1, 0, 1, 1, 1, 0]) 39 (mkE 132 [(2, .slice s2a s2n), (5, .loc 0 0), (10, .loc 3 0), (12, .int .i64 s12), (13, .int .i64 s13), (14, .int .i64 s14), (15, .int .i64 s15), (16, .loc 5 0)]) [[.int .i64 b0_0, .float .f64 b0_1, .float .f64 b0_2, .float .f64 b0_3, .int .i64 b0_4, .int .i64 b0_5, .float .f64 b0_6, .int .i64 b0_7], [.float .f64 b1_0, .float .f64 b1_1], [.float .f64 b2_0, .float .f64 b2_1], [.float .f64 b3_0, .float .f64 b3_1, .float .f64 b3_2, .float .f64 b3_3, .float .f64 b3_4, .float .f64 b3_5, .int .i64 b3_6], [.float .f64 b4_0, .float .f64 b4_1], [.float .f64 b5_0, .float .f64 b5_1, .float .f64 b5_2, .float .f64 b5_3, .float .f64 b5_4, .float .f64 b5_5, .int .i64 b5_6]] G k = l_texture_one_0 O (fun s13 s15 b0_0 b0_1 b0_2 b0_3 b0_4 b0_5 b0_6 b0_7 b1_0 b1_1 b2_0 b2_1 b3_0 b3_1 b3_2 b3_3 b3_4 b3_5 b3_6 b4_0 b4_1 b5_0 b5_1 b5_2 b5_3 b5_4 b5_5 b5_6 G => k .normal (mkE 132 [(10, .loc 3 0), (13, .int .i64 s13), (15, .int .i64 s15), (16, .loc 5 0)]) [[.int .i64 b0_0, .float .f64 b0_1, .float .f64 b0_2, .float .f64 b0_3, .int .i64 b0_4, .int .i64 b0_5, .float .f64 b0_6, .int .i64 b0_7], [.float .f64 b1_0, .float .f64 b1_1], [.float .f64 b2_0, .float .f64 b2_1], [.float .f64 b3_0, .float .f64 b3_1, .float .f64 b3_2, .float .f64 b3_3, .float .f64 b3_4, .float .f64 b3_5, .int .i64 b3_6], [.float .f64 b4_0, .float .f64 b4_1], [.float .f64 b5_0, .float .f64 b5_1, .float .f64 b5_2, .float .f64 b5_3, .float .f64 b5_4, .float .f64 b5_5, .int .i64 b5_6]] G) s2a s2n s12 s13 s14 s15 b0_0 b0_1 b0_2 b0_3 b0_4 b0_5 b0_6 b0_7 b1_0 b1_1 b2_0 b2_1 b3_0 b3_1 b3_2 b3_3 b3_4 b3_5 b3_6 b4_0 b4_1 b5_0 b5_1 b5_2 b5_3 b5_4 b5_5 b5_6 G := by
  intros
  rw [u_texture_one_0_raw]
  simp only [l_texture_one_0]

def u_texture_one {R : Type} (O : Ora R) (k : KV R) (L0 : OG → Nat → Int → Int → Int → Int → Int → Nat → Nat → Nat → Int → Int → Nat → Int → Nat → Nat → Nat → Nat → Nat → Nat → Nat → Nat → Nat → Nat → Int → Nat → Nat → Nat → Nat → Nat → Nat → Nat → Nat → Int → GH → Option R) (p0_0 : Int) (p0_1 p0_2 p0_3 : Nat) (p0_4 p0_5 : Int) (p0_6 : Nat) (p0_7 : Int) (p1a : OG) (p1n : Nat) (p2a : OG) (p2n p3_0 : Nat) (p3_1 p4_0 p4_1 : Nat) (G : GH) : Option R :=
  O fn_span_Of [.float .f64 p0_6] G fun v1 G2 =>
  (ivAgg 2 v1).bind fun c3 =>
  (ivFloat .f64 (c3.getD 0 undefI)).bind fun x4 =>
  (ivFloat .f64 (c3.getD 1 undefI)).bind fun x5 =>
  bif (p0_0 == (2 : Int)) then
  O fn_span_Mul [.agg [.float .f64 p3_0, .float .f64 p3_1], .agg [.float .f64 x4, .float .f64 x5]] G2 fun v6 G7 =>
  (ivAgg 2 v6).bind fun c8 =>
  (ivFloat .f64 (c8.getD 0 undefI)).bind fun x9 =>
  (ivFloat .f64 (c8.getD 1 undefI)).bind fun x10 =>
  O fn_span_Floor [.agg [.float .f64 x9, .float .f64 x10]] G7 fun v11 G12 =>
  (ivTup 2 v11).bind fun c13 =>
  (ivInt .i64 (c13.getD 0 undefI)).bind fun x14 =>
  (ivInt .i64 (c13.getD 1 undefI)).bind fun x15 =>
  O fn_span_Mul [.agg [.float .f64 p4_0, .float .f64 p4_1], .agg [.float .f64 x4, .float .f64 x5]] G12 fun v16 G17 =>
  (ivAgg 2 v16).bind fun c18 =>
  (ivFloat .f64 (c18.getD 0 undefI)).bind fun x19 =>
  (ivFloat .f64 (c18.getD 1 undefI)).bind fun x20 =>
  O fn_span_Floor [.agg [.float .f64 x19, .float .f64 x20]] G17 fun v21 G22 =>
  (ivTup 2 v21).bind fun c23 =>
  (ivInt .i64 (c23.getD 0 undefI)).bind fun x24 =>
  (ivInt .i64 (c23.getD 1 undefI)).bind fun x25 =>
  (idx? p2a p2n p0_4 7).bind fun a26 =>
  (ldFloat G22 .f64 (GA.add a26 0)).bind fun x27 =>
  (ldFloat G22 .f64 (GA.add a26 1)).bind fun x28 =>
  (ldFloat G22 .f64 (GA.add a26 2)).bind fun x29 =>
  (ldFloat G22 .f64 (GA.add a26 3)).bind fun x30 =>
  (ldFloat G22 .f64 (GA.add a26 4)).bind fun x31 =>
  (ldFloat G22 .f64 (GA.add a26 5)).bind fun x32 =>
  (ldInt G22 .i64 (GA.add a26 6)).bind fun x33 =>
  L0 p2a p2n x14 x15 x24 x25 p0_0 p0_1 p0_2 p0_3 p0_4 p0_5 p0_6 p0_7 p3_0 p3_1 p4_0 p4_1 (0 : Nat) (0 : Nat) (0 : Nat) (0 : Nat) (0 : Nat) (0 : Nat) (0 : Int) x4 x5 x27 x28 x29 x30 x31 x32 x33 G22
  else
  bif (p0_0 == (3 : Int)) then
  (idx? p2a p2n p0_4 7).bind fun a34 =>
  if Nat.blt (a34).b G2.length = true then
  (ldFloat G2 .f64 (GA.add a34 0)).bind fun x35 =>
  (ldFloat G2 .f64 (GA.add a34 1)).bind fun x36 =>
  (ldFloat G2 .f64 (GA.add a34 2)).bind fun x37 =>
  (ldFloat G2 .f64 (GA.add a34 3)).bind fun x38 =>
  (ldFloat G2 .f64 (GA.add a34 4)).bind fun x39 =>
  (ldFloat G2 .f64 (GA.add a34 5)).bind fun x40 =>
  (ldInt G2 .i64 (GA.add a34 6)).bind fun x41 =>
  (idx? p2a p2n p0_5 7).bind fun a42 =>
  if Nat.blt (a42).b G2.length = true then
  (ldFloat G2 .f64 (GA.add a42 0)).bind fun x43 =>
  (ldFloat G2 .f64 (GA.add a42 1)).bind fun x44 =>
  (ldFloat G2 .f64 (GA.add a42 2)).bind fun x45 =>
  (ldFloat G2 .f64 (GA.add a42 3)).bind fun x46 =>
  (ldFloat G2 .f64 (GA.add a42 4)).bind fun x47 =>
  (ldFloat G2 .f64 (GA.add a42 5)).bind fun x48 =>
  (ldInt G2 .i64 (GA.add a42 6)).bind fun x49 =>
  O fn_span_Of [.float .f64 (4607182418800017408 : Nat)] G2 fun v50 G51 =>
  (ivAgg 2 v50).bind fun c52 =>
  (ivFloat .f64 (c52.getD 0 undefI)).bind fun x53 =>
  (ivFloat .f64 (c52.getD 1 undefI)).bind fun x54 =>
  O fn_span_Sub [.agg [.float .f64 x53, .float .f64 x54], .agg [.float .f64 x4, .float .f64 x5]] G51 fun v55 G56 =>
  (ivAgg 2 v55).bind fun c57 =>
  (ivFloat .f64 (c57.getD 0 undefI)).bind fun x58 =>
  (ivFloat .f64 (c57.getD 1 undefI)).bind fun x59 =>
  O fn_vec_Scale [.agg [.float .f64 x35, .float .f64 x36, .float .f64 x37, .float .f64 x38, .float .f64 x39, .float .f64 x40], .agg [.float .f64 x58, .float .f64 x59]] (gfreeze G56) fun v60 _ =>
  (ivAgg 6 v60).bind fun c61 =>
  (ivFloat .f64 (c61.getD 0 undefI)).bind fun x62 =>
  (ivFloat .f64 (c61.getD 1 undefI)).bind fun x63 =>
  (ivFloat .f64 (c61.getD 2 undefI)).bind fun x64 =>
  (ivFloat .f64 (c61.getD 3 undefI)).bind fun x65 =>
  (ivFloat .f64 (c61.getD 4 undefI)).bind fun x66 =>
  (ivFloat .f64 (c61.getD 5 undefI)).bind fun x67 =>
  O fn_vec_Scale [.agg [.float .f64 x43, .float .f64 x44, .float .f64 x45, .float .f64 x46, .float .f64 x47, .float .f64 x48], .agg [.float .f64 x4, .float .f64 x5]] (gfreeze G56) fun v68 _ =>
  (ivAgg 6 v68).bind fun c69 =>
  (ivFloat .f64 (c69.getD 0 undefI)).bind fun x70 =>
  (ivFloat .f64 (c69.getD 1 undefI)).bind fun x71 =>
  (ivFloat .f64 (c69.getD 2 undefI)).bind fun x72 =>
  (ivFloat .f64 (c69.getD 3 undefI)).bind fun x73 =>
  (ivFloat .f64 (c69.getD 4 undefI)).bind fun x74 =>
  (ivFloat .f64 (c69.getD 5 undefI)).bind fun x75 =>
  O fn_vec_Add [.agg [.float .f64 x62, .float .f64 x63, .float .f64 x64, .float .f64 x65, .float .f64 x66, .float .f64 x67], .agg [.float .f64 x70, .float .f64 x71, .float .f64 x72, .float .f64 x73, .float .f64 x74, .float .f64 x75]] (gfreeze G56) fun v76 _ =>
  (ivAgg 6 v76).bind fun c77 =>
  (ivFloat .f64 (c77.getD 0 undefI)).bind fun x78 =>
  (ivFloat .f64 (c77.getD 1 undefI)).bind fun x79 =>
  (ivFloat .f64 (c77.getD 2 undefI)).bind fun x80 =>
  (ivFloat .f64 (c77.getD 3 undefI)).bind fun x81 =>
  (ivFloat .f64 (c77.getD 4 undefI)).bind fun x82 =>
  (ivFloat .f64 (c77.getD 5 undefI)).bind fun x83 =>
  O fn_texture_both [.int .i64 x41, .int .i64 x49] (gfreeze G56) fun v84 _ =>
  (ivInt .i64 v84).bind fun x85 =>
  k (.agg [.float .f64 x78, .float .f64 x79, .float .f64 x80, .float .f64 x81, .float .f64 x82, .float .f64 x83, .int .i64 x85]) G56
  else none
  else none
  else
  bif (p0_0 == (4 : Int)) then
  (idx? p1a p1n p0_7 3).bind fun a86 =>
  (ldInt G2 .i64 (GA.add a86 0)).bind fun x87 =>
  (ldInt G2 .i64 (GA.add a86 1)).bind fun x88 =>
  (ldSlice G2 (GA.add a86 2)).bind fun x89 =>
  O fn_span_Mul [.agg [.float .f64 p3_0, .float .f64 p3_1], .agg [.float .f64 x4, .float .f64 x5]] (gfreeze G2) fun v90 _ =>
  (ivAgg 2 v90).bind fun c91 =>
  (ivFloat .f64 (c91.getD 0 undefI)).bind fun x92 =>
  (ivFloat .f64 (c91.getD 1 undefI)).bind fun x93 =>
  O fn_span_Mul [.agg [.float .f64 p4_0, .float .f64 p4_1], .agg [.float .f64 x4, .float .f64 x5]] (gfreeze G2) fun v94 _ =>
  (ivAgg 2 v94).bind fun c95 =>
  (ivFloat .f64 (c95.getD 0 undefI)).bind fun x96 =>
  (ivFloat .f64 (c95.getD 1 undefI)).bind fun x97 =>
  O fn_texture_sample [.agg [.int .i64 x87, .int .i64 x88, .slice x89.1 x89.2], .agg [.float .f64 x92, .float .f64 x93], .agg [.float .f64 x96, .float .f64 x97]] (gfreeze G2) fun v98 _ =>
  (ivAgg 7 v98).bind fun c99 =>
  (ivFloat .f64 (c99.getD 0 undefI)).bind fun x100 =>
  (ivFloat .f64 (c99.getD 1 undefI)).bind fun x101 =>
  (ivFloat .f64 (c99.getD 2 undefI)).bind fun x102 =>
  (ivFloat .f64 (c99.getD 3 undefI)).bind fun x103 =>
  (ivFloat .f64 (c99.getD 4 undefI)).bind fun x104 =>
  (ivFloat .f64 (c99.getD 5 undefI)).bind fun x105 =>
  (ivInt .i64 (c99.getD 6 undefI)).bind fun x106 =>
  k (.agg [.float .f64 x100, .float .f64 x101, .float .f64 x102, .float .f64 x103, .float .f64 x104, .float .f64 x105, .int .i64 x106]) G2
  else
  bif (p0_0 == (5 : Int)) then
  (idx? p2a p2n p0_4 7).bind fun a107 =>
  (ldFloat G2 .f64 (GA.add (GA.add a107 0) 0)).bind fun x108 =>
  (ldFloat G2 .f64 (GA.add (GA.add a107 0) 1)).bind fun x109 =>
  (ldFloat G2 .f64 (GA.add (GA.add a107 0) 2)).bind fun x110 =>
  (ldFloat G2 .f64 (GA.add (GA.add a107 0) 3)).bind fun x111 =>
  (ldFloat G2 .f64 (GA.add (GA.add a107 0) 4)).bind fun x112 =>
  (ldFloat G2 .f64 (GA.add (GA.add a107 0) 5)).bind fun x113 =>
  O fn_vec_Of [.agg [.float .f64 p0_1, .float .f64 p0_2, .float .f64 p0_3]] (gfreeze G2) fun v114 _ =>
  (ivAgg 6 v114).bind fun c115 =>
  (ivFloat .f64 (c115.getD 0 undefI)).bind fun x116 =>
  (ivFloat .f64 (c115.getD 1 undefI)).bind fun x117 =>
  (ivFloat .f64 (c115.getD 2 undefI)).bind fun x118 =>
  (ivFloat .f64 (c115.getD 3 undefI)).bind fun x119 =>
  (ivFloat .f64 (c115.getD 4 undefI)).bind fun x120 =>
  (ivFloat .f64 (c115.getD 5 undefI)).bind fun x121 =>
  O fn_vec_Times [.agg [.float .f64 x108, .float .f64 x109, .float .f64 x110, .float .f64 x111, .float .f64 x112, .float .f64 x113], .agg [.float .f64 x116, .float .f64 x117, .float .f64 x118, .float .f64 x119, .float .f64 x120, .float .f64 x121]] (gfreeze G2) fun v122 _ =>
  (ivAgg 6 v122).bind fun c123 =>
  (ivFloat .f64 (c123.getD 0 undefI)).bind fun x124 =>
  (ivFloat .f64 (c123.getD 1 undefI)).bind fun x125 =>
  (ivFloat .f64 (c123.getD 2 undefI)).bind fun x126 =>
  (ivFloat .f64 (c123.getD 3 undefI)).bind fun x127 =>
  (ivFloat .f64 (c123.getD 4 undefI)).bind fun x128 =>
  (ivFloat .f64 (c123.getD 5 undefI)).bind fun x129 =>
  (idx? p2a p2n p0_4 7).bind fun a130 =>
  (ldInt G2 .i64 (GA.add a130 6)).bind fun x131 =>
  k (.agg [.float .f64 x124, .float .f64 x125, .float .f64 x126, .float .f64 x127, .float .f64 x128, .float .f64 x129, .int .i64 x131]) G2
  else
  O fn_vec_Of [.agg [.float .f64 p0_1, .float .f64 p0_2, .float .f64 p0_3]] G2 fun v132 G133 =>
  (ivAgg 6 v132).bind fun c134 =>
  (ivFloat .f64 (c134.getD 0 undefI)).bind fun x135 =>
  (ivFloat .f64 (c134.getD 1 undefI)).bind fun x136 =>
  (ivFloat .f64 (c134.getD 2 undefI)).bind fun x137 =>
  (ivFloat .f64 (c134.getD 3 undefI)).bind fun x138 =>
  (ivFloat .f64 (c134.getD 4 undefI)).bind fun x139 =>
  (ivFloat .f64 (c134.getD 5 undefI)).bind fun x140 =>
  k (.agg [.float .f64 x135, .float .f64 x136, .float .f64 x137, .float .f64 x138, .float .f64 x139, .float .f64 x140, .int .i64 (1 : Int)]) G133

def a_texture_one_0N {R : Type} (O : Ora R) (k : KV R) (s13 s15 b0_0 : Int) (b0_1 b0_2 b0_3 : Nat) (b0_4 b0_5 : Int) (b0_6 : Nat) (b0_7 : Int) (b1_0 b1_1 : Nat) (b2_0 b2_1 : Nat) (b3_0 b3_1 : Nat) (b3_2 b3_3 : Nat) (b3_4 b3_5 : Nat) (b3_6 : Int) (b4_0 b4_1 : Nat) (b5_0 b5_1 : Nat) (b5_2 b5_3 : Nat) (b5_4 b5_5 : Nat) (b5_6 : Int) (G : GH) : Option R :=
  O fn_texture_both [.int .i64 s13, .int .i64 s15] (gfreeze G) fun v1 _ =>
  (ivInt .i64 v1).bind fun x2 =>
  O fn_texture_both [.int .i64 x2, .int .i64 b5_6] (gfreeze G) fun v3 _ =>
  (ivInt .i64 v3).bind fun x4 =>
  k (.agg [.float .f64 b5_0, .float .f64 b5_1, .float .f64 b5_2, .float .f64 b5_3, .float .f64 b5_4, .float .f64 b5_5, .int .i64 x4]) G

def L_texture_one_0 {R : Type} (O : Ora R) (fuel : Nat) (k : KV R) : OG → Nat → Int → Int → Int → Int → Int → Nat → Nat → Nat → Int → Int → Nat → Int → Nat → Nat → Nat → Nat → Nat → Nat → Nat → Nat → Nat → Nat → Int → Nat → Nat → Nat → Nat → Nat → Nat → Nat → Nat → Int → GH → Option R := fun s2a s2n s12 s13 s14 s15 b0_0 b0_1 b0_2 b0_3 b0_4 b0_5 b0_6 b0_7 b1_0 b1_1 b2_0 b2_1 b3_0 b3_1 b3_2 b3_3 b3_4 b3_5 b3_6 b4_0 b4_1 b5_0 b5_1 b5_2 b5_3 b5_4 b5_5 b5_6 G =>
  stepN fuel (l_texture_one_0 O (a_texture_one_0N O k) s2a s2n s12 s13 s14 s15 b0_0 b0_1 b0_2 b0_3 b0_4 b0_5 b0_6 b0_7 b1_0 b1_1 b2_0 b2_1 b3_0 b3_1 b3_2 b3_3 b3_4 b3_5 b3_6 b4_0 b4_1 b5_0 b5_1 b5_2 b5_3 b5_4 b5_5 b5_6 G)

theorem a_texture_one_0N_raw {R : Type} (O : Ora R) (fuel : Nat) (s13 s15 b0_0 : Int) (b0_1 b0_2 b0_3 : Nat) (b0_4 b0_5 : Int) (b0_6 : Nat) (b0_7 : Int) (b1_0 b1_1 : Nat) (b2_0 b2_1 : Nat) (b3_0 b3_1 : Nat) (b3_2 b3_3 : Nat) (b3_4 b3_5 : Nat) (b3_6 : Int) (b4_0 b4_1 : Nat) (b5_0 b5_1 : Nat) (b5_2 b5_3 : Nat) (b5_4 b5_5 : Nat) (b5_6 : Int) (G : GH) (k : KV R) :
  contC Try.prog O lo28 fuel (Try.f28.body.getD .skip) [1, 1, 0, 1, 0, 1, 0, 1, 1, 1, 0] (fun e env F G => match e with | .exit _ => none | _ => resC Try.prog Try.f28 env F G k) .normal (mkE 132 [(10, .loc 3 0), (13, .int .i64 s13), (15, .int .i64 s15), (16, .loc 5 0)]) [[.int .i64 b0_0, .float .f64 b0_1, .float .f64 b0_2, .float .f64 b0_3, .int .i64 b0_4, .int .i64 b0_5, .float .f64 b0_6, .int .i64 b0_7], [.float .f64 b1_0, .float .f64 b1_1], [.float .f64 b2_0, .float .f64 b2_1], [.float .f64 b3_0, .float .f64 b3_1, .float .f64 b3_2, .float .f64 b3_3, .float .f64 b3_4, .float .f64 b3_5, .int .i64 b3_6], [.float .f64 b4_0, .float .f64 b4_1], [.float .f64 b5_0, .float .f64 b5_1, .float .f64 b5_2, .float .f64 b5_3, .float .f64 b5_4, .float .f64 b5_5, .int .i64 b5_6]] G =
  a_texture_one_0N O k s13 s15 b0_0 b0_1 b0_2 b0_3 b0_4 b0_5 b0_6 b0_7 b1_0 b1_1 b2_0 b2_1 b3_0 b3_1 b3_2 b3_3 b3_4 b3_5 b3_6 b4_0 b4_1 b5_0 b5_1 b5_2 b5_3 b5_4 b5_5 b5_6 G := by kernel_rfl

theorem L_texture_one_0_eq {R : Type} (O : Ora R) (fuel : Nat) (k : KV R) :
  (fun (s2a : OG) (s2n : Nat) (s12 s13 : Int) (s14 s15 b0_0 : Int) (b0_1 b0_2 b0_3 : Nat) (b0_4 b0_5 : Int) (b0_6 : Nat) (b0_7 : Int) (b1_0 b1_1 : Nat) (b2_0 b2_1 : Nat) (b3_0 b3_1 : Nat) (b3_2 b3_3 : Nat) (b3_4 b3_5 : Nat) (b3_6 : Int) (b4_0 b4_1 : Nat) (b5_0 b5_1 : Nat) (b5_2 b5_3 : Nat) (b5_4 b5_5 : Nat) (b5_6 : Int) (G : GH) => stepN fuel (loopD Try.prog O lo28 fuel (nav (Try.f28.body.getD .skip) [1, 1, 0, 1, 0, 1, 0, 1, 1, 1, 0]) 39 (mkE 132 [(2, .slice s2a s2n), (5, .loc 0 0), (10, .loc 3 0), (12, .int .i64 s12), (13, .int .i64 s13), (14, .int .i64 s14), (15, .int .i64 s15), (16, .loc 5 0)]) [[.int .i64 b0_0, .float .f64 b0_1, .float .f64 b0_2, .float .f64 b0_3, .int .i64 b0_4, .int .i64 b0_5, .float .f64 b0_6, .int .i64 b0_7], [.float .f64 b1_0, .float .f64 b1_1], [.float .f64 b2_0, .float .f64 b2_1], [.float .f64 b3_0, .float .f64 b3_1, .float .f64 b3_2, .float .f64 b3_3, .float .f64 b3_4, .float .f64 b3_5, .int .i64 b3_6], [.float .f64 b4_0, .float .f64 b4_1], [.float .f64 b5_0, .float .f64 b5_1, .float .f64 b5_2, .float .f64 b5_3, .float .f64 b5_4, .float .f64 b5_5, .int .i64 b5_6]] G (contC Try.prog O lo28 fuel (Try.f28.body.getD .skip) [1, 1, 0, 1, 0, 1, 0, 1, 1, 1, 0] (fun e env F G => match e with | .exit _ => none | _ => resC Try.prog Try.f28 env F G k)))) = L_texture_one_0 O fuel k := by
  funext s2a s2n s12 s13 s14 s15 b0_0 b0_1 b0_2 b0_3 b0_4 b0_5 b0_6 b0_7 b1_0 b1_1 b2_0 b2_1 b3_0 b3_1 b3_2 b3_3 b3_4 b3_5 b3_6 b4_0 b4_1 b5_0 b5_1 b5_2 b5_3 b5_4 b5_5 b5_6 G
  simp only [L_texture_one_0, l_texture_one_0_eq, a_texture_one_0N_raw]

theorem e_texture_one_raw {R : Type} (O : Ora R) (fuel : Nat) (p0_0 : Int) (p0_1 p0_2 p0_3 : Nat) (p0_4 p0_5 : Int) (p0_6 : Nat) (p0_7 : Int) (p1a : OG) (p1n : Nat) (p2a : OG) (p2n p3_0 : Nat) (p3_1 p4_0 p4_1 : Nat) (G : GH) (k : KV R) :
  bodyC Try.prog O lo28 fuel Try.f28 [.agg [.int .i64 p0_0, .float .f64 p0_1, .float .f64 p0_2, .float .f64 p0_3, .int .i64 p0_4, .int .i64 p0_5, .float .f64 p0_6, .int .i64 p0_7], .slice p1a p1n, .slice p2a p2n, .agg [.float .f64 p3_0, .float .f64 p3_1], .agg [.float .f64 p4_0, .float .f64 p4_1]] G k =
  u_texture_one O k (fun s2a s2n s12 s13 s14 s15 b0_0 b0_1 b0_2 b0_3 b0_4 b0_5 b0_6 b0_7 b1_0 b1_1 b2_0 b2_1 b3_0 b3_1 b3_2 b3_3 b3_4 b3_5 b3_6 b4_0 b4_1 b5_0 b5_1 b5_2 b5_3 b5_4 b5_5 b5_6 G => stepN fuel (loopD Try.prog O lo28 fuel (nav (Try.f28.body.getD .skip) [1, 1, 0, 1, 0, 1, 0, 1, 1, 1, 0]) 39 (mkE 132 [(2, .slice s2a s2n), (5, .loc 0 0), (10, .loc 3 0), (12, .int .i64 s12), (13, .int .i64 s13), (14, .int .i64 s14), (15, .int .i64 s15), (16, .loc 5 0)]) [[.int .i64 b0_0, .float .f64 b0_1, .float .f64 b0_2, .float .f64 b0_3, .int .i64 b0_4, .int .i64 b0_5, .float .f64 b0_6, .int .i64 b0_7], [.float .f64 b1_0, .float .f64 b1_1], [.float .f64 b2_0, .float .f64 b2_1], [.float .f64 b3_0, .float .f64 b3_1, .float .f64 b3_2, .float .f64 b3_3, .float .f64 b3_4, .float .f64 b3_5, .int .i64 b3_6], [.float .f64 b4_0, .float .f64 b4_1], [.float .f64 b5_0, .float .f64 b5_1, .float .f64 b5_2, .float .f64 b5_3, .float .f64 b5_4, .float .f64 b5_5, .int .i64 b5_6]] G (contC Try.prog O lo28 fuel (Try.f28.body.getD .skip) [1, 1, 0, 1, 0, 1, 0, 1, 1, 1, 0] (fun e env F G => match e with | .exit _ => none | _ => resC Try.prog Try.f28 env F G k)))) p0_0 p0_1 p0_2 p0_3 p0_4 p0_5 p0_6 p0_7 p1a p1n p2a p2n p3_0 p3_1 p4_0 p4_1 G := by kernel_rfl

theorem e_texture_one {R : Type} (O : Ora R) (fuel : Nat) (p0_0 : Int) (p0_1 p0_2 p0_3 : Nat) (p0_4 p0_5 : Int) (p0_6 : Nat) (p0_7 : Int) (p1a : OG) (p1n : Nat) (p2a : OG) (p2n p3_0 : Nat) (p3_1 p4_0 p4_1 : Nat) (G : GH) (k : KV R) :
  bodyC Try.prog O lo28 fuel Try.f28 [.agg [.int .i64 p0_0, .float .f64 p0_1, .float .f64 p0_2, .float .f64 p0_3, .int .i64 p0_4, .int .i64 p0_5, .float .f64 p0_6, .int .i64 p0_7], .slice p1a p1n, .slice p2a p2n, .agg [.float .f64 p3_0, .float .f64 p3_1], .agg [.float .f64 p4_0, .float .f64 p4_1]] G k =
  u_texture_one O k (L_texture_one_0 O fuel k) p0_0 p0_1 p0_2 p0_3 p0_4 p0_5 p0_6 p0_7 p1a p1n p2a p2n p3_0 p3_1 p4_0 p4_1 G := by
  rw [e_texture_one_raw, L_texture_one_0_eq]

theorem r_texture_one {R : Type} (fuel n : Nat) (p0_0 : Int) (p0_1 p0_2 p0_3 : Nat) (p0_4 p0_5 : Int) (p0_6 : Nat) (p0_7 : Int) (p1a : OG) (p1n : Nat) (p2a : OG) (p2n p3_0 : Nat) (p3_1 p4_0 p4_1 : Nat) (G : GH) (k : KV R) :
  runC Try.prog lo0 fuel (n + 1) 28 [.agg [.int .i64 p0_0, .float .f64 p0_1, .float .f64 p0_2, .float .f64 p0_3, .int .i64 p0_4, .int .i64 p0_5, .float .f64 p0_6, .int .i64 p0_7], .slice p1a p1n, .slice p2a p2n, .agg [.float .f64 p3_0, .float .f64 p3_1], .agg [.float .f64 p4_0, .float .f64 p4_1]] G k = bodyC Try.prog (runC Try.prog lo0 fuel n) lo28 fuel Try.f28 [.agg [.int .i64 p0_0, .float .f64 p0_1, .float .f64 p0_2, .float .f64 p0_3, .int .i64 p0_4, .int .i64 p0_5, .float .f64 p0_6, .int .i64 p0_7], .slice p1a p1n, .slice p2a p2n, .agg [.float .f64 p3_0, .float .f64 p3_1], .agg [.float .f64 p4_0, .float .f64 p4_1]] G k := run_body Try.func28 rfl rfl

/-! ### lantern/texture.Eval -/
def u_texture_Eval_0 {R : Type} (O : Ora R) (KN : OG → Nat → OG → Nat → Int → Bool → Nat → Nat → Nat → Nat → Nat → Nat → Nat → Nat → Nat → Nat → GH → Option R) (s0a : OG) (s0n : Nat) (s1a : OG) (s1n : Nat) (s2 : Int) (b0_0 b0_1 : Nat) (b1_0 b1_1 : Nat) (b2_0 b2_1 : Nat) (b2_2 b2_3 : Nat) (b2_4 b2_5 : Nat) (G : GH) : Option R :=
  bif (decide (s2 < (0 : Int))) then
  KN s0a s0n s1a s1n s2 true b0_0 b0_1 b1_0 b1_1 b2_0 b2_1 b2_2 b2_3 b2_4 b2_5 G
  else
  KN s0a s0n s1a s1n s2 (decide (s2 ≥ (s0n : Int))) b0_0 b0_1 b1_0 b1_1 b2_0 b2_1 b2_2 b2_3 b2_4 b2_5 G

def l_texture_Eval_0 {R : Type} (O : Ora R) (KN : OG → Nat → OG → Nat → Int → Bool → Nat → Nat → Nat → Nat → Nat → Nat → Nat → Nat → Nat → Nat → GH → Option R) : OG → Nat → OG → Nat → Int → Nat → Nat → Nat → Nat → Nat → Nat → Nat → Nat → Nat → Nat → GH → Option R := fun s0a s0n s1a s1n s2 b0_0 b0_1 b1_0 b1_1 b2_0 b2_1 b2_2 b2_3 b2_4 b2_5 G => u_texture_Eval_0 O KN s0a s0n s1a s1n s2 b0_0 b0_1 b1_0 b1_1 b2_0 b2_1 b2_2 b2_3 b2_4 b2_5 G

theorem u_texture_Eval_0_raw {R : Type} (O : Ora R) (fuel : Nat) (s0a : OG) (s0n : Nat) (s1a : OG) (s1n : Nat) (s2 : Int) (b0_0 b0_1 : Nat) (b1_0 b1_1 : Nat) (b2_0 b2_1 : Nat) (b2_2 b2_3 : Nat) (b2_4 b2_5 : Nat) (G : GH) (k : KE R) :
  loopD Try.prog O lo14 fuel (nav (Try.f14.body.getD .skip) [1, 0, 0]) 11 (mkE 76 [(0, .slice s0a s0n), (1, .slice s1a s1n), (2, .int .i64 s2), (8, .loc 0 0), (9, .loc 1 0), (10, .loc 2 0)]) [[.float .f64 b0_0, .float .f64 b0_1], [.float .f64 b1_0, .float .f64 b1_1], [.float .f64 b2_0, .float .f64 b2_1, .float .f64 b2_2, .float .f64 b2_3, .float .f64 b2_4, .float .f64 b2_5]] G k =
  u_texture_Eval_0 O (fun s0a s0n s1a s1n s2 s25 b0_0 b0_1 b1_0 b1_1 b2_0 b2_1 b2_2 b2_3 b2_4 b2_5 G => k .normal (mkE 76 [(0, .slice s0a s0n), (1, .slice s1a s1n), (2, .int .i64 s2), (8, .loc 0 0), (9, .loc 1 0), (10, .loc 2 0), (25, .bool s25)]) [[.float .f64 b0_0, .float .f64 b0_1], [.float .f64 b1_0, .float .f64 b1_1], [.float .f64 b2_0, .float .f64 b2_1, .float .f64 b2_2, .float .f64 b2_3, .float .f64 b2_4, .float .f64 b2_5]] G) s0a s0n s1a s1n s2 b0_0 b0_1 b1_0 b1_1 b2_0 b2_1 b2_2 b2_3 b2_4 b2_5 G := by kernel_rfl

theorem l_texture_Eval_0_eq {R : Type} (O : Ora R) (fuel : Nat) (k : KE R) : ∀ (s0a : OG) (s0n : Nat) (s1a : OG) (s1n : Nat) (s2 : Int) (b0_0 b0_1 : Nat) (b1_0 b1_1 : Nat) (b2_0 b2_1 : Nat) (b2_2 b2_3 : Nat) (b2_4 b2_5 : Nat) (G : GH),
  loopD Try.prog O lo14 fuel (nav (Try.f14.body.getD .skip) [1, 0, 0]) 11 (mkE 76 [(0, .slice s0a s0n), (1, .slice s1a s1n), (2, .int .i64 s2), (8, .loc 0 0), (9, .loc 1 0), (10, .loc 2 0)]) [[.float .f64 b0_0, .float .f64 b0_1], [.float .f64 b1_0, .float .f64 b1_1], [.float .f64 b2_0, .float .f64 b2_1, .float .f64 b2_2, .float .f64 b2_3, .float .f64 b2_4, .float .f64 b2_5]] G k = l_texture_Eval_0 O (fun s0a s0n s1a s1n s2 s25 b0_0 b0_1 b1_0 b1_1 b2_0 b2_1 b2_2 b2_3 b2_4 b2_5 G => k .normal (mkE 76 [(0, .slice s0a s0n), (1, .slice s1a s1n), (2, .int .i64 s2), (8, .loc 0 0), (9, .loc 1 0), (10, .loc 2 0), (25, .bool s25)]) [[.float .f64 b0_0, .float .f64 b0_1], [.float .f64 b1_0, .float .f64 b1_1], [.float .f64 b2_0, .float .f64 b2_1, .float .f64 b2_2, .float .f64 b2_3, .float .f64 b2_4, .float .f64 b2_5]] G) s0a s0n s1a s1n s2 b0_0 b0_1 b1_0 b1_1 b2_0 b2_1 b2_2 b2_3 b2_4 b2_5 G := by
  intros
  rw [u_texture_Eval_0_raw]
  simp only [l_texture_Eval_0]

def u_texture_Eval_1 {R : Type} (O : Ora R) (KN : OG → Nat → OG → Nat → Int → OG → Nat → OG → Nat → Int → Int → Nat → Nat → Nat → Nat → Nat → Nat → Nat → Nat → Nat → Nat → GH → Option R) (K0 : Int → OG → Nat → Nat → Nat → Nat → Nat → Nat → Nat → Nat → Nat → Nat → Nat → GH → Option R) (s0a : OG) (s0n : Nat) (s1a : OG) (s1n : Nat) (s2 : Int) (s15a : OG) (s15n : Nat) (s45a : OG) (s45n : Nat) (s46 s47 : Int) (b0_0 b0_1 : Nat) (b1_0 b1_1 : Nat) (b2_0 b2_1 : Nat) (b2_2 b2_3 : Nat) (b2_4 b2_5 : Nat) (G : GH) : Option R :=
  bif (decide (s47 < s46)) then
  (idx? s45a s45n s47 1).bind fun a1 =>
  (ldBool G a1).bind fun x2 =>
  bif x2 then
  (idx? s0a s0n s47 8).bind fun a3 =>
  (ldInt G .i64 (GA.add a3 0)).bind fun x4 =>
  (ldFloat G .f64 (GA.add a3 1)).bind fun x5 =>
  (ldFloat G .f64 (GA.add a3 2)).bind fun x6 =>
  (ldFloat G .f64 (GA.add a3 3)).bind fun x7 =>
  (ldInt G .i64 (GA.add a3 4)).bind fun x8 =>
  (ldInt G .i64 (GA.add a3 5)).bind fun x9 =>
  (ldFloat G .f64 (GA.add a3 6)).bind fun x10 =>
  (ldInt G .i64 (GA.add a3 7)).bind fun x11 =>
  O fn_texture_one [.agg [.int .i64 x4, .float .f64 x5, .float .f64 x6, .float .f64 x7, .int .i64 x8, .int .i64 x9, .float .f64 x10, .int .i64 x11], .slice s1a s1n, .slice s15a s15n, .agg [.float .f64 b0_0, .float .f64 b0_1], .agg [.float .f64 b1_0, .float .f64 b1_1]] G fun v12 G13 =>
  (ivAgg 7 v12).bind fun c14 =>
  (ivFloat .f64 (c14.getD 0 undefI)).bind fun x15 =>
  (ivFloat .f64 (c14.getD 1 undefI)).bind fun x16 =>
  (ivFloat .f64 (c14.getD 2 undefI)).bind fun x17 =>
  (ivFloat .f64 (c14.getD 3 undefI)).bind fun x18 =>
  (ivFloat .f64 (c14.getD 4 undefI)).bind fun x19 =>
  (ivFloat .f64 (c14.getD 5 undefI)).bind fun x20 =>
  (ivInt .i64 (c14.getD 6 undefI)).bind fun x21 =>
  (idx? s15a s15n s47 7).bind fun a22 =>
  (gst G13 a22 [.float .f64 x15, .float .f64 x16, .float .f64 x17, .float .f64 x18, .float .f64 x19, .float .f64 x20, .int .i64 x21]).bind fun G23 =>
  KN s0a s0n s1a s1n s2 s15a s15n s45a s45n s46 (IntKind.wrap .i64 (s47 + (1 : Int))) b0_0 b0_1 b1_0 b1_1 b2_0 b2_1 b2_2 b2_3 b2_4 b2_5 G23
  else
  KN s0a s0n s1a s1n s2 s15a s15n s45a s45n s46 (IntKind.wrap .i64 (s47 + (1 : Int))) b0_0 b0_1 b1_0 b1_1 b2_0 b2_1 b2_2 b2_3 b2_4 b2_5 G
  else
  K0 s2 s15a s15n b0_0 b0_1 b1_0 b1_1 b2_0 b2_1 b2_2 b2_3 b2_4 b2_5 G

def l_texture_Eval_1 {R : Type} (O : Ora R) (K0 : Int → OG → Nat → Nat → Nat → Nat → Nat → Nat → Nat → Nat → Nat → Nat → Nat → GH → Option R) : Nat → OG → Nat → OG → Nat → Int → OG → Nat → OG → Nat → Int → Int → Nat → Nat → Nat → Nat → Nat → Nat → Nat → Nat → Nat → Nat → GH → Option R
  | 0, _, _, _, _, _, _, _, _, _, _, _, _, _, _, _, _, _, _, _, _, _, _ => none
  | n + 1, s0a, s0n, s1a, s1n, s2, s15a, s15n, s45a, s45n, s46, s47, b0_0, b0_1, b1_0, b1_1, b2_0, b2_1, b2_2, b2_3, b2_4, b2_5, G => u_texture_Eval_1 O (l_texture_Eval_1 O K0 n) K0 s0a s0n s1a s1n s2 s15a s15n s45a s45n s46 s47 b0_0 b0_1 b1_0 b1_1 b2_0 b2_1 b2_2 b2_3 b2_4 b2_5 G

theorem u_texture_Eval_1_raw {R : Type} (O : Ora R) (fuel : Nat) (s0a : OG) (s0n : Nat) (s1a : OG) (s1n : Nat) (s2 : Int) (s15a : OG) (s15n : Nat) (s45a : OG) (s45n : Nat) (s46 s47 : Int) (b0_0 b0_1 : Nat) (b1_0 b1_1 : Nat) (b2_0 b2_1 : Nat) (b2_2 b2_3 : Nat) (b2_4 b2_5 : Nat) (G : GH) (k : KE R) :
  loopD Try.prog O lo14 fuel (nav (Try.f14.body.getD .skip) [1, 1, 1, 1, 0, 1, 0, 0]) 32 (mkE 76 [(0, .slice s0a s0n), (1, .slice s1a s1n), (2, .int .i64 s2), (8, .loc 0 0), (9, .loc 1 0), (10, .loc 2 0), (15, .slice s15a s15n), (45, .slice s45a s45n), (46, .int .i64 s46), (47, .int .i64 s47)]) [[.float .f64 b0_0, .float .f64 b0_1], [.float .f64 b1_0, .float .f64 b1_1], [.float .f64 b2_0, .float .f64 b2_1, .float .f64 b2_2, .float .f64 b2_3, .float .f64 b2_4, .float .f64 b2_5]] G k =
  u_texture_Eval_1 O (fun s0a s0n s1a s1n s2 s15a s15n s45a s45n s46 s47 b0_0 b0_1 b1_0 b1_1 b2_0 b2_1 b2_2 b2_3 b2_4 b2_5 G => k .normal (mkE 76 [(0, .slice s0a s0n), (1, .slice s1a s1n), (2, .int .i64 s2), (8, .loc 0 0), (9, .loc 1 0), (10, .loc 2 0), (15, .slice s15a s15n), (45, .slice s45a s45n), (46, .int .i64 s46), (47, .int .i64 s47)]) [[.float .f64 b0_0, .float .f64 b0_1], [.float .f64 b1_0, .float .f64 b1_1], [.float .f64 b2_0, .float .f64 b2_1, .float .f64 b2_2, .float .f64 b2_3, .float .f64 b2_4, .float .f64 b2_5]] G) (fun s2 s15a s15n b0_0 b0_1 b1_0 b1_1 b2_0 b2_1 b2_2 b2_3 b2_4 b2_5 G => k (.exit 0) (mkE 76 [(2, .int .i64 s2), (10, .loc 2 0), (15, .slice s15a s15n)]) [[.float .f64 b0_0, .float .f64 b0_1], [.float .f64 b1_0, .float .f64 b1_1], [.float .f64 b2_0, .float .f64 b2_1, .float .f64 b2_2, .float .f64 b2_3, .float .f64 b2_4, .float .f64 b2_5]] G) s0a s0n s1a s1n s2 s15a s15n s45a s45n s46 s47 b0_0 b0_1 b1_0 b1_1 b2_0 b2_1 b2_2 b2_3 b2_4 b2_5 G := by kernel_rfl

theorem l_texture_Eval_1_eq {R : Type} (O : Ora R) (fuel : Nat) (k : KE R) : ∀ (n : Nat) (s0a : OG) (s0n : Nat) (s1a : OG) (s1n : Nat) (s2 : Int) (s15a : OG) (s15n : Nat) (s45a : OG) (s45n : Nat) (s46 s47 : Int) (b0_0 b0_1 : Nat) (b1_0 b1_1 : Nat) (b2_0 b2_1 : Nat) (b2_2 b2_3 : Nat) (b2_4 b2_5 : Nat) (G : GH),
  loopN (loopD Try.prog O lo14 fuel (nav (Try.f14.body.getD .skip) [1, 1, 1, 1, 0, 1, 0, 0]) 32) n (mkE 76 [(0, .slice s0a s0n), (1, .slice s1a s1n), (2, .int .i64 s2), (8, .loc 0 0), (9, .loc 1 0), (10, .loc 2 0), (15, .slice s15a s15n), (45, .slice s45a s45n), (46, .int .i64 s46), (47, .int .i64 s47)]) [[.float .f64 b0_0, .float .f64 b0_1], [.float .f64 b1_0, .float .f64 b1_1], [.float .f64 b2_0, .float .f64 b2_1, .float .f64 b2_2, .float .f64 b2_3, .float .f64 b2_4, .float .f64 b2_5]] G k = l_texture_Eval_1 O (fun s2 s15a s15n b0_0 b0_1 b1_0 b1_1 b2_0 b2_1 b2_2 b2_3 b2_4 b2_5 G => k (.exit 0) (mkE 76 [(2, .int .i64 s2), (10, .loc 2 0), (15, .slice s15a s15n)]) [[.float .f64 b0_0, .float .f64 b0_1], [.float .f64 b1_0, .float .f64 b1_1], [.float .f64 b2_0, .float .f64 b2_1, .float .f64 b2_2, .float .f64 b2_3, .float .f64 b2_4, .float .f64 b2_5]] G) n s0a s0n s1a s1n s2 s15a s15n s45a s45n s46 s47 b0_0 b0_1 b1_0 b1_1 b2_0 b2_1 b2_2 b2_3 b2_4 b2_5 G := by
  intro n
  induction n with
  | zero => intros; first | rfl | simp only [loopN, l_texture_Eval_1]
  | succ n ih =>
    intros
    rw [loopN_succ, u_texture_Eval_1_raw]
    simp only [l_texture_Eval_1, loopK_normal, loopK_exit, loopK_ret, ih]

def u_texture_Eval {R : Type} (O : Ora R) (k : KV R) (L0 : OG → Nat → OG → Nat → Int → Nat → Nat → Nat → Nat → Nat → Nat → Nat → Nat → Nat → Nat → GH → Option R) (p0a : OG) (p0n : Nat) (p1a : OG) (p1n : Nat) (p2 : Int) (p3_0 p3_1 : Nat) (p4_0 p4_1 : Nat) (G : GH) : Option R :=
  L0 p0a p0n p1a p1n p2 p3_0 p3_1 p4_0 p4_1 (0 : Nat) (0 : Nat) (0 : Nat) (0 : Nat) (0 : Nat) (0 : Nat) G

def a_texture_Eval_0N {R : Type} (O : Ora R) (k : KV R) (L1 : OG → Nat → OG → Nat → Int → OG → Nat → OG → Nat → Int → Int → Nat → Nat → Nat → Nat → Nat → Nat → Nat → Nat → Nat → Nat → GH → Option R) (s0a : OG) (s0n : Nat) (s1a : OG) (s1n : Nat) (s2 : Int) (s25 : Bool) (b0_0 b0_1 : Nat) (b1_0 b1_1 : Nat) (b2_0 b2_1 : Nat) (b2_2 b2_3 : Nat) (b2_4 b2_5 : Nat) (G : GH) : Option R :=
  bif s25 then
  k (.tuple [.agg [.float .f64 (0 : Nat), .float .f64 (0 : Nat), .float .f64 (0 : Nat), .float .f64 (0 : Nat), .float .f64 (0 : Nat), .float .f64 (0 : Nat)], .int .i64 (0 : Int), .int .i64 (110 : Int)]) G
  else
  bif decide (0 ≤ (0 : Int) ∧ (0 : Int) ≤ (IntKind.wrap .i64 (s2 + (1 : Int))) ∧ (IntKind.wrap .i64 (s2 + (1 : Int))) ≤ (s0n : Int)) && gcut G s0a 52 then
  O fn_texture_Check [.slice (cutA s0a (Int.toNat (0 : Int) * 8)) (Int.toNat (IntKind.wrap .i64 (s2 + (1 : Int))) - Int.toNat (0 : Int)), .slice s1a s1n] G fun v1 G2 =>
  (ivTup 2 v1).bind fun c3 =>
  (ivInt .i64 (c3.getD 0 undefI)).bind fun x4 =>
  (ivInt .i64 (c3.getD 1 undefI)).bind fun x5 =>
  bif (x5 != (0 : Int)) then
  k (.tuple [.agg [.float .f64 (0 : Nat), .float .f64 (0 : Nat), .float .f64 (0 : Nat), .float .f64 (0 : Nat), .float .f64 (0 : Nat), .float .f64 (0 : Nat)], .int .i64 (0 : Int), .int .i64 x5]) G2
  else
  bif (decide (0 ≤ (IntKind.wrap .i64 (s2 + (1 : Int))) ∧ (IntKind.wrap .i64 (s2 + (1 : Int))) ≤ (IntKind.wrap .i64 (s2 + (1 : Int))) ∧ (IntKind.wrap .i64 (s2 + (1 : Int))) * 56 ≤ roomI ∧ (IntKind.wrap .i64 (s2 + (1 : Int))) ≤ roomI) && true && true) then
  O fn_texture_needed [.slice s0a s0n, .int .i64 s2] (gnew G2 (List.replicate (Int.toNat (IntKind.wrap .i64 (s2 + (1 : Int)))) [.float .f64 (0 : Nat), .float .f64 (0 : Nat), .float .f64 (0 : Nat), .float .f64 (0 : Nat), .float .f64 (0 : Nat), .float .f64 (0 : Nat), .int .i64 (0 : Int)]).flatten 70) fun v6 G7 =>
  (ivSlice v6).bind fun x8 =>
  L1 s0a s0n s1a s1n s2 (some (gaddr G2)) (Int.toNat (IntKind.wrap .i64 (s2 + (1 : Int)))) x8.1 x8.2 (x8.2 : Int) (0 : Int) b0_0 b0_1 b1_0 b1_1 b2_0 b2_1 b2_2 b2_3 b2_4 b2_5 G7
  else none
  else none

def a_texture_Eval_10 {R : Type} (O : Ora R) (k : KV R) (s2 : Int) (s15a : OG) (s15n b0_0 : Nat) (b0_1 b1_0 : Nat) (b1_1 b2_0 : Nat) (b2_1 b2_2 : Nat) (b2_3 b2_4 b2_5 : Nat) (G : GH) : Option R :=
  (idx? s15a s15n s2 7).bind fun a1 =>
  (ldFloat G .f64 (GA.add (GA.add a1 0) 0)).bind fun x2 =>
  (ldFloat G .f64 (GA.add (GA.add a1 0) 1)).bind fun x3 =>
  (ldFloat G .f64 (GA.add (GA.add a1 0) 2)).bind fun x4 =>
  (ldFloat G .f64 (GA.add (GA.add a1 0) 3)).bind fun x5 =>
  (ldFloat G .f64 (GA.add (GA.add a1 0) 4)).bind fun x6 =>
  (ldFloat G .f64 (GA.add (GA.add a1 0) 5)).bind fun x7 =>
  (idx? s15a s15n s2 7).bind fun a8 =>
  (ldInt G .i64 (GA.add a8 6)).bind fun x9 =>
  k (.tuple [.agg [.float .f64 x2, .float .f64 x3, .float .f64 x4, .float .f64 x5, .float .f64 x6, .float .f64 x7], .int .i64 x9, .int .i64 (0 : Int)]) G

def L_texture_Eval_1 {R : Type} (O : Ora R) (fuel : Nat) (k : KV R) : OG → Nat → OG → Nat → Int → OG → Nat → OG → Nat → Int → Int → Nat → Nat → Nat → Nat → Nat → Nat → Nat → Nat → Nat → Nat → GH → Option R := fun s0a s0n s1a s1n s2 s15a s15n s45a s45n s46 s47 b0_0 b0_1 b1_0 b1_1 b2_0 b2_1 b2_2 b2_3 b2_4 b2_5 G =>
  l_texture_Eval_1 O (a_texture_Eval_10 O k) fuel s0a s0n s1a s1n s2 s15a s15n s45a s45n s46 s47 b0_0 b0_1 b1_0 b1_1 b2_0 b2_1 b2_2 b2_3 b2_4 b2_5 G

theorem a_texture_Eval_10_raw {R : Type} (O : Ora R) (fuel : Nat) (s2 : Int) (s15a : OG) (s15n b0_0 : Nat) (b0_1 b1_0 : Nat) (b1_1 b2_0 : Nat) (b2_1 b2_2 : Nat) (b2_3 b2_4 b2_5 : Nat) (G : GH) (k : KV R) :
  contC Try.prog O lo14 fuel (Try.f14.body.getD .skip) [1, 1, 1, 1, 0, 1, 0] (fun e env F G => match e with | .exit _ => none | _ => resC Try.prog Try.f14 env F G k) (.exit 0) (mkE 76 [(2, .int .i64 s2), (10, .loc 2 0), (15, .slice s15a s15n)]) [[.float .f64 b0_0, .float .f64 b0_1], [.float .f64 b1_0, .float .f64 b1_1], [.float .f64 b2_0, .float .f64 b2_1, .float .f64 b2_2, .float .f64 b2_3, .float .f64 b2_4, .float .f64 b2_5]] G =
  a_texture_Eval_10 O k s2 s15a s15n b0_0 b0_1 b1_0 b1_1 b2_0 b2_1 b2_2 b2_3 b2_4 b2_5 G := by kernel_rfl

theorem L_texture_Eval_1_eq {R : Type} (O : Ora R) (fuel : Nat) (k : KV R) :
  (fun (s0a : OG) (s0n : Nat) (s1a : OG) (s1n : Nat) (s2 : Int) (s15a : OG) (s15n : Nat) (s45a : OG) (s45n : Nat) (s46 s47 : Int) (b0_0 b0_1 : Nat) (b1_0 b1_1 : Nat) (b2_0 b2_1 : Nat) (b2_2 b2_3 : Nat) (b2_4 b2_5 : Nat) (G : GH) => loopN (loopD Try.prog O lo14 fuel (nav (Try.f14.body.getD .skip) [1, 1, 1, 1, 0, 1, 0, 0]) 32) fuel (mkE 76 [(0, .slice s0a s0n), (1, .slice s1a s1n), (2, .int .i64 s2), (8, .loc 0 0), (9, .loc 1 0), (10, .loc 2 0), (15, .slice s15a s15n), (45, .slice s45a s45n), (46, .int .i64 s46), (47, .int .i64 s47)]) [[.float .f64 b0_0, .float .f64 b0_1], [.float .f64 b1_0, .float .f64 b1_1], [.float .f64 b2_0, .float .f64 b2_1, .float .f64 b2_2, .float .f64 b2_3, .float .f64 b2_4, .float .f64 b2_5]] G (contC Try.prog O lo14 fuel (Try.f14.body.getD .skip) [1, 1, 1, 1, 0, 1, 0] (fun e env F G => match e with | .exit _ => none | _ => resC Try.prog Try.f14 env F G k))) = L_texture_Eval_1 O fuel k := by
  funext s0a s0n s1a s1n s2 s15a s15n s45a s45n s46 s47 b0_0 b0_1 b1_0 b1_1 b2_0 b2_1 b2_2 b2_3 b2_4 b2_5 G
  simp only [L_texture_Eval_1, l_texture_Eval_1_eq, a_texture_Eval_10_raw]

def L_texture_Eval_0 {R : Type} (O : Ora R) (fuel : Nat) (k : KV R) : OG → Nat → OG → Nat → Int → Nat → Nat → Nat → Nat → Nat → Nat → Nat → Nat → Nat → Nat → GH → Option R := fun s0a s0n s1a s1n s2 b0_0 b0_1 b1_0 b1_1 b2_0 b2_1 b2_2 b2_3 b2_4 b2_5 G =>
  stepN fuel (l_texture_Eval_0 O (a_texture_Eval_0N O k (L_texture_Eval_1 O fuel k)) s0a s0n s1a s1n s2 b0_0 b0_1 b1_0 b1_1 b2_0 b2_1 b2_2 b2_3 b2_4 b2_5 G)

theorem a_texture_Eval_0N_raw {R : Type} (O : Ora R) (fuel : Nat) (s0a : OG) (s0n : Nat) (s1a : OG) (s1n : Nat) (s2 : Int) (s25 : Bool) (b0_0 b0_1 : Nat) (b1_0 b1_1 : Nat) (b2_0 b2_1 : Nat) (b2_2 b2_3 : Nat) (b2_4 b2_5 : Nat) (G : GH) (k : KV R) :
  contC Try.prog O lo14 fuel (Try.f14.body.getD .skip) [1, 0, 0] (fun e env F G => match e with | .exit _ => none | _ => resC Try.prog Try.f14 env F G k) .normal (mkE 76 [(0, .slice s0a s0n), (1, .slice s1a s1n), (2, .int .i64 s2), (8, .loc 0 0), (9, .loc 1 0), (10, .loc 2 0), (25, .bool s25)]) [[.float .f64 b0_0, .float .f64 b0_1], [.float .f64 b1_0, .float .f64 b1_1], [.float .f64 b2_0, .float .f64 b2_1, .float .f64 b2_2, .float .f64 b2_3, .float .f64 b2_4, .float .f64 b2_5]] G =
  a_texture_Eval_0N O k (fun s0a s0n s1a s1n s2 s15a s15n s45a s45n s46 s47 b0_0 b0_1 b1_0 b1_1 b2_0 b2_1 b2_2 b2_3 b2_4 b2_5 G => loopN (loopD Try.prog O lo14 fuel (nav (Try.f14.body.getD .skip) [1, 1, 1, 1, 0, 1, 0, 0]) 32) fuel (mkE 76 [(0, .slice s0a s0n), (1, .slice s1a s1n), (2, .int .i64 s2), (8, .loc 0 0), (9, .loc 1 0), (10, .loc 2 0), (15, .slice s15a s15n), (45, .slice s45a s45n), (46, .int .i64 s46), (47, .int .i64 s47)]) [[.float .f64 b0_0, .float .f64 b0_1], [.float .f64 b1_0, .float .f64 b1_1], [.float .f64 b2_0, .float .f64 b2_1, .float .f64 b2_2, .float .f64 b2_3, .float .f64 b2_4, .float .f64 b2_5]] G (contC Try.prog O lo14 fuel (Try.f14.body.getD .skip) [1, 1, 1, 1, 0, 1, 0] (fun e env F G => match e with | .exit _ => none | _ => resC Try.prog Try.f14 env F G k))) s0a s0n s1a s1n s2 s25 b0_0 b0_1 b1_0 b1_1 b2_0 b2_1 b2_2 b2_3 b2_4 b2_5 G := by kernel_rfl

theorem L_texture_Eval_0_eq {R : Type} (O : Ora R) (fuel : Nat) (k : KV R) :
  (fun (s0a : OG) (s0n : Nat) (s1a : OG) (s1n : Nat) (s2 : Int) (b0_0 b0_1 : Nat) (b1_0 b1_1 : Nat) (b2_0 b2_1 : Nat) (b2_2 b2_3 : Nat) (b2_4 b2_5 : Nat) (G : GH) => stepN fuel (loopD Try.prog O lo14 fuel (nav (Try.f14.body.getD .skip) [1, 0, 0]) 11 (mkE 76 [(0, .slice s0a s0n), (1, .slice s1a s1n), (2, .int .i64 s2), (8, .loc 0 0), (9, .loc 1 0), (10, .loc 2 0)]) [[.float .f64 b0_0, .float .f64 b0_1], [.float .f64 b1_0, .float .f64 b1_1], [.float .f64 b2_0, .float .f64 b2_1, .float .f64 b2_2, .float .f64 b2_3, .float .f64 b2_4, .float .f64 b2_5]] G (contC Try.prog O lo14 fuel (Try.f14.body.getD .skip) [1, 0, 0] (fun e env F G => match e with | .exit _ => none | _ => resC Try.prog Try.f14 env F G k)))) = L_texture_Eval_0 O fuel k := by
  funext s0a s0n s1a s1n s2 b0_0 b0_1 b1_0 b1_1 b2_0 b2_1 b2_2 b2_3 b2_4 b2_5 G
  simp only [L_texture_Eval_0, l_texture_Eval_0_eq, a_texture_Eval_0N_raw, L_texture_Eval_1_eq]

theorem e_texture_Eval_raw {R : Type} (O : Ora R) (fuel : Nat) (p0a : OG) (p0n : Nat) (p1a : OG) (p1n : Nat) (p2 : Int) (p3_0 p3_1 : Nat) (p4_0 p4_1 : Nat) (G : GH) (k : KV R) :
  bodyC Try.prog O lo14 fuel Try.f14 [.slice p0a p0n, .slice p1a p1n, .int .i64 p2, .agg [.float .f64 p3_0, .float .f64 p3_1], .agg [.float .f64 p4_0, .float .f64 p4_1]] G k =
  u_texture_Eval O k (fun s0a s0n s1a s1n s2 b0_0 b0_1 b1_0 b1_1 b2_0 b2_1 b2_2 b2_3 b2_4 b2_5 G => stepN fuel (loopD Try.prog O lo14 fuel (nav (Try.f14.body.getD .skip) [1, 0, 0]) 11 (mkE 76 [(0, .slice s0a s0n), (1, .slice s1a s1n), (2, .int .i64 s2), (8, .loc 0 0), (9, .loc 1 0), (10, .loc 2 0)]) [[.float .f64 b0_0, .float .f64 b0_1], [.float .f64 b1_0, .float .f64 b1_1], [.float .f64 b2_0, .float .f64 b2_1, .float .f64 b2_2, .float .f64 b2_3, .float .f64 b2_4, .float .f64 b2_5]] G (contC Try.prog O lo14 fuel (Try.f14.body.getD .skip) [1, 0, 0] (fun e env F G => match e with | .exit _ => none | _ => resC Try.prog Try.f14 env F G k)))) p0a p0n p1a p1n p2 p3_0 p3_1 p4_0 p4_1 G := by kernel_rfl

theorem e_texture_Eval {R : Type} (O : Ora R) (fuel : Nat) (p0a : OG) (p0n : Nat) (p1a : OG) (p1n : Nat) (p2 : Int) (p3_0 p3_1 : Nat) (p4_0 p4_1 : Nat) (G : GH) (k : KV R) :
  bodyC Try.prog O lo14 fuel Try.f14 [.slice p0a p0n, .slice p1a p1n, .int .i64 p2, .agg [.float .f64 p3_0, .float .f64 p3_1], .agg [.float .f64 p4_0, .float .f64 p4_1]] G k =
  u_texture_Eval O k (L_texture_Eval_0 O fuel k) p0a p0n p1a p1n p2 p3_0 p3_1 p4_0 p4_1 G := by
  rw [e_texture_Eval_raw, L_texture_Eval_0_eq]

theorem r_texture_Eval {R : Type} (fuel n : Nat) (p0a : OG) (p0n : Nat) (p1a : OG) (p1n : Nat) (p2 : Int) (p3_0 p3_1 : Nat) (p4_0 p4_1 : Nat) (G : GH) (k : KV R) :
  runC Try.prog lo0 fuel (n + 1) 14 [.slice p0a p0n, .slice p1a p1n, .int .i64 p2, .agg [.float .f64 p3_0, .float .f64 p3_1], .agg [.float .f64 p4_0, .float .f64 p4_1]] G k = bodyC Try.prog (runC Try.prog lo0 fuel n) lo14 fuel Try.f14 [.slice p0a p0n, .slice p1a p1n, .int .i64 p2, .agg [.float .f64 p3_0, .float .f64 p3_1], .agg [.float .f64 p4_0, .float .f64 p4_1]] G k := run_body Try.func14 rfl rfl

end Go.LI.Film
