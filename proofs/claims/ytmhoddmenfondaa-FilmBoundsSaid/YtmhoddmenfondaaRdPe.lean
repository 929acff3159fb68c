/- What the interpreter gives for images and films (written by rnd.py). -/
import Derived.Test.YtmhoddmenfondaaSeatA
namespace Go.LI.Film
open Go.Proofs.Ytmhoddmenfondaa Go Go.Proofs Go.LI
set_option maxRecDepth 100000
set_option linter.unusedVariables false
set_option linter.unusedSimpArgs false
/-! ### lantern/image.New[lantern/api.Pixel] -/
def u_zF_0 {R : Type} (O : Ora R) (KN : Int → Int → Bool → GH → Option R) (s0 s1 : Int) (G : GH) : Option R :=
  bif (decide (s0 < (1 : Int))) then
  KN s0 s1 true G
  else
  bif (decide (s1 < (1 : Int))) then
  KN s0 s1 true G
  else
  bif (decide (s0 > (1024 : Int))) then
  KN s0 s1 true G
  else
  bif (decide (s1 > (1024 : Int))) then
  KN s0 s1 true G
  else
  KN s0 s1 (decide ((IntKind.wrap .i64 (s0 * s1)) > (65536 : Int))) G

def l_zF_0 {R : Type} (O : Ora R) (KN : Int → Int → Bool → GH → Option R) : Int → Int → GH → Option R := fun s0 s1 G => u_zF_0 O KN s0 s1 G

theorem u_zF_0_raw {R : Type} (O : Ora R) (fuel : Nat) (s0 s1 : Int) (G : GH) (k : KE R) :
  loopD Try.prog O lo45 fuel (nav (Try.f45.body.getD .skip) [1, 0, 0]) 11 (mkE 34 [(0, .int .i64 s0), (1, .int .i64 s1)]) [] G k =
  u_zF_0 O (fun s0 s1 s25 G => k .normal (mkE 34 [(0, .int .i64 s0), (1, .int .i64 s1), (25, .bool s25)]) [] G) s0 s1 G := by kernel_rfl

theorem l_zF_0_eq {R : Type} (O : Ora R) (fuel : Nat) (k : KE R) : ∀ (s0 s1 : Int) (G : GH),
  loopD Try.prog O lo45 fuel (nav (Try.f45.body.getD .skip) [1, 0, 0]) 11 (mkE 34 [(0, .int .i64 s0), (1, .int .i64 s1)]) [] G k = l_zF_0 O (fun s0 s1 s25 G => k .normal (mkE 34 [(0, .int .i64 s0), (1, .int .i64 s1), (25, .bool s25)]) [] G) s0 s1 G := by
  intros
  rw [u_zF_0_raw]
  simp only [l_zF_0]

def u_zF {R : Type} (O : Ora R) (k : KV R) (L0 : Int → Int → GH → Option R) (p0 p1 : Int) (G : GH) : Option R :=
  L0 p0 p1 G

def a_zF_0N {R : Type} (O : Ora R) (k : KV R) (s0 s1 : Int) (s25 : Bool) (G : GH) : Option R :=
  bif s25 then
  k (.tuple [.ptr none, .int .i64 (70 : Int)]) G
  else
  bif (decide (0 ≤ (IntKind.wrap .i64 (s0 * s1)) ∧ (IntKind.wrap .i64 (s0 * s1)) ≤ (IntKind.wrap .i64 (s0 * s1)) ∧ (IntKind.wrap .i64 (s0 * s1)) * 64 ≤ roomI ∧ (IntKind.wrap .i64 (s0 * s1)) ≤ roomI) && true && true) then
  k (.tuple [.ptr (some (gaddr (gnew G (List.replicate (Int.toNat (IntKind.wrap .i64 (s0 * s1))) [.float .f64 (0 : Nat), .float .f64 (0 : Nat), .float .f64 (0 : Nat), .float .f64 (0 : Nat), .float .f64 (0 : Nat), .float .f64 (0 : Nat), .int .i64 (0 : Int), .int .i64 (0 : Int)]).flatten 54))), .int .i64 (0 : Int)]) (gnew (gnew G (List.replicate (Int.toNat (IntKind.wrap .i64 (s0 * s1))) [.float .f64 (0 : Nat), .float .f64 (0 : Nat), .float .f64 (0 : Nat), .float .f64 (0 : Nat), .float .f64 (0 : Nat), .float .f64 (0 : Nat), .int .i64 (0 : Int), .int .i64 (0 : Int)]).flatten 54) [.int .i64 s0, .int .i64 s1, .slice (some (gaddr G)) (Int.toNat (IntKind.wrap .i64 (s0 * s1)))] 114)
  else none

def L_zF_0 {R : Type} (O : Ora R) (fuel : Nat) (k : KV R) : Int → Int → GH → Option R := fun s0 s1 G =>
  stepN fuel (l_zF_0 O (a_zF_0N O k) s0 s1 G)

theorem a_zF_0N_raw {R : Type} (O : Ora R) (fuel : Nat) (s0 s1 : Int) (s25 : Bool) (G : GH) (k : KV R) :
  contC Try.prog O lo45 fuel (Try.f45.body.getD .skip) [1, 0, 0] (fun e env F G => match e with | .exit _ => none | _ => resC Try.prog Try.f45 env F G k) .normal (mkE 34 [(0, .int .i64 s0), (1, .int .i64 s1), (25, .bool s25)]) [] G =
  a_zF_0N O k s0 s1 s25 G := by kernel_rfl

theorem L_zF_0_eq {R : Type} (O : Ora R) (fuel : Nat) (k : KV R) :
  (fun (s0 s1 : Int) (G : GH) => stepN fuel (loopD Try.prog O lo45 fuel (nav (Try.f45.body.getD .skip) [1, 0, 0]) 11 (mkE 34 [(0, .int .i64 s0), (1, .int .i64 s1)]) [] G (contC Try.prog O lo45 fuel (Try.f45.body.getD .skip) [1, 0, 0] (fun e env F G => match e with | .exit _ => none | _ => resC Try.prog Try.f45 env F G k)))) = L_zF_0 O fuel k := by
  funext s0 s1 G
  simp only [L_zF_0, l_zF_0_eq, a_zF_0N_raw]

theorem e_zF_raw {R : Type} (O : Ora R) (fuel : Nat) (p0 p1 : Int) (G : GH) (k : KV R) :
  bodyC Try.prog O lo45 fuel Try.f45 [.int .i64 p0, .int .i64 p1] G k =
  u_zF O k (fun s0 s1 G => stepN fuel (loopD Try.prog O lo45 fuel (nav (Try.f45.body.getD .skip) [1, 0, 0]) 11 (mkE 34 [(0, .int .i64 s0), (1, .int .i64 s1)]) [] G (contC Try.prog O lo45 fuel (Try.f45.body.getD .skip) [1, 0, 0] (fun e env F G => match e with | .exit _ => none | _ => resC Try.prog Try.f45 env F G k)))) p0 p1 G := by kernel_rfl

theorem e_zF {R : Type} (O : Ora R) (fuel : Nat) (p0 p1 : Int) (G : GH) (k : KV R) :
  bodyC Try.prog O lo45 fuel Try.f45 [.int .i64 p0, .int .i64 p1] G k =
  u_zF O k (L_zF_0 O fuel k) p0 p1 G := by
  rw [e_zF_raw, L_zF_0_eq]

theorem r_zF {R : Type} (fuel n : Nat) (p0 p1 : Int) (G : GH) (k : KV R) :
  runC Try.prog lo0 fuel (n + 1) 45 [.int .i64 p0, .int .i64 p1] G k = bodyC Try.prog (runC Try.prog lo0 fuel n) lo45 fuel Try.f45 [.int .i64 p0, .int .i64 p1] G k := run_body Try.func45 rfl rfl

/-! ### (*lantern/image.Image[lantern/api.Pixel]).Size -/
theorem e_zj1 {R : Type} (O : Ora R) (fuel : Nat) (p0 : GA) (G : GH) (k : KV R) :
  bodyC Try.prog O [777777] fuel Try.f46 [.ptr (some p0)] G k =
  (ldInt G .i64 (GA.add p0 0)).bind fun x1 =>
  (ldInt G .i64 (GA.add p0 1)).bind fun x2 =>
  k (.tuple [.int .i64 x1, .int .i64 x2]) G := by kernel_rfl

theorem r_zj1 {R : Type} (fuel n : Nat) (p0 : GA) (G : GH) (k : KV R) :
  runC Try.prog lo0 fuel (n + 1) 46 [.ptr (some p0)] G k = bodyC Try.prog (runC Try.prog lo0 fuel n) [777777] fuel Try.f46 [.ptr (some p0)] G k := run_body Try.func46 rfl rfl

/-! ### (*lantern/image.Image[lantern/api.Pixel]).Inside -/
theorem e_zx1 {R : Type} (O : Ora R) (fuel : Nat) (p0 : GA) (p1 p2 : Int) (G : GH) (k : KV R) :
  bodyC Try.prog O [777777] fuel Try.f64 [.ptr (some p0), .int .i64 p1, .int .i64 p2] G k =
  bif (decide (p1 ≥ (0 : Int))) then
  (ldInt G .i64 (GA.add p0 0)).bind fun x1 =>
  bif (decide (p1 < x1)) then
  bif (decide (p2 ≥ (0 : Int))) then
  (ldInt G .i64 (GA.add p0 1)).bind fun x2 =>
  k (.bool (decide (p2 < x2))) G
  else
  k (.bool false) G
  else
  k (.bool false) G
  else
  k (.bool false) G := by kernel_rfl

theorem r_zx1 {R : Type} (fuel n : Nat) (p0 : GA) (p1 p2 : Int) (G : GH) (k : KV R) :
  runC Try.prog lo0 fuel (n + 1) 64 [.ptr (some p0), .int .i64 p1, .int .i64 p2] G k = bodyC Try.prog (runC Try.prog lo0 fuel n) [777777] fuel Try.f64 [.ptr (some p0), .int .i64 p1, .int .i64 p2] G k := run_body Try.func64 rfl rfl

/-! ### (*lantern/image.Image[lantern/api.Pixel]).At -/
theorem e_zk1 {R : Type} (O : Ora R) (fuel : Nat) (p0 : GA) (p1 p2 : Int) (G : GH) (k : KV R) :
  bodyC Try.prog O [6, 8, 777777] fuel Try.f47 [.ptr (some p0), .int .i64 p1, .int .i64 p2] G k =
  O fn_zx1 [.ptr (some p0), .int .i64 p1, .int .i64 p2] G fun v1 G2 =>
  (ivBool v1).bind fun x3 =>
  bif (!x3) then
  k (.tuple [.agg [.float .f64 (0 : Nat), .float .f64 (0 : Nat), .float .f64 (0 : Nat), .float .f64 (0 : Nat), .float .f64 (0 : Nat), .float .f64 (0 : Nat), .int .i64 (0 : Int), .int .i64 (0 : Int)], .int .i64 (2 : Int)]) G2
  else
  (ldSlice G2 (GA.add p0 2)).bind fun x4 =>
  (ldInt G2 .i64 (GA.add p0 0)).bind fun x5 =>
  (idx? x4.1 x4.2 (IntKind.wrap .i64 ((IntKind.wrap .i64 (p2 * x5)) + p1)) 8).bind fun a6 =>
  (ldFloat G2 .f64 (GA.add a6 0)).bind fun x7 =>
  (ldFloat G2 .f64 (GA.add a6 1)).bind fun x8 =>
  (ldFloat G2 .f64 (GA.add a6 2)).bind fun x9 =>
  (ldFloat G2 .f64 (GA.add a6 3)).bind fun x10 =>
  (ldFloat G2 .f64 (GA.add a6 4)).bind fun x11 =>
  (ldFloat G2 .f64 (GA.add a6 5)).bind fun x12 =>
  (ldInt G2 .i64 (GA.add a6 6)).bind fun x13 =>
  (ldInt G2 .i64 (GA.add a6 7)).bind fun x14 =>
  k (.tuple [.agg [.float .f64 x7, .float .f64 x8, .float .f64 x9, .float .f64 x10, .float .f64 x11, .float .f64 x12, .int .i64 x13, .int .i64 x14], .int .i64 (0 : Int)]) G2 := by kernel_rfl

theorem r_zk1 {R : Type} (fuel n : Nat) (p0 : GA) (p1 p2 : Int) (G : GH) (k : KV R) :
  runC Try.prog lo0 fuel (n + 1) 47 [.ptr (some p0), .int .i64 p1, .int .i64 p2] G k = bodyC Try.prog (runC Try.prog lo0 fuel n) [6, 8, 777777] fuel Try.f47 [.ptr (some p0), .int .i64 p1, .int .i64 p2] G k := run_body Try.func47 rfl rfl

/-! ### (*lantern/image.Image[lantern/api.Pixel]).Set -/
theorem e_zZ {R : Type} (O : Ora R) (fuel : Nat) (p0 : GA) (p1 p2 : Int) (p3_0 p3_1 : Nat) (p3_2 p3_3 : Nat) (p3_4 p3_5 : Nat) (p3_6 p3_7 : Int) (G : GH) (k : KV R) :
  bodyC Try.prog O [7, 777777] fuel Try.f48 [.ptr (some p0), .int .i64 p1, .int .i64 p2, .agg [.float .f64 p3_0, .float .f64 p3_1, .float .f64 p3_2, .float .f64 p3_3, .float .f64 p3_4, .float .f64 p3_5, .int .i64 p3_6, .int .i64 p3_7]] G k =
  O fn_zx1 [.ptr (some p0), .int .i64 p1, .int .i64 p2] G fun v1 G2 =>
  (ivBool v1).bind fun x3 =>
  bif (!x3) then
  k (.int .i64 (2 : Int)) G2
  else
  (ldSlice G2 (GA.add p0 2)).bind fun x4 =>
  (ldInt G2 .i64 (GA.add p0 0)).bind fun x5 =>
  (idx? x4.1 x4.2 (IntKind.wrap .i64 ((IntKind.wrap .i64 (p2 * x5)) + p1)) 8).bind fun a6 =>
  (gst G2 a6 [.float .f64 p3_0, .float .f64 p3_1, .float .f64 p3_2, .float .f64 p3_3, .float .f64 p3_4, .float .f64 p3_5, .int .i64 p3_6, .int .i64 p3_7]).bind fun G7 =>
  k (.int .i64 (0 : Int)) G7 := by kernel_rfl

theorem r_zZ {R : Type} (fuel n : Nat) (p0 : GA) (p1 p2 : Int) (p3_0 p3_1 : Nat) (p3_2 p3_3 : Nat) (p3_4 p3_5 : Nat) (p3_6 p3_7 : Int) (G : GH) (k : KV R) :
  runC Try.prog lo0 fuel (n + 1) 48 [.ptr (some p0), .int .i64 p1, .int .i64 p2, .agg [.float .f64 p3_0, .float .f64 p3_1, .float .f64 p3_2, .float .f64 p3_3, .float .f64 p3_4, .float .f64 p3_5, .int .i64 p3_6, .int .i64 p3_7]] G k = bodyC Try.prog (runC Try.prog lo0 fuel n) [7, 777777] fuel Try.f48 [.ptr (some p0), .int .i64 p1, .int .i64 p2, .agg [.float .f64 p3_0, .float .f64 p3_1, .float .f64 p3_2, .float .f64 p3_3, .float .f64 p3_4, .float .f64 p3_5, .int .i64 p3_6, .int .i64 p3_7]] G k := run_body Try.func48 rfl rfl

/-! ### lantern/film.New -/
theorem e_zN {R : Type} (O : Ora R) (fuel : Nat) (p0 p1 : Int) (G : GH) (k : KV R) :
  bodyC Try.prog O [777777] fuel Try.f21 [.int .i64 p0, .int .i64 p1] G k =
  O fn_zF [.int .i64 p0, .int .i64 p1] G fun v1 G2 =>
  (ivTup 2 v1).bind fun c3 =>
  (ivPtr (c3.getD 0 undefI)).bind fun x4 =>
  (ivInt .i64 (c3.getD 1 undefI)).bind fun x5 =>
  bif (x5 != (0 : Int)) then
  k (.tuple [.ptr none, .int .i64 x5]) G2
  else
  k (.tuple [.ptr (some (gaddr G2)), .int .i64 (0 : Int)]) (gnew G2 [.ptr x4] 100) := by kernel_rfl

theorem r_zN {R : Type} (fuel n : Nat) (p0 p1 : Int) (G : GH) (k : KV R) :
  runC Try.prog lo0 fuel (n + 1) 21 [.int .i64 p0, .int .i64 p1] G k = bodyC Try.prog (runC Try.prog lo0 fuel n) [777777] fuel Try.f21 [.int .i64 p0, .int .i64 p1] G k := run_body Try.func21 rfl rfl

/-! ### (*lantern/film.Film).Add -/
def u_zy_0 {R : Type} (O : Ora R) (KN : GA → Int → Int → Nat → Nat → Nat → Nat → Nat → Nat → Bool → OG → Nat → Nat → Nat → Nat → Nat → Nat → Nat → Int → Int → GH → Option R) (s0 : GA) (s1 s2 : Int) (b0_0 b0_1 : Nat) (b0_2 b0_3 : Nat) (b0_4 b0_5 : Nat) (b0_6 : Bool) (b0_7a : OG) (b0_7n b1_0 : Nat) (b1_1 b1_2 : Nat) (b1_3 b1_4 b1_5 : Nat) (b1_6 b1_7 : Int) (G : GH) : Option R :=
  bif (!b0_6) then
  KN s0 s1 s2 b0_0 b0_1 b0_2 b0_3 b0_4 b0_5 b0_6 b0_7a b0_7n b1_0 b1_1 b1_2 b1_3 b1_4 b1_5 b1_6 (IntKind.wrap .i64 (b1_7 + (1 : Int))) G
  else
  KN s0 s1 s2 b0_0 b0_1 b0_2 b0_3 b0_4 b0_5 b0_6 b0_7a b0_7n b1_0 b1_1 b1_2 b1_3 b1_4 b1_5 b1_6 b1_7 G

def l_zy_0 {R : Type} (O : Ora R) (KN : GA → Int → Int → Nat → Nat → Nat → Nat → Nat → Nat → Bool → OG → Nat → Nat → Nat → Nat → Nat → Nat → Nat → Int → Int → GH → Option R) : GA → Int → Int → Nat → Nat → Nat → Nat → Nat → Nat → Bool → OG → Nat → Nat → Nat → Nat → Nat → Nat → Nat → Int → Int → GH → Option R := fun s0 s1 s2 b0_0 b0_1 b0_2 b0_3 b0_4 b0_5 b0_6 b0_7a b0_7n b1_0 b1_1 b1_2 b1_3 b1_4 b1_5 b1_6 b1_7 G => u_zy_0 O KN s0 s1 s2 b0_0 b0_1 b0_2 b0_3 b0_4 b0_5 b0_6 b0_7a b0_7n b1_0 b1_1 b1_2 b1_3 b1_4 b1_5 b1_6 b1_7 G

theorem u_zy_0_raw {R : Type} (O : Ora R) (fuel : Nat) (s0 : GA) (s1 s2 : Int) (b0_0 b0_1 : Nat) (b0_2 b0_3 : Nat) (b0_4 b0_5 : Nat) (b0_6 : Bool) (b0_7a : OG) (b0_7n b1_0 : Nat) (b1_1 b1_2 : Nat) (b1_3 b1_4 b1_5 : Nat) (b1_6 b1_7 : Int) (G : GH) (k : KE R) :
  loopD Try.prog O lo25 fuel (nav (Try.f25.body.getD .skip) [1, 1, 1, 1, 1, 0]) 39 (mkE 51 [(0, .ptr (some s0)), (1, .int .i64 s1), (2, .int .i64 s2), (7, .loc 0 0), (9, .loc 1 0)]) [[.float .f64 b0_0, .float .f64 b0_1, .float .f64 b0_2, .float .f64 b0_3, .float .f64 b0_4, .float .f64 b0_5, .bool b0_6, .slice b0_7a b0_7n], [.float .f64 b1_0, .float .f64 b1_1, .float .f64 b1_2, .float .f64 b1_3, .float .f64 b1_4, .float .f64 b1_5, .int .i64 b1_6, .int .i64 b1_7]] G k =
  u_zy_0 O (fun s0 s1 s2 b0_0 b0_1 b0_2 b0_3 b0_4 b0_5 b0_6 b0_7a b0_7n b1_0 b1_1 b1_2 b1_3 b1_4 b1_5 b1_6 b1_7 G => k .normal (mkE 51 [(0, .ptr (some s0)), (1, .int .i64 s1), (2, .int .i64 s2), (9, .loc 1 0)]) [[.float .f64 b0_0, .float .f64 b0_1, .float .f64 b0_2, .float .f64 b0_3, .float .f64 b0_4, .float .f64 b0_5, .bool b0_6, .slice b0_7a b0_7n], [.float .f64 b1_0, .float .f64 b1_1, .float .f64 b1_2, .float .f64 b1_3, .float .f64 b1_4, .float .f64 b1_5, .int .i64 b1_6, .int .i64 b1_7]] G) s0 s1 s2 b0_0 b0_1 b0_2 b0_3 b0_4 b0_5 b0_6 b0_7a b0_7n b1_0 b1_1 b1_2 b1_3 b1_4 b1_5 b1_6 b1_7 G := by kernel_rfl

theorem l_zy_0_eq {R : Type} (O : Ora R) (fuel : Nat) (k : KE R) : ∀ (s0 : GA) (s1 s2 : Int) (b0_0 b0_1 : Nat) (b0_2 b0_3 : Nat) (b0_4 b0_5 : Nat) (b0_6 : Bool) (b0_7a : OG) (b0_7n b1_0 : Nat) (b1_1 b1_2 : Nat) (b1_3 b1_4 b1_5 : Nat) (b1_6 b1_7 : Int) (G : GH),
  loopD Try.prog O lo25 fuel (nav (Try.f25.body.getD .skip) [1, 1, 1, 1, 1, 0]) 39 (mkE 51 [(0, .ptr (some s0)), (1, .int .i64 s1), (2, .int .i64 s2), (7, .loc 0 0), (9, .loc 1 0)]) [[.float .f64 b0_0, .float .f64 b0_1, .float .f64 b0_2, .float .f64 b0_3, .float .f64 b0_4, .float .f64 b0_5, .bool b0_6, .slice b0_7a b0_7n], [.float .f64 b1_0, .float .f64 b1_1, .float .f64 b1_2, .float .f64 b1_3, .float .f64 b1_4, .float .f64 b1_5, .int .i64 b1_6, .int .i64 b1_7]] G k = l_zy_0 O (fun s0 s1 s2 b0_0 b0_1 b0_2 b0_3 b0_4 b0_5 b0_6 b0_7a b0_7n b1_0 b1_1 b1_2 b1_3 b1_4 b1_5 b1_6 b1_7 G => k .normal (mkE 51 [(0, .ptr (some s0)), (1, .int .i64 s1), (2, .int .i64 s2), (9, .loc 1 0)]) [[.float .f64 b0_0, .float .f64 b0_1, .float .f64 b0_2, .float .f64 b0_3, .float .f64 b0_4, .float .f64 b0_5, .bool b0_6, .slice b0_7a b0_7n], [.float .f64 b1_0, .float .f64 b1_1, .float .f64 b1_2, .float .f64 b1_3, .float .f64 b1_4, .float .f64 b1_5, .int .i64 b1_6, .int .i64 b1_7]] G) s0 s1 s2 b0_0 b0_1 b0_2 b0_3 b0_4 b0_5 b0_6 b0_7a b0_7n b1_0 b1_1 b1_2 b1_3 b1_4 b1_5 b1_6 b1_7 G := by
  intros
  rw [u_zy_0_raw]
  simp only [l_zy_0]

def u_zy {R : Type} (O : Ora R) (k : KV R) (L0 : GA → Int → Int → Nat → Nat → Nat → Nat → Nat → Nat → Bool → OG → Nat → Nat → Nat → Nat → Nat → Nat → Nat → Int → Int → GH → Option R) (p0 : GA) (p1 p2 : Int) (p3_0 p3_1 : Nat) (p3_2 p3_3 : Nat) (p3_4 p3_5 : Nat) (p3_6 : Bool) (p3_7a : OG) (p3_7n : Nat) (G : GH) : Option R :=
  (ldPtr G (GA.add p0 0)).bind fun x1 =>
  O fn_zk1 [.ptr x1, .int .i64 p1, .int .i64 p2] G fun v2 G3 =>
  (ivTup 2 v2).bind fun c4 =>
  (ivAgg 8 (c4.getD 0 undefI)).bind fun c5 =>
  (ivFloat .f64 (c5.getD 0 undefI)).bind fun x6 =>
  (ivFloat .f64 (c5.getD 1 undefI)).bind fun x7 =>
  (ivFloat .f64 (c5.getD 2 undefI)).bind fun x8 =>
  (ivFloat .f64 (c5.getD 3 undefI)).bind fun x9 =>
  (ivFloat .f64 (c5.getD 4 undefI)).bind fun x10 =>
  (ivFloat .f64 (c5.getD 5 undefI)).bind fun x11 =>
  (ivInt .i64 (c5.getD 6 undefI)).bind fun x12 =>
  (ivInt .i64 (c5.getD 7 undefI)).bind fun x13 =>
  (ivInt .i64 (c4.getD 1 undefI)).bind fun x14 =>
  bif (x14 != (0 : Int)) then
  k (.int .i64 x14) G3
  else
  O fn_zF1 [.agg [.float .f64 x6, .float .f64 x7, .float .f64 x8, .float .f64 x9, .float .f64 x10, .float .f64 x11], .agg [.float .f64 p3_0, .float .f64 p3_1, .float .f64 p3_2, .float .f64 p3_3, .float .f64 p3_4, .float .f64 p3_5]] G3 fun v15 G16 =>
  (ivAgg 6 v15).bind fun c17 =>
  (ivFloat .f64 (c17.getD 0 undefI)).bind fun x18 =>
  (ivFloat .f64 (c17.getD 1 undefI)).bind fun x19 =>
  (ivFloat .f64 (c17.getD 2 undefI)).bind fun x20 =>
  (ivFloat .f64 (c17.getD 3 undefI)).bind fun x21 =>
  (ivFloat .f64 (c17.getD 4 undefI)).bind fun x22 =>
  (ivFloat .f64 (c17.getD 5 undefI)).bind fun x23 =>
  L0 p0 p1 p2 p3_0 p3_1 p3_2 p3_3 p3_4 p3_5 p3_6 p3_7a p3_7n x18 x19 x20 x21 x22 x23 (IntKind.wrap .i64 (x12 + (1 : Int))) x13 G16

def a_zy_0N {R : Type} (O : Ora R) (k : KV R) (s0 : GA) (s1 s2 : Int) (b0_0 b0_1 : Nat) (b0_2 b0_3 : Nat) (b0_4 b0_5 : Nat) (b0_6 : Bool) (b0_7a : OG) (b0_7n b1_0 : Nat) (b1_1 b1_2 : Nat) (b1_3 b1_4 b1_5 : Nat) (b1_6 b1_7 : Int) (G : GH) : Option R :=
  (ldPtr G (GA.add s0 0)).bind fun x1 =>
  O fn_zZ [.ptr x1, .int .i64 s1, .int .i64 s2, .agg [.float .f64 b1_0, .float .f64 b1_1, .float .f64 b1_2, .float .f64 b1_3, .float .f64 b1_4, .float .f64 b1_5, .int .i64 b1_6, .int .i64 b1_7]] G fun v2 G3 =>
  (ivInt .i64 v2).bind fun x4 =>
  k (.int .i64 x4) G3

def L_zy_0 {R : Type} (O : Ora R) (fuel : Nat) (k : KV R) : GA → Int → Int → Nat → Nat → Nat → Nat → Nat → Nat → Bool → OG → Nat → Nat → Nat → Nat → Nat → Nat → Nat → Int → Int → GH → Option R := fun s0 s1 s2 b0_0 b0_1 b0_2 b0_3 b0_4 b0_5 b0_6 b0_7a b0_7n b1_0 b1_1 b1_2 b1_3 b1_4 b1_5 b1_6 b1_7 G =>
  stepN fuel (l_zy_0 O (a_zy_0N O k) s0 s1 s2 b0_0 b0_1 b0_2 b0_3 b0_4 b0_5 b0_6 b0_7a b0_7n b1_0 b1_1 b1_2 b1_3 b1_4 b1_5 b1_6 b1_7 G)

theorem a_zy_0N_raw {R : Type} (O : Ora R) (fuel : Nat) (s0 : GA) (s1 s2 : Int) (b0_0 b0_1 : Nat) (b0_2 b0_3 : Nat) (b0_4 b0_5 : Nat) (b0_6 : Bool) (b0_7a : OG) (b0_7n b1_0 : Nat) (b1_1 b1_2 : Nat) (b1_3 b1_4 b1_5 : Nat) (b1_6 b1_7 : Int) (G : GH) (k : KV R) :
  contC Try.prog O lo25 fuel (Try.f25.body.getD .skip) [1, 1, 1, 1, 1, 0] (fun e env F G => match e with | .exit _ => none | _ => resC Try.prog Try.f25 env F G k) .normal (mkE 51 [(0, .ptr (some s0)), (1, .int .i64 s1), (2, .int .i64 s2), (9, .loc 1 0)]) [[.float .f64 b0_0, .float .f64 b0_1, .float .f64 b0_2, .float .f64 b0_3, .float .f64 b0_4, .float .f64 b0_5, .bool b0_6, .slice b0_7a b0_7n], [.float .f64 b1_0, .float .f64 b1_1, .float .f64 b1_2, .float .f64 b1_3, .float .f64 b1_4, .float .f64 b1_5, .int .i64 b1_6, .int .i64 b1_7]] G =
  a_zy_0N O k s0 s1 s2 b0_0 b0_1 b0_2 b0_3 b0_4 b0_5 b0_6 b0_7a b0_7n b1_0 b1_1 b1_2 b1_3 b1_4 b1_5 b1_6 b1_7 G := by kernel_rfl

theorem L_zy_0_eq {R : Type} (O : Ora R) (fuel : Nat) (k : KV R) :
  (fun (s0 : GA) (s1 s2 : Int) (b0_0 b0_1 : Nat) (b0_2 b0_3 : Nat) (b0_4 b0_5 : Nat) (b0_6 : Bool) (b0_7a : OG) (b0_7n b1_0 : Nat) (b1_1 b1_2 : Nat) (b1_3 b1_4 b1_5 : Nat) (b1_6 b1_7 : Int) (G : GH) => stepN fuel (loopD Try.prog O lo25 fuel (nav (Try.f25.body.getD .skip) [1, 1, 1, 1, 1, 0]) 39 (mkE 51 [(0, .ptr (some s0)), (1, .int .i64 s1), (2, .int .i64 s2), (7, .loc 0 0), (9, .loc 1 0)]) [[.float .f64 b0_0, .float .f64 b0_1, .float .f64 b0_2, .float .f64 b0_3, .float .f64 b0_4, .float .f64 b0_5, .bool b0_6, .slice b0_7a b0_7n], [.float .f64 b1_0, .float .f64 b1_1, .float .f64 b1_2, .float .f64 b1_3, .float .f64 b1_4, .float .f64 b1_5, .int .i64 b1_6, .int .i64 b1_7]] G (contC Try.prog O lo25 fuel (Try.f25.body.getD .skip) [1, 1, 1, 1, 1, 0] (fun e env F G => match e with | .exit _ => none | _ => resC Try.prog Try.f25 env F G k)))) = L_zy_0 O fuel k := by
  funext s0 s1 s2 b0_0 b0_1 b0_2 b0_3 b0_4 b0_5 b0_6 b0_7a b0_7n b1_0 b1_1 b1_2 b1_3 b1_4 b1_5 b1_6 b1_7 G
  simp only [L_zy_0, l_zy_0_eq, a_zy_0N_raw]

theorem e_zy_raw {R : Type} (O : Ora R) (fuel : Nat) (p0 : GA) (p1 p2 : Int) (p3_0 p3_1 : Nat) (p3_2 p3_3 : Nat) (p3_4 p3_5 : Nat) (p3_6 : Bool) (p3_7a : OG) (p3_7n : Nat) (G : GH) (k : KV R) :
  bodyC Try.prog O lo25 fuel Try.f25 [.ptr (some p0), .int .i64 p1, .int .i64 p2, .agg [.float .f64 p3_0, .float .f64 p3_1, .float .f64 p3_2, .float .f64 p3_3, .float .f64 p3_4, .float .f64 p3_5, .bool p3_6, .slice p3_7a p3_7n]] G k =
  u_zy O k (fun s0 s1 s2 b0_0 b0_1 b0_2 b0_3 b0_4 b0_5 b0_6 b0_7a b0_7n b1_0 b1_1 b1_2 b1_3 b1_4 b1_5 b1_6 b1_7 G => stepN fuel (loopD Try.prog O lo25 fuel (nav (Try.f25.body.getD .skip) [1, 1, 1, 1, 1, 0]) 39 (mkE 51 [(0, .ptr (some s0)), (1, .int .i64 s1), (2, .int .i64 s2), (7, .loc 0 0), (9, .loc 1 0)]) [[.float .f64 b0_0, .float .f64 b0_1, .float .f64 b0_2, .float .f64 b0_3, .float .f64 b0_4, .float .f64 b0_5, .bool b0_6, .slice b0_7a b0_7n], [.float .f64 b1_0, .float .f64 b1_1, .float .f64 b1_2, .float .f64 b1_3, .float .f64 b1_4, .float .f64 b1_5, .int .i64 b1_6, .int .i64 b1_7]] G (contC Try.prog O lo25 fuel (Try.f25.body.getD .skip) [1, 1, 1, 1, 1, 0] (fun e env F G => match e with | .exit _ => none | _ => resC Try.prog Try.f25 env F G k)))) p0 p1 p2 p3_0 p3_1 p3_2 p3_3 p3_4 p3_5 p3_6 p3_7a p3_7n G := by kernel_rfl

theorem e_zy {R : Type} (O : Ora R) (fuel : Nat) (p0 : GA) (p1 p2 : Int) (p3_0 p3_1 : Nat) (p3_2 p3_3 : Nat) (p3_4 p3_5 : Nat) (p3_6 : Bool) (p3_7a : OG) (p3_7n : Nat) (G : GH) (k : KV R) :
  bodyC Try.prog O lo25 fuel Try.f25 [.ptr (some p0), .int .i64 p1, .int .i64 p2, .agg [.float .f64 p3_0, .float .f64 p3_1, .float .f64 p3_2, .float .f64 p3_3, .float .f64 p3_4, .float .f64 p3_5, .bool p3_6, .slice p3_7a p3_7n]] G k =
  u_zy O k (L_zy_0 O fuel k) p0 p1 p2 p3_0 p3_1 p3_2 p3_3 p3_4 p3_5 p3_6 p3_7a p3_7n G := by
  rw [e_zy_raw, L_zy_0_eq]

theorem r_zy {R : Type} (fuel n : Nat) (p0 : GA) (p1 p2 : Int) (p3_0 p3_1 : Nat) (p3_2 p3_3 : Nat) (p3_4 p3_5 : Nat) (p3_6 : Bool) (p3_7a : OG) (p3_7n : Nat) (G : GH) (k : KV R) :
  runC Try.prog lo0 fuel (n + 1) 25 [.ptr (some p0), .int .i64 p1, .int .i64 p2, .agg [.float .f64 p3_0, .float .f64 p3_1, .float .f64 p3_2, .float .f64 p3_3, .float .f64 p3_4, .float .f64 p3_5, .bool p3_6, .slice p3_7a p3_7n]] G k = bodyC Try.prog (runC Try.prog lo0 fuel n) lo25 fuel Try.f25 [.ptr (some p0), .int .i64 p1, .int .i64 p2, .agg [.float .f64 p3_0, .float .f64 p3_1, .float .f64 p3_2, .float .f64 p3_3, .float .f64 p3_4, .float .f64 p3_5, .bool p3_6, .slice p3_7a p3_7n]] G k := run_body Try.func25 rfl rfl

/-! ### (*lantern/film.Film).Pixel -/
theorem e_zW {R : Type} (O : Ora R) (fuel : Nat) (p0 : GA) (p1 p2 : Int) (G : GH) (k : KV R) :
  bodyC Try.prog O [6, 777777] fuel Try.f23 [.ptr (some p0), .int .i64 p1, .int .i64 p2] G k =
  (ldPtr G (GA.add p0 0)).bind fun x1 =>
  O fn_zk1 [.ptr x1, .int .i64 p1, .int .i64 p2] G fun v2 G3 =>
  (ivTup 2 v2).bind fun c4 =>
  (ivAgg 8 (c4.getD 0 undefI)).bind fun c5 =>
  (ivFloat .f64 (c5.getD 0 undefI)).bind fun x6 =>
  (ivFloat .f64 (c5.getD 1 undefI)).bind fun x7 =>
  (ivFloat .f64 (c5.getD 2 undefI)).bind fun x8 =>
  (ivFloat .f64 (c5.getD 3 undefI)).bind fun x9 =>
  (ivFloat .f64 (c5.getD 4 undefI)).bind fun x10 =>
  (ivFloat .f64 (c5.getD 5 undefI)).bind fun x11 =>
  (ivInt .i64 (c5.getD 6 undefI)).bind fun x12 =>
  (ivInt .i64 (c5.getD 7 undefI)).bind fun x13 =>
  (ivInt .i64 (c4.getD 1 undefI)).bind fun x14 =>
  k (.tuple [.agg [.float .f64 x6, .float .f64 x7, .float .f64 x8, .float .f64 x9, .float .f64 x10, .float .f64 x11, .int .i64 x12, .int .i64 x13], .int .i64 x14]) G3 := by kernel_rfl

theorem r_zW {R : Type} (fuel n : Nat) (p0 : GA) (p1 p2 : Int) (G : GH) (k : KV R) :
  runC Try.prog lo0 fuel (n + 1) 23 [.ptr (some p0), .int .i64 p1, .int .i64 p2] G k = bodyC Try.prog (runC Try.prog lo0 fuel n) [6, 777777] fuel Try.f23 [.ptr (some p0), .int .i64 p1, .int .i64 p2] G k := run_body Try.func23 rfl rfl

end Go.LI.Film
