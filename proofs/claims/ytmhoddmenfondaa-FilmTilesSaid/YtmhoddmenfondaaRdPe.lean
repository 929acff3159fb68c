/- What the interpreter gives for images and films (written by rnd.py). -/
import Derived.Test.YtmhoddmenfondaaSeatA
namespace Go.LI.Film
open Go.Proofs.Ytmhoddmenfondaa Go Go.Proofs Go.LI
set_option maxRecDepth 100000
set_option linter.unusedVariables false
set_option linter.unusedSimpArgs false
/-! ### lantern/image.New[lantern/api.Pixel] -/
def u_image_New_api_Pixel_0 {R : Type} (O : Ora R) (KN : Int → Int → Bool → GH → Option R) (s0 : Int) (s1 : Int) (G : GH) : Option R :=
  bif (decide (s0 < (1 : Int))) then
  KN s0 s1 true G
  else
  bif (decide (s1 < (1 : Int))) then
  KN s0 s1 true G
  else
  bif (decide (s0 > (1024 : Int))) then
  KN s0 s1 true G
  else
  bif (decide (s1 > (1024 : Int))) then
  KN s0 s1 true G
  else
  KN s0 s1 (decide ((IntKind.wrap .i64 (s0 * s1)) > (65536 : Int))) G

def l_image_New_api_Pixel_0 {R : Type} (O : Ora R) (KN : Int → Int → Bool → GH → Option R) : Int → Int → GH → Option R := fun (s0 : Int) (s1 : Int) G => u_image_New_api_Pixel_0 O KN s0 s1 G

theorem u_image_New_api_Pixel_0_raw {R : Type} (O : Ora R) (fuel : Nat) (s0 : Int) (s1 : Int) (G : GH) (k : Ex → List IV → List (List IV) → GH → Option R) :
  loopD Try.prog O lo45 fuel (nav (Try.f45.body.getD .skip) [1, 0, 0]) 11 (mkE 34 [(0, .int .i64 s0), (1, .int .i64 s1)]) [] G k =
  u_image_New_api_Pixel_0 O (fun (s0 : Int) (s1 : Int) (s25 : Bool) (G : GH) => k .normal (mkE 34 [(0, .int .i64 s0), (1, .int .i64 s1), (25, .bool s25)]) [] G) s0 s1 G := by kernel_rfl

theorem l_image_New_api_Pixel_0_eq {R : Type} (O : Ora R) (fuel : Nat) (k : Ex → List IV → List (List IV) → GH → Option R) : ∀ (s0 : Int) (s1 : Int) (G : GH),
  loopD Try.prog O lo45 fuel (nav (Try.f45.body.getD .skip) [1, 0, 0]) 11 (mkE 34 [(0, .int .i64 s0), (1, .int .i64 s1)]) [] G k = l_image_New_api_Pixel_0 O (fun (s0 : Int) (s1 : Int) (s25 : Bool) (G : GH) => k .normal (mkE 34 [(0, .int .i64 s0), (1, .int .i64 s1), (25, .bool s25)]) [] G) s0 s1 G := by
  intros
  rw [u_image_New_api_Pixel_0_raw]
  simp only [l_image_New_api_Pixel_0]

def u_image_New_api_Pixel {R : Type} (O : Ora R) (k : IV → GH → Option R) (L0 : Int → Int → GH → Option R) (p0 : Int) (p1 : Int) (G : GH) : Option R :=
  L0 p0 p1 G

def a_image_New_api_Pixel_0N {R : Type} (O : Ora R) (k : IV → GH → Option R) (s0 : Int) (s1 : Int) (s25 : Bool) (G : GH) : Option R :=
  bif s25 then
  k (.tuple [.ptr none, .int .i64 (70 : Int)]) G
  else
  bif (decide (0 ≤ (IntKind.wrap .i64 (s0 * s1)) ∧ (IntKind.wrap .i64 (s0 * s1)) ≤ (IntKind.wrap .i64 (s0 * s1)) ∧ (IntKind.wrap .i64 (s0 * s1)) * 64 ≤ roomI ∧ (IntKind.wrap .i64 (s0 * s1)) ≤ roomI) && true && true) then
  k (.tuple [.ptr (some (gaddr (gnew G (List.replicate (Int.toNat (IntKind.wrap .i64 (s0 * s1))) [.float .f64 (0 : Nat), .float .f64 (0 : Nat), .float .f64 (0 : Nat), .float .f64 (0 : Nat), .float .f64 (0 : Nat), .float .f64 (0 : Nat), .int .i64 (0 : Int), .int .i64 (0 : Int)]).flatten 54))), .int .i64 (0 : Int)]) (gnew (gnew G (List.replicate (Int.toNat (IntKind.wrap .i64 (s0 * s1))) [.float .f64 (0 : Nat), .float .f64 (0 : Nat), .float .f64 (0 : Nat), .float .f64 (0 : Nat), .float .f64 (0 : Nat), .float .f64 (0 : Nat), .int .i64 (0 : Int), .int .i64 (0 : Int)]).flatten 54) [.int .i64 s0, .int .i64 s1, .slice (some (gaddr G)) (Int.toNat (IntKind.wrap .i64 (s0 * s1)))] 114)
  else none

def L_image_New_api_Pixel_0 {R : Type} (O : Ora R) (fuel : Nat) (k : IV → GH → Option R) : Int → Int → GH → Option R := fun (s0 : Int) (s1 : Int) G =>
  stepN fuel (l_image_New_api_Pixel_0 O (a_image_New_api_Pixel_0N O k) s0 s1 G)

theorem a_image_New_api_Pixel_0N_raw {R : Type} (O : Ora R) (fuel : Nat) (s0 : Int) (s1 : Int) (s25 : Bool) (G : GH) (k : IV → GH → Option R) :
  contC Try.prog O lo45 fuel (Try.f45.body.getD .skip) [1, 0, 0] (fun e env F G => match e with | .exit _ => none | _ => resC Try.prog Try.f45 env F G k) .normal (mkE 34 [(0, .int .i64 s0), (1, .int .i64 s1), (25, .bool s25)]) [] G =
  a_image_New_api_Pixel_0N O k s0 s1 s25 G := by kernel_rfl

theorem L_image_New_api_Pixel_0_eq {R : Type} (O : Ora R) (fuel : Nat) (k : IV → GH → Option R) :
  (fun (s0 : Int) (s1 : Int) (G : GH) => stepN fuel (loopD Try.prog O lo45 fuel (nav (Try.f45.body.getD .skip) [1, 0, 0]) 11 (mkE 34 [(0, .int .i64 s0), (1, .int .i64 s1)]) [] G (contC Try.prog O lo45 fuel (Try.f45.body.getD .skip) [1, 0, 0] (fun e env F G => match e with | .exit _ => none | _ => resC Try.prog Try.f45 env F G k)))) = L_image_New_api_Pixel_0 O fuel k := by
  funext s0 s1 G
  simp only [L_image_New_api_Pixel_0, l_image_New_api_Pixel_0_eq, a_image_New_api_Pixel_0N_raw]

theorem e_image_New_api_Pixel_raw {R : Type} (O : Ora R) (fuel : Nat) (p0 : Int) (p1 : Int) (G : GH) (k : IV → GH → Option R) :
  bodyC Try.prog O lo45 fuel Try.f45 [.int .i64 p0, .int .i64 p1] G k =
  u_image_New_api_Pixel O k (fun (s0 : Int) (s1 : Int) (G : GH) => stepN fuel (loopD Try.prog O lo45 fuel (nav (Try.f45.body.getD .skip) [1, 0, 0]) 11 (mkE 34 [(0, .int .i64 s0), (1, .int .i64 s1)]) [] G (contC Try.prog O lo45 fuel (Try.f45.body.getD .skip) [1, 0, 0] (fun e env F G => match e with | .exit _ => none | _ => resC Try.prog Try.f45 env F G k)))) p0 p1 G := by kernel_rfl

theorem e_image_New_api_Pixel {R : Type} (O : Ora R) (fuel : Nat) (p0 : Int) (p1 : Int) (G : GH) (k : IV → GH → Option R) :
  bodyC Try.prog O lo45 fuel Try.f45 [.int .i64 p0, .int .i64 p1] G k =
  u_image_New_api_Pixel O k (L_image_New_api_Pixel_0 O fuel k) p0 p1 G := by
  rw [e_image_New_api_Pixel_raw, L_image_New_api_Pixel_0_eq]

theorem r_image_New_api_Pixel {R : Type} (fuel n : Nat) (p0 : Int) (p1 : Int) (G : GH) (k : IV → GH → Option R) :
  runC Try.prog lo0 fuel (n + 1) 45 [.int .i64 p0, .int .i64 p1] G k = bodyC Try.prog (runC Try.prog lo0 fuel n) lo45 fuel Try.f45 [.int .i64 p0, .int .i64 p1] G k := run_body Try.func45 rfl rfl

/-! ### (*lantern/image.Image[lantern/api.Pixel]).Size -/
theorem e_image_Image_api_Pixel_Size {R : Type} (O : Ora R) (fuel : Nat) (p0 : GA) (G : GH) (k : IV → GH → Option R) :
  bodyC Try.prog O [777777] fuel Try.f46 [.ptr (some p0)] G k =
  (ldInt G .i64 (GA.add p0 0)).bind fun x1 =>
  (ldInt G .i64 (GA.add p0 1)).bind fun x2 =>
  k (.tuple [.int .i64 x1, .int .i64 x2]) G := by kernel_rfl

theorem r_image_Image_api_Pixel_Size {R : Type} (fuel n : Nat) (p0 : GA) (G : GH) (k : IV → GH → Option R) :
  runC Try.prog lo0 fuel (n + 1) 46 [.ptr (some p0)] G k = bodyC Try.prog (runC Try.prog lo0 fuel n) [777777] fuel Try.f46 [.ptr (some p0)] G k := run_body Try.func46 rfl rfl

/-! ### (*lantern/image.Image[lantern/api.Pixel]).Inside -/
theorem e_image_Image_api_Pixel_Inside {R : Type} (O : Ora R) (fuel : Nat) (p0 : GA) (p1 : Int) (p2 : Int) (G : GH) (k : IV → GH → Option R) :
  bodyC Try.prog O [777777] fuel Try.f64 [.ptr (some p0), .int .i64 p1, .int .i64 p2] G k =
  bif (decide (p1 ≥ (0 : Int))) then
  (ldInt G .i64 (GA.add p0 0)).bind fun x1 =>
  bif (decide (p1 < x1)) then
  bif (decide (p2 ≥ (0 : Int))) then
  (ldInt G .i64 (GA.add p0 1)).bind fun x2 =>
  k (.bool (decide (p2 < x2))) G
  else
  k (.bool false) G
  else
  k (.bool false) G
  else
  k (.bool false) G := by kernel_rfl

theorem r_image_Image_api_Pixel_Inside {R : Type} (fuel n : Nat) (p0 : GA) (p1 : Int) (p2 : Int) (G : GH) (k : IV → GH → Option R) :
  runC Try.prog lo0 fuel (n + 1) 64 [.ptr (some p0), .int .i64 p1, .int .i64 p2] G k = bodyC Try.prog (runC Try.prog lo0 fuel n) [777777] fuel Try.f64 [.ptr (some p0), .int .i64 p1, .int .i64 p2] G k := run_body Try.func64 rfl rfl

/-! ### (*lantern/image.Image[lantern/api.Pixel]).At -/
theorem e_image_Image_api_Pixel_At {R : Type} (O : Ora R) (fuel : Nat) (p0 : GA) (p1 : Int) (p2 : Int) (G : GH) (k : IV → GH → Option R) :
  bodyC Try.prog O [6, 8, 777777] fuel Try.f47 [.ptr (some p0), .int .i64 p1, .int .i64 p2] G k =
  O fn_image_Image_api_Pixel_Inside [.ptr (some p0), .int .i64 p1, .int .i64 p2] G fun v1 G2 =>
  (ivBool v1).bind fun x3 =>
  bif (!x3) then
  k (.tuple [.agg [.float .f64 (0 : Nat), .float .f64 (0 : Nat), .float .f64 (0 : Nat), .float .f64 (0 : Nat), .float .f64 (0 : Nat), .float .f64 (0 : Nat), .int .i64 (0 : Int), .int .i64 (0 : Int)], .int .i64 (2 : Int)]) G2
  else
  (ldSlice G2 (GA.add p0 2)).bind fun x4 =>
  (ldInt G2 .i64 (GA.add p0 0)).bind fun x5 =>
  (idx? x4.1 x4.2 (IntKind.wrap .i64 ((IntKind.wrap .i64 (p2 * x5)) + p1)) 8).bind fun a6 =>
  (ldFloat G2 .f64 (GA.add a6 0)).bind fun x7 =>
  (ldFloat G2 .f64 (GA.add a6 1)).bind fun x8 =>
  (ldFloat G2 .f64 (GA.add a6 2)).bind fun x9 =>
  (ldFloat G2 .f64 (GA.add a6 3)).bind fun x10 =>
  (ldFloat G2 .f64 (GA.add a6 4)).bind fun x11 =>
  (ldFloat G2 .f64 (GA.add a6 5)).bind fun x12 =>
  (ldInt G2 .i64 (GA.add a6 6)).bind fun x13 =>
  (ldInt G2 .i64 (GA.add a6 7)).bind fun x14 =>
  k (.tuple [.agg [.float .f64 x7, .float .f64 x8, .float .f64 x9, .float .f64 x10, .float .f64 x11, .float .f64 x12, .int .i64 x13, .int .i64 x14], .int .i64 (0 : Int)]) G2 := by kernel_rfl

theorem r_image_Image_api_Pixel_At {R : Type} (fuel n : Nat) (p0 : GA) (p1 : Int) (p2 : Int) (G : GH) (k : IV → GH → Option R) :
  runC Try.prog lo0 fuel (n + 1) 47 [.ptr (some p0), .int .i64 p1, .int .i64 p2] G k = bodyC Try.prog (runC Try.prog lo0 fuel n) [6, 8, 777777] fuel Try.f47 [.ptr (some p0), .int .i64 p1, .int .i64 p2] G k := run_body Try.func47 rfl rfl

/-! ### (*lantern/image.Image[lantern/api.Pixel]).Set -/
theorem e_image_Image_api_Pixel_Set {R : Type} (O : Ora R) (fuel : Nat) (p0 : GA) (p1 : Int) (p2 : Int) (p3_0 : Nat) (p3_1 : Nat) (p3_2 : Nat) (p3_3 : Nat) (p3_4 : Nat) (p3_5 : Nat) (p3_6 : Int) (p3_7 : Int) (G : GH) (k : IV → GH → Option R) :
  bodyC Try.prog O [7, 777777] fuel Try.f48 [.ptr (some p0), .int .i64 p1, .int .i64 p2, .agg [.float .f64 p3_0, .float .f64 p3_1, .float .f64 p3_2, .float .f64 p3_3, .float .f64 p3_4, .float .f64 p3_5, .int .i64 p3_6, .int .i64 p3_7]] G k =
  O fn_image_Image_api_Pixel_Inside [.ptr (some p0), .int .i64 p1, .int .i64 p2] G fun v1 G2 =>
  (ivBool v1).bind fun x3 =>
  bif (!x3) then
  k (.int .i64 (2 : Int)) G2
  else
  (ldSlice G2 (GA.add p0 2)).bind fun x4 =>
  (ldInt G2 .i64 (GA.add p0 0)).bind fun x5 =>
  (idx? x4.1 x4.2 (IntKind.wrap .i64 ((IntKind.wrap .i64 (p2 * x5)) + p1)) 8).bind fun a6 =>
  (gst G2 a6 [.float .f64 p3_0, .float .f64 p3_1, .float .f64 p3_2, .float .f64 p3_3, .float .f64 p3_4, .float .f64 p3_5, .int .i64 p3_6, .int .i64 p3_7]).bind fun G7 =>
  k (.int .i64 (0 : Int)) G7 := by kernel_rfl

theorem r_image_Image_api_Pixel_Set {R : Type} (fuel n : Nat) (p0 : GA) (p1 : Int) (p2 : Int) (p3_0 : Nat) (p3_1 : Nat) (p3_2 : Nat) (p3_3 : Nat) (p3_4 : Nat) (p3_5 : Nat) (p3_6 : Int) (p3_7 : Int) (G : GH) (k : IV → GH → Option R) :
  runC Try.prog lo0 fuel (n + 1) 48 [.ptr (some p0), .int .i64 p1, .int .i64 p2, .agg [.float .f64 p3_0, .float .f64 p3_1, .float .f64 p3_2, .float .f64 p3_3, .float .f64 p3_4, .float .f64 p3_5, .int .i64 p3_6, .int .i64 p3_7]] G k = bodyC Try.prog (runC Try.prog lo0 fuel n) [7, 777777] fuel Try.f48 [.ptr (some p0), .int .i64 p1, .int .i64 p2, .agg [.float .f64 p3_0, .float .f64 p3_1, .float .f64 p3_2, .float .f64 p3_3, .float .f64 p3_4, .float .f64 p3_5, .int .i64 p3_6, .int .i64 p3_7]] G k := run_body Try.func48 rfl rfl

/-! ### lantern/film.New -/
theorem e_film_New {R : Type} (O : Ora R) (fuel : Nat) (p0 : Int) (p1 : Int) (G : GH) (k : IV → GH → Option R) :
  bodyC Try.prog O [777777] fuel Try.f21 [.int .i64 p0, .int .i64 p1] G k =
  O fn_image_New_api_Pixel [.int .i64 p0, .int .i64 p1] G fun v1 G2 =>
  (ivTup 2 v1).bind fun c3 =>
  (ivPtr (c3.getD 0 undefI)).bind fun x4 =>
  (ivInt .i64 (c3.getD 1 undefI)).bind fun x5 =>
  bif (x5 != (0 : Int)) then
  k (.tuple [.ptr none, .int .i64 x5]) G2
  else
  k (.tuple [.ptr (some (gaddr G2)), .int .i64 (0 : Int)]) (gnew G2 [.ptr x4] 100) := by kernel_rfl

theorem r_film_New {R : Type} (fuel n : Nat) (p0 : Int) (p1 : Int) (G : GH) (k : IV → GH → Option R) :
  runC Try.prog lo0 fuel (n + 1) 21 [.int .i64 p0, .int .i64 p1] G k = bodyC Try.prog (runC Try.prog lo0 fuel n) [777777] fuel Try.f21 [.int .i64 p0, .int .i64 p1] G k := run_body Try.func21 rfl rfl

/-! ### (*lantern/film.Film).Add -/
def u_film_Film_Add_0 {R : Type} (O : Ora R) (KN : GA → Int → Int → Nat → Nat → Nat → Nat → Nat → Nat → Bool → Option GA → Nat → Nat → Nat → Nat → Nat → Nat → Nat → Int → Int → GH → Option R) (s0 : GA) (s1 : Int) (s2 : Int) (b0_0 : Nat) (b0_1 : Nat) (b0_2 : Nat) (b0_3 : Nat) (b0_4 : Nat) (b0_5 : Nat) (b0_6 : Bool) (b0_7a : Option GA) (b0_7n : Nat) (b1_0 : Nat) (b1_1 : Nat) (b1_2 : Nat) (b1_3 : Nat) (b1_4 : Nat) (b1_5 : Nat) (b1_6 : Int) (b1_7 : Int) (G : GH) : Option R :=
  bif (!b0_6) then
  KN s0 s1 s2 b0_0 b0_1 b0_2 b0_3 b0_4 b0_5 b0_6 b0_7a b0_7n b1_0 b1_1 b1_2 b1_3 b1_4 b1_5 b1_6 (IntKind.wrap .i64 (b1_7 + (1 : Int))) G
  else
  KN s0 s1 s2 b0_0 b0_1 b0_2 b0_3 b0_4 b0_5 b0_6 b0_7a b0_7n b1_0 b1_1 b1_2 b1_3 b1_4 b1_5 b1_6 b1_7 G

def l_film_Film_Add_0 {R : Type} (O : Ora R) (KN : GA → Int → Int → Nat → Nat → Nat → Nat → Nat → Nat → Bool → Option GA → Nat → Nat → Nat → Nat → Nat → Nat → Nat → Int → Int → GH → Option R) : GA → Int → Int → Nat → Nat → Nat → Nat → Nat → Nat → Bool → Option GA → Nat → Nat → Nat → Nat → Nat → Nat → Nat → Int → Int → GH → Option R := fun (s0 : GA) (s1 : Int) (s2 : Int) (b0_0 : Nat) (b0_1 : Nat) (b0_2 : Nat) (b0_3 : Nat) (b0_4 : Nat) (b0_5 : Nat) (b0_6 : Bool) (b0_7a : Option GA) (b0_7n : Nat) (b1_0 : Nat) (b1_1 : Nat) (b1_2 : Nat) (b1_3 : Nat) (b1_4 : Nat) (b1_5 : Nat) (b1_6 : Int) (b1_7 : Int) G => u_film_Film_Add_0 O KN s0 s1 s2 b0_0 b0_1 b0_2 b0_3 b0_4 b0_5 b0_6 b0_7a b0_7n b1_0 b1_1 b1_2 b1_3 b1_4 b1_5 b1_6 b1_7 G

theorem u_film_Film_Add_0_raw {R : Type} (O : Ora R) (fuel : Nat) (s0 : GA) (s1 : Int) (s2 : Int) (b0_0 : Nat) (b0_1 : Nat) (b0_2 : Nat) (b0_3 : Nat) (b0_4 : Nat) (b0_5 : Nat) (b0_6 : Bool) (b0_7a : Option GA) (b0_7n : Nat) (b1_0 : Nat) (b1_1 : Nat) (b1_2 : Nat) (b1_3 : Nat) (b1_4 : Nat) (b1_5 : Nat) (b1_6 : Int) (b1_7 : Int) (G : GH) (k : Ex → List IV → List (List IV) → GH → Option R) :
  loopD Try.prog O lo25 fuel (nav (Try.f25.body.getD .skip) [1, 1, 1, 1, 1, 0]) 39 (mkE 51 [(0, .ptr (some s0)), (1, .int .i64 s1), (2, .int .i64 s2), (7, .loc 0 0), (9, .loc 1 0)]) [[.float .f64 b0_0, .float .f64 b0_1, .float .f64 b0_2, .float .f64 b0_3, .float .f64 b0_4, .float .f64 b0_5, .bool b0_6, .slice b0_7a b0_7n], [.float .f64 b1_0, .float .f64 b1_1, .float .f64 b1_2, .float .f64 b1_3, .float .f64 b1_4, .float .f64 b1_5, .int .i64 b1_6, .int .i64 b1_7]] G k =
  u_film_Film_Add_0 O (fun (s0 : GA) (s1 : Int) (s2 : Int) (b0_0 : Nat) (b0_1 : Nat) (b0_2 : Nat) (b0_3 : Nat) (b0_4 : Nat) (b0_5 : Nat) (b0_6 : Bool) (b0_7a : Option GA) (b0_7n : Nat) (b1_0 : Nat) (b1_1 : Nat) (b1_2 : Nat) (b1_3 : Nat) (b1_4 : Nat) (b1_5 : Nat) (b1_6 : Int) (b1_7 : Int) (G : GH) => k .normal (mkE 51 [(0, .ptr (some s0)), (1, .int .i64 s1), (2, .int .i64 s2), (9, .loc 1 0)]) [[.float .f64 b0_0, .float .f64 b0_1, .float .f64 b0_2, .float .f64 b0_3, .float .f64 b0_4, .float .f64 b0_5, .bool b0_6, .slice b0_7a b0_7n], [.float .f64 b1_0, .float .f64 b1_1, .float .f64 b1_2, .float .f64 b1_3, .float .f64 b1_4, .float .f64 b1_5, .int .i64 b1_6, .int .i64 b1_7]] G) s0 s1 s2 b0_0 b0_1 b0_2 b0_3 b0_4 b0_5 b0_6 b0_7a b0_7n b1_0 b1_1 b1_2 b1_3 b1_4 b1_5 b1_6 b1_7 G := by kernel_rfl

theorem l_film_Film_Add_0_eq {R : Type} (O : Ora R) (fuel : Nat) (k : Ex → List IV → List (List IV) → GH → Option R) : ∀ (s0 : GA) (s1 : Int) (s2 : Int) (b0_0 : Nat) (b0_1 : Nat) (b0_2 : Nat) (b0_3 : Nat) (b0_4 : Nat) (b0_5 : Nat) (b0_6 : Bool) (b0_7a : Option GA) (b0_7n : Nat) (b1_0 : Nat) (b1_1 : Nat) (b1_2 : Nat) (b1_3 : Nat) (b1_4 : Nat) (b1_5 : Nat) (b1_6 : Int) (b1_7 : Int) (G : GH),
  loopD Try.prog O lo25 fuel (nav (Try.f25.body.getD .skip) [1, 1, 1, 1, 1, 0]) 39 (mkE 51 [(0, .ptr (some s0)), (1, .int .i64 s1), (2, .int .i64 s2), (7, .loc 0 0), (9, .loc 1 0)]) [[.float .f64 b0_0, .float .f64 b0_1, .float .f64 b0_2, .float .f64 b0_3, .float .f64 b0_4, .float .f64 b0_5, .bool b0_6, .slice b0_7a b0_7n], [.float .f64 b1_0, .float .f64 b1_1, .float .f64 b1_2, .float .f64 b1_3, .float .f64 b1_4, .float .f64 b1_5, .int .i64 b1_6, .int .i64 b1_7]] G k = l_film_Film_Add_0 O (fun (s0 : GA) (s1 : Int) (s2 : Int) (b0_0 : Nat) (b0_1 : Nat) (b0_2 : Nat) (b0_3 : Nat) (b0_4 : Nat) (b0_5 : Nat) (b0_6 : Bool) (b0_7a : Option GA) (b0_7n : Nat) (b1_0 : Nat) (b1_1 : Nat) (b1_2 : Nat) (b1_3 : Nat) (b1_4 : Nat) (b1_5 : Nat) (b1_6 : Int) (b1_7 : Int) (G : GH) => k .normal (mkE 51 [(0, .ptr (some s0)), (1, .int .i64 s1), (2, .int .i64 s2), (9, .loc 1 0)]) [[.float .f64 b0_0, .float .f64 b0_1, .float .f64 b0_2, .float .f64 b0_3, .float .f64 b0_4, .float .f64 b0_5, .bool b0_6, .slice b0_7a b0_7n], [.float .f64 b1_0, .float .f64 b1_1, .float .f64 b1_2, .float .f64 b1_3, .float .f64 b1_4, .float .f64 b1_5, .int .i64 b1_6, .int .i64 b1_7]] G) s0 s1 s2 b0_0 b0_1 b0_2 b0_3 b0_4 b0_5 b0_6 b0_7a b0_7n b1_0 b1_1 b1_2 b1_3 b1_4 b1_5 b1_6 b1_7 G := by
  intros
  rw [u_film_Film_Add_0_raw]
  simp only [l_film_Film_Add_0]

def u_film_Film_Add {R : Type} (O : Ora R) (k : IV → GH → Option R) (L0 : GA → Int → Int → Nat → Nat → Nat → Nat → Nat → Nat → Bool → Option GA → Nat → Nat → Nat → Nat → Nat → Nat → Nat → Int → Int → GH → Option R) (p0 : GA) (p1 : Int) (p2 : Int) (p3_0 : Nat) (p3_1 : Nat) (p3_2 : Nat) (p3_3 : Nat) (p3_4 : Nat) (p3_5 : Nat) (p3_6 : Bool) (p3_7a : Option GA) (p3_7n : Nat) (G : GH) : Option R :=
  (ldPtr G (GA.add p0 0)).bind fun x1 =>
  O fn_image_Image_api_Pixel_At [.ptr x1, .int .i64 p1, .int .i64 p2] G fun v2 G3 =>
  (ivTup 2 v2).bind fun c4 =>
  (ivAgg 8 (c4.getD 0 undefI)).bind fun c5 =>
  (ivFloat .f64 (c5.getD 0 undefI)).bind fun x6 =>
  (ivFloat .f64 (c5.getD 1 undefI)).bind fun x7 =>
  (ivFloat .f64 (c5.getD 2 undefI)).bind fun x8 =>
  (ivFloat .f64 (c5.getD 3 undefI)).bind fun x9 =>
  (ivFloat .f64 (c5.getD 4 undefI)).bind fun x10 =>
  (ivFloat .f64 (c5.getD 5 undefI)).bind fun x11 =>
  (ivInt .i64 (c5.getD 6 undefI)).bind fun x12 =>
  (ivInt .i64 (c5.getD 7 undefI)).bind fun x13 =>
  (ivInt .i64 (c4.getD 1 undefI)).bind fun x14 =>
  bif (x14 != (0 : Int)) then
  k (.int .i64 x14) G3
  else
  O fn_vec_Add [.agg [.float .f64 x6, .float .f64 x7, .float .f64 x8, .float .f64 x9, .float .f64 x10, .float .f64 x11], .agg [.float .f64 p3_0, .float .f64 p3_1, .float .f64 p3_2, .float .f64 p3_3, .float .f64 p3_4, .float .f64 p3_5]] G3 fun v15 G16 =>
  (ivAgg 6 v15).bind fun c17 =>
  (ivFloat .f64 (c17.getD 0 undefI)).bind fun x18 =>
  (ivFloat .f64 (c17.getD 1 undefI)).bind fun x19 =>
  (ivFloat .f64 (c17.getD 2 undefI)).bind fun x20 =>
  (ivFloat .f64 (c17.getD 3 undefI)).bind fun x21 =>
  (ivFloat .f64 (c17.getD 4 undefI)).bind fun x22 =>
  (ivFloat .f64 (c17.getD 5 undefI)).bind fun x23 =>
  L0 p0 p1 p2 p3_0 p3_1 p3_2 p3_3 p3_4 p3_5 p3_6 p3_7a p3_7n x18 x19 x20 x21 x22 x23 (IntKind.wrap .i64 (x12 + (1 : Int))) x13 G16

def a_film_Film_Add_0N {R : Type} (O : Ora R) (k : IV → GH → Option R) (s0 : GA) (s1 : Int) (s2 : Int) (b0_0 : Nat) (b0_1 : Nat) (b0_2 : Nat) (b0_3 : Nat) (b0_4 : Nat) (b0_5 : Nat) (b0_6 : Bool) (b0_7a : Option GA) (b0_7n : Nat) (b1_0 : Nat) (b1_1 : Nat) (b1_2 : Nat) (b1_3 : Nat) (b1_4 : Nat) (b1_5 : Nat) (b1_6 : Int) (b1_7 : Int) (G : GH) : Option R :=
  (ldPtr G (GA.add s0 0)).bind fun x1 =>
  O fn_image_Image_api_Pixel_Set [.ptr x1, .int .i64 s1, .int .i64 s2, .agg [.float .f64 b1_0, .float .f64 b1_1, .float .f64 b1_2, .float .f64 b1_3, .float .f64 b1_4, .float .f64 b1_5, .int .i64 b1_6, .int .i64 b1_7]] G fun v2 G3 =>
  (ivInt .i64 v2).bind fun x4 =>
  k (.int .i64 x4) G3

def L_film_Film_Add_0 {R : Type} (O : Ora R) (fuel : Nat) (k : IV → GH → Option R) : GA → Int → Int → Nat → Nat → Nat → Nat → Nat → Nat → Bool → Option GA → Nat → Nat → Nat → Nat → Nat → Nat → Nat → Int → Int → GH → Option R := fun (s0 : GA) (s1 : Int) (s2 : Int) (b0_0 : Nat) (b0_1 : Nat) (b0_2 : Nat) (b0_3 : Nat) (b0_4 : Nat) (b0_5 : Nat) (b0_6 : Bool) (b0_7a : Option GA) (b0_7n : Nat) (b1_0 : Nat) (b1_1 : Nat) (b1_2 : Nat) (b1_3 : Nat) (b1_4 : Nat) (b1_5 : Nat) (b1_6 : Int) (b1_7 : Int) G =>
  stepN fuel (l_film_Film_Add_0 O (a_film_Film_Add_0N O k) s0 s1 s2 b0_0 b0_1 b0_2 b0_3 b0_4 b0_5 b0_6 b0_7a b0_7n b1_0 b1_1 b1_2 b1_3 b1_4 b1_5 b1_6 b1_7 G)

theorem a_film_Film_Add_0N_raw {R : Type} (O : Ora R) (fuel : Nat) (s0 : GA) (s1 : Int) (s2 : Int) (b0_0 : Nat) (b0_1 : Nat) (b0_2 : Nat) (b0_3 : Nat) (b0_4 : Nat) (b0_5 : Nat) (b0_6 : Bool) (b0_7a : Option GA) (b0_7n : Nat) (b1_0 : Nat) (b1_1 : Nat) (b1_2 : Nat) (b1_3 : Nat) (b1_4 : Nat) (b1_5 : Nat) (b1_6 : Int) (b1_7 : Int) (G : GH) (k : IV → GH → Option R) :
  contC Try.prog O lo25 fuel (Try.f25.body.getD .skip) [1, 1, 1, 1, 1, 0] (fun e env F G => match e with | .exit _ => none | _ => resC Try.prog Try.f25 env F G k) .normal (mkE 51 [(0, .ptr (some s0)), (1, .int .i64 s1), (2, .int .i64 s2), (9, .loc 1 0)]) [[.float .f64 b0_0, .float .f64 b0_1, .float .f64 b0_2, .float .f64 b0_3, .float .f64 b0_4, .float .f64 b0_5, .bool b0_6, .slice b0_7a b0_7n], [.float .f64 b1_0, .float .f64 b1_1, .float .f64 b1_2, .float .f64 b1_3, .float .f64 b1_4, .float .f64 b1_5, .int .i64 b1_6, .int .i64 b1_7]] G =
  a_film_Film_Add_0N O k s0 s1 s2 b0_0 b0_1 b0_2 b0_3 b0_4 b0_5 b0_6 b0_7a b0_7n b1_0 b1_1 b1_2 b1_3 b1_4 b1_5 b1_6 b1_7 G := by kernel_rfl

theorem L_film_Film_Add_0_eq {R : Type} (O : Ora R) (fuel : Nat) (k : IV → GH → Option R) :
  (fun (s0 : GA) (s1 : Int) (s2 : Int) (b0_0 : Nat) (b0_1 : Nat) (b0_2 : Nat) (b0_3 : Nat) (b0_4 : Nat) (b0_5 : Nat) (b0_6 : Bool) (b0_7a : Option GA) (b0_7n : Nat) (b1_0 : Nat) (b1_1 : Nat) (b1_2 : Nat) (b1_3 : Nat) (b1_4 : Nat) (b1_5 : Nat) (b1_6 : Int) (b1_7 : Int) (G : GH) => stepN fuel (loopD Try.prog O lo25 fuel (nav (Try.f25.body.getD .skip) [1, 1, 1, 1, 1, 0]) 39 (mkE 51 [(0, .ptr (some s0)), (1, .int .i64 s1), (2, .int .i64 s2), (7, .loc 0 0), (9, .loc 1 0)]) [[.float .f64 b0_0, .float .f64 b0_1, .float .f64 b0_2, .float .f64 b0_3, .float .f64 b0_4, .float .f64 b0_5, .bool b0_6, .slice b0_7a b0_7n], [.float .f64 b1_0, .float .f64 b1_1, .float .f64 b1_2, .float .f64 b1_3, .float .f64 b1_4, .float .f64 b1_5, .int .i64 b1_6, .int .i64 b1_7]] G (contC Try.prog O lo25 fuel (Try.f25.body.getD .skip) [1, 1, 1, 1, 1, 0] (fun e env F G => match e with | .exit _ => none | _ => resC Try.prog Try.f25 env F G k)))) = L_film_Film_Add_0 O fuel k := by
  funext s0 s1 s2 b0_0 b0_1 b0_2 b0_3 b0_4 b0_5 b0_6 b0_7a b0_7n b1_0 b1_1 b1_2 b1_3 b1_4 b1_5 b1_6 b1_7 G
  simp only [L_film_Film_Add_0, l_film_Film_Add_0_eq, a_film_Film_Add_0N_raw]

theorem e_film_Film_Add_raw {R : Type} (O : Ora R) (fuel : Nat) (p0 : GA) (p1 : Int) (p2 : Int) (p3_0 : Nat) (p3_1 : Nat) (p3_2 : Nat) (p3_3 : Nat) (p3_4 : Nat) (p3_5 : Nat) (p3_6 : Bool) (p3_7a : Option GA) (p3_7n : Nat) (G : GH) (k : IV → GH → Option R) :
  bodyC Try.prog O lo25 fuel Try.f25 [.ptr (some p0), .int .i64 p1, .int .i64 p2, .agg [.float .f64 p3_0, .float .f64 p3_1, .float .f64 p3_2, .float .f64 p3_3, .float .f64 p3_4, .float .f64 p3_5, .bool p3_6, .slice p3_7a p3_7n]] G k =
  u_film_Film_Add O k (fun (s0 : GA) (s1 : Int) (s2 : Int) (b0_0 : Nat) (b0_1 : Nat) (b0_2 : Nat) (b0_3 : Nat) (b0_4 : Nat) (b0_5 : Nat) (b0_6 : Bool) (b0_7a : Option GA) (b0_7n : Nat) (b1_0 : Nat) (b1_1 : Nat) (b1_2 : Nat) (b1_3 : Nat) (b1_4 : Nat) (b1_5 : Nat) (b1_6 : Int) (b1_7 : Int) (G : GH) => stepN fuel (loopD Try.prog O lo25 fuel (nav (Try.f25.body.getD .skip) [1, 1, 1, 1, 1, 0]) 39 (mkE 51 [(0, .ptr (some s0)), (1, .int .i64 s1), (2, .int .i64 s2), (7, .loc 0 0), (9, .loc 1 0)]) [[.float .f64 b0_0, .float .f64 b0_1, .float .f64 b0_2, .float .f64 b0_3, .float .f64 b0_4, .float .f64 b0_5, .bool b0_6, .slice b0_7a b0_7n], [.float .f64 b1_0, .float .f64 b1_1, .float .f64 b1_2, .float .f64 b1_3, .float .f64 b1_4, .float .f64 b1_5, .int .i64 b1_6, .int .i64 b1_7]] G (contC Try.prog O lo25 fuel (Try.f25.body.getD .skip) [1, 1, 1, 1, 1, 0] (fun e env F G => match e with | .exit _ => none | _ => resC Try.prog Try.f25 env F G k)))) p0 p1 p2 p3_0 p3_1 p3_2 p3_3 p3_4 p3_5 p3_6 p3_7a p3_7n G := by kernel_rfl

theorem e_film_Film_Add {R : Type} (O : Ora R) (fuel : Nat) (p0 : GA) (p1 : Int) (p2 : Int) (p3_0 : Nat) (p3_1 : Nat) (p3_2 : Nat) (p3_3 : Nat) (p3_4 : Nat) (p3_5 : Nat) (p3_6 : Bool) (p3_7a : Option GA) (p3_7n : Nat) (G : GH) (k : IV → GH → Option R) :
  bodyC Try.prog O lo25 fuel Try.f25 [.ptr (some p0), .int .i64 p1, .int .i64 p2, .agg [.float .f64 p3_0, .float .f64 p3_1, .float .f64 p3_2, .float .f64 p3_3, .float .f64 p3_4, .float .f64 p3_5, .bool p3_6, .slice p3_7a p3_7n]] G k =
  u_film_Film_Add O k (L_film_Film_Add_0 O fuel k) p0 p1 p2 p3_0 p3_1 p3_2 p3_3 p3_4 p3_5 p3_6 p3_7a p3_7n G := by
  rw [e_film_Film_Add_raw, L_film_Film_Add_0_eq]

theorem r_film_Film_Add {R : Type} (fuel n : Nat) (p0 : GA) (p1 : Int) (p2 : Int) (p3_0 : Nat) (p3_1 : Nat) (p3_2 : Nat) (p3_3 : Nat) (p3_4 : Nat) (p3_5 : Nat) (p3_6 : Bool) (p3_7a : Option GA) (p3_7n : Nat) (G : GH) (k : IV → GH → Option R) :
  runC Try.prog lo0 fuel (n + 1) 25 [.ptr (some p0), .int .i64 p1, .int .i64 p2, .agg [.float .f64 p3_0, .float .f64 p3_1, .float .f64 p3_2, .float .f64 p3_3, .float .f64 p3_4, .float .f64 p3_5, .bool p3_6, .slice p3_7a p3_7n]] G k = bodyC Try.prog (runC Try.prog lo0 fuel n) lo25 fuel Try.f25 [.ptr (some p0), .int .i64 p1, .int .i64 p2, .agg [.float .f64 p3_0, .float .f64 p3_1, .float .f64 p3_2, .float .f64 p3_3, .float .f64 p3_4, .float .f64 p3_5, .bool p3_6, .slice p3_7a p3_7n]] G k := run_body Try.func25 rfl rfl

/-! ### (*lantern/film.Film).Merge -/
def u_film_Film_Merge_0 {R : Type} (O : Ora R) (KN : GA → GA → Int → Int → Int → Int → GH → Option R) (s0 : GA) (s1 : GA) (b0_0 : Int) (b0_1 : Int) (b0_2 : Int) (b0_3 : Int) (G : GH) : Option R :=
  KN s0 s1 b0_0 b0_1 b0_2 b0_3 G

def l_film_Film_Merge_0 {R : Type} (O : Ora R) (KN : GA → GA → Int → Int → Int → Int → GH → Option R) : GA → GA → Int → Int → Int → Int → GH → Option R := fun (s0 : GA) (s1 : GA) (b0_0 : Int) (b0_1 : Int) (b0_2 : Int) (b0_3 : Int) G => u_film_Film_Merge_0 O KN s0 s1 b0_0 b0_1 b0_2 b0_3 G

theorem u_film_Film_Merge_0_raw {R : Type} (O : Ora R) (fuel : Nat) (s0 : GA) (s1 : GA) (b0_0 : Int) (b0_1 : Int) (b0_2 : Int) (b0_3 : Int) (G : GH) (k : Ex → List IV → List (List IV) → GH → Option R) :
  loopD Try.prog O lo22 fuel (nav (Try.f22.body.getD .skip) [1, 0]) 15 (mkE 127 [(0, .ptr (some s0)), (1, .ptr (some s1)), (5, .loc 0 0)]) [[.int .i64 b0_0, .int .i64 b0_1, .int .i64 b0_2, .int .i64 b0_3]] G k =
  u_film_Film_Merge_0 O (fun (s0 : GA) (s1 : GA) (b0_0 : Int) (b0_1 : Int) (b0_2 : Int) (b0_3 : Int) (G : GH) => k .normal (mkE 127 [(0, .ptr (some s0)), (1, .ptr (some s1)), (5, .loc 0 0)]) [[.int .i64 b0_0, .int .i64 b0_1, .int .i64 b0_2, .int .i64 b0_3]] G) s0 s1 b0_0 b0_1 b0_2 b0_3 G := by kernel_rfl

theorem l_film_Film_Merge_0_eq {R : Type} (O : Ora R) (fuel : Nat) (k : Ex → List IV → List (List IV) → GH → Option R) : ∀ (s0 : GA) (s1 : GA) (b0_0 : Int) (b0_1 : Int) (b0_2 : Int) (b0_3 : Int) (G : GH),
  loopD Try.prog O lo22 fuel (nav (Try.f22.body.getD .skip) [1, 0]) 15 (mkE 127 [(0, .ptr (some s0)), (1, .ptr (some s1)), (5, .loc 0 0)]) [[.int .i64 b0_0, .int .i64 b0_1, .int .i64 b0_2, .int .i64 b0_3]] G k = l_film_Film_Merge_0 O (fun (s0 : GA) (s1 : GA) (b0_0 : Int) (b0_1 : Int) (b0_2 : Int) (b0_3 : Int) (G : GH) => k .normal (mkE 127 [(0, .ptr (some s0)), (1, .ptr (some s1)), (5, .loc 0 0)]) [[.int .i64 b0_0, .int .i64 b0_1, .int .i64 b0_2, .int .i64 b0_3]] G) s0 s1 b0_0 b0_1 b0_2 b0_3 G := by
  intros
  rw [u_film_Film_Merge_0_raw]
  simp only [l_film_Film_Merge_0]

def u_film_Film_Merge_1 {R : Type} (O : Ora R) (Kret : Int → Int → Int → Int → Int → GH → Option R) (KN : GA → GA → Int → Int → Int → Int → GH → Option R) (s0 : GA) (s1 : GA) (s7 : Int) (s8 : Int) (b0_0 : Int) (b0_1 : Int) (b0_2 : Int) (b0_3 : Int) (G : GH) : Option R :=
  bif (decide (b0_0 < (0 : Int))) then
  Kret (2 : Int) b0_0 b0_1 b0_2 b0_3 G
  else
  bif (decide (b0_1 < (0 : Int))) then
  Kret (2 : Int) b0_0 b0_1 b0_2 b0_3 G
  else
  bif (decide (b0_2 > s7)) then
  Kret (2 : Int) b0_0 b0_1 b0_2 b0_3 G
  else
  bif (decide (b0_3 > s8)) then
  Kret (2 : Int) b0_0 b0_1 b0_2 b0_3 G
  else
  bif (decide (b0_0 ≥ b0_2)) then
  Kret (2 : Int) b0_0 b0_1 b0_2 b0_3 G
  else
  bif (decide (b0_1 ≥ b0_3)) then
  Kret (2 : Int) b0_0 b0_1 b0_2 b0_3 G
  else
  KN s0 s1 b0_0 b0_1 b0_2 b0_3 G

def l_film_Film_Merge_1 {R : Type} (O : Ora R) (Kret : Int → Int → Int → Int → Int → GH → Option R) (KN : GA → GA → Int → Int → Int → Int → GH → Option R) : GA → GA → Int → Int → Int → Int → Int → Int → GH → Option R := fun (s0 : GA) (s1 : GA) (s7 : Int) (s8 : Int) (b0_0 : Int) (b0_1 : Int) (b0_2 : Int) (b0_3 : Int) G => u_film_Film_Merge_1 O Kret KN s0 s1 s7 s8 b0_0 b0_1 b0_2 b0_3 G

theorem u_film_Film_Merge_1_raw {R : Type} (O : Ora R) (fuel : Nat) (s0 : GA) (s1 : GA) (s7 : Int) (s8 : Int) (b0_0 : Int) (b0_1 : Int) (b0_2 : Int) (b0_3 : Int) (G : GH) (k : Ex → List IV → List (List IV) → GH → Option R) :
  loopD Try.prog O lo22 fuel (nav (Try.f22.body.getD .skip) [1, 1, 1, 0]) 27 (mkE 127 [(0, .ptr (some s0)), (1, .ptr (some s1)), (5, .loc 0 0), (7, .int .i64 s7), (8, .int .i64 s8)]) [[.int .i64 b0_0, .int .i64 b0_1, .int .i64 b0_2, .int .i64 b0_3]] G k =
  u_film_Film_Merge_1 O (fun (s6 : Int) (b0_0 : Int) (b0_1 : Int) (b0_2 : Int) (b0_3 : Int) (G : GH) => k .ret (mkE 127 [(6, .int .i64 s6)]) [[.int .i64 b0_0, .int .i64 b0_1, .int .i64 b0_2, .int .i64 b0_3]] G) (fun (s0 : GA) (s1 : GA) (b0_0 : Int) (b0_1 : Int) (b0_2 : Int) (b0_3 : Int) (G : GH) => k .normal (mkE 127 [(0, .ptr (some s0)), (1, .ptr (some s1)), (5, .loc 0 0)]) [[.int .i64 b0_0, .int .i64 b0_1, .int .i64 b0_2, .int .i64 b0_3]] G) s0 s1 s7 s8 b0_0 b0_1 b0_2 b0_3 G := by kernel_rfl

theorem l_film_Film_Merge_1_eq {R : Type} (O : Ora R) (fuel : Nat) (k : Ex → List IV → List (List IV) → GH → Option R) : ∀ (s0 : GA) (s1 : GA) (s7 : Int) (s8 : Int) (b0_0 : Int) (b0_1 : Int) (b0_2 : Int) (b0_3 : Int) (G : GH),
  loopD Try.prog O lo22 fuel (nav (Try.f22.body.getD .skip) [1, 1, 1, 0]) 27 (mkE 127 [(0, .ptr (some s0)), (1, .ptr (some s1)), (5, .loc 0 0), (7, .int .i64 s7), (8, .int .i64 s8)]) [[.int .i64 b0_0, .int .i64 b0_1, .int .i64 b0_2, .int .i64 b0_3]] G k = l_film_Film_Merge_1 O (fun (s6 : Int) (b0_0 : Int) (b0_1 : Int) (b0_2 : Int) (b0_3 : Int) (G : GH) => k .ret (mkE 127 [(6, .int .i64 s6)]) [[.int .i64 b0_0, .int .i64 b0_1, .int .i64 b0_2, .int .i64 b0_3]] G) (fun (s0 : GA) (s1 : GA) (b0_0 : Int) (b0_1 : Int) (b0_2 : Int) (b0_3 : Int) (G : GH) => k .normal (mkE 127 [(0, .ptr (some s0)), (1, .ptr (some s1)), (5, .loc 0 0)]) [[.int .i64 b0_0, .int .i64 b0_1, .int .i64 b0_2, .int .i64 b0_3]] G) s0 s1 s7 s8 b0_0 b0_1 b0_2 b0_3 G := by
  intros
  rw [u_film_Film_Merge_1_raw]
  simp only [l_film_Film_Merge_1]

def u_film_Film_Merge_2 {R : Type} (O : Ora R) (Kret : Int → Int → Int → Int → Int → GH → Option R) (KN : GA → GA → Int → Int → Int → Int → GH → Option R) (s0 : GA) (s1 : GA) (b0_0 : Int) (b0_1 : Int) (b0_2 : Int) (b0_3 : Int) (G : GH) : Option R :=
  (ldPtr G (GA.add s1 0)).bind fun x1 =>
  O fn_image_Image_api_Pixel_Size [.ptr x1] G fun v2 G3 =>
  (ivTup 2 v2).bind fun c4 =>
  (ivInt .i64 (c4.getD 0 undefI)).bind fun x5 =>
  (ivInt .i64 (c4.getD 1 undefI)).bind fun x6 =>
  bif (x5 != (IntKind.wrap .i64 (b0_2 - b0_0))) then
  Kret (70 : Int) b0_0 b0_1 b0_2 b0_3 G3
  else
  bif (x6 != (IntKind.wrap .i64 (b0_3 - b0_1))) then
  Kret (70 : Int) b0_0 b0_1 b0_2 b0_3 G3
  else
  KN s0 s1 b0_0 b0_1 b0_2 b0_3 G3

def l_film_Film_Merge_2 {R : Type} (O : Ora R) (Kret : Int → Int → Int → Int → Int → GH → Option R) (KN : GA → GA → Int → Int → Int → Int → GH → Option R) : GA → GA → Int → Int → Int → Int → GH → Option R := fun (s0 : GA) (s1 : GA) (b0_0 : Int) (b0_1 : Int) (b0_2 : Int) (b0_3 : Int) G => u_film_Film_Merge_2 O Kret KN s0 s1 b0_0 b0_1 b0_2 b0_3 G

theorem u_film_Film_Merge_2_raw {R : Type} (O : Ora R) (fuel : Nat) (s0 : GA) (s1 : GA) (b0_0 : Int) (b0_1 : Int) (b0_2 : Int) (b0_3 : Int) (G : GH) (k : Ex → List IV → List (List IV) → GH → Option R) :
  loopD Try.prog O lo22 fuel (nav (Try.f22.body.getD .skip) [1, 1, 1, 1, 0]) 39 (mkE 127 [(0, .ptr (some s0)), (1, .ptr (some s1)), (5, .loc 0 0)]) [[.int .i64 b0_0, .int .i64 b0_1, .int .i64 b0_2, .int .i64 b0_3]] G k =
  u_film_Film_Merge_2 O (fun (s6 : Int) (b0_0 : Int) (b0_1 : Int) (b0_2 : Int) (b0_3 : Int) (G : GH) => k .ret (mkE 127 [(6, .int .i64 s6)]) [[.int .i64 b0_0, .int .i64 b0_1, .int .i64 b0_2, .int .i64 b0_3]] G) (fun (s0 : GA) (s1 : GA) (b0_0 : Int) (b0_1 : Int) (b0_2 : Int) (b0_3 : Int) (G : GH) => k .normal (mkE 127 [(0, .ptr (some s0)), (1, .ptr (some s1)), (5, .loc 0 0)]) [[.int .i64 b0_0, .int .i64 b0_1, .int .i64 b0_2, .int .i64 b0_3]] G) s0 s1 b0_0 b0_1 b0_2 b0_3 G := by kernel_rfl

theorem l_film_Film_Merge_2_eq {R : Type} (O : Ora R) (fuel : Nat) (k : Ex → List IV → List (List IV) → GH → Option R) : ∀ (s0 : GA) (s1 : GA) (b0_0 : Int) (b0_1 : Int) (b0_2 : Int) (b0_3 : Int) (G : GH),
  loopD Try.prog O lo22 fuel (nav (Try.f22.body.getD .skip) [1, 1, 1, 1, 0]) 39 (mkE 127 [(0, .ptr (some s0)), (1, .ptr (some s1)), (5, .loc 0 0)]) [[.int .i64 b0_0, .int .i64 b0_1, .int .i64 b0_2, .int .i64 b0_3]] G k = l_film_Film_Merge_2 O (fun (s6 : Int) (b0_0 : Int) (b0_1 : Int) (b0_2 : Int) (b0_3 : Int) (G : GH) => k .ret (mkE 127 [(6, .int .i64 s6)]) [[.int .i64 b0_0, .int .i64 b0_1, .int .i64 b0_2, .int .i64 b0_3]] G) (fun (s0 : GA) (s1 : GA) (b0_0 : Int) (b0_1 : Int) (b0_2 : Int) (b0_3 : Int) (G : GH) => k .normal (mkE 127 [(0, .ptr (some s0)), (1, .ptr (some s1)), (5, .loc 0 0)]) [[.int .i64 b0_0, .int .i64 b0_1, .int .i64 b0_2, .int .i64 b0_3]] G) s0 s1 b0_0 b0_1 b0_2 b0_3 G := by
  intros
  rw [u_film_Film_Merge_2_raw]
  simp only [l_film_Film_Merge_2]

def u_film_Film_Merge_4 {R : Type} (O : Ora R) (KN : GA → GA → Int → Int → Int → Int → Int → Int → GH → Option R) (K2 : GA → GA → Int → Int → Int → Int → Int → GH → Option R) (s0 : GA) (s1 : GA) (s11 : Int) (s12 : Int) (b0_0 : Int) (b0_1 : Int) (b0_2 : Int) (b0_3 : Int) (G : GH) : Option R :=
  bif (decide (s12 < b0_2)) then
  (ldPtr G (GA.add s1 0)).bind fun x1 =>
  O fn_image_Image_api_Pixel_At [.ptr x1, .int .i64 (IntKind.wrap .i64 (s12 - b0_0)), .int .i64 (IntKind.wrap .i64 (s11 - b0_1))] G fun v2 G3 =>
  (ivTup 2 v2).bind fun c4 =>
  (ivAgg 8 (c4.getD 0 undefI)).bind fun c5 =>
  (ivFloat .f64 (c5.getD 0 undefI)).bind fun x6 =>
  (ivFloat .f64 (c5.getD 1 undefI)).bind fun x7 =>
  (ivFloat .f64 (c5.getD 2 undefI)).bind fun x8 =>
  (ivFloat .f64 (c5.getD 3 undefI)).bind fun x9 =>
  (ivFloat .f64 (c5.getD 4 undefI)).bind fun x10 =>
  (ivFloat .f64 (c5.getD 5 undefI)).bind fun x11 =>
  (ivInt .i64 (c5.getD 6 undefI)).bind fun x12 =>
  (ivInt .i64 (c5.getD 7 undefI)).bind fun x13 =>
  (ivInt .i64 (c4.getD 1 undefI)).bind fun x14 =>
  (ldPtr G3 (GA.add s0 0)).bind fun x15 =>
  O fn_image_Image_api_Pixel_Set [.ptr x15, .int .i64 s12, .int .i64 s11, .agg [.float .f64 x6, .float .f64 x7, .float .f64 x8, .float .f64 x9, .float .f64 x10, .float .f64 x11, .int .i64 x12, .int .i64 x13]] G3 fun v16 G17 =>
  (ivInt .i64 v16).bind fun x18 =>
  KN s0 s1 s11 (IntKind.wrap .i64 (s12 + (1 : Int))) b0_0 b0_1 b0_2 b0_3 G17
  else
  K2 s0 s1 s11 b0_0 b0_1 b0_2 b0_3 G

def l_film_Film_Merge_4 {R : Type} (O : Ora R) (K2 : GA → GA → Int → Int → Int → Int → Int → GH → Option R) : Nat → GA → GA → Int → Int → Int → Int → Int → Int → GH → Option R
  | 0, _, _, _, _, _, _, _, _, _ => none
  | n + 1, s0, s1, s11, s12, b0_0, b0_1, b0_2, b0_3, G => u_film_Film_Merge_4 O (l_film_Film_Merge_4 O K2 n) K2 s0 s1 s11 s12 b0_0 b0_1 b0_2 b0_3 G

theorem u_film_Film_Merge_4_raw {R : Type} (O : Ora R) (fuel : Nat) (s0 : GA) (s1 : GA) (s11 : Int) (s12 : Int) (b0_0 : Int) (b0_1 : Int) (b0_2 : Int) (b0_3 : Int) (G : GH) (k : Ex → List IV → List (List IV) → GH → Option R) :
  loopD Try.prog O lo22 fuel (nav (Try.f22.body.getD .skip) [1, 1, 1, 1, 1, 0, 1, 0, 0, 1, 0, 0, 1, 0, 0]) 52 (mkE 127 [(0, .ptr (some s0)), (1, .ptr (some s1)), (5, .loc 0 0), (11, .int .i64 s11), (12, .int .i64 s12)]) [[.int .i64 b0_0, .int .i64 b0_1, .int .i64 b0_2, .int .i64 b0_3]] G k =
  u_film_Film_Merge_4 O (fun (s0 : GA) (s1 : GA) (s11 : Int) (s12 : Int) (b0_0 : Int) (b0_1 : Int) (b0_2 : Int) (b0_3 : Int) (G : GH) => k .normal (mkE 127 [(0, .ptr (some s0)), (1, .ptr (some s1)), (5, .loc 0 0), (11, .int .i64 s11), (12, .int .i64 s12)]) [[.int .i64 b0_0, .int .i64 b0_1, .int .i64 b0_2, .int .i64 b0_3]] G) (fun (s0 : GA) (s1 : GA) (s11 : Int) (b0_0 : Int) (b0_1 : Int) (b0_2 : Int) (b0_3 : Int) (G : GH) => k (.exit 2) (mkE 127 [(0, .ptr (some s0)), (1, .ptr (some s1)), (5, .loc 0 0), (11, .int .i64 s11)]) [[.int .i64 b0_0, .int .i64 b0_1, .int .i64 b0_2, .int .i64 b0_3]] G) s0 s1 s11 s12 b0_0 b0_1 b0_2 b0_3 G := by kernel_rfl

theorem l_film_Film_Merge_4_eq {R : Type} (O : Ora R) (fuel : Nat) (k : Ex → List IV → List (List IV) → GH → Option R) : ∀ (n : Nat) (s0 : GA) (s1 : GA) (s11 : Int) (s12 : Int) (b0_0 : Int) (b0_1 : Int) (b0_2 : Int) (b0_3 : Int) (G : GH),
  loopN (loopD Try.prog O lo22 fuel (nav (Try.f22.body.getD .skip) [1, 1, 1, 1, 1, 0, 1, 0, 0, 1, 0, 0, 1, 0, 0]) 52) n (mkE 127 [(0, .ptr (some s0)), (1, .ptr (some s1)), (5, .loc 0 0), (11, .int .i64 s11), (12, .int .i64 s12)]) [[.int .i64 b0_0, .int .i64 b0_1, .int .i64 b0_2, .int .i64 b0_3]] G k = l_film_Film_Merge_4 O (fun (s0 : GA) (s1 : GA) (s11 : Int) (b0_0 : Int) (b0_1 : Int) (b0_2 : Int) (b0_3 : Int) (G : GH) => k (.exit 2) (mkE 127 [(0, .ptr (some s0)), (1, .ptr (some s1)), (5, .loc 0 0), (11, .int .i64 s11)]) [[.int .i64 b0_0, .int .i64 b0_1, .int .i64 b0_2, .int .i64 b0_3]] G) n s0 s1 s11 s12 b0_0 b0_1 b0_2 b0_3 G := by
  intro n
  induction n with
  | zero => intros; rfl
  | succ n ih =>
    intros
    rw [loopN_succ, u_film_Film_Merge_4_raw]
    simp only [l_film_Film_Merge_4, loopK_normal, loopK_exit, loopK_ret, ih]

def u_film_Film_Merge_3 {R : Type} (O : Ora R) (KN : GA → GA → Int → Int → Int → Int → Int → GH → Option R) (K0 : Int → Int → Int → Int → GH → Option R) (L4 : GA → GA → Int → Int → Int → Int → Int → Int → GH → Option R) (s0 : GA) (s1 : GA) (s11 : Int) (b0_0 : Int) (b0_1 : Int) (b0_2 : Int) (b0_3 : Int) (G : GH) : Option R :=
  bif (decide (s11 < b0_3)) then
  L4 s0 s1 s11 b0_0 b0_0 b0_1 b0_2 b0_3 G
  else
  K0 b0_0 b0_1 b0_2 b0_3 G

def a_film_Film_Merge_42 {R : Type} (O : Ora R) (KN : GA → GA → Int → Int → Int → Int → Int → GH → Option R) (K0 : Int → Int → Int → Int → GH → Option R) (s0 : GA) (s1 : GA) (s11 : Int) (b0_0 : Int) (b0_1 : Int) (b0_2 : Int) (b0_3 : Int) (G : GH) : Option R :=
  KN s0 s1 (IntKind.wrap .i64 (s11 + (1 : Int))) b0_0 b0_1 b0_2 b0_3 G

def L_film_Film_Merge_4 {R : Type} (O : Ora R) (fuel : Nat) (KN : GA → GA → Int → Int → Int → Int → Int → GH → Option R) (K0 : Int → Int → Int → Int → GH → Option R) : GA → GA → Int → Int → Int → Int → Int → Int → GH → Option R := fun (s0 : GA) (s1 : GA) (s11 : Int) (s12 : Int) (b0_0 : Int) (b0_1 : Int) (b0_2 : Int) (b0_3 : Int) G =>
  l_film_Film_Merge_4 O (a_film_Film_Merge_42 O KN K0) fuel s0 s1 s11 s12 b0_0 b0_1 b0_2 b0_3 G

theorem a_film_Film_Merge_42_raw {R : Type} (O : Ora R) (fuel : Nat) (s0 : GA) (s1 : GA) (s11 : Int) (b0_0 : Int) (b0_1 : Int) (b0_2 : Int) (b0_3 : Int) (G : GH) (k : Ex → List IV → List (List IV) → GH → Option R) :
  contC Try.prog O lo22 fuel (nav (Try.f22.body.getD .skip) [1, 1, 1, 1, 1, 0, 1, 0, 0]) [1, 0, 0, 1, 0] (kpD lo22 40 1 k) (.exit 2) (mkE 127 [(0, .ptr (some s0)), (1, .ptr (some s1)), (5, .loc 0 0), (11, .int .i64 s11)]) [[.int .i64 b0_0, .int .i64 b0_1, .int .i64 b0_2, .int .i64 b0_3]] G =
  a_film_Film_Merge_42 O (fun (s0 : GA) (s1 : GA) (s11 : Int) (b0_0 : Int) (b0_1 : Int) (b0_2 : Int) (b0_3 : Int) (G : GH) => k .normal (mkE 127 [(0, .ptr (some s0)), (1, .ptr (some s1)), (5, .loc 0 0), (11, .int .i64 s11)]) [[.int .i64 b0_0, .int .i64 b0_1, .int .i64 b0_2, .int .i64 b0_3]] G) (fun (b0_0 : Int) (b0_1 : Int) (b0_2 : Int) (b0_3 : Int) (G : GH) => k (.exit 0) (mkE 127 []) [[.int .i64 b0_0, .int .i64 b0_1, .int .i64 b0_2, .int .i64 b0_3]] G) s0 s1 s11 b0_0 b0_1 b0_2 b0_3 G := by kernel_rfl

theorem L_film_Film_Merge_4_eq {R : Type} (O : Ora R) (fuel : Nat) (k : Ex → List IV → List (List IV) → GH → Option R) :
  (fun (s0 : GA) (s1 : GA) (s11 : Int) (s12 : Int) (b0_0 : Int) (b0_1 : Int) (b0_2 : Int) (b0_3 : Int) (G : GH) => loopN (loopD Try.prog O lo22 fuel (nav (Try.f22.body.getD .skip) [1, 1, 1, 1, 1, 0, 1, 0, 0, 1, 0, 0, 1, 0, 0]) 52) fuel (mkE 127 [(0, .ptr (some s0)), (1, .ptr (some s1)), (5, .loc 0 0), (11, .int .i64 s11), (12, .int .i64 s12)]) [[.int .i64 b0_0, .int .i64 b0_1, .int .i64 b0_2, .int .i64 b0_3]] G (contC Try.prog O lo22 fuel (nav (Try.f22.body.getD .skip) [1, 1, 1, 1, 1, 0, 1, 0, 0]) [1, 0, 0, 1, 0] (kpD lo22 40 1 k))) = L_film_Film_Merge_4 O fuel (fun (s0 : GA) (s1 : GA) (s11 : Int) (b0_0 : Int) (b0_1 : Int) (b0_2 : Int) (b0_3 : Int) (G : GH) => k .normal (mkE 127 [(0, .ptr (some s0)), (1, .ptr (some s1)), (5, .loc 0 0), (11, .int .i64 s11)]) [[.int .i64 b0_0, .int .i64 b0_1, .int .i64 b0_2, .int .i64 b0_3]] G) (fun (b0_0 : Int) (b0_1 : Int) (b0_2 : Int) (b0_3 : Int) (G : GH) => k (.exit 0) (mkE 127 []) [[.int .i64 b0_0, .int .i64 b0_1, .int .i64 b0_2, .int .i64 b0_3]] G) := by
  funext s0 s1 s11 s12 b0_0 b0_1 b0_2 b0_3 G
  simp only [L_film_Film_Merge_4, l_film_Film_Merge_4_eq, a_film_Film_Merge_42_raw]

def l_film_Film_Merge_3 {R : Type} (O : Ora R) (fuel : Nat) (K0 : Int → Int → Int → Int → GH → Option R) : Nat → GA → GA → Int → Int → Int → Int → Int → GH → Option R
  | 0, _, _, _, _, _, _, _, _ => none
  | n + 1, s0, s1, s11, b0_0, b0_1, b0_2, b0_3, G => u_film_Film_Merge_3 O (l_film_Film_Merge_3 O fuel K0 n) K0 (L_film_Film_Merge_4 O fuel (l_film_Film_Merge_3 O fuel K0 n) K0) s0 s1 s11 b0_0 b0_1 b0_2 b0_3 G

theorem u_film_Film_Merge_3_raw {R : Type} (O : Ora R) (fuel : Nat) (s0 : GA) (s1 : GA) (s11 : Int) (b0_0 : Int) (b0_1 : Int) (b0_2 : Int) (b0_3 : Int) (G : GH) (k : Ex → List IV → List (List IV) → GH → Option R) :
  loopD Try.prog O lo22 fuel (nav (Try.f22.body.getD .skip) [1, 1, 1, 1, 1, 0, 1, 0, 0]) 40 (mkE 127 [(0, .ptr (some s0)), (1, .ptr (some s1)), (5, .loc 0 0), (11, .int .i64 s11)]) [[.int .i64 b0_0, .int .i64 b0_1, .int .i64 b0_2, .int .i64 b0_3]] G k =
  u_film_Film_Merge_3 O (fun (s0 : GA) (s1 : GA) (s11 : Int) (b0_0 : Int) (b0_1 : Int) (b0_2 : Int) (b0_3 : Int) (G : GH) => k .normal (mkE 127 [(0, .ptr (some s0)), (1, .ptr (some s1)), (5, .loc 0 0), (11, .int .i64 s11)]) [[.int .i64 b0_0, .int .i64 b0_1, .int .i64 b0_2, .int .i64 b0_3]] G) (fun (b0_0 : Int) (b0_1 : Int) (b0_2 : Int) (b0_3 : Int) (G : GH) => k (.exit 0) (mkE 127 []) [[.int .i64 b0_0, .int .i64 b0_1, .int .i64 b0_2, .int .i64 b0_3]] G) (fun (s0 : GA) (s1 : GA) (s11 : Int) (s12 : Int) (b0_0 : Int) (b0_1 : Int) (b0_2 : Int) (b0_3 : Int) (G : GH) => loopN (loopD Try.prog O lo22 fuel (nav (Try.f22.body.getD .skip) [1, 1, 1, 1, 1, 0, 1, 0, 0, 1, 0, 0, 1, 0, 0]) 52) fuel (mkE 127 [(0, .ptr (some s0)), (1, .ptr (some s1)), (5, .loc 0 0), (11, .int .i64 s11), (12, .int .i64 s12)]) [[.int .i64 b0_0, .int .i64 b0_1, .int .i64 b0_2, .int .i64 b0_3]] G (contC Try.prog O lo22 fuel (nav (Try.f22.body.getD .skip) [1, 1, 1, 1, 1, 0, 1, 0, 0]) [1, 0, 0, 1, 0] (kpD lo22 40 1 k))) s0 s1 s11 b0_0 b0_1 b0_2 b0_3 G := by kernel_rfl

theorem l_film_Film_Merge_3_eq {R : Type} (O : Ora R) (fuel : Nat) (k : Ex → List IV → List (List IV) → GH → Option R) : ∀ (n : Nat) (s0 : GA) (s1 : GA) (s11 : Int) (b0_0 : Int) (b0_1 : Int) (b0_2 : Int) (b0_3 : Int) (G : GH),
  loopN (loopD Try.prog O lo22 fuel (nav (Try.f22.body.getD .skip) [1, 1, 1, 1, 1, 0, 1, 0, 0]) 40) n (mkE 127 [(0, .ptr (some s0)), (1, .ptr (some s1)), (5, .loc 0 0), (11, .int .i64 s11)]) [[.int .i64 b0_0, .int .i64 b0_1, .int .i64 b0_2, .int .i64 b0_3]] G k = l_film_Film_Merge_3 O fuel (fun (b0_0 : Int) (b0_1 : Int) (b0_2 : Int) (b0_3 : Int) (G : GH) => k (.exit 0) (mkE 127 []) [[.int .i64 b0_0, .int .i64 b0_1, .int .i64 b0_2, .int .i64 b0_3]] G) n s0 s1 s11 b0_0 b0_1 b0_2 b0_3 G := by
  intro n
  induction n with
  | zero => intros; rfl
  | succ n ih =>
    intros
    rw [loopN_succ, u_film_Film_Merge_3_raw]
    simp only [l_film_Film_Merge_3, loopK_normal, loopK_exit, loopK_ret, ih, L_film_Film_Merge_4_eq]

def u_film_Film_Merge {R : Type} (O : Ora R) (k : IV → GH → Option R) (L0 : GA → GA → Int → Int → Int → Int → GH → Option R) (p0 : GA) (p1 : GA) (p2_0 : Int) (p2_1 : Int) (p2_2 : Int) (p2_3 : Int) (G : GH) : Option R :=
  L0 p0 p1 p2_0 p2_1 p2_2 p2_3 G

def a_film_Film_Merge_0N {R : Type} (O : Ora R) (k : IV → GH → Option R) (L1 : GA → GA → Int → Int → Int → Int → Int → Int → GH → Option R) (s0 : GA) (s1 : GA) (b0_0 : Int) (b0_1 : Int) (b0_2 : Int) (b0_3 : Int) (G : GH) : Option R :=
  (ldPtr G (GA.add s0 0)).bind fun x1 =>
  O fn_image_Image_api_Pixel_Size [.ptr x1] G fun v2 G3 =>
  (ivTup 2 v2).bind fun c4 =>
  (ivInt .i64 (c4.getD 0 undefI)).bind fun x5 =>
  (ivInt .i64 (c4.getD 1 undefI)).bind fun x6 =>
  L1 s0 s1 x5 x6 b0_0 b0_1 b0_2 b0_3 G3

def a_film_Film_Merge_1ret {R : Type} (O : Ora R) (k : IV → GH → Option R) (s6 : Int) (b0_0 : Int) (b0_1 : Int) (b0_2 : Int) (b0_3 : Int) (G : GH) : Option R :=
  k (.int .i64 s6) G

def a_film_Film_Merge_1N {R : Type} (O : Ora R) (k : IV → GH → Option R) (L2 : GA → GA → Int → Int → Int → Int → GH → Option R) (s0 : GA) (s1 : GA) (b0_0 : Int) (b0_1 : Int) (b0_2 : Int) (b0_3 : Int) (G : GH) : Option R :=
  L2 s0 s1 b0_0 b0_1 b0_2 b0_3 G

def a_film_Film_Merge_2ret {R : Type} (O : Ora R) (k : IV → GH → Option R) (s6 : Int) (b0_0 : Int) (b0_1 : Int) (b0_2 : Int) (b0_3 : Int) (G : GH) : Option R :=
  k (.int .i64 s6) G

def a_film_Film_Merge_2N {R : Type} (O : Ora R) (k : IV → GH → Option R) (L3 : GA → GA → Int → Int → Int → Int → Int → GH → Option R) (s0 : GA) (s1 : GA) (b0_0 : Int) (b0_1 : Int) (b0_2 : Int) (b0_3 : Int) (G : GH) : Option R :=
  L3 s0 s1 b0_1 b0_0 b0_1 b0_2 b0_3 G

def a_film_Film_Merge_30 {R : Type} (O : Ora R) (k : IV → GH → Option R) (b0_0 : Int) (b0_1 : Int) (b0_2 : Int) (b0_3 : Int) (G : GH) : Option R :=
  k (.int .i64 (0 : Int)) G

def L_film_Film_Merge_3 {R : Type} (O : Ora R) (fuel : Nat) (k : IV → GH → Option R) : GA → GA → Int → Int → Int → Int → Int → GH → Option R := fun (s0 : GA) (s1 : GA) (s11 : Int) (b0_0 : Int) (b0_1 : Int) (b0_2 : Int) (b0_3 : Int) G =>
  l_film_Film_Merge_3 O fuel (a_film_Film_Merge_30 O k) fuel s0 s1 s11 b0_0 b0_1 b0_2 b0_3 G

theorem a_film_Film_Merge_30_raw {R : Type} (O : Ora R) (fuel : Nat) (b0_0 : Int) (b0_1 : Int) (b0_2 : Int) (b0_3 : Int) (G : GH) (k : IV → GH → Option R) :
  contC Try.prog O lo22 fuel (Try.f22.body.getD .skip) [1, 1, 1, 1, 1, 0, 1, 0] (fun e env F G => match e with | .exit _ => none | _ => resC Try.prog Try.f22 env F G k) (.exit 0) (mkE 127 []) [[.int .i64 b0_0, .int .i64 b0_1, .int .i64 b0_2, .int .i64 b0_3]] G =
  a_film_Film_Merge_30 O k b0_0 b0_1 b0_2 b0_3 G := by kernel_rfl

theorem L_film_Film_Merge_3_eq {R : Type} (O : Ora R) (fuel : Nat) (k : IV → GH → Option R) :
  (fun (s0 : GA) (s1 : GA) (s11 : Int) (b0_0 : Int) (b0_1 : Int) (b0_2 : Int) (b0_3 : Int) (G : GH) => loopN (loopD Try.prog O lo22 fuel (nav (Try.f22.body.getD .skip) [1, 1, 1, 1, 1, 0, 1, 0, 0]) 40) fuel (mkE 127 [(0, .ptr (some s0)), (1, .ptr (some s1)), (5, .loc 0 0), (11, .int .i64 s11)]) [[.int .i64 b0_0, .int .i64 b0_1, .int .i64 b0_2, .int .i64 b0_3]] G (contC Try.prog O lo22 fuel (Try.f22.body.getD .skip) [1, 1, 1, 1, 1, 0, 1, 0] (fun e env F G => match e with | .exit _ => none | _ => resC Try.prog Try.f22 env F G k))) = L_film_Film_Merge_3 O fuel k := by
  funext s0 s1 s11 b0_0 b0_1 b0_2 b0_3 G
  simp only [L_film_Film_Merge_3, l_film_Film_Merge_3_eq, a_film_Film_Merge_30_raw]

def L_film_Film_Merge_2 {R : Type} (O : Ora R) (fuel : Nat) (k : IV → GH → Option R) : GA → GA → Int → Int → Int → Int → GH → Option R := fun (s0 : GA) (s1 : GA) (b0_0 : Int) (b0_1 : Int) (b0_2 : Int) (b0_3 : Int) G =>
  stepN fuel (l_film_Film_Merge_2 O (a_film_Film_Merge_2ret O k) (a_film_Film_Merge_2N O k (L_film_Film_Merge_3 O fuel k)) s0 s1 b0_0 b0_1 b0_2 b0_3 G)

theorem a_film_Film_Merge_2ret_raw {R : Type} (O : Ora R) (fuel : Nat) (s6 : Int) (b0_0 : Int) (b0_1 : Int) (b0_2 : Int) (b0_3 : Int) (G : GH) (k : IV → GH → Option R) :
  contC Try.prog O lo22 fuel (Try.f22.body.getD .skip) [1, 1, 1, 1, 0] (fun e env F G => match e with | .exit _ => none | _ => resC Try.prog Try.f22 env F G k) .ret (mkE 127 [(6, .int .i64 s6)]) [[.int .i64 b0_0, .int .i64 b0_1, .int .i64 b0_2, .int .i64 b0_3]] G =
  a_film_Film_Merge_2ret O k s6 b0_0 b0_1 b0_2 b0_3 G := by kernel_rfl

theorem a_film_Film_Merge_2N_raw {R : Type} (O : Ora R) (fuel : Nat) (s0 : GA) (s1 : GA) (b0_0 : Int) (b0_1 : Int) (b0_2 : Int) (b0_3 : Int) (G : GH) (k : IV → GH → Option R) :
  contC Try.prog O lo22 fuel (Try.f22.body.getD .skip) [1, 1, 1, 1, 0] (fun e env F G => match e with | .exit _ => none | _ => resC Try.prog Try.f22 env F G k) .normal (mkE 127 [(0, .ptr (some s0)), (1, .ptr (some s1)), (5, .loc 0 0)]) [[.int .i64 b0_0, .int .i64 b0_1, .int .i64 b0_2, .int .i64 b0_3]] G =
  a_film_Film_Merge_2N O k (fun (s0 : GA) (s1 : GA) (s11 : Int) (b0_0 : Int) (b0_1 : Int) (b0_2 : Int) (b0_3 : Int) (G : GH) => loopN (loopD Try.prog O lo22 fuel (nav (Try.f22.body.getD .skip) [1, 1, 1, 1, 1, 0, 1, 0, 0]) 40) fuel (mkE 127 [(0, .ptr (some s0)), (1, .ptr (some s1)), (5, .loc 0 0), (11, .int .i64 s11)]) [[.int .i64 b0_0, .int .i64 b0_1, .int .i64 b0_2, .int .i64 b0_3]] G (contC Try.prog O lo22 fuel (Try.f22.body.getD .skip) [1, 1, 1, 1, 1, 0, 1, 0] (fun e env F G => match e with | .exit _ => none | _ => resC Try.prog Try.f22 env F G k))) s0 s1 b0_0 b0_1 b0_2 b0_3 G := by kernel_rfl

theorem L_film_Film_Merge_2_eq {R : Type} (O : Ora R) (fuel : Nat) (k : IV → GH → Option R) :
  (fun (s0 : GA) (s1 : GA) (b0_0 : Int) (b0_1 : Int) (b0_2 : Int) (b0_3 : Int) (G : GH) => stepN fuel (loopD Try.prog O lo22 fuel (nav (Try.f22.body.getD .skip) [1, 1, 1, 1, 0]) 39 (mkE 127 [(0, .ptr (some s0)), (1, .ptr (some s1)), (5, .loc 0 0)]) [[.int .i64 b0_0, .int .i64 b0_1, .int .i64 b0_2, .int .i64 b0_3]] G (contC Try.prog O lo22 fuel (Try.f22.body.getD .skip) [1, 1, 1, 1, 0] (fun e env F G => match e with | .exit _ => none | _ => resC Try.prog Try.f22 env F G k)))) = L_film_Film_Merge_2 O fuel k := by
  funext s0 s1 b0_0 b0_1 b0_2 b0_3 G
  simp only [L_film_Film_Merge_2, l_film_Film_Merge_2_eq, a_film_Film_Merge_2ret_raw, a_film_Film_Merge_2N_raw, L_film_Film_Merge_3_eq]

def L_film_Film_Merge_1 {R : Type} (O : Ora R) (fuel : Nat) (k : IV → GH → Option R) : GA → GA → Int → Int → Int → Int → Int → Int → GH → Option R := fun (s0 : GA) (s1 : GA) (s7 : Int) (s8 : Int) (b0_0 : Int) (b0_1 : Int) (b0_2 : Int) (b0_3 : Int) G =>
  stepN fuel (l_film_Film_Merge_1 O (a_film_Film_Merge_1ret O k) (a_film_Film_Merge_1N O k (L_film_Film_Merge_2 O fuel k)) s0 s1 s7 s8 b0_0 b0_1 b0_2 b0_3 G)

theorem a_film_Film_Merge_1ret_raw {R : Type} (O : Ora R) (fuel : Nat) (s6 : Int) (b0_0 : Int) (b0_1 : Int) (b0_2 : Int) (b0_3 : Int) (G : GH) (k : IV → GH → Option R) :
  contC Try.prog O lo22 fuel (Try.f22.body.getD .skip) [1, 1, 1, 0] (fun e env F G => match e with | .exit _ => none | _ => resC Try.prog Try.f22 env F G k) .ret (mkE 127 [(6, .int .i64 s6)]) [[.int .i64 b0_0, .int .i64 b0_1, .int .i64 b0_2, .int .i64 b0_3]] G =
  a_film_Film_Merge_1ret O k s6 b0_0 b0_1 b0_2 b0_3 G := by kernel_rfl

theorem a_film_Film_Merge_1N_raw {R : Type} (O : Ora R) (fuel : Nat) (s0 : GA) (s1 : GA) (b0_0 : Int) (b0_1 : Int) (b0_2 : Int) (b0_3 : Int) (G : GH) (k : IV → GH → Option R) :
  contC Try.prog O lo22 fuel (Try.f22.body.getD .skip) [1, 1, 1, 0] (fun e env F G => match e with | .exit _ => none | _ => resC Try.prog Try.f22 env F G k) .normal (mkE 127 [(0, .ptr (some s0)), (1, .ptr (some s1)), (5, .loc 0 0)]) [[.int .i64 b0_0, .int .i64 b0_1, .int .i64 b0_2, .int .i64 b0_3]] G =
  a_film_Film_Merge_1N O k (fun (s0 : GA) (s1 : GA) (b0_0 : Int) (b0_1 : Int) (b0_2 : Int) (b0_3 : Int) (G : GH) => stepN fuel (loopD Try.prog O lo22 fuel (nav (Try.f22.body.getD .skip) [1, 1, 1, 1, 0]) 39 (mkE 127 [(0, .ptr (some s0)), (1, .ptr (some s1)), (5, .loc 0 0)]) [[.int .i64 b0_0, .int .i64 b0_1, .int .i64 b0_2, .int .i64 b0_3]] G (contC Try.prog O lo22 fuel (Try.f22.body.getD .skip) [1, 1, 1, 1, 0] (fun e env F G => match e with | .exit _ => none | _ => resC Try.prog Try.f22 env F G k)))) s0 s1 b0_0 b0_1 b0_2 b0_3 G := by kernel_rfl

theorem L_film_Film_Merge_1_eq {R : Type} (O : Ora R) (fuel : Nat) (k : IV → GH → Option R) :
  (fun (s0 : GA) (s1 : GA) (s7 : Int) (s8 : Int) (b0_0 : Int) (b0_1 : Int) (b0_2 : Int) (b0_3 : Int) (G : GH) => stepN fuel (loopD Try.prog O lo22 fuel (nav (Try.f22.body.getD .skip) [1, 1, 1, 0]) 27 (mkE 127 [(0, .ptr (some s0)), (1, .ptr (some s1)), (5, .loc 0 0), (7, .int .i64 s7), (8, .int .i64 s8)]) [[.int .i64 b0_0, .int .i64 b0_1, .int .i64 b0_2, .int .i64 b0_3]] G (contC Try.prog O lo22 fuel (Try.f22.body.getD .skip) [1, 1, 1, 0] (fun e env F G => match e with | .exit _ => none | _ => resC Try.prog Try.f22 env F G k)))) = L_film_Film_Merge_1 O fuel k := by
  funext s0 s1 s7 s8 b0_0 b0_1 b0_2 b0_3 G
  simp only [L_film_Film_Merge_1, l_film_Film_Merge_1_eq, a_film_Film_Merge_1ret_raw, a_film_Film_Merge_1N_raw, L_film_Film_Merge_2_eq]

def L_film_Film_Merge_0 {R : Type} (O : Ora R) (fuel : Nat) (k : IV → GH → Option R) : GA → GA → Int → Int → Int → Int → GH → Option R := fun (s0 : GA) (s1 : GA) (b0_0 : Int) (b0_1 : Int) (b0_2 : Int) (b0_3 : Int) G =>
  stepN fuel (l_film_Film_Merge_0 O (a_film_Film_Merge_0N O k (L_film_Film_Merge_1 O fuel k)) s0 s1 b0_0 b0_1 b0_2 b0_3 G)

theorem a_film_Film_Merge_0N_raw {R : Type} (O : Ora R) (fuel : Nat) (s0 : GA) (s1 : GA) (b0_0 : Int) (b0_1 : Int) (b0_2 : Int) (b0_3 : Int) (G : GH) (k : IV → GH → Option R) :
  contC Try.prog O lo22 fuel (Try.f22.body.getD .skip) [1, 0] (fun e env F G => match e with | .exit _ => none | _ => resC Try.prog Try.f22 env F G k) .normal (mkE 127 [(0, .ptr (some s0)), (1, .ptr (some s1)), (5, .loc 0 0)]) [[.int .i64 b0_0, .int .i64 b0_1, .int .i64 b0_2, .int .i64 b0_3]] G =
  a_film_Film_Merge_0N O k (fun (s0 : GA) (s1 : GA) (s7 : Int) (s8 : Int) (b0_0 : Int) (b0_1 : Int) (b0_2 : Int) (b0_3 : Int) (G : GH) => stepN fuel (loopD Try.prog O lo22 fuel (nav (Try.f22.body.getD .skip) [1, 1, 1, 0]) 27 (mkE 127 [(0, .ptr (some s0)), (1, .ptr (some s1)), (5, .loc 0 0), (7, .int .i64 s7), (8, .int .i64 s8)]) [[.int .i64 b0_0, .int .i64 b0_1, .int .i64 b0_2, .int .i64 b0_3]] G (contC Try.prog O lo22 fuel (Try.f22.body.getD .skip) [1, 1, 1, 0] (fun e env F G => match e with | .exit _ => none | _ => resC Try.prog Try.f22 env F G k)))) s0 s1 b0_0 b0_1 b0_2 b0_3 G := by kernel_rfl

theorem L_film_Film_Merge_0_eq {R : Type} (O : Ora R) (fuel : Nat) (k : IV → GH → Option R) :
  (fun (s0 : GA) (s1 : GA) (b0_0 : Int) (b0_1 : Int) (b0_2 : Int) (b0_3 : Int) (G : GH) => stepN fuel (loopD Try.prog O lo22 fuel (nav (Try.f22.body.getD .skip) [1, 0]) 15 (mkE 127 [(0, .ptr (some s0)), (1, .ptr (some s1)), (5, .loc 0 0)]) [[.int .i64 b0_0, .int .i64 b0_1, .int .i64 b0_2, .int .i64 b0_3]] G (contC Try.prog O lo22 fuel (Try.f22.body.getD .skip) [1, 0] (fun e env F G => match e with | .exit _ => none | _ => resC Try.prog Try.f22 env F G k)))) = L_film_Film_Merge_0 O fuel k := by
  funext s0 s1 b0_0 b0_1 b0_2 b0_3 G
  simp only [L_film_Film_Merge_0, l_film_Film_Merge_0_eq]
  refine congrArg (stepN fuel) ?_
  refine congrFun (congrFun (congrFun (congrFun (congrFun (congrFun (congrFun ?_ _) _) _) _) _) _) _
  refine congrArg (l_film_Film_Merge_0 O) ?_
  funext s0 s1 b0_0 b0_1 b0_2 b0_3 G
  rw [← L_film_Film_Merge_1_eq]
  exact a_film_Film_Merge_0N_raw O fuel s0 s1 b0_0 b0_1 b0_2 b0_3 G k

theorem e_film_Film_Merge_raw {R : Type} (O : Ora R) (fuel : Nat) (p0 : GA) (p1 : GA) (p2_0 : Int) (p2_1 : Int) (p2_2 : Int) (p2_3 : Int) (G : GH) (k : IV → GH → Option R) :
  bodyC Try.prog O lo22 fuel Try.f22 [.ptr (some p0), .ptr (some p1), .agg [.int .i64 p2_0, .int .i64 p2_1, .int .i64 p2_2, .int .i64 p2_3]] G k =
  u_film_Film_Merge O k (fun (s0 : GA) (s1 : GA) (b0_0 : Int) (b0_1 : Int) (b0_2 : Int) (b0_3 : Int) (G : GH) => stepN fuel (loopD Try.prog O lo22 fuel (nav (Try.f22.body.getD .skip) [1, 0]) 15 (mkE 127 [(0, .ptr (some s0)), (1, .ptr (some s1)), (5, .loc 0 0)]) [[.int .i64 b0_0, .int .i64 b0_1, .int .i64 b0_2, .int .i64 b0_3]] G (contC Try.prog O lo22 fuel (Try.f22.body.getD .skip) [1, 0] (fun e env F G => match e with | .exit _ => none | _ => resC Try.prog Try.f22 env F G k)))) p0 p1 p2_0 p2_1 p2_2 p2_3 G := by kernel_rfl

theorem e_film_Film_Merge {R : Type} (O : Ora R) (fuel : Nat) (p0 : GA) (p1 : GA) (p2_0 : Int) (p2_1 : Int) (p2_2 : Int) (p2_3 : Int) (G : GH) (k : IV → GH → Option R) :
  bodyC Try.prog O lo22 fuel Try.f22 [.ptr (some p0), .ptr (some p1), .agg [.int .i64 p2_0, .int .i64 p2_1, .int .i64 p2_2, .int .i64 p2_3]] G k =
  u_film_Film_Merge O k (L_film_Film_Merge_0 O fuel k) p0 p1 p2_0 p2_1 p2_2 p2_3 G := by
  rw [e_film_Film_Merge_raw, L_film_Film_Merge_0_eq]

theorem r_film_Film_Merge {R : Type} (fuel n : Nat) (p0 : GA) (p1 : GA) (p2_0 : Int) (p2_1 : Int) (p2_2 : Int) (p2_3 : Int) (G : GH) (k : IV → GH → Option R) :
  runC Try.prog lo0 fuel (n + 1) 22 [.ptr (some p0), .ptr (some p1), .agg [.int .i64 p2_0, .int .i64 p2_1, .int .i64 p2_2, .int .i64 p2_3]] G k = bodyC Try.prog (runC Try.prog lo0 fuel n) lo22 fuel Try.f22 [.ptr (some p0), .ptr (some p1), .agg [.int .i64 p2_0, .int .i64 p2_1, .int .i64 p2_2, .int .i64 p2_3]] G k := run_body Try.func22 rfl rfl

/-! ### (*lantern/film.Film).Pixel -/
theorem e_film_Film_Pixel {R : Type} (O : Ora R) (fuel : Nat) (p0 : GA) (p1 : Int) (p2 : Int) (G : GH) (k : IV → GH → Option R) :
  bodyC Try.prog O [6, 777777] fuel Try.f23 [.ptr (some p0), .int .i64 p1, .int .i64 p2] G k =
  (ldPtr G (GA.add p0 0)).bind fun x1 =>
  O fn_image_Image_api_Pixel_At [.ptr x1, .int .i64 p1, .int .i64 p2] G fun v2 G3 =>
  (ivTup 2 v2).bind fun c4 =>
  (ivAgg 8 (c4.getD 0 undefI)).bind fun c5 =>
  (ivFloat .f64 (c5.getD 0 undefI)).bind fun x6 =>
  (ivFloat .f64 (c5.getD 1 undefI)).bind fun x7 =>
  (ivFloat .f64 (c5.getD 2 undefI)).bind fun x8 =>
  (ivFloat .f64 (c5.getD 3 undefI)).bind fun x9 =>
  (ivFloat .f64 (c5.getD 4 undefI)).bind fun x10 =>
  (ivFloat .f64 (c5.getD 5 undefI)).bind fun x11 =>
  (ivInt .i64 (c5.getD 6 undefI)).bind fun x12 =>
  (ivInt .i64 (c5.getD 7 undefI)).bind fun x13 =>
  (ivInt .i64 (c4.getD 1 undefI)).bind fun x14 =>
  k (.tuple [.agg [.float .f64 x6, .float .f64 x7, .float .f64 x8, .float .f64 x9, .float .f64 x10, .float .f64 x11, .int .i64 x12, .int .i64 x13], .int .i64 x14]) G3 := by kernel_rfl

theorem r_film_Film_Pixel {R : Type} (fuel n : Nat) (p0 : GA) (p1 : Int) (p2 : Int) (G : GH) (k : IV → GH → Option R) :
  runC Try.prog lo0 fuel (n + 1) 23 [.ptr (some p0), .int .i64 p1, .int .i64 p2] G k = bodyC Try.prog (runC Try.prog lo0 fuel n) [6, 777777] fuel Try.f23 [.ptr (some p0), .int .i64 p1, .int .i64 p2] G k := run_body Try.func23 rfl rfl

end Go.LI.Film
