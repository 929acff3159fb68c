/- What the interpreter gives for FilmNarrows (written by rnd.py). -/
import Derived.Test.YtmhoddmenfondaaSeatA
namespace Go.LI.Film
open Go.Proofs.Ytmhoddmenfondaa Go Go.Proofs Go.LI
set_option maxRecDepth 100000
set_option linter.unusedVariables false
set_option linter.unusedSimpArgs false
/-! ### lantern/lanternlaw19.FilmNarrows -/
def u_law19_FilmNarrows_0 {R : Type} (O : Ora R) (Kret : Bool → GH → Option R) (KN : Nat → Nat → GH → Option R) (s0 : Nat) (s1 : Nat) (G : GH) : Option R :=
  bif (!feq .f64 s0 s0) then
  Kret true G
  else
  bif (!feq .f64 s1 s1) then
  Kret true G
  else
  KN s0 s1 G

def l_law19_FilmNarrows_0 {R : Type} (O : Ora R) (Kret : Bool → GH → Option R) (KN : Nat → Nat → GH → Option R) : Nat → Nat → GH → Option R := fun (s0 : Nat) (s1 : Nat) G => u_law19_FilmNarrows_0 O Kret KN s0 s1 G

theorem u_law19_FilmNarrows_0_raw {R : Type} (O : Ora R) (fuel : Nat) (s0 : Nat) (s1 : Nat) (G : GH) (k : Ex → List IV → List (List IV) → GH → Option R) :
  loopD Try.prog O lo4 fuel (nav (Try.f4.body.getD .skip) [1, 1, 0]) 23 (mkE 90 [(0, .float .f64 s0), (1, .float .f64 s1)]) [] G k =
  u_law19_FilmNarrows_0 O (fun (s4 : Bool) (G : GH) => k .ret (mkE 90 [(4, .bool s4)]) [] G) (fun (s0 : Nat) (s1 : Nat) (G : GH) => k .normal (mkE 90 [(0, .float .f64 s0), (1, .float .f64 s1)]) [] G) s0 s1 G := by kernel_rfl

theorem l_law19_FilmNarrows_0_eq {R : Type} (O : Ora R) (fuel : Nat) (k : Ex → List IV → List (List IV) → GH → Option R) : ∀ (s0 : Nat) (s1 : Nat) (G : GH),
  loopD Try.prog O lo4 fuel (nav (Try.f4.body.getD .skip) [1, 1, 0]) 23 (mkE 90 [(0, .float .f64 s0), (1, .float .f64 s1)]) [] G k = l_law19_FilmNarrows_0 O (fun (s4 : Bool) (G : GH) => k .ret (mkE 90 [(4, .bool s4)]) [] G) (fun (s0 : Nat) (s1 : Nat) (G : GH) => k .normal (mkE 90 [(0, .float .f64 s0), (1, .float .f64 s1)]) [] G) s0 s1 G := by
  intros
  rw [u_law19_FilmNarrows_0_raw]
  simp only [l_law19_FilmNarrows_0]

def u_law19_FilmNarrows_1 {R : Type} (O : Ora R) (Kret : Bool → GH → Option R) (KN : Nat → Nat → GH → Option R) (s0 : Nat) (s1 : Nat) (s5 : Nat) (s6 : Nat) (G : GH) : Option R :=
  O fn_ref19_Narrow [.float .f64 s0] G fun v1 G2 =>
  (ivFloat .f64 v1).bind fun x3 =>
  bif (!feq .f64 s5 x3) then
  Kret false G2
  else
  (f2f .f64 s5 .f32).bind fun x4 =>
  (f2f .f32 x4 .f64).bind fun x5 =>
  bif (!feq .f64 x5 s5) then
  Kret false G2
  else
  bif (fle .f64 s0 s1) then
  bif (fgt .f64 s5 s6) then
  Kret false G2
  else
  KN s0 s5 G2
  else
  KN s0 s5 G2

def l_law19_FilmNarrows_1 {R : Type} (O : Ora R) (Kret : Bool → GH → Option R) (KN : Nat → Nat → GH → Option R) : Nat → Nat → Nat → Nat → GH → Option R := fun (s0 : Nat) (s1 : Nat) (s5 : Nat) (s6 : Nat) G => u_law19_FilmNarrows_1 O Kret KN s0 s1 s5 s6 G

theorem u_law19_FilmNarrows_1_raw {R : Type} (O : Ora R) (fuel : Nat) (s0 : Nat) (s1 : Nat) (s5 : Nat) (s6 : Nat) (G : GH) (k : Ex → List IV → List (List IV) → GH → Option R) :
  loopD Try.prog O lo4 fuel (nav (Try.f4.body.getD .skip) [1, 1, 1, 1, 0]) 35 (mkE 90 [(0, .float .f64 s0), (1, .float .f64 s1), (5, .float .f64 s5), (6, .float .f64 s6)]) [] G k =
  u_law19_FilmNarrows_1 O (fun (s4 : Bool) (G : GH) => k .ret (mkE 90 [(4, .bool s4)]) [] G) (fun (s0 : Nat) (s5 : Nat) (G : GH) => k .normal (mkE 90 [(0, .float .f64 s0), (5, .float .f64 s5)]) [] G) s0 s1 s5 s6 G := by kernel_rfl

theorem l_law19_FilmNarrows_1_eq {R : Type} (O : Ora R) (fuel : Nat) (k : Ex → List IV → List (List IV) → GH → Option R) : ∀ (s0 : Nat) (s1 : Nat) (s5 : Nat) (s6 : Nat) (G : GH),
  loopD Try.prog O lo4 fuel (nav (Try.f4.body.getD .skip) [1, 1, 1, 1, 0]) 35 (mkE 90 [(0, .float .f64 s0), (1, .float .f64 s1), (5, .float .f64 s5), (6, .float .f64 s6)]) [] G k = l_law19_FilmNarrows_1 O (fun (s4 : Bool) (G : GH) => k .ret (mkE 90 [(4, .bool s4)]) [] G) (fun (s0 : Nat) (s5 : Nat) (G : GH) => k .normal (mkE 90 [(0, .float .f64 s0), (5, .float .f64 s5)]) [] G) s0 s1 s5 s6 G := by
  intros
  rw [u_law19_FilmNarrows_1_raw]
  simp only [l_law19_FilmNarrows_1]

def u_law19_FilmNarrows_2 {R : Type} (O : Ora R) (Kret : Bool → GH → Option R) (KN : Nat → Nat → Nat → Nat → GH → Option R) (s0 : Nat) (s5 : Nat) (s8 : Nat) (s9 : Nat) (G : GH) : Option R :=
  O fn_math_IsInf [.float .f64 s0, .int .i64 (0 : Int)] G fun v1 G2 =>
  (ivBool v1).bind fun x3 =>
  bif x3 then
  Kret true G2
  else
  O fn_math_IsInf [.float .f64 s8, .int .i64 (0 : Int)] G2 fun v4 G5 =>
  (ivBool v4).bind fun x6 =>
  bif x6 then
  Kret true G5
  else
  O fn_math_IsInf [.float .f64 s9, .int .i64 (0 : Int)] G5 fun v7 G8 =>
  (ivBool v7).bind fun x9 =>
  bif x9 then
  Kret true G8
  else
  KN s0 s5 s8 s9 G8

def l_law19_FilmNarrows_2 {R : Type} (O : Ora R) (Kret : Bool → GH → Option R) (KN : Nat → Nat → Nat → Nat → GH → Option R) : Nat → Nat → Nat → Nat → GH → Option R := fun (s0 : Nat) (s5 : Nat) (s8 : Nat) (s9 : Nat) G => u_law19_FilmNarrows_2 O Kret KN s0 s5 s8 s9 G

theorem u_law19_FilmNarrows_2_raw {R : Type} (O : Ora R) (fuel : Nat) (s0 : Nat) (s5 : Nat) (s8 : Nat) (s9 : Nat) (G : GH) (k : Ex → List IV → List (List IV) → GH → Option R) :
  loopD Try.prog O lo4 fuel (nav (Try.f4.body.getD .skip) [1, 1, 1, 1, 1, 1, 1, 0]) 51 (mkE 90 [(0, .float .f64 s0), (5, .float .f64 s5), (8, .float .f64 s8), (9, .float .f64 s9)]) [] G k =
  u_law19_FilmNarrows_2 O (fun (s4 : Bool) (G : GH) => k .ret (mkE 90 [(4, .bool s4)]) [] G) (fun (s0 : Nat) (s5 : Nat) (s8 : Nat) (s9 : Nat) (G : GH) => k .normal (mkE 90 [(0, .float .f64 s0), (5, .float .f64 s5), (8, .float .f64 s8), (9, .float .f64 s9)]) [] G) s0 s5 s8 s9 G := by kernel_rfl

theorem l_law19_FilmNarrows_2_eq {R : Type} (O : Ora R) (fuel : Nat) (k : Ex → List IV → List (List IV) → GH → Option R) : ∀ (s0 : Nat) (s5 : Nat) (s8 : Nat) (s9 : Nat) (G : GH),
  loopD Try.prog O lo4 fuel (nav (Try.f4.body.getD .skip) [1, 1, 1, 1, 1, 1, 1, 0]) 51 (mkE 90 [(0, .float .f64 s0), (5, .float .f64 s5), (8, .float .f64 s8), (9, .float .f64 s9)]) [] G k = l_law19_FilmNarrows_2 O (fun (s4 : Bool) (G : GH) => k .ret (mkE 90 [(4, .bool s4)]) [] G) (fun (s0 : Nat) (s5 : Nat) (s8 : Nat) (s9 : Nat) (G : GH) => k .normal (mkE 90 [(0, .float .f64 s0), (5, .float .f64 s5), (8, .float .f64 s8), (9, .float .f64 s9)]) [] G) s0 s5 s8 s9 G := by
  intros
  rw [u_law19_FilmNarrows_2_raw]
  simp only [l_law19_FilmNarrows_2]

def u_law19_FilmNarrows {R : Type} (O : Ora R) (k : IV → GH → Option R) (L0 : Nat → Nat → GH → Option R) (p0 : Nat) (p1 : Nat) (G : GH) : Option R :=
  O fn_law19_Awake [] G fun v1 G2 =>
  (ivBool v1).bind fun x3 =>
  bif (!x3) then
  k (.bool false) G2
  else
  L0 p0 p1 G2

def a_law19_FilmNarrows_0ret {R : Type} (O : Ora R) (k : IV → GH → Option R) (s4 : Bool) (G : GH) : Option R :=
  k (.bool s4) G

def a_law19_FilmNarrows_0N {R : Type} (O : Ora R) (k : IV → GH → Option R) (L1 : Nat → Nat → Nat → Nat → GH → Option R) (s0 : Nat) (s1 : Nat) (G : GH) : Option R :=
  O fn_film_Narrow [.float .f64 s0] G fun v1 G2 =>
  (ivFloat .f64 v1).bind fun x3 =>
  O fn_film_Narrow [.float .f64 s1] G2 fun v4 G5 =>
  (ivFloat .f64 v4).bind fun x6 =>
  L1 s0 s1 x3 x6 G5

def a_law19_FilmNarrows_1ret {R : Type} (O : Ora R) (k : IV → GH → Option R) (s4 : Bool) (G : GH) : Option R :=
  k (.bool s4) G

def a_law19_FilmNarrows_1N {R : Type} (O : Ora R) (k : IV → GH → Option R) (L2 : Nat → Nat → Nat → Nat → GH → Option R) (s0 : Nat) (s5 : Nat) (G : GH) : Option R :=
  (f2f .f64 s5 .f32).bind fun x1 =>
  (f2f .f32 x1 .f64).bind fun x2 =>
  (f2f .f64 x2 .f32).bind fun x3 =>
  O fn_math_Inf [.int .i64 (1 : Int)] G fun v4 G5 =>
  (ivFloat .f64 v4).bind fun x6 =>
  (f2f .f64 x6 .f32).bind fun x7 =>
  O fn_math_Nextafter32 [.float .f32 x3, .float .f32 x7] G5 fun v8 G9 =>
  (ivFloat .f32 v8).bind fun x10 =>
  (f2f .f32 x10 .f64).bind fun x11 =>
  (f2f .f64 x2 .f32).bind fun x12 =>
  O fn_math_Inf [.int .i64 ((-1 : Int))] G9 fun v13 G14 =>
  (ivFloat .f64 v13).bind fun x15 =>
  (f2f .f64 x15 .f32).bind fun x16 =>
  O fn_math_Nextafter32 [.float .f32 x12, .float .f32 x16] G14 fun v17 G18 =>
  (ivFloat .f32 v17).bind fun x19 =>
  (f2f .f32 x19 .f64).bind fun x20 =>
  L2 s0 s5 x11 x20 G18

def a_law19_FilmNarrows_2ret {R : Type} (O : Ora R) (k : IV → GH → Option R) (s4 : Bool) (G : GH) : Option R :=
  k (.bool s4) G

def a_law19_FilmNarrows_2N {R : Type} (O : Ora R) (k : IV → GH → Option R) (s0 : Nat) (s5 : Nat) (s8 : Nat) (s9 : Nat) (G : GH) : Option R :=
  ((FloatKind.format .f64).sub s0 s5).bind fun r1 =>
  O fn_math_Abs [.float .f64 r1] G fun v2 G3 =>
  (ivFloat .f64 v2).bind fun x4 =>
  ((FloatKind.format .f64).sub s0 s8).bind fun r5 =>
  O fn_math_Abs [.float .f64 r5] G3 fun v6 G7 =>
  (ivFloat .f64 v6).bind fun x8 =>
  bif (fle .f64 x4 x8) then
  ((FloatKind.format .f64).sub s0 s5).bind fun r9 =>
  O fn_math_Abs [.float .f64 r9] G7 fun v10 G11 =>
  (ivFloat .f64 v10).bind fun x12 =>
  ((FloatKind.format .f64).sub s0 s9).bind fun r13 =>
  O fn_math_Abs [.float .f64 r13] G11 fun v14 G15 =>
  (ivFloat .f64 v14).bind fun x16 =>
  k (.bool (fle .f64 x12 x16)) G15
  else
  k (.bool false) G7

def L_law19_FilmNarrows_2 {R : Type} (O : Ora R) (fuel : Nat) (k : IV → GH → Option R) : Nat → Nat → Nat → Nat → GH → Option R := fun (s0 : Nat) (s5 : Nat) (s8 : Nat) (s9 : Nat) G =>
  stepN fuel (l_law19_FilmNarrows_2 O (a_law19_FilmNarrows_2ret O k) (a_law19_FilmNarrows_2N O k) s0 s5 s8 s9 G)

theorem a_law19_FilmNarrows_2ret_raw {R : Type} (O : Ora R) (fuel : Nat) (s4 : Bool) (G : GH) (k : IV → GH → Option R) :
  contC Try.prog O lo4 fuel (Try.f4.body.getD .skip) [1, 1, 1, 1, 1, 1, 1, 0] (fun e env F G => match e with | .exit _ => none | _ => resC Try.prog Try.f4 env F G k) .ret (mkE 90 [(4, .bool s4)]) [] G =
  a_law19_FilmNarrows_2ret O k s4 G := by kernel_rfl

theorem a_law19_FilmNarrows_2N_raw {R : Type} (O : Ora R) (fuel : Nat) (s0 : Nat) (s5 : Nat) (s8 : Nat) (s9 : Nat) (G : GH) (k : IV → GH → Option R) :
  contC Try.prog O lo4 fuel (Try.f4.body.getD .skip) [1, 1, 1, 1, 1, 1, 1, 0] (fun e env F G => match e with | .exit _ => none | _ => resC Try.prog Try.f4 env F G k) .normal (mkE 90 [(0, .float .f64 s0), (5, .float .f64 s5), (8, .float .f64 s8), (9, .float .f64 s9)]) [] G =
  a_law19_FilmNarrows_2N O k s0 s5 s8 s9 G := by kernel_rfl

theorem L_law19_FilmNarrows_2_eq {R : Type} (O : Ora R) (fuel : Nat) (k : IV → GH → Option R) :
  (fun (s0 : Nat) (s5 : Nat) (s8 : Nat) (s9 : Nat) (G : GH) => stepN fuel (loopD Try.prog O lo4 fuel (nav (Try.f4.body.getD .skip) [1, 1, 1, 1, 1, 1, 1, 0]) 51 (mkE 90 [(0, .float .f64 s0), (5, .float .f64 s5), (8, .float .f64 s8), (9, .float .f64 s9)]) [] G (contC Try.prog O lo4 fuel (Try.f4.body.getD .skip) [1, 1, 1, 1, 1, 1, 1, 0] (fun e env F G => match e with | .exit _ => none | _ => resC Try.prog Try.f4 env F G k)))) = L_law19_FilmNarrows_2 O fuel k := by
  funext s0 s5 s8 s9 G
  simp only [L_law19_FilmNarrows_2, l_law19_FilmNarrows_2_eq, a_law19_FilmNarrows_2ret_raw, a_law19_FilmNarrows_2N_raw]

def L_law19_FilmNarrows_1 {R : Type} (O : Ora R) (fuel : Nat) (k : IV → GH → Option R) : Nat → Nat → Nat → Nat → GH → Option R := fun (s0 : Nat) (s1 : Nat) (s5 : Nat) (s6 : Nat) G =>
  stepN fuel (l_law19_FilmNarrows_1 O (a_law19_FilmNarrows_1ret O k) (a_law19_FilmNarrows_1N O k (L_law19_FilmNarrows_2 O fuel k)) s0 s1 s5 s6 G)

theorem a_law19_FilmNarrows_1ret_raw {R : Type} (O : Ora R) (fuel : Nat) (s4 : Bool) (G : GH) (k : IV → GH → Option R) :
  contC Try.prog O lo4 fuel (Try.f4.body.getD .skip) [1, 1, 1, 1, 0] (fun e env F G => match e with | .exit _ => none | _ => resC Try.prog Try.f4 env F G k) .ret (mkE 90 [(4, .bool s4)]) [] G =
  a_law19_FilmNarrows_1ret O k s4 G := by kernel_rfl

theorem a_law19_FilmNarrows_1N_raw {R : Type} (O : Ora R) (fuel : Nat) (s0 : Nat) (s5 : Nat) (G : GH) (k : IV → GH → Option R) :
  contC Try.prog O lo4 fuel (Try.f4.body.getD .skip) [1, 1, 1, 1, 0] (fun e env F G => match e with | .exit _ => none | _ => resC Try.prog Try.f4 env F G k) .normal (mkE 90 [(0, .float .f64 s0), (5, .float .f64 s5)]) [] G =
  a_law19_FilmNarrows_1N O k (fun (s0 : Nat) (s5 : Nat) (s8 : Nat) (s9 : Nat) (G : GH) => stepN fuel (loopD Try.prog O lo4 fuel (nav (Try.f4.body.getD .skip) [1, 1, 1, 1, 1, 1, 1, 0]) 51 (mkE 90 [(0, .float .f64 s0), (5, .float .f64 s5), (8, .float .f64 s8), (9, .float .f64 s9)]) [] G (contC Try.prog O lo4 fuel (Try.f4.body.getD .skip) [1, 1, 1, 1, 1, 1, 1, 0] (fun e env F G => match e with | .exit _ => none | _ => resC Try.prog Try.f4 env F G k)))) s0 s5 G := by kernel_rfl

theorem L_law19_FilmNarrows_1_eq {R : Type} (O : Ora R) (fuel : Nat) (k : IV → GH → Option R) :
  (fun (s0 : Nat) (s1 : Nat) (s5 : Nat) (s6 : Nat) (G : GH) => stepN fuel (loopD Try.prog O lo4 fuel (nav (Try.f4.body.getD .skip) [1, 1, 1, 1, 0]) 35 (mkE 90 [(0, .float .f64 s0), (1, .float .f64 s1), (5, .float .f64 s5), (6, .float .f64 s6)]) [] G (contC Try.prog O lo4 fuel (Try.f4.body.getD .skip) [1, 1, 1, 1, 0] (fun e env F G => match e with | .exit _ => none | _ => resC Try.prog Try.f4 env F G k)))) = L_law19_FilmNarrows_1 O fuel k := by
  funext s0 s1 s5 s6 G
  simp only [L_law19_FilmNarrows_1, l_law19_FilmNarrows_1_eq, a_law19_FilmNarrows_1ret_raw, a_law19_FilmNarrows_1N_raw, L_law19_FilmNarrows_2_eq]

def L_law19_FilmNarrows_0 {R : Type} (O : Ora R) (fuel : Nat) (k : IV → GH → Option R) : Nat → Nat → GH → Option R := fun (s0 : Nat) (s1 : Nat) G =>
  stepN fuel (l_law19_FilmNarrows_0 O (a_law19_FilmNarrows_0ret O k) (a_law19_FilmNarrows_0N O k (L_law19_FilmNarrows_1 O fuel k)) s0 s1 G)

theorem a_law19_FilmNarrows_0ret_raw {R : Type} (O : Ora R) (fuel : Nat) (s4 : Bool) (G : GH) (k : IV → GH → Option R) :
  contC Try.prog O lo4 fuel (Try.f4.body.getD .skip) [1, 1, 0] (fun e env F G => match e with | .exit _ => none | _ => resC Try.prog Try.f4 env F G k) .ret (mkE 90 [(4, .bool s4)]) [] G =
  a_law19_FilmNarrows_0ret O k s4 G := by kernel_rfl

theorem a_law19_FilmNarrows_0N_raw {R : Type} (O : Ora R) (fuel : Nat) (s0 : Nat) (s1 : Nat) (G : GH) (k : IV → GH → Option R) :
  contC Try.prog O lo4 fuel (Try.f4.body.getD .skip) [1, 1, 0] (fun e env F G => match e with | .exit _ => none | _ => resC Try.prog Try.f4 env F G k) .normal (mkE 90 [(0, .float .f64 s0), (1, .float .f64 s1)]) [] G =
  a_law19_FilmNarrows_0N O k (fun (s0 : Nat) (s1 : Nat) (s5 : Nat) (s6 : Nat) (G : GH) => stepN fuel (loopD Try.prog O lo4 fuel (nav (Try.f4.body.getD .skip) [1, 1, 1, 1, 0]) 35 (mkE 90 [(0, .float .f64 s0), (1, .float .f64 s1), (5, .float .f64 s5), (6, .float .f64 s6)]) [] G (contC Try.prog O lo4 fuel (Try.f4.body.getD .skip) [1, 1, 1, 1, 0] (fun e env F G => match e with | .exit _ => none | _ => resC Try.prog Try.f4 env F G k)))) s0 s1 G := by kernel_rfl

theorem L_law19_FilmNarrows_0_eq {R : Type} (O : Ora R) (fuel : Nat) (k : IV → GH → Option R) :
  (fun (s0 : Nat) (s1 : Nat) (G : GH) => stepN fuel (loopD Try.prog O lo4 fuel (nav (Try.f4.body.getD .skip) [1, 1, 0]) 23 (mkE 90 [(0, .float .f64 s0), (1, .float .f64 s1)]) [] G (contC Try.prog O lo4 fuel (Try.f4.body.getD .skip) [1, 1, 0] (fun e env F G => match e with | .exit _ => none | _ => resC Try.prog Try.f4 env F G k)))) = L_law19_FilmNarrows_0 O fuel k := by
  funext s0 s1 G
  simp only [L_law19_FilmNarrows_0, l_law19_FilmNarrows_0_eq, a_law19_FilmNarrows_0ret_raw, a_law19_FilmNarrows_0N_raw, L_law19_FilmNarrows_1_eq]

theorem e_law19_FilmNarrows_raw {R : Type} (O : Ora R) (fuel : Nat) (p0 : Nat) (p1 : Nat) (G : GH) (k : IV → GH → Option R) :
  bodyC Try.prog O lo4 fuel Try.f4 [.float .f64 p0, .float .f64 p1] G k =
  u_law19_FilmNarrows O k (fun (s0 : Nat) (s1 : Nat) (G : GH) => stepN fuel (loopD Try.prog O lo4 fuel (nav (Try.f4.body.getD .skip) [1, 1, 0]) 23 (mkE 90 [(0, .float .f64 s0), (1, .float .f64 s1)]) [] G (contC Try.prog O lo4 fuel (Try.f4.body.getD .skip) [1, 1, 0] (fun e env F G => match e with | .exit _ => none | _ => resC Try.prog Try.f4 env F G k)))) p0 p1 G := by kernel_rfl

theorem e_law19_FilmNarrows {R : Type} (O : Ora R) (fuel : Nat) (p0 : Nat) (p1 : Nat) (G : GH) (k : IV → GH → Option R) :
  bodyC Try.prog O lo4 fuel Try.f4 [.float .f64 p0, .float .f64 p1] G k =
  u_law19_FilmNarrows O k (L_law19_FilmNarrows_0 O fuel k) p0 p1 G := by
  rw [e_law19_FilmNarrows_raw, L_law19_FilmNarrows_0_eq]

theorem r_law19_FilmNarrows {R : Type} (fuel n : Nat) (p0 : Nat) (p1 : Nat) (G : GH) (k : IV → GH → Option R) :
  runC Try.prog lo0 fuel (n + 1) 4 [.float .f64 p0, .float .f64 p1] G k = bodyC Try.prog (runC Try.prog lo0 fuel n) lo4 fuel Try.f4 [.float .f64 p0, .float .f64 p1] G k := run_body Try.func4 rfl rfl

/-! ### lantern/film.Narrow -/
theorem e_film_Narrow {R : Type} (O : Ora R) (fuel : Nat) (p0 : Nat) (G : GH) (k : IV → GH → Option R) :
  bodyC Try.prog O [777777] fuel Try.f13 [.float .f64 p0] G k =
  (fmin .f64 p0 (5183643170566569984 : Nat)).bind fun r1 =>
  (fmax .f64 r1 (14407015207421345792 : Nat)).bind fun r2 =>
  (f2f .f64 r2 .f32).bind fun x3 =>
  (f2f .f32 x3 .f64).bind fun x4 =>
  ((FloatKind.format .f64).add x4 (0 : Nat)).bind fun r5 =>
  k (.float .f64 r5) G := by kernel_rfl

theorem r_film_Narrow {R : Type} (fuel n : Nat) (p0 : Nat) (G : GH) (k : IV → GH → Option R) :
  runC Try.prog lo0 fuel (n + 1) 13 [.float .f64 p0] G k = bodyC Try.prog (runC Try.prog lo0 fuel n) [777777] fuel Try.f13 [.float .f64 p0] G k := run_body Try.func13 rfl rfl

/-! ### lantern/lanternref19.Narrow -/
theorem e_ref19_Narrow {R : Type} (O : Ora R) (fuel : Nat) (p0 : Nat) (G : GH) (k : IV → GH → Option R) :
  bodyC Try.prog O [777777] fuel Try.f14 [.float .f64 p0] G k =
  O fn_math_Float32frombits [.int .u32 (2139095039 : Int)] G fun v1 G2 =>
  (ivFloat .f32 v1).bind fun x3 =>
  (f2f .f32 x3 .f64).bind fun x4 =>
  bif (fgt .f64 p0 x4) then
  k (.float .f64 x4) G2
  else
  bif (flt .f64 p0 (Op.negFloat .f64 x4)) then
  k (.float .f64 (Op.negFloat .f64 x4)) G2
  else
  (f2f .f64 p0 .f32).bind fun x5 =>
  (f2f .f32 x5 .f64).bind fun x6 =>
  O fn_ref01_Zeroed [.float .f64 x6] G2 fun v7 G8 =>
  (ivFloat .f64 v7).bind fun x9 =>
  k (.float .f64 x9) G8 := by kernel_rfl

theorem r_ref19_Narrow {R : Type} (fuel n : Nat) (p0 : Nat) (G : GH) (k : IV → GH → Option R) :
  runC Try.prog lo0 fuel (n + 1) 14 [.float .f64 p0] G k = bodyC Try.prog (runC Try.prog lo0 fuel n) [777777] fuel Try.f14 [.float .f64 p0] G k := run_body Try.func14 rfl rfl

/-! ### math.Nextafter32 -/
def u_math_Nextafter32_0 {R : Type} (O : Ora R) (KN : Nat → Nat → Bool → GH → Option R) (s0 : Nat) (s1 : Nat) (G : GH) : Option R :=
  (f2f .f32 s0 .f64).bind fun x1 =>
  O fn_math_IsNaN [.float .f64 x1] G fun v2 G3 =>
  (ivBool v2).bind fun x4 =>
  bif x4 then
  KN s0 s1 true G3
  else
  (f2f .f32 s1 .f64).bind fun x5 =>
  O fn_math_IsNaN [.float .f64 x5] G3 fun v6 G7 =>
  (ivBool v6).bind fun x8 =>
  KN s0 s1 x8 G7

def l_math_Nextafter32_0 {R : Type} (O : Ora R) (KN : Nat → Nat → Bool → GH → Option R) : Nat → Nat → GH → Option R := fun (s0 : Nat) (s1 : Nat) G => u_math_Nextafter32_0 O KN s0 s1 G

theorem u_math_Nextafter32_0_raw {R : Type} (O : Ora R) (fuel : Nat) (s0 : Nat) (s1 : Nat) (G : GH) (k : Ex → List IV → List (List IV) → GH → Option R) :
  loopD Try.prog O lo15 fuel (nav (Try.f15.body.getD .skip) [1, 0, 0, 0]) 15 (mkE 45 [(0, .float .f32 s0), (1, .float .f32 s1)]) [] G k =
  u_math_Nextafter32_0 O (fun (s0 : Nat) (s1 : Nat) (s9 : Bool) (G : GH) => k .normal (mkE 45 [(0, .float .f32 s0), (1, .float .f32 s1), (9, .bool s9)]) [] G) s0 s1 G := by kernel_rfl

theorem l_math_Nextafter32_0_eq {R : Type} (O : Ora R) (fuel : Nat) (k : Ex → List IV → List (List IV) → GH → Option R) : ∀ (s0 : Nat) (s1 : Nat) (G : GH),
  loopD Try.prog O lo15 fuel (nav (Try.f15.body.getD .skip) [1, 0, 0, 0]) 15 (mkE 45 [(0, .float .f32 s0), (1, .float .f32 s1)]) [] G k = l_math_Nextafter32_0 O (fun (s0 : Nat) (s1 : Nat) (s9 : Bool) (G : GH) => k .normal (mkE 45 [(0, .float .f32 s0), (1, .float .f32 s1), (9, .bool s9)]) [] G) s0 s1 G := by
  intros
  rw [u_math_Nextafter32_0_raw]
  simp only [l_math_Nextafter32_0]

def u_math_Nextafter32 {R : Type} (O : Ora R) (k : IV → GH → Option R) (L0 : Nat → Nat → GH → Option R) (p0 : Nat) (p1 : Nat) (G : GH) : Option R :=
  L0 p0 p1 G

def a_math_Nextafter32_0N {R : Type} (O : Ora R) (k : IV → GH → Option R) (s0 : Nat) (s1 : Nat) (s9 : Bool) (G : GH) : Option R :=
  bif s9 then
  O fn_math_NaN [] G fun v1 G2 =>
  (ivFloat .f64 v1).bind fun x3 =>
  (f2f .f64 x3 .f32).bind fun x4 =>
  k (.float .f32 x4) G2
  else
  bif (feq .f32 s0 s1) then
  k (.float .f32 s0) G
  else
  bif (feq .f32 s0 (0 : Nat)) then
  O fn_math_Float32frombits [.int .u32 (1 : Int)] G fun v5 G6 =>
  (ivFloat .f32 v5).bind fun x7 =>
  (f2f .f32 x7 .f64).bind fun x8 =>
  (f2f .f32 s1 .f64).bind fun x9 =>
  O fn_math_Copysign [.float .f64 x8, .float .f64 x9] G6 fun v10 G11 =>
  (ivFloat .f64 v10).bind fun x12 =>
  (f2f .f64 x12 .f32).bind fun x13 =>
  k (.float .f32 x13) G11
  else
  bif ((fgt .f32 s1 s0) == (fgt .f32 s0 (0 : Nat))) then
  O fn_math_Float32bits [.float .f32 s0] G fun v14 G15 =>
  (ivInt .u32 v14).bind fun x16 =>
  O fn_math_Float32frombits [.int .u32 (IntKind.wrap .u32 (x16 + (1 : Int)))] G15 fun v17 G18 =>
  (ivFloat .f32 v17).bind fun x19 =>
  k (.float .f32 x19) G18
  else
  O fn_math_Float32bits [.float .f32 s0] G fun v20 G21 =>
  (ivInt .u32 v20).bind fun x22 =>
  O fn_math_Float32frombits [.int .u32 (IntKind.wrap .u32 (x22 - (1 : Int)))] G21 fun v23 G24 =>
  (ivFloat .f32 v23).bind fun x25 =>
  k (.float .f32 x25) G24

def L_math_Nextafter32_0 {R : Type} (O : Ora R) (fuel : Nat) (k : IV → GH → Option R) : Nat → Nat → GH → Option R := fun (s0 : Nat) (s1 : Nat) G =>
  stepN fuel (l_math_Nextafter32_0 O (a_math_Nextafter32_0N O k) s0 s1 G)

theorem a_math_Nextafter32_0N_raw {R : Type} (O : Ora R) (fuel : Nat) (s0 : Nat) (s1 : Nat) (s9 : Bool) (G : GH) (k : IV → GH → Option R) :
  contC Try.prog O lo15 fuel (Try.f15.body.getD .skip) [1, 0, 0, 0] (fun e env F G => match e with | .exit _ => none | _ => resC Try.prog Try.f15 env F G k) .normal (mkE 45 [(0, .float .f32 s0), (1, .float .f32 s1), (9, .bool s9)]) [] G =
  a_math_Nextafter32_0N O k s0 s1 s9 G := by kernel_rfl

theorem L_math_Nextafter32_0_eq {R : Type} (O : Ora R) (fuel : Nat) (k : IV → GH → Option R) :
  (fun (s0 : Nat) (s1 : Nat) (G : GH) => stepN fuel (loopD Try.prog O lo15 fuel (nav (Try.f15.body.getD .skip) [1, 0, 0, 0]) 15 (mkE 45 [(0, .float .f32 s0), (1, .float .f32 s1)]) [] G (contC Try.prog O lo15 fuel (Try.f15.body.getD .skip) [1, 0, 0, 0] (fun e env F G => match e with | .exit _ => none | _ => resC Try.prog Try.f15 env F G k)))) = L_math_Nextafter32_0 O fuel k := by
  funext s0 s1 G
  simp only [L_math_Nextafter32_0, l_math_Nextafter32_0_eq, a_math_Nextafter32_0N_raw]

theorem e_math_Nextafter32_raw {R : Type} (O : Ora R) (fuel : Nat) (p0 : Nat) (p1 : Nat) (G : GH) (k : IV → GH → Option R) :
  bodyC Try.prog O lo15 fuel Try.f15 [.float .f32 p0, .float .f32 p1] G k =
  u_math_Nextafter32 O k (fun (s0 : Nat) (s1 : Nat) (G : GH) => stepN fuel (loopD Try.prog O lo15 fuel (nav (Try.f15.body.getD .skip) [1, 0, 0, 0]) 15 (mkE 45 [(0, .float .f32 s0), (1, .float .f32 s1)]) [] G (contC Try.prog O lo15 fuel (Try.f15.body.getD .skip) [1, 0, 0, 0] (fun e env F G => match e with | .exit _ => none | _ => resC Try.prog Try.f15 env F G k)))) p0 p1 G := by kernel_rfl

theorem e_math_Nextafter32 {R : Type} (O : Ora R) (fuel : Nat) (p0 : Nat) (p1 : Nat) (G : GH) (k : IV → GH → Option R) :
  bodyC Try.prog O lo15 fuel Try.f15 [.float .f32 p0, .float .f32 p1] G k =
  u_math_Nextafter32 O k (L_math_Nextafter32_0 O fuel k) p0 p1 G := by
  rw [e_math_Nextafter32_raw, L_math_Nextafter32_0_eq]

theorem r_math_Nextafter32 {R : Type} (fuel n : Nat) (p0 : Nat) (p1 : Nat) (G : GH) (k : IV → GH → Option R) :
  runC Try.prog lo0 fuel (n + 1) 15 [.float .f32 p0, .float .f32 p1] G k = bodyC Try.prog (runC Try.prog lo0 fuel n) lo15 fuel Try.f15 [.float .f32 p0, .float .f32 p1] G k := run_body Try.func15 rfl rfl

end Go.LI.Film
