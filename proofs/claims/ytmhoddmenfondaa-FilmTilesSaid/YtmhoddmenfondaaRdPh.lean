/- What the interpreter gives for FilmTiles (written by rnd.py). -/
import Derived.Test.YtmhoddmenfondaaSeatA
namespace Go.LI.Film
open Go.Proofs.Ytmhoddmenfondaa Go Go.Proofs Go.LI
set_option maxRecDepth 100000
set_option linter.unusedVariables false
set_option linter.unusedSimpArgs false
/-! ### lantern/lanternlaw19.FilmTiles -/
def u_law19_FilmTiles_0 {R : Type} (O : Ora R) (Kret : Bool → GH → Option R) (KN : Int → Int → Option GA → Nat → Option GA → Option GA → Nat → Option GA → GH → Option R) (s0 : Int) (s1 : Int) (s3a : Option GA) (s3n : Nat) (s9 : Option GA) (s11 : Bool) (s12a : Option GA) (s12n : Nat) (s13 : Int) (s14 : Option GA) (s15 : Int) (G : GH) : Option R :=
  bif (!s11) then
  Kret false G
  else
  bif (s13 != (0 : Int)) then
  Kret false G
  else
  bif (s15 != (0 : Int)) then
  Kret false G
  else
  KN s0 s1 s3a s3n s9 s12a s12n s14 G

def l_law19_FilmTiles_0 {R : Type} (O : Ora R) (Kret : Bool → GH → Option R) (KN : Int → Int → Option GA → Nat → Option GA → Option GA → Nat → Option GA → GH → Option R) : Int → Int → Option GA → Nat → Option GA → Bool → Option GA → Nat → Int → Option GA → Int → GH → Option R := fun (s0 : Int) (s1 : Int) (s3a : Option GA) (s3n : Nat) (s9 : Option GA) (s11 : Bool) (s12a : Option GA) (s12n : Nat) (s13 : Int) (s14 : Option GA) (s15 : Int) G => u_law19_FilmTiles_0 O Kret KN s0 s1 s3a s3n s9 s11 s12a s12n s13 s14 s15 G

theorem u_law19_FilmTiles_0_raw {R : Type} (O : Ora R) (fuel : Nat) (s0 : Int) (s1 : Int) (s3a : Option GA) (s3n : Nat) (s9 : Option GA) (s11 : Bool) (s12a : Option GA) (s12n : Nat) (s13 : Int) (s14 : Option GA) (s15 : Int) (G : GH) (k : Ex → List IV → List (List IV) → GH → Option R) :
  loopD Try.prog O lo6 fuel (nav (Try.f6.body.getD .skip) [1, 1, 1, 1, 1, 1, 1, 0]) 47 (mkE 178 [(0, .int .i64 s0), (1, .int .i64 s1), (3, .slice s3a s3n), (9, .ptr s9), (11, .bool s11), (12, .slice s12a s12n), (13, .int .i64 s13), (14, .ptr s14), (15, .int .i64 s15)]) [] G k =
  u_law19_FilmTiles_0 O (fun (s8 : Bool) (G : GH) => k .ret (mkE 178 [(8, .bool s8)]) [] G) (fun (s0 : Int) (s1 : Int) (s3a : Option GA) (s3n : Nat) (s9 : Option GA) (s12a : Option GA) (s12n : Nat) (s14 : Option GA) (G : GH) => k .normal (mkE 178 [(0, .int .i64 s0), (1, .int .i64 s1), (3, .slice s3a s3n), (9, .ptr s9), (12, .slice s12a s12n), (14, .ptr s14)]) [] G) s0 s1 s3a s3n s9 s11 s12a s12n s13 s14 s15 G := by kernel_rfl

theorem l_law19_FilmTiles_0_eq {R : Type} (O : Ora R) (fuel : Nat) (k : Ex → List IV → List (List IV) → GH → Option R) : ∀ (s0 : Int) (s1 : Int) (s3a : Option GA) (s3n : Nat) (s9 : Option GA) (s11 : Bool) (s12a : Option GA) (s12n : Nat) (s13 : Int) (s14 : Option GA) (s15 : Int) (G : GH),
  loopD Try.prog O lo6 fuel (nav (Try.f6.body.getD .skip) [1, 1, 1, 1, 1, 1, 1, 0]) 47 (mkE 178 [(0, .int .i64 s0), (1, .int .i64 s1), (3, .slice s3a s3n), (9, .ptr s9), (11, .bool s11), (12, .slice s12a s12n), (13, .int .i64 s13), (14, .ptr s14), (15, .int .i64 s15)]) [] G k = l_law19_FilmTiles_0 O (fun (s8 : Bool) (G : GH) => k .ret (mkE 178 [(8, .bool s8)]) [] G) (fun (s0 : Int) (s1 : Int) (s3a : Option GA) (s3n : Nat) (s9 : Option GA) (s12a : Option GA) (s12n : Nat) (s14 : Option GA) (G : GH) => k .normal (mkE 178 [(0, .int .i64 s0), (1, .int .i64 s1), (3, .slice s3a s3n), (9, .ptr s9), (12, .slice s12a s12n), (14, .ptr s14)]) [] G) s0 s1 s3a s3n s9 s11 s12a s12n s13 s14 s15 G := by
  intros
  rw [u_law19_FilmTiles_0_raw]
  simp only [l_law19_FilmTiles_0]

def u_law19_FilmTiles_3 {R : Type} (O : Ora R) (KN : Int → Int → Option GA → Nat → Option GA → Option GA → Option GA → Int → Option GA → Nat → Int → Int → Int → Int → Int → Int → GH → Option R) (K2 : Int → Int → Option GA → Nat → Option GA → Option GA → Option GA → Option GA → Nat → Int → Int → Int → Int → Int → Int → GH → Option R) (s0 : Int) (s1 : Int) (s3a : Option GA) (s3n : Nat) (s9 : Option GA) (s14 : Option GA) (s18 : Option GA) (s20 : Int) (s77a : Option GA) (s77n : Nat) (s78 : Int) (s79 : Int) (b0_0 : Int) (b0_1 : Int) (b0_2 : Int) (b0_3 : Int) (G : GH) : Option R :=
  bif (decide (s20 < (s3n : Int))) then
  bif (decide (s20 < (200 : Int))) then
  KN s0 s1 s3a s3n s9 s14 s18 s20 s77a s77n s78 s79 b0_0 b0_1 b0_2 b0_3 G
  else
  K2 s0 s1 s3a s3n s9 s14 s18 s77a s77n s78 s79 b0_0 b0_1 b0_2 b0_3 G
  else
  K2 s0 s1 s3a s3n s9 s14 s18 s77a s77n s78 s79 b0_0 b0_1 b0_2 b0_3 G

def l_law19_FilmTiles_3 {R : Type} (O : Ora R) (KN : Int → Int → Option GA → Nat → Option GA → Option GA → Option GA → Int → Option GA → Nat → Int → Int → Int → Int → Int → Int → GH → Option R) (K2 : Int → Int → Option GA → Nat → Option GA → Option GA → Option GA → Option GA → Nat → Int → Int → Int → Int → Int → Int → GH → Option R) : Int → Int → Option GA → Nat → Option GA → Option GA → Option GA → Int → Option GA → Nat → Int → Int → Int → Int → Int → Int → GH → Option R := fun (s0 : Int) (s1 : Int) (s3a : Option GA) (s3n : Nat) (s9 : Option GA) (s14 : Option GA) (s18 : Option GA) (s20 : Int) (s77a : Option GA) (s77n : Nat) (s78 : Int) (s79 : Int) (b0_0 : Int) (b0_1 : Int) (b0_2 : Int) (b0_3 : Int) G => u_law19_FilmTiles_3 O KN K2 s0 s1 s3a s3n s9 s14 s18 s20 s77a s77n s78 s79 b0_0 b0_1 b0_2 b0_3 G

theorem u_law19_FilmTiles_3_raw {R : Type} (O : Ora R) (fuel : Nat) (s0 : Int) (s1 : Int) (s3a : Option GA) (s3n : Nat) (s9 : Option GA) (s14 : Option GA) (s18 : Option GA) (s20 : Int) (s77a : Option GA) (s77n : Nat) (s78 : Int) (s79 : Int) (b0_0 : Int) (b0_1 : Int) (b0_2 : Int) (b0_3 : Int) (G : GH) (k : Ex → List IV → List (List IV) → GH → Option R) :
  loopD Try.prog O lo6 fuel (nav (Try.f6.body.getD .skip) [1, 1, 1, 1, 1, 1, 1, 1, 0, 1, 0, 0, 1, 1, 0, 0, 1, 1, 1, 0, 1, 0, 0, 0]) 83 (mkE 178 [(0, .int .i64 s0), (1, .int .i64 s1), (3, .slice s3a s3n), (9, .ptr s9), (14, .ptr s14), (17, .loc 0 0), (18, .ptr s18), (20, .int .i64 s20), (77, .slice s77a s77n), (78, .int .i64 s78), (79, .int .i64 s79)]) [[.int .i64 b0_0, .int .i64 b0_1, .int .i64 b0_2, .int .i64 b0_3]] G k =
  u_law19_FilmTiles_3 O (fun (s0 : Int) (s1 : Int) (s3a : Option GA) (s3n : Nat) (s9 : Option GA) (s14 : Option GA) (s18 : Option GA) (s20 : Int) (s77a : Option GA) (s77n : Nat) (s78 : Int) (s79 : Int) (b0_0 : Int) (b0_1 : Int) (b0_2 : Int) (b0_3 : Int) (G : GH) => k .normal (mkE 178 [(0, .int .i64 s0), (1, .int .i64 s1), (3, .slice s3a s3n), (9, .ptr s9), (14, .ptr s14), (17, .loc 0 0), (18, .ptr s18), (20, .int .i64 s20), (77, .slice s77a s77n), (78, .int .i64 s78), (79, .int .i64 s79)]) [[.int .i64 b0_0, .int .i64 b0_1, .int .i64 b0_2, .int .i64 b0_3]] G) (fun (s0 : Int) (s1 : Int) (s3a : Option GA) (s3n : Nat) (s9 : Option GA) (s14 : Option GA) (s18 : Option GA) (s77a : Option GA) (s77n : Nat) (s78 : Int) (s79 : Int) (b0_0 : Int) (b0_1 : Int) (b0_2 : Int) (b0_3 : Int) (G : GH) => k (.exit 2) (mkE 178 [(0, .int .i64 s0), (1, .int .i64 s1), (3, .slice s3a s3n), (9, .ptr s9), (14, .ptr s14), (17, .loc 0 0), (18, .ptr s18), (77, .slice s77a s77n), (78, .int .i64 s78), (79, .int .i64 s79)]) [[.int .i64 b0_0, .int .i64 b0_1, .int .i64 b0_2, .int .i64 b0_3]] G) s0 s1 s3a s3n s9 s14 s18 s20 s77a s77n s78 s79 b0_0 b0_1 b0_2 b0_3 G := by kernel_rfl

theorem l_law19_FilmTiles_3_eq {R : Type} (O : Ora R) (fuel : Nat) (k : Ex → List IV → List (List IV) → GH → Option R) : ∀ (s0 : Int) (s1 : Int) (s3a : Option GA) (s3n : Nat) (s9 : Option GA) (s14 : Option GA) (s18 : Option GA) (s20 : Int) (s77a : Option GA) (s77n : Nat) (s78 : Int) (s79 : Int) (b0_0 : Int) (b0_1 : Int) (b0_2 : Int) (b0_3 : Int) (G : GH),
  loopD Try.prog O lo6 fuel (nav (Try.f6.body.getD .skip) [1, 1, 1, 1, 1, 1, 1, 1, 0, 1, 0, 0, 1, 1, 0, 0, 1, 1, 1, 0, 1, 0, 0, 0]) 83 (mkE 178 [(0, .int .i64 s0), (1, .int .i64 s1), (3, .slice s3a s3n), (9, .ptr s9), (14, .ptr s14), (17, .loc 0 0), (18, .ptr s18), (20, .int .i64 s20), (77, .slice s77a s77n), (78, .int .i64 s78), (79, .int .i64 s79)]) [[.int .i64 b0_0, .int .i64 b0_1, .int .i64 b0_2, .int .i64 b0_3]] G k = l_law19_FilmTiles_3 O (fun (s0 : Int) (s1 : Int) (s3a : Option GA) (s3n : Nat) (s9 : Option GA) (s14 : Option GA) (s18 : Option GA) (s20 : Int) (s77a : Option GA) (s77n : Nat) (s78 : Int) (s79 : Int) (b0_0 : Int) (b0_1 : Int) (b0_2 : Int) (b0_3 : Int) (G : GH) => k .normal (mkE 178 [(0, .int .i64 s0), (1, .int .i64 s1), (3, .slice s3a s3n), (9, .ptr s9), (14, .ptr s14), (17, .loc 0 0), (18, .ptr s18), (20, .int .i64 s20), (77, .slice s77a s77n), (78, .int .i64 s78), (79, .int .i64 s79)]) [[.int .i64 b0_0, .int .i64 b0_1, .int .i64 b0_2, .int .i64 b0_3]] G) (fun (s0 : Int) (s1 : Int) (s3a : Option GA) (s3n : Nat) (s9 : Option GA) (s14 : Option GA) (s18 : Option GA) (s77a : Option GA) (s77n : Nat) (s78 : Int) (s79 : Int) (b0_0 : Int) (b0_1 : Int) (b0_2 : Int) (b0_3 : Int) (G : GH) => k (.exit 2) (mkE 178 [(0, .int .i64 s0), (1, .int .i64 s1), (3, .slice s3a s3n), (9, .ptr s9), (14, .ptr s14), (17, .loc 0 0), (18, .ptr s18), (77, .slice s77a s77n), (78, .int .i64 s78), (79, .int .i64 s79)]) [[.int .i64 b0_0, .int .i64 b0_1, .int .i64 b0_2, .int .i64 b0_3]] G) s0 s1 s3a s3n s9 s14 s18 s20 s77a s77n s78 s79 b0_0 b0_1 b0_2 b0_3 G := by
  intros
  rw [u_law19_FilmTiles_3_raw]
  simp only [l_law19_FilmTiles_3]

def u_law19_FilmTiles_2 {R : Type} (O : Ora R) (KN : Int → Int → Option GA → Nat → Option GA → Option GA → Option GA → Int → Option GA → Nat → Int → Int → Int → Int → Int → Int → GH → Option R) (K2 : Int → Int → Option GA → Nat → Option GA → Option GA → Option GA → Option GA → Nat → Int → Int → Int → Int → Int → Int → GH → Option R) (L3 : Int → Int → Option GA → Nat → Option GA → Option GA → Option GA → Int → Option GA → Nat → Int → Int → Int → Int → Int → Int → GH → Option R) (s0 : Int) (s1 : Int) (s3a : Option GA) (s3n : Nat) (s9 : Option GA) (s14 : Option GA) (s18 : Option GA) (s20 : Int) (s77a : Option GA) (s77n : Nat) (s78 : Int) (s79 : Int) (b0_0 : Int) (b0_1 : Int) (b0_2 : Int) (b0_3 : Int) (G : GH) : Option R :=
  L3 s0 s1 s3a s3n s9 s14 s18 s20 s77a s77n s78 s79 b0_0 b0_1 b0_2 b0_3 G

def a_law19_FilmTiles_3N {R : Type} (O : Ora R) (KN : Int → Int → Option GA → Nat → Option GA → Option GA → Option GA → Int → Option GA → Nat → Int → Int → Int → Int → Int → Int → GH → Option R) (K2 : Int → Int → Option GA → Nat → Option GA → Option GA → Option GA → Option GA → Nat → Int → Int → Int → Int → Int → Int → GH → Option R) (s0 : Int) (s1 : Int) (s3a : Option GA) (s3n : Nat) (s9 : Option GA) (s14 : Option GA) (s18 : Option GA) (s20 : Int) (s77a : Option GA) (s77n : Nat) (s78 : Int) (s79 : Int) (b0_0 : Int) (b0_1 : Int) (b0_2 : Int) (b0_3 : Int) (G : GH) : Option R :=
  (idx? s3a s3n s20 9).bind fun a1 =>
  (ldInt G .i64 (GA.add a1 0)).bind fun x2 =>
  (idx? s3a s3n s20 9).bind fun a3 =>
  (ldInt G .i64 (GA.add a3 1)).bind fun x4 =>
  (idx? s3a s3n s20 9).bind fun a5 =>
  (ldFloat G .f64 (GA.add (GA.add a5 2) 0)).bind fun x6 =>
  (ldFloat G .f64 (GA.add (GA.add a5 2) 1)).bind fun x7 =>
  (ldFloat G .f64 (GA.add (GA.add a5 2) 2)).bind fun x8 =>
  (ldFloat G .f64 (GA.add (GA.add a5 2) 3)).bind fun x9 =>
  (ldFloat G .f64 (GA.add (GA.add a5 2) 4)).bind fun x10 =>
  (ldFloat G .f64 (GA.add (GA.add a5 2) 5)).bind fun x11 =>
  (idx? s3a s3n s20 9).bind fun a12 =>
  (ldBool G (GA.add a12 8)).bind fun x13 =>
  O fn_film_Film_Add [.ptr s18, .int .i64 (IntKind.wrap .i64 (x2 - b0_0)), .int .i64 (IntKind.wrap .i64 (x4 - b0_1)), .agg [.float .f64 x6, .float .f64 x7, .float .f64 x8, .float .f64 x9, .float .f64 x10, .float .f64 x11, .bool (!x13), .slice none 0]] G fun v14 G15 =>
  (ivInt .i64 v14).bind fun x16 =>
  KN s0 s1 s3a s3n s9 s14 s18 (IntKind.wrap .i64 (s20 + (1 : Int))) s77a s77n s78 s79 b0_0 b0_1 b0_2 b0_3 G15

def a_law19_FilmTiles_32 {R : Type} (O : Ora R) (KN : Int → Int → Option GA → Nat → Option GA → Option GA → Option GA → Int → Option GA → Nat → Int → Int → Int → Int → Int → Int → GH → Option R) (K2 : Int → Int → Option GA → Nat → Option GA → Option GA → Option GA → Option GA → Nat → Int → Int → Int → Int → Int → Int → GH → Option R) (s0 : Int) (s1 : Int) (s3a : Option GA) (s3n : Nat) (s9 : Option GA) (s14 : Option GA) (s18 : Option GA) (s77a : Option GA) (s77n : Nat) (s78 : Int) (s79 : Int) (b0_0 : Int) (b0_1 : Int) (b0_2 : Int) (b0_3 : Int) (G : GH) : Option R :=
  K2 s0 s1 s3a s3n s9 s14 s18 s77a s77n s78 s79 b0_0 b0_1 b0_2 b0_3 G

def L_law19_FilmTiles_3 {R : Type} (O : Ora R) (fuel : Nat) (KN : Int → Int → Option GA → Nat → Option GA → Option GA → Option GA → Int → Option GA → Nat → Int → Int → Int → Int → Int → Int → GH → Option R) (K2 : Int → Int → Option GA → Nat → Option GA → Option GA → Option GA → Option GA → Nat → Int → Int → Int → Int → Int → Int → GH → Option R) : Int → Int → Option GA → Nat → Option GA → Option GA → Option GA → Int → Option GA → Nat → Int → Int → Int → Int → Int → Int → GH → Option R := fun (s0 : Int) (s1 : Int) (s3a : Option GA) (s3n : Nat) (s9 : Option GA) (s14 : Option GA) (s18 : Option GA) (s20 : Int) (s77a : Option GA) (s77n : Nat) (s78 : Int) (s79 : Int) (b0_0 : Int) (b0_1 : Int) (b0_2 : Int) (b0_3 : Int) G =>
  stepN fuel (l_law19_FilmTiles_3 O (a_law19_FilmTiles_3N O KN K2) (a_law19_FilmTiles_32 O KN K2) s0 s1 s3a s3n s9 s14 s18 s20 s77a s77n s78 s79 b0_0 b0_1 b0_2 b0_3 G)

theorem a_law19_FilmTiles_3N_raw {R : Type} (O : Ora R) (fuel : Nat) (s0 : Int) (s1 : Int) (s3a : Option GA) (s3n : Nat) (s9 : Option GA) (s14 : Option GA) (s18 : Option GA) (s20 : Int) (s77a : Option GA) (s77n : Nat) (s78 : Int) (s79 : Int) (b0_0 : Int) (b0_1 : Int) (b0_2 : Int) (b0_3 : Int) (G : GH) (k : Ex → List IV → List (List IV) → GH → Option R) :
  contC Try.prog O lo6 fuel (nav (Try.f6.body.getD .skip) [1, 1, 1, 1, 1, 1, 1, 1, 0, 1, 0, 0, 1, 1, 0, 0, 1, 1, 1, 0, 1, 0, 0]) [0] (kpD lo6 72 1 k) .normal (mkE 178 [(0, .int .i64 s0), (1, .int .i64 s1), (3, .slice s3a s3n), (9, .ptr s9), (14, .ptr s14), (17, .loc 0 0), (18, .ptr s18), (20, .int .i64 s20), (77, .slice s77a s77n), (78, .int .i64 s78), (79, .int .i64 s79)]) [[.int .i64 b0_0, .int .i64 b0_1, .int .i64 b0_2, .int .i64 b0_3]] G =
  a_law19_FilmTiles_3N O (fun (s0 : Int) (s1 : Int) (s3a : Option GA) (s3n : Nat) (s9 : Option GA) (s14 : Option GA) (s18 : Option GA) (s20 : Int) (s77a : Option GA) (s77n : Nat) (s78 : Int) (s79 : Int) (b0_0 : Int) (b0_1 : Int) (b0_2 : Int) (b0_3 : Int) (G : GH) => k .normal (mkE 178 [(0, .int .i64 s0), (1, .int .i64 s1), (3, .slice s3a s3n), (9, .ptr s9), (14, .ptr s14), (17, .loc 0 0), (18, .ptr s18), (20, .int .i64 s20), (77, .slice s77a s77n), (78, .int .i64 s78), (79, .int .i64 s79)]) [[.int .i64 b0_0, .int .i64 b0_1, .int .i64 b0_2, .int .i64 b0_3]] G) (fun (s0 : Int) (s1 : Int) (s3a : Option GA) (s3n : Nat) (s9 : Option GA) (s14 : Option GA) (s18 : Option GA) (s77a : Option GA) (s77n : Nat) (s78 : Int) (s79 : Int) (b0_0 : Int) (b0_1 : Int) (b0_2 : Int) (b0_3 : Int) (G : GH) => k (.exit 2) (mkE 178 [(0, .int .i64 s0), (1, .int .i64 s1), (3, .slice s3a s3n), (9, .ptr s9), (14, .ptr s14), (17, .loc 0 0), (18, .ptr s18), (77, .slice s77a s77n), (78, .int .i64 s78), (79, .int .i64 s79)]) [[.int .i64 b0_0, .int .i64 b0_1, .int .i64 b0_2, .int .i64 b0_3]] G) s0 s1 s3a s3n s9 s14 s18 s20 s77a s77n s78 s79 b0_0 b0_1 b0_2 b0_3 G := by kernel_rfl

theorem a_law19_FilmTiles_32_raw {R : Type} (O : Ora R) (fuel : Nat) (s0 : Int) (s1 : Int) (s3a : Option GA) (s3n : Nat) (s9 : Option GA) (s14 : Option GA) (s18 : Option GA) (s77a : Option GA) (s77n : Nat) (s78 : Int) (s79 : Int) (b0_0 : Int) (b0_1 : Int) (b0_2 : Int) (b0_3 : Int) (G : GH) (k : Ex → List IV → List (List IV) → GH → Option R) :
  contC Try.prog O lo6 fuel (nav (Try.f6.body.getD .skip) [1, 1, 1, 1, 1, 1, 1, 1, 0, 1, 0, 0, 1, 1, 0, 0, 1, 1, 1, 0, 1, 0, 0]) [0] (kpD lo6 72 1 k) (.exit 2) (mkE 178 [(0, .int .i64 s0), (1, .int .i64 s1), (3, .slice s3a s3n), (9, .ptr s9), (14, .ptr s14), (17, .loc 0 0), (18, .ptr s18), (77, .slice s77a s77n), (78, .int .i64 s78), (79, .int .i64 s79)]) [[.int .i64 b0_0, .int .i64 b0_1, .int .i64 b0_2, .int .i64 b0_3]] G =
  a_law19_FilmTiles_32 O (fun (s0 : Int) (s1 : Int) (s3a : Option GA) (s3n : Nat) (s9 : Option GA) (s14 : Option GA) (s18 : Option GA) (s20 : Int) (s77a : Option GA) (s77n : Nat) (s78 : Int) (s79 : Int) (b0_0 : Int) (b0_1 : Int) (b0_2 : Int) (b0_3 : Int) (G : GH) => k .normal (mkE 178 [(0, .int .i64 s0), (1, .int .i64 s1), (3, .slice s3a s3n), (9, .ptr s9), (14, .ptr s14), (17, .loc 0 0), (18, .ptr s18), (20, .int .i64 s20), (77, .slice s77a s77n), (78, .int .i64 s78), (79, .int .i64 s79)]) [[.int .i64 b0_0, .int .i64 b0_1, .int .i64 b0_2, .int .i64 b0_3]] G) (fun (s0 : Int) (s1 : Int) (s3a : Option GA) (s3n : Nat) (s9 : Option GA) (s14 : Option GA) (s18 : Option GA) (s77a : Option GA) (s77n : Nat) (s78 : Int) (s79 : Int) (b0_0 : Int) (b0_1 : Int) (b0_2 : Int) (b0_3 : Int) (G : GH) => k (.exit 2) (mkE 178 [(0, .int .i64 s0), (1, .int .i64 s1), (3, .slice s3a s3n), (9, .ptr s9), (14, .ptr s14), (17, .loc 0 0), (18, .ptr s18), (77, .slice s77a s77n), (78, .int .i64 s78), (79, .int .i64 s79)]) [[.int .i64 b0_0, .int .i64 b0_1, .int .i64 b0_2, .int .i64 b0_3]] G) s0 s1 s3a s3n s9 s14 s18 s77a s77n s78 s79 b0_0 b0_1 b0_2 b0_3 G := by kernel_rfl

theorem L_law19_FilmTiles_3_eq {R : Type} (O : Ora R) (fuel : Nat) (k : Ex → List IV → List (List IV) → GH → Option R) :
  (fun (s0 : Int) (s1 : Int) (s3a : Option GA) (s3n : Nat) (s9 : Option GA) (s14 : Option GA) (s18 : Option GA) (s20 : Int) (s77a : Option GA) (s77n : Nat) (s78 : Int) (s79 : Int) (b0_0 : Int) (b0_1 : Int) (b0_2 : Int) (b0_3 : Int) (G : GH) => stepN fuel (loopD Try.prog O lo6 fuel (nav (Try.f6.body.getD .skip) [1, 1, 1, 1, 1, 1, 1, 1, 0, 1, 0, 0, 1, 1, 0, 0, 1, 1, 1, 0, 1, 0, 0, 0]) 83 (mkE 178 [(0, .int .i64 s0), (1, .int .i64 s1), (3, .slice s3a s3n), (9, .ptr s9), (14, .ptr s14), (17, .loc 0 0), (18, .ptr s18), (20, .int .i64 s20), (77, .slice s77a s77n), (78, .int .i64 s78), (79, .int .i64 s79)]) [[.int .i64 b0_0, .int .i64 b0_1, .int .i64 b0_2, .int .i64 b0_3]] G (contC Try.prog O lo6 fuel (nav (Try.f6.body.getD .skip) [1, 1, 1, 1, 1, 1, 1, 1, 0, 1, 0, 0, 1, 1, 0, 0, 1, 1, 1, 0, 1, 0, 0]) [0] (kpD lo6 72 1 k)))) = L_law19_FilmTiles_3 O fuel (fun (s0 : Int) (s1 : Int) (s3a : Option GA) (s3n : Nat) (s9 : Option GA) (s14 : Option GA) (s18 : Option GA) (s20 : Int) (s77a : Option GA) (s77n : Nat) (s78 : Int) (s79 : Int) (b0_0 : Int) (b0_1 : Int) (b0_2 : Int) (b0_3 : Int) (G : GH) => k .normal (mkE 178 [(0, .int .i64 s0), (1, .int .i64 s1), (3, .slice s3a s3n), (9, .ptr s9), (14, .ptr s14), (17, .loc 0 0), (18, .ptr s18), (20, .int .i64 s20), (77, .slice s77a s77n), (78, .int .i64 s78), (79, .int .i64 s79)]) [[.int .i64 b0_0, .int .i64 b0_1, .int .i64 b0_2, .int .i64 b0_3]] G) (fun (s0 : Int) (s1 : Int) (s3a : Option GA) (s3n : Nat) (s9 : Option GA) (s14 : Option GA) (s18 : Option GA) (s77a : Option GA) (s77n : Nat) (s78 : Int) (s79 : Int) (b0_0 : Int) (b0_1 : Int) (b0_2 : Int) (b0_3 : Int) (G : GH) => k (.exit 2) (mkE 178 [(0, .int .i64 s0), (1, .int .i64 s1), (3, .slice s3a s3n), (9, .ptr s9), (14, .ptr s14), (17, .loc 0 0), (18, .ptr s18), (77, .slice s77a s77n), (78, .int .i64 s78), (79, .int .i64 s79)]) [[.int .i64 b0_0, .int .i64 b0_1, .int .i64 b0_2, .int .i64 b0_3]] G) := by
  funext s0 s1 s3a s3n s9 s14 s18 s20 s77a s77n s78 s79 b0_0 b0_1 b0_2 b0_3 G
  simp only [L_law19_FilmTiles_3, l_law19_FilmTiles_3_eq]
  refine congrArg (stepN fuel) ?_
  refine congrFun (congrFun (congrFun (congrFun (congrFun (congrFun (congrFun (congrFun (congrFun (congrFun (congrFun (congrFun (congrFun (congrFun (congrFun (congrFun (congrFun ?_ _) _) _) _) _) _) _) _) _) _) _) _) _) _) _) _) _
  refine congr (congrArg (l_law19_FilmTiles_3 O) ?_) ?_
  · funext s0 s1 s3a s3n s9 s14 s18 s20 s77a s77n s78 s79 b0_0 b0_1 b0_2 b0_3 G
    exact a_law19_FilmTiles_3N_raw O fuel s0 s1 s3a s3n s9 s14 s18 s20 s77a s77n s78 s79 b0_0 b0_1 b0_2 b0_3 G k
  · funext s0 s1 s3a s3n s9 s14 s18 s77a s77n s78 s79 b0_0 b0_1 b0_2 b0_3 G
    exact a_law19_FilmTiles_32_raw O fuel s0 s1 s3a s3n s9 s14 s18 s77a s77n s78 s79 b0_0 b0_1 b0_2 b0_3 G k

def l_law19_FilmTiles_2 {R : Type} (O : Ora R) (fuel : Nat) (K2 : Int → Int → Option GA → Nat → Option GA → Option GA → Option GA → Option GA → Nat → Int → Int → Int → Int → Int → Int → GH → Option R) : Nat → Int → Int → Option GA → Nat → Option GA → Option GA → Option GA → Int → Option GA → Nat → Int → Int → Int → Int → Int → Int → GH → Option R
  | 0, _, _, _, _, _, _, _, _, _, _, _, _, _, _, _, _, _ => none
  | n + 1, s0, s1, s3a, s3n, s9, s14, s18, s20, s77a, s77n, s78, s79, b0_0, b0_1, b0_2, b0_3, G => u_law19_FilmTiles_2 O (l_law19_FilmTiles_2 O fuel K2 n) K2 (L_law19_FilmTiles_3 O fuel (l_law19_FilmTiles_2 O fuel K2 n) K2) s0 s1 s3a s3n s9 s14 s18 s20 s77a s77n s78 s79 b0_0 b0_1 b0_2 b0_3 G

theorem u_law19_FilmTiles_2_raw {R : Type} (O : Ora R) (fuel : Nat) (s0 : Int) (s1 : Int) (s3a : Option GA) (s3n : Nat) (s9 : Option GA) (s14 : Option GA) (s18 : Option GA) (s20 : Int) (s77a : Option GA) (s77n : Nat) (s78 : Int) (s79 : Int) (b0_0 : Int) (b0_1 : Int) (b0_2 : Int) (b0_3 : Int) (G : GH) (k : Ex → List IV → List (List IV) → GH → Option R) :
  loopD Try.prog O lo6 fuel (nav (Try.f6.body.getD .skip) [1, 1, 1, 1, 1, 1, 1, 1, 0, 1, 0, 0, 1, 1, 0, 0, 1, 1, 1, 0, 1, 0, 0]) 72 (mkE 178 [(0, .int .i64 s0), (1, .int .i64 s1), (3, .slice s3a s3n), (9, .ptr s9), (14, .ptr s14), (17, .loc 0 0), (18, .ptr s18), (20, .int .i64 s20), (77, .slice s77a s77n), (78, .int .i64 s78), (79, .int .i64 s79)]) [[.int .i64 b0_0, .int .i64 b0_1, .int .i64 b0_2, .int .i64 b0_3]] G k =
  u_law19_FilmTiles_2 O (fun (s0 : Int) (s1 : Int) (s3a : Option GA) (s3n : Nat) (s9 : Option GA) (s14 : Option GA) (s18 : Option GA) (s20 : Int) (s77a : Option GA) (s77n : Nat) (s78 : Int) (s79 : Int) (b0_0 : Int) (b0_1 : Int) (b0_2 : Int) (b0_3 : Int) (G : GH) => k .normal (mkE 178 [(0, .int .i64 s0), (1, .int .i64 s1), (3, .slice s3a s3n), (9, .ptr s9), (14, .ptr s14), (17, .loc 0 0), (18, .ptr s18), (20, .int .i64 s20), (77, .slice s77a s77n), (78, .int .i64 s78), (79, .int .i64 s79)]) [[.int .i64 b0_0, .int .i64 b0_1, .int .i64 b0_2, .int .i64 b0_3]] G) (fun (s0 : Int) (s1 : Int) (s3a : Option GA) (s3n : Nat) (s9 : Option GA) (s14 : Option GA) (s18 : Option GA) (s77a : Option GA) (s77n : Nat) (s78 : Int) (s79 : Int) (b0_0 : Int) (b0_1 : Int) (b0_2 : Int) (b0_3 : Int) (G : GH) => k (.exit 2) (mkE 178 [(0, .int .i64 s0), (1, .int .i64 s1), (3, .slice s3a s3n), (9, .ptr s9), (14, .ptr s14), (17, .loc 0 0), (18, .ptr s18), (77, .slice s77a s77n), (78, .int .i64 s78), (79, .int .i64 s79)]) [[.int .i64 b0_0, .int .i64 b0_1, .int .i64 b0_2, .int .i64 b0_3]] G) (fun (s0 : Int) (s1 : Int) (s3a : Option GA) (s3n : Nat) (s9 : Option GA) (s14 : Option GA) (s18 : Option GA) (s20 : Int) (s77a : Option GA) (s77n : Nat) (s78 : Int) (s79 : Int) (b0_0 : Int) (b0_1 : Int) (b0_2 : Int) (b0_3 : Int) (G : GH) => stepN fuel (loopD Try.prog O lo6 fuel (nav (Try.f6.body.getD .skip) [1, 1, 1, 1, 1, 1, 1, 1, 0, 1, 0, 0, 1, 1, 0, 0, 1, 1, 1, 0, 1, 0, 0, 0]) 83 (mkE 178 [(0, .int .i64 s0), (1, .int .i64 s1), (3, .slice s3a s3n), (9, .ptr s9), (14, .ptr s14), (17, .loc 0 0), (18, .ptr s18), (20, .int .i64 s20), (77, .slice s77a s77n), (78, .int .i64 s78), (79, .int .i64 s79)]) [[.int .i64 b0_0, .int .i64 b0_1, .int .i64 b0_2, .int .i64 b0_3]] G (contC Try.prog O lo6 fuel (nav (Try.f6.body.getD .skip) [1, 1, 1, 1, 1, 1, 1, 1, 0, 1, 0, 0, 1, 1, 0, 0, 1, 1, 1, 0, 1, 0, 0]) [0] (kpD lo6 72 1 k)))) s0 s1 s3a s3n s9 s14 s18 s20 s77a s77n s78 s79 b0_0 b0_1 b0_2 b0_3 G := by kernel_rfl

theorem l_law19_FilmTiles_2_eq {R : Type} (O : Ora R) (fuel : Nat) (k : Ex → List IV → List (List IV) → GH → Option R) : ∀ (n : Nat) (s0 : Int) (s1 : Int) (s3a : Option GA) (s3n : Nat) (s9 : Option GA) (s14 : Option GA) (s18 : Option GA) (s20 : Int) (s77a : Option GA) (s77n : Nat) (s78 : Int) (s79 : Int) (b0_0 : Int) (b0_1 : Int) (b0_2 : Int) (b0_3 : Int) (G : GH),
  loopN (loopD Try.prog O lo6 fuel (nav (Try.f6.body.getD .skip) [1, 1, 1, 1, 1, 1, 1, 1, 0, 1, 0, 0, 1, 1, 0, 0, 1, 1, 1, 0, 1, 0, 0]) 72) n (mkE 178 [(0, .int .i64 s0), (1, .int .i64 s1), (3, .slice s3a s3n), (9, .ptr s9), (14, .ptr s14), (17, .loc 0 0), (18, .ptr s18), (20, .int .i64 s20), (77, .slice s77a s77n), (78, .int .i64 s78), (79, .int .i64 s79)]) [[.int .i64 b0_0, .int .i64 b0_1, .int .i64 b0_2, .int .i64 b0_3]] G k = l_law19_FilmTiles_2 O fuel (fun (s0 : Int) (s1 : Int) (s3a : Option GA) (s3n : Nat) (s9 : Option GA) (s14 : Option GA) (s18 : Option GA) (s77a : Option GA) (s77n : Nat) (s78 : Int) (s79 : Int) (b0_0 : Int) (b0_1 : Int) (b0_2 : Int) (b0_3 : Int) (G : GH) => k (.exit 2) (mkE 178 [(0, .int .i64 s0), (1, .int .i64 s1), (3, .slice s3a s3n), (9, .ptr s9), (14, .ptr s14), (17, .loc 0 0), (18, .ptr s18), (77, .slice s77a s77n), (78, .int .i64 s78), (79, .int .i64 s79)]) [[.int .i64 b0_0, .int .i64 b0_1, .int .i64 b0_2, .int .i64 b0_3]] G) n s0 s1 s3a s3n s9 s14 s18 s20 s77a s77n s78 s79 b0_0 b0_1 b0_2 b0_3 G := by
  intro n
  induction n with
  | zero => intros; rfl
  | succ n ih =>
    intros
    rw [loopN_succ, u_law19_FilmTiles_2_raw]
    simp only [l_law19_FilmTiles_2, loopK_normal, loopK_exit, loopK_ret, ih, L_law19_FilmTiles_3_eq]

def u_law19_FilmTiles_1 {R : Type} (O : Ora R) (Kret : Bool → GH → Option R) (KN : Int → Int → Option GA → Nat → Option GA → Option GA → Option GA → Nat → Int → Int → GH → Option R) (K0 : Int → Int → Option GA → Option GA → GH → Option R) (L2 : Int → Int → Option GA → Nat → Option GA → Option GA → Option GA → Int → Option GA → Nat → Int → Int → Int → Int → Int → Int → GH → Option R) (s0 : Int) (s1 : Int) (s3a : Option GA) (s3n : Nat) (s9 : Option GA) (s14 : Option GA) (s77a : Option GA) (s77n : Nat) (s78 : Int) (s79 : Int) (G : GH) : Option R :=
  bif (decide (s79 < s78)) then
  (idx? s77a s77n s79 4).bind fun a1 =>
  (ldInt G .i64 (GA.add a1 0)).bind fun x2 =>
  (ldInt G .i64 (GA.add a1 1)).bind fun x3 =>
  (ldInt G .i64 (GA.add a1 2)).bind fun x4 =>
  (ldInt G .i64 (GA.add a1 3)).bind fun x5 =>
  O fn_film_New [.int .i64 (IntKind.wrap .i64 (x4 - x2)), .int .i64 (IntKind.wrap .i64 (x5 - x3))] G fun v6 G7 =>
  (ivTup 2 v6).bind fun c8 =>
  (ivPtr (c8.getD 0 undefI)).bind fun x9 =>
  (ivInt .i64 (c8.getD 1 undefI)).bind fun x10 =>
  bif (x10 != (0 : Int)) then
  Kret false G7
  else
  L2 s0 s1 s3a s3n s9 s14 x9 (0 : Int) s77a s77n s78 s79 x2 x3 x4 x5 G7
  else
  K0 s0 s1 s9 s14 G

def a_law19_FilmTiles_22 {R : Type} (O : Ora R) (Kret : Bool → GH → Option R) (KN : Int → Int → Option GA → Nat → Option GA → Option GA → Option GA → Nat → Int → Int → GH → Option R) (K0 : Int → Int → Option GA → Option GA → GH → Option R) (s0 : Int) (s1 : Int) (s3a : Option GA) (s3n : Nat) (s9 : Option GA) (s14 : Option GA) (s18 : Option GA) (s77a : Option GA) (s77n : Nat) (s78 : Int) (s79 : Int) (b0_0 : Int) (b0_1 : Int) (b0_2 : Int) (b0_3 : Int) (G : GH) : Option R :=
  O fn_film_Film_Merge [.ptr s14, .ptr s18, .agg [.int .i64 b0_0, .int .i64 b0_1, .int .i64 b0_2, .int .i64 b0_3]] G fun v1 G2 =>
  (ivInt .i64 v1).bind fun x3 =>
  bif (x3 != (0 : Int)) then
  Kret false G2
  else
  KN s0 s1 s3a s3n s9 s14 s77a s77n s78 (IntKind.wrap .i64 (s79 + (1 : Int))) G2

def L_law19_FilmTiles_2 {R : Type} (O : Ora R) (fuel : Nat) (Kret : Bool → GH → Option R) (KN : Int → Int → Option GA → Nat → Option GA → Option GA → Option GA → Nat → Int → Int → GH → Option R) (K0 : Int → Int → Option GA → Option GA → GH → Option R) : Int → Int → Option GA → Nat → Option GA → Option GA → Option GA → Int → Option GA → Nat → Int → Int → Int → Int → Int → Int → GH → Option R := fun (s0 : Int) (s1 : Int) (s3a : Option GA) (s3n : Nat) (s9 : Option GA) (s14 : Option GA) (s18 : Option GA) (s20 : Int) (s77a : Option GA) (s77n : Nat) (s78 : Int) (s79 : Int) (b0_0 : Int) (b0_1 : Int) (b0_2 : Int) (b0_3 : Int) G =>
  l_law19_FilmTiles_2 O fuel (a_law19_FilmTiles_22 O Kret KN K0) fuel s0 s1 s3a s3n s9 s14 s18 s20 s77a s77n s78 s79 b0_0 b0_1 b0_2 b0_3 G

theorem a_law19_FilmTiles_22_raw {R : Type} (O : Ora R) (fuel : Nat) (s0 : Int) (s1 : Int) (s3a : Option GA) (s3n : Nat) (s9 : Option GA) (s14 : Option GA) (s18 : Option GA) (s77a : Option GA) (s77n : Nat) (s78 : Int) (s79 : Int) (b0_0 : Int) (b0_1 : Int) (b0_2 : Int) (b0_3 : Int) (G : GH) (k : Ex → List IV → List (List IV) → GH → Option R) :
  contC Try.prog O lo6 fuel (nav (Try.f6.body.getD .skip) [1, 1, 1, 1, 1, 1, 1, 1, 0, 1, 0, 0]) [1, 1, 0, 0, 1, 1, 1, 0, 1, 0] (kpD lo6 48 0 k) (.exit 2) (mkE 178 [(0, .int .i64 s0), (1, .int .i64 s1), (3, .slice s3a s3n), (9, .ptr s9), (14, .ptr s14), (17, .loc 0 0), (18, .ptr s18), (77, .slice s77a s77n), (78, .int .i64 s78), (79, .int .i64 s79)]) [[.int .i64 b0_0, .int .i64 b0_1, .int .i64 b0_2, .int .i64 b0_3]] G =
  a_law19_FilmTiles_22 O (fun (s8 : Bool) (G : GH) => k .ret (mkE 178 [(8, .bool s8)]) [] G) (fun (s0 : Int) (s1 : Int) (s3a : Option GA) (s3n : Nat) (s9 : Option GA) (s14 : Option GA) (s77a : Option GA) (s77n : Nat) (s78 : Int) (s79 : Int) (G : GH) => k .normal (mkE 178 [(0, .int .i64 s0), (1, .int .i64 s1), (3, .slice s3a s3n), (9, .ptr s9), (14, .ptr s14), (77, .slice s77a s77n), (78, .int .i64 s78), (79, .int .i64 s79)]) [] G) (fun (s0 : Int) (s1 : Int) (s9 : Option GA) (s14 : Option GA) (G : GH) => k (.exit 0) (mkE 178 [(0, .int .i64 s0), (1, .int .i64 s1), (9, .ptr s9), (14, .ptr s14)]) [] G) s0 s1 s3a s3n s9 s14 s18 s77a s77n s78 s79 b0_0 b0_1 b0_2 b0_3 G := by kernel_rfl

theorem L_law19_FilmTiles_2_eq {R : Type} (O : Ora R) (fuel : Nat) (k : Ex → List IV → List (List IV) → GH → Option R) :
  (fun (s0 : Int) (s1 : Int) (s3a : Option GA) (s3n : Nat) (s9 : Option GA) (s14 : Option GA) (s18 : Option GA) (s20 : Int) (s77a : Option GA) (s77n : Nat) (s78 : Int) (s79 : Int) (b0_0 : Int) (b0_1 : Int) (b0_2 : Int) (b0_3 : Int) (G : GH) => loopN (loopD Try.prog O lo6 fuel (nav (Try.f6.body.getD .skip) [1, 1, 1, 1, 1, 1, 1, 1, 0, 1, 0, 0, 1, 1, 0, 0, 1, 1, 1, 0, 1, 0, 0]) 72) fuel (mkE 178 [(0, .int .i64 s0), (1, .int .i64 s1), (3, .slice s3a s3n), (9, .ptr s9), (14, .ptr s14), (17, .loc 0 0), (18, .ptr s18), (20, .int .i64 s20), (77, .slice s77a s77n), (78, .int .i64 s78), (79, .int .i64 s79)]) [[.int .i64 b0_0, .int .i64 b0_1, .int .i64 b0_2, .int .i64 b0_3]] G (contC Try.prog O lo6 fuel (nav (Try.f6.body.getD .skip) [1, 1, 1, 1, 1, 1, 1, 1, 0, 1, 0, 0]) [1, 1, 0, 0, 1, 1, 1, 0, 1, 0] (kpD lo6 48 0 k))) = L_law19_FilmTiles_2 O fuel (fun (s8 : Bool) (G : GH) => k .ret (mkE 178 [(8, .bool s8)]) [] G) (fun (s0 : Int) (s1 : Int) (s3a : Option GA) (s3n : Nat) (s9 : Option GA) (s14 : Option GA) (s77a : Option GA) (s77n : Nat) (s78 : Int) (s79 : Int) (G : GH) => k .normal (mkE 178 [(0, .int .i64 s0), (1, .int .i64 s1), (3, .slice s3a s3n), (9, .ptr s9), (14, .ptr s14), (77, .slice s77a s77n), (78, .int .i64 s78), (79, .int .i64 s79)]) [] G) (fun (s0 : Int) (s1 : Int) (s9 : Option GA) (s14 : Option GA) (G : GH) => k (.exit 0) (mkE 178 [(0, .int .i64 s0), (1, .int .i64 s1), (9, .ptr s9), (14, .ptr s14)]) [] G) := by
  funext s0 s1 s3a s3n s9 s14 s18 s20 s77a s77n s78 s79 b0_0 b0_1 b0_2 b0_3 G
  simp only [L_law19_FilmTiles_2, l_law19_FilmTiles_2_eq, a_law19_FilmTiles_22_raw]

def l_law19_FilmTiles_1 {R : Type} (O : Ora R) (fuel : Nat) (Kret : Bool → GH → Option R) (K0 : Int → Int → Option GA → Option GA → GH → Option R) : Nat → Int → Int → Option GA → Nat → Option GA → Option GA → Option GA → Nat → Int → Int → GH → Option R
  | 0, _, _, _, _, _, _, _, _, _, _, _ => none
  | n + 1, s0, s1, s3a, s3n, s9, s14, s77a, s77n, s78, s79, G => u_law19_FilmTiles_1 O Kret (l_law19_FilmTiles_1 O fuel Kret K0 n) K0 (L_law19_FilmTiles_2 O fuel Kret (l_law19_FilmTiles_1 O fuel Kret K0 n) K0) s0 s1 s3a s3n s9 s14 s77a s77n s78 s79 G

theorem u_law19_FilmTiles_1_raw {R : Type} (O : Ora R) (fuel : Nat) (s0 : Int) (s1 : Int) (s3a : Option GA) (s3n : Nat) (s9 : Option GA) (s14 : Option GA) (s77a : Option GA) (s77n : Nat) (s78 : Int) (s79 : Int) (G : GH) (k : Ex → List IV → List (List IV) → GH → Option R) :
  loopD Try.prog O lo6 fuel (nav (Try.f6.body.getD .skip) [1, 1, 1, 1, 1, 1, 1, 1, 0, 1, 0, 0]) 48 (mkE 178 [(0, .int .i64 s0), (1, .int .i64 s1), (3, .slice s3a s3n), (9, .ptr s9), (14, .ptr s14), (77, .slice s77a s77n), (78, .int .i64 s78), (79, .int .i64 s79)]) [] G k =
  u_law19_FilmTiles_1 O (fun (s8 : Bool) (G : GH) => k .ret (mkE 178 [(8, .bool s8)]) [] G) (fun (s0 : Int) (s1 : Int) (s3a : Option GA) (s3n : Nat) (s9 : Option GA) (s14 : Option GA) (s77a : Option GA) (s77n : Nat) (s78 : Int) (s79 : Int) (G : GH) => k .normal (mkE 178 [(0, .int .i64 s0), (1, .int .i64 s1), (3, .slice s3a s3n), (9, .ptr s9), (14, .ptr s14), (77, .slice s77a s77n), (78, .int .i64 s78), (79, .int .i64 s79)]) [] G) (fun (s0 : Int) (s1 : Int) (s9 : Option GA) (s14 : Option GA) (G : GH) => k (.exit 0) (mkE 178 [(0, .int .i64 s0), (1, .int .i64 s1), (9, .ptr s9), (14, .ptr s14)]) [] G) (fun (s0 : Int) (s1 : Int) (s3a : Option GA) (s3n : Nat) (s9 : Option GA) (s14 : Option GA) (s18 : Option GA) (s20 : Int) (s77a : Option GA) (s77n : Nat) (s78 : Int) (s79 : Int) (b0_0 : Int) (b0_1 : Int) (b0_2 : Int) (b0_3 : Int) (G : GH) => loopN (loopD Try.prog O lo6 fuel (nav (Try.f6.body.getD .skip) [1, 1, 1, 1, 1, 1, 1, 1, 0, 1, 0, 0, 1, 1, 0, 0, 1, 1, 1, 0, 1, 0, 0]) 72) fuel (mkE 178 [(0, .int .i64 s0), (1, .int .i64 s1), (3, .slice s3a s3n), (9, .ptr s9), (14, .ptr s14), (17, .loc 0 0), (18, .ptr s18), (20, .int .i64 s20), (77, .slice s77a s77n), (78, .int .i64 s78), (79, .int .i64 s79)]) [[.int .i64 b0_0, .int .i64 b0_1, .int .i64 b0_2, .int .i64 b0_3]] G (contC Try.prog O lo6 fuel (nav (Try.f6.body.getD .skip) [1, 1, 1, 1, 1, 1, 1, 1, 0, 1, 0, 0]) [1, 1, 0, 0, 1, 1, 1, 0, 1, 0] (kpD lo6 48 0 k))) s0 s1 s3a s3n s9 s14 s77a s77n s78 s79 G := by kernel_rfl

theorem l_law19_FilmTiles_1_eq {R : Type} (O : Ora R) (fuel : Nat) (k : Ex → List IV → List (List IV) → GH → Option R) : ∀ (n : Nat) (s0 : Int) (s1 : Int) (s3a : Option GA) (s3n : Nat) (s9 : Option GA) (s14 : Option GA) (s77a : Option GA) (s77n : Nat) (s78 : Int) (s79 : Int) (G : GH),
  loopN (loopD Try.prog O lo6 fuel (nav (Try.f6.body.getD .skip) [1, 1, 1, 1, 1, 1, 1, 1, 0, 1, 0, 0]) 48) n (mkE 178 [(0, .int .i64 s0), (1, .int .i64 s1), (3, .slice s3a s3n), (9, .ptr s9), (14, .ptr s14), (77, .slice s77a s77n), (78, .int .i64 s78), (79, .int .i64 s79)]) [] G k = l_law19_FilmTiles_1 O fuel (fun (s8 : Bool) (G : GH) => k .ret (mkE 178 [(8, .bool s8)]) [] G) (fun (s0 : Int) (s1 : Int) (s9 : Option GA) (s14 : Option GA) (G : GH) => k (.exit 0) (mkE 178 [(0, .int .i64 s0), (1, .int .i64 s1), (9, .ptr s9), (14, .ptr s14)]) [] G) n s0 s1 s3a s3n s9 s14 s77a s77n s78 s79 G := by
  intro n
  induction n with
  | zero => intros; rfl
  | succ n ih =>
    intros
    rw [loopN_succ, u_law19_FilmTiles_1_raw]
    simp only [l_law19_FilmTiles_1, loopK_normal, loopK_exit, loopK_ret, ih, L_law19_FilmTiles_2_eq]

def u_law19_FilmTiles_4 {R : Type} (O : Ora R) (Kret : Bool → GH → Option R) (KN : Int → Int → Option GA → Option GA → Int → GH → Option R) (K4 : GH → Option R) (s0 : Int) (s1 : Int) (s9 : Option GA) (s14 : Option GA) (s21 : Int) (G : GH) : Option R :=
  bif (decide (s21 < (IntKind.wrap .i64 (s0 * s1)))) then
  bif s0 == 0 then none else
  bif s0 == 0 then none else
  O fn_film_Film_Pixel [.ptr s9, .int .i64 (Int.tmod s21 s0), .int .i64 (IntKind.wrap .i64 (Int.tdiv s21 s0))] G fun v1 G2 =>
  (ivTup 2 v1).bind fun c3 =>
  (ivAgg 8 (c3.getD 0 undefI)).bind fun c4 =>
  (ivFloat .f64 (c4.getD 0 undefI)).bind fun x5 =>
  (ivFloat .f64 (c4.getD 1 undefI)).bind fun x6 =>
  (ivFloat .f64 (c4.getD 2 undefI)).bind fun x7 =>
  (ivFloat .f64 (c4.getD 3 undefI)).bind fun x8 =>
  (ivFloat .f64 (c4.getD 4 undefI)).bind fun x9 =>
  (ivFloat .f64 (c4.getD 5 undefI)).bind fun x10 =>
  (ivInt .i64 (c4.getD 6 undefI)).bind fun x11 =>
  (ivInt .i64 (c4.getD 7 undefI)).bind fun x12 =>
  (ivInt .i64 (c3.getD 1 undefI)).bind fun x13 =>
  bif s0 == 0 then none else
  bif s0 == 0 then none else
  O fn_film_Film_Pixel [.ptr s14, .int .i64 (Int.tmod s21 s0), .int .i64 (IntKind.wrap .i64 (Int.tdiv s21 s0))] G2 fun v14 G15 =>
  (ivTup 2 v14).bind fun c16 =>
  (ivAgg 8 (c16.getD 0 undefI)).bind fun c17 =>
  (ivFloat .f64 (c17.getD 0 undefI)).bind fun x18 =>
  (ivFloat .f64 (c17.getD 1 undefI)).bind fun x19 =>
  (ivFloat .f64 (c17.getD 2 undefI)).bind fun x20 =>
  (ivFloat .f64 (c17.getD 3 undefI)).bind fun x21 =>
  (ivFloat .f64 (c17.getD 4 undefI)).bind fun x22 =>
  (ivFloat .f64 (c17.getD 5 undefI)).bind fun x23 =>
  (ivInt .i64 (c17.getD 6 undefI)).bind fun x24 =>
  (ivInt .i64 (c17.getD 7 undefI)).bind fun x25 =>
  (ivInt .i64 (c16.getD 1 undefI)).bind fun x26 =>
  O fn_ref19_SamePixel [.agg [.float .f64 x5, .float .f64 x6, .float .f64 x7, .float .f64 x8, .float .f64 x9, .float .f64 x10, .int .i64 x11, .int .i64 x12], .agg [.float .f64 x18, .float .f64 x19, .float .f64 x20, .float .f64 x21, .float .f64 x22, .float .f64 x23, .int .i64 x24, .int .i64 x25]] G15 fun v27 G28 =>
  (ivBool v27).bind fun x29 =>
  bif (!x29) then
  Kret false G28
  else
  KN s0 s1 s9 s14 (IntKind.wrap .i64 (s21 + (1 : Int))) G28
  else
  K4 G

def l_law19_FilmTiles_4 {R : Type} (O : Ora R) (Kret : Bool → GH → Option R) (K4 : GH → Option R) : Nat → Int → Int → Option GA → Option GA → Int → GH → Option R
  | 0, _, _, _, _, _, _ => none
  | n + 1, s0, s1, s9, s14, s21, G => u_law19_FilmTiles_4 O Kret (l_law19_FilmTiles_4 O Kret K4 n) K4 s0 s1 s9 s14 s21 G

theorem u_law19_FilmTiles_4_raw {R : Type} (O : Ora R) (fuel : Nat) (s0 : Int) (s1 : Int) (s9 : Option GA) (s14 : Option GA) (s21 : Int) (G : GH) (k : Ex → List IV → List (List IV) → GH → Option R) :
  loopD Try.prog O lo6 fuel (nav (Try.f6.body.getD .skip) [1, 1, 1, 1, 1, 1, 1, 1, 1, 0, 1, 0, 0]) 100 (mkE 178 [(0, .int .i64 s0), (1, .int .i64 s1), (9, .ptr s9), (14, .ptr s14), (21, .int .i64 s21)]) [] G k =
  u_law19_FilmTiles_4 O (fun (s8 : Bool) (G : GH) => k .ret (mkE 178 [(8, .bool s8)]) [] G) (fun (s0 : Int) (s1 : Int) (s9 : Option GA) (s14 : Option GA) (s21 : Int) (G : GH) => k .normal (mkE 178 [(0, .int .i64 s0), (1, .int .i64 s1), (9, .ptr s9), (14, .ptr s14), (21, .int .i64 s21)]) [] G) (fun (G : GH) => k (.exit 4) (mkE 178 []) [] G) s0 s1 s9 s14 s21 G := by kernel_rfl

theorem l_law19_FilmTiles_4_eq {R : Type} (O : Ora R) (fuel : Nat) (k : Ex → List IV → List (List IV) → GH → Option R) : ∀ (n : Nat) (s0 : Int) (s1 : Int) (s9 : Option GA) (s14 : Option GA) (s21 : Int) (G : GH),
  loopN (loopD Try.prog O lo6 fuel (nav (Try.f6.body.getD .skip) [1, 1, 1, 1, 1, 1, 1, 1, 1, 0, 1, 0, 0]) 100) n (mkE 178 [(0, .int .i64 s0), (1, .int .i64 s1), (9, .ptr s9), (14, .ptr s14), (21, .int .i64 s21)]) [] G k = l_law19_FilmTiles_4 O (fun (s8 : Bool) (G : GH) => k .ret (mkE 178 [(8, .bool s8)]) [] G) (fun (G : GH) => k (.exit 4) (mkE 178 []) [] G) n s0 s1 s9 s14 s21 G := by
  intro n
  induction n with
  | zero => intros; rfl
  | succ n ih =>
    intros
    rw [loopN_succ, u_law19_FilmTiles_4_raw]
    simp only [l_law19_FilmTiles_4, loopK_normal, loopK_exit, loopK_ret, ih]

def u_law19_FilmTiles {R : Type} (O : Ora R) (k : IV → GH → Option R) (L0 : Int → Int → Option GA → Nat → Option GA → Bool → Option GA → Nat → Int → Option GA → Int → GH → Option R) (p0 : Int) (p1 : Int) (p2 : Int) (p3a : Option GA) (p3n : Nat) (G : GH) : Option R :=
  O fn_law19_Awake [] G fun v1 G2 =>
  (ivBool v1).bind fun x3 =>
  bif (!x3) then
  k (.bool false) G2
  else
  O fn_law19_valid [.slice p3a p3n] G2 fun v4 G5 =>
  (ivBool v4).bind fun x6 =>
  bif (!x6) then
  k (.bool true) G5
  else
  O fn_law19_dropped [.int .i64 (IntKind.wrap .i64 ((1 : Int) + (IntKind.wrap .i64 (Int.tmod (IntKind.wrap .u64 p0) (6 : Int))))), .int .i64 (IntKind.wrap .i64 ((1 : Int) + (IntKind.wrap .i64 (Int.tmod (IntKind.wrap .u64 p1) (6 : Int))))), .slice p3a p3n] G5 fun v7 G8 =>
  (ivTup 3 v7).bind fun c9 =>
  (ivPtr (c9.getD 0 undefI)).bind fun x10 =>
  (ivSlice (c9.getD 1 undefI)).bind fun x11 =>
  (ivBool (c9.getD 2 undefI)).bind fun x12 =>
  O fn_film_Jobs [.int .i64 (IntKind.wrap .i64 ((1 : Int) + (IntKind.wrap .i64 (Int.tmod (IntKind.wrap .u64 p0) (6 : Int))))), .int .i64 (IntKind.wrap .i64 ((1 : Int) + (IntKind.wrap .i64 (Int.tmod (IntKind.wrap .u64 p1) (6 : Int))))), .int .i64 (IntKind.wrap .i64 ((1 : Int) + (IntKind.wrap .i64 (Int.tmod (IntKind.wrap .u64 p2) (4 : Int)))))] G8 fun v13 G14 =>
  (ivTup 2 v13).bind fun c15 =>
  (ivSlice (c15.getD 0 undefI)).bind fun x16 =>
  (ivInt .i64 (c15.getD 1 undefI)).bind fun x17 =>
  O fn_film_New [.int .i64 (IntKind.wrap .i64 ((1 : Int) + (IntKind.wrap .i64 (Int.tmod (IntKind.wrap .u64 p0) (6 : Int))))), .int .i64 (IntKind.wrap .i64 ((1 : Int) + (IntKind.wrap .i64 (Int.tmod (IntKind.wrap .u64 p1) (6 : Int)))))] G14 fun v18 G19 =>
  (ivTup 2 v18).bind fun c20 =>
  (ivPtr (c20.getD 0 undefI)).bind fun x21 =>
  (ivInt .i64 (c20.getD 1 undefI)).bind fun x22 =>
  L0 (IntKind.wrap .i64 ((1 : Int) + (IntKind.wrap .i64 (Int.tmod (IntKind.wrap .u64 p0) (6 : Int))))) (IntKind.wrap .i64 ((1 : Int) + (IntKind.wrap .i64 (Int.tmod (IntKind.wrap .u64 p1) (6 : Int))))) p3a p3n x10 x12 x16.1 x16.2 x17 x21 x22 G19

def a_law19_FilmTiles_0ret {R : Type} (O : Ora R) (k : IV → GH → Option R) (s8 : Bool) (G : GH) : Option R :=
  k (.bool s8) G

def a_law19_FilmTiles_0N {R : Type} (O : Ora R) (k : IV → GH → Option R) (L1 : Int → Int → Option GA → Nat → Option GA → Option GA → Option GA → Nat → Int → Int → GH → Option R) (s0 : Int) (s1 : Int) (s3a : Option GA) (s3n : Nat) (s9 : Option GA) (s12a : Option GA) (s12n : Nat) (s14 : Option GA) (G : GH) : Option R :=
  L1 s0 s1 s3a s3n s9 s14 s12a s12n (s12n : Int) (0 : Int) G

def a_law19_FilmTiles_1ret {R : Type} (O : Ora R) (k : IV → GH → Option R) (s8 : Bool) (G : GH) : Option R :=
  k (.bool s8) G

def a_law19_FilmTiles_10 {R : Type} (O : Ora R) (k : IV → GH → Option R) (L4 : Int → Int → Option GA → Option GA → Int → GH → Option R) (s0 : Int) (s1 : Int) (s9 : Option GA) (s14 : Option GA) (G : GH) : Option R :=
  L4 s0 s1 s9 s14 (0 : Int) G

def a_law19_FilmTiles_4ret {R : Type} (O : Ora R) (k : IV → GH → Option R) (s8 : Bool) (G : GH) : Option R :=
  k (.bool s8) G

def a_law19_FilmTiles_44 {R : Type} (O : Ora R) (k : IV → GH → Option R)  (G : GH) : Option R :=
  k (.bool true) G

def L_law19_FilmTiles_4 {R : Type} (O : Ora R) (fuel : Nat) (k : IV → GH → Option R) : Int → Int → Option GA → Option GA → Int → GH → Option R := fun (s0 : Int) (s1 : Int) (s9 : Option GA) (s14 : Option GA) (s21 : Int) G =>
  l_law19_FilmTiles_4 O (a_law19_FilmTiles_4ret O k) (a_law19_FilmTiles_44 O k) fuel s0 s1 s9 s14 s21 G

theorem a_law19_FilmTiles_4ret_raw {R : Type} (O : Ora R) (fuel : Nat) (s8 : Bool) (G : GH) (k : IV → GH → Option R) :
  contC Try.prog O lo6 fuel (Try.f6.body.getD .skip) [1, 1, 1, 1, 1, 1, 1, 1, 1, 0, 1, 0] (fun e env F G => match e with | .exit _ => none | _ => resC Try.prog Try.f6 env F G k) .ret (mkE 178 [(8, .bool s8)]) [] G =
  a_law19_FilmTiles_4ret O k s8 G := by kernel_rfl

theorem a_law19_FilmTiles_44_raw {R : Type} (O : Ora R) (fuel : Nat)  (G : GH) (k : IV → GH → Option R) :
  contC Try.prog O lo6 fuel (Try.f6.body.getD .skip) [1, 1, 1, 1, 1, 1, 1, 1, 1, 0, 1, 0] (fun e env F G => match e with | .exit _ => none | _ => resC Try.prog Try.f6 env F G k) (.exit 4) (mkE 178 []) [] G =
  a_law19_FilmTiles_44 O k G := by kernel_rfl

theorem L_law19_FilmTiles_4_eq {R : Type} (O : Ora R) (fuel : Nat) (k : IV → GH → Option R) :
  (fun (s0 : Int) (s1 : Int) (s9 : Option GA) (s14 : Option GA) (s21 : Int) (G : GH) => loopN (loopD Try.prog O lo6 fuel (nav (Try.f6.body.getD .skip) [1, 1, 1, 1, 1, 1, 1, 1, 1, 0, 1, 0, 0]) 100) fuel (mkE 178 [(0, .int .i64 s0), (1, .int .i64 s1), (9, .ptr s9), (14, .ptr s14), (21, .int .i64 s21)]) [] G (contC Try.prog O lo6 fuel (Try.f6.body.getD .skip) [1, 1, 1, 1, 1, 1, 1, 1, 1, 0, 1, 0] (fun e env F G => match e with | .exit _ => none | _ => resC Try.prog Try.f6 env F G k))) = L_law19_FilmTiles_4 O fuel k := by
  funext s0 s1 s9 s14 s21 G
  simp only [L_law19_FilmTiles_4, l_law19_FilmTiles_4_eq, a_law19_FilmTiles_4ret_raw, a_law19_FilmTiles_44_raw]

def L_law19_FilmTiles_1 {R : Type} (O : Ora R) (fuel : Nat) (k : IV → GH → Option R) : Int → Int → Option GA → Nat → Option GA → Option GA → Option GA → Nat → Int → Int → GH → Option R := fun (s0 : Int) (s1 : Int) (s3a : Option GA) (s3n : Nat) (s9 : Option GA) (s14 : Option GA) (s77a : Option GA) (s77n : Nat) (s78 : Int) (s79 : Int) G =>
  l_law19_FilmTiles_1 O fuel (a_law19_FilmTiles_1ret O k) (a_law19_FilmTiles_10 O k (L_law19_FilmTiles_4 O fuel k)) fuel s0 s1 s3a s3n s9 s14 s77a s77n s78 s79 G

theorem a_law19_FilmTiles_1ret_raw {R : Type} (O : Ora R) (fuel : Nat) (s8 : Bool) (G : GH) (k : IV → GH → Option R) :
  contC Try.prog O lo6 fuel (Try.f6.body.getD .skip) [1, 1, 1, 1, 1, 1, 1, 1, 0, 1, 0] (fun e env F G => match e with | .exit _ => none | _ => resC Try.prog Try.f6 env F G k) .ret (mkE 178 [(8, .bool s8)]) [] G =
  a_law19_FilmTiles_1ret O k s8 G := by kernel_rfl

theorem a_law19_FilmTiles_10_raw {R : Type} (O : Ora R) (fuel : Nat) (s0 : Int) (s1 : Int) (s9 : Option GA) (s14 : Option GA) (G : GH) (k : IV → GH → Option R) :
  contC Try.prog O lo6 fuel (Try.f6.body.getD .skip) [1, 1, 1, 1, 1, 1, 1, 1, 0, 1, 0] (fun e env F G => match e with | .exit _ => none | _ => resC Try.prog Try.f6 env F G k) (.exit 0) (mkE 178 [(0, .int .i64 s0), (1, .int .i64 s1), (9, .ptr s9), (14, .ptr s14)]) [] G =
  a_law19_FilmTiles_10 O k (fun (s0 : Int) (s1 : Int) (s9 : Option GA) (s14 : Option GA) (s21 : Int) (G : GH) => loopN (loopD Try.prog O lo6 fuel (nav (Try.f6.body.getD .skip) [1, 1, 1, 1, 1, 1, 1, 1, 1, 0, 1, 0, 0]) 100) fuel (mkE 178 [(0, .int .i64 s0), (1, .int .i64 s1), (9, .ptr s9), (14, .ptr s14), (21, .int .i64 s21)]) [] G (contC Try.prog O lo6 fuel (Try.f6.body.getD .skip) [1, 1, 1, 1, 1, 1, 1, 1, 1, 0, 1, 0] (fun e env F G => match e with | .exit _ => none | _ => resC Try.prog Try.f6 env F G k))) s0 s1 s9 s14 G := by kernel_rfl

theorem L_law19_FilmTiles_1_eq {R : Type} (O : Ora R) (fuel : Nat) (k : IV → GH → Option R) :
  (fun (s0 : Int) (s1 : Int) (s3a : Option GA) (s3n : Nat) (s9 : Option GA) (s14 : Option GA) (s77a : Option GA) (s77n : Nat) (s78 : Int) (s79 : Int) (G : GH) => loopN (loopD Try.prog O lo6 fuel (nav (Try.f6.body.getD .skip) [1, 1, 1, 1, 1, 1, 1, 1, 0, 1, 0, 0]) 48) fuel (mkE 178 [(0, .int .i64 s0), (1, .int .i64 s1), (3, .slice s3a s3n), (9, .ptr s9), (14, .ptr s14), (77, .slice s77a s77n), (78, .int .i64 s78), (79, .int .i64 s79)]) [] G (contC Try.prog O lo6 fuel (Try.f6.body.getD .skip) [1, 1, 1, 1, 1, 1, 1, 1, 0, 1, 0] (fun e env F G => match e with | .exit _ => none | _ => resC Try.prog Try.f6 env F G k))) = L_law19_FilmTiles_1 O fuel k := by
  funext s0 s1 s3a s3n s9 s14 s77a s77n s78 s79 G
  simp only [L_law19_FilmTiles_1, l_law19_FilmTiles_1_eq, a_law19_FilmTiles_1ret_raw, a_law19_FilmTiles_10_raw, L_law19_FilmTiles_4_eq]

def L_law19_FilmTiles_0 {R : Type} (O : Ora R) (fuel : Nat) (k : IV → GH → Option R) : Int → Int → Option GA → Nat → Option GA → Bool → Option GA → Nat → Int → Option GA → Int → GH → Option R := fun (s0 : Int) (s1 : Int) (s3a : Option GA) (s3n : Nat) (s9 : Option GA) (s11 : Bool) (s12a : Option GA) (s12n : Nat) (s13 : Int) (s14 : Option GA) (s15 : Int) G =>
  stepN fuel (l_law19_FilmTiles_0 O (a_law19_FilmTiles_0ret O k) (a_law19_FilmTiles_0N O k (L_law19_FilmTiles_1 O fuel k)) s0 s1 s3a s3n s9 s11 s12a s12n s13 s14 s15 G)

theorem a_law19_FilmTiles_0ret_raw {R : Type} (O : Ora R) (fuel : Nat) (s8 : Bool) (G : GH) (k : IV → GH → Option R) :
  contC Try.prog O lo6 fuel (Try.f6.body.getD .skip) [1, 1, 1, 1, 1, 1, 1, 0] (fun e env F G => match e with | .exit _ => none | _ => resC Try.prog Try.f6 env F G k) .ret (mkE 178 [(8, .bool s8)]) [] G =
  a_law19_FilmTiles_0ret O k s8 G := by kernel_rfl

theorem a_law19_FilmTiles_0N_raw {R : Type} (O : Ora R) (fuel : Nat) (s0 : Int) (s1 : Int) (s3a : Option GA) (s3n : Nat) (s9 : Option GA) (s12a : Option GA) (s12n : Nat) (s14 : Option GA) (G : GH) (k : IV → GH → Option R) :
  contC Try.prog O lo6 fuel (Try.f6.body.getD .skip) [1, 1, 1, 1, 1, 1, 1, 0] (fun e env F G => match e with | .exit _ => none | _ => resC Try.prog Try.f6 env F G k) .normal (mkE 178 [(0, .int .i64 s0), (1, .int .i64 s1), (3, .slice s3a s3n), (9, .ptr s9), (12, .slice s12a s12n), (14, .ptr s14)]) [] G =
  a_law19_FilmTiles_0N O k (fun (s0 : Int) (s1 : Int) (s3a : Option GA) (s3n : Nat) (s9 : Option GA) (s14 : Option GA) (s77a : Option GA) (s77n : Nat) (s78 : Int) (s79 : Int) (G : GH) => loopN (loopD Try.prog O lo6 fuel (nav (Try.f6.body.getD .skip) [1, 1, 1, 1, 1, 1, 1, 1, 0, 1, 0, 0]) 48) fuel (mkE 178 [(0, .int .i64 s0), (1, .int .i64 s1), (3, .slice s3a s3n), (9, .ptr s9), (14, .ptr s14), (77, .slice s77a s77n), (78, .int .i64 s78), (79, .int .i64 s79)]) [] G (contC Try.prog O lo6 fuel (Try.f6.body.getD .skip) [1, 1, 1, 1, 1, 1, 1, 1, 0, 1, 0] (fun e env F G => match e with | .exit _ => none | _ => resC Try.prog Try.f6 env F G k))) s0 s1 s3a s3n s9 s12a s12n s14 G := by kernel_rfl

theorem L_law19_FilmTiles_0_eq {R : Type} (O : Ora R) (fuel : Nat) (k : IV → GH → Option R) :
  (fun (s0 : Int) (s1 : Int) (s3a : Option GA) (s3n : Nat) (s9 : Option GA) (s11 : Bool) (s12a : Option GA) (s12n : Nat) (s13 : Int) (s14 : Option GA) (s15 : Int) (G : GH) => stepN fuel (loopD Try.prog O lo6 fuel (nav (Try.f6.body.getD .skip) [1, 1, 1, 1, 1, 1, 1, 0]) 47 (mkE 178 [(0, .int .i64 s0), (1, .int .i64 s1), (3, .slice s3a s3n), (9, .ptr s9), (11, .bool s11), (12, .slice s12a s12n), (13, .int .i64 s13), (14, .ptr s14), (15, .int .i64 s15)]) [] G (contC Try.prog O lo6 fuel (Try.f6.body.getD .skip) [1, 1, 1, 1, 1, 1, 1, 0] (fun e env F G => match e with | .exit _ => none | _ => resC Try.prog Try.f6 env F G k)))) = L_law19_FilmTiles_0 O fuel k := by
  funext s0 s1 s3a s3n s9 s11 s12a s12n s13 s14 s15 G
  simp only [L_law19_FilmTiles_0, l_law19_FilmTiles_0_eq, a_law19_FilmTiles_0ret_raw, a_law19_FilmTiles_0N_raw, L_law19_FilmTiles_1_eq]

theorem e_law19_FilmTiles_raw {R : Type} (O : Ora R) (fuel : Nat) (p0 : Int) (p1 : Int) (p2 : Int) (p3a : Option GA) (p3n : Nat) (G : GH) (k : IV → GH → Option R) :
  bodyC Try.prog O lo6 fuel Try.f6 [.int .i64 p0, .int .i64 p1, .int .i64 p2, .slice p3a p3n] G k =
  u_law19_FilmTiles O k (fun (s0 : Int) (s1 : Int) (s3a : Option GA) (s3n : Nat) (s9 : Option GA) (s11 : Bool) (s12a : Option GA) (s12n : Nat) (s13 : Int) (s14 : Option GA) (s15 : Int) (G : GH) => stepN fuel (loopD Try.prog O lo6 fuel (nav (Try.f6.body.getD .skip) [1, 1, 1, 1, 1, 1, 1, 0]) 47 (mkE 178 [(0, .int .i64 s0), (1, .int .i64 s1), (3, .slice s3a s3n), (9, .ptr s9), (11, .bool s11), (12, .slice s12a s12n), (13, .int .i64 s13), (14, .ptr s14), (15, .int .i64 s15)]) [] G (contC Try.prog O lo6 fuel (Try.f6.body.getD .skip) [1, 1, 1, 1, 1, 1, 1, 0] (fun e env F G => match e with | .exit _ => none | _ => resC Try.prog Try.f6 env F G k)))) p0 p1 p2 p3a p3n G := by kernel_rfl

theorem e_law19_FilmTiles {R : Type} (O : Ora R) (fuel : Nat) (p0 : Int) (p1 : Int) (p2 : Int) (p3a : Option GA) (p3n : Nat) (G : GH) (k : IV → GH → Option R) :
  bodyC Try.prog O lo6 fuel Try.f6 [.int .i64 p0, .int .i64 p1, .int .i64 p2, .slice p3a p3n] G k =
  u_law19_FilmTiles O k (L_law19_FilmTiles_0 O fuel k) p0 p1 p2 p3a p3n G := by
  rw [e_law19_FilmTiles_raw, L_law19_FilmTiles_0_eq]

theorem r_law19_FilmTiles {R : Type} (fuel n : Nat) (p0 : Int) (p1 : Int) (p2 : Int) (p3a : Option GA) (p3n : Nat) (G : GH) (k : IV → GH → Option R) :
  runC Try.prog lo0 fuel (n + 1) 6 [.int .i64 p0, .int .i64 p1, .int .i64 p2, .slice p3a p3n] G k = bodyC Try.prog (runC Try.prog lo0 fuel n) lo6 fuel Try.f6 [.int .i64 p0, .int .i64 p1, .int .i64 p2, .slice p3a p3n] G k := run_body Try.func6 rfl rfl

end Go.LI.Film
