/- What the interpreter gives for FilmMerges (written by rnd.py). -/
import Derived.Test.YtmhoddmenfondaaSeatA
namespace Go.LI.Film
open Go.Proofs.Ytmhoddmenfondaa Go Go.Proofs Go.LI
set_option maxRecDepth 100000
set_option linter.unusedVariables false
set_option linter.unusedSimpArgs false
/-! ### lantern/lanternlaw19.valid -/
def u_law19_valid_0 {R : Type} (O : Ora R) (Kret : Bool → GH → Option R) (KN : Option GA → Nat → Int → Int → GH → Option R) (K0 : GH → Option R) (s0a : Option GA) (s0n : Nat) (s5 : Int) (s6 : Int) (G : GH) : Option R :=
  bif (decide (s6 < s5)) then
  (idx? s0a s0n s6 9).bind fun a1 =>
  (ldFloat G .f64 (GA.add (GA.add a1 2) 0)).bind fun x2 =>
  (ldFloat G .f64 (GA.add (GA.add a1 2) 1)).bind fun x3 =>
  (ldFloat G .f64 (GA.add (GA.add a1 2) 2)).bind fun x4 =>
  (ldFloat G .f64 (GA.add (GA.add a1 2) 3)).bind fun x5 =>
  (ldFloat G .f64 (GA.add (GA.add a1 2) 4)).bind fun x6 =>
  (ldFloat G .f64 (GA.add (GA.add a1 2) 5)).bind fun x7 =>
  O fn_ref03_Valid [.agg [.float .f64 x2, .float .f64 x3, .float .f64 x4, .float .f64 x5, .float .f64 x6, .float .f64 x7]] G fun v8 G9 =>
  (ivBool v8).bind fun x10 =>
  bif (!x10) then
  Kret false G9
  else
  KN s0a s0n s5 (IntKind.wrap .i64 (s6 + (1 : Int))) G9
  else
  K0 G

def l_law19_valid_0 {R : Type} (O : Ora R) (Kret : Bool → GH → Option R) (K0 : GH → Option R) : Nat → Option GA → Nat → Int → Int → GH → Option R
  | 0, _, _, _, _, _ => none
  | n + 1, s0a, s0n, s5, s6, G => u_law19_valid_0 O Kret (l_law19_valid_0 O Kret K0 n) K0 s0a s0n s5 s6 G

theorem u_law19_valid_0_raw {R : Type} (O : Ora R) (fuel : Nat) (s0a : Option GA) (s0n : Nat) (s5 : Int) (s6 : Int) (G : GH) (k : Ex → List IV → List (List IV) → GH → Option R) :
  loopD Try.prog O lo19 fuel (nav (Try.f19.body.getD .skip) [1, 0, 1, 0, 0]) 8 (mkE 17 [(0, .slice s0a s0n), (5, .int .i64 s5), (6, .int .i64 s6)]) [] G k =
  u_law19_valid_0 O (fun (s2 : Bool) (G : GH) => k .ret (mkE 17 [(2, .bool s2)]) [] G) (fun (s0a : Option GA) (s0n : Nat) (s5 : Int) (s6 : Int) (G : GH) => k .normal (mkE 17 [(0, .slice s0a s0n), (5, .int .i64 s5), (6, .int .i64 s6)]) [] G) (fun (G : GH) => k (.exit 0) (mkE 17 []) [] G) s0a s0n s5 s6 G := by kernel_rfl

theorem l_law19_valid_0_eq {R : Type} (O : Ora R) (fuel : Nat) (k : Ex → List IV → List (List IV) → GH → Option R) : ∀ (n : Nat) (s0a : Option GA) (s0n : Nat) (s5 : Int) (s6 : Int) (G : GH),
  loopN (loopD Try.prog O lo19 fuel (nav (Try.f19.body.getD .skip) [1, 0, 1, 0, 0]) 8) n (mkE 17 [(0, .slice s0a s0n), (5, .int .i64 s5), (6, .int .i64 s6)]) [] G k = l_law19_valid_0 O (fun (s2 : Bool) (G : GH) => k .ret (mkE 17 [(2, .bool s2)]) [] G) (fun (G : GH) => k (.exit 0) (mkE 17 []) [] G) n s0a s0n s5 s6 G := by
  intro n
  induction n with
  | zero => intros; rfl
  | succ n ih =>
    intros
    rw [loopN_succ, u_law19_valid_0_raw]
    simp only [l_law19_valid_0, loopK_normal, loopK_exit, loopK_ret, ih]

def u_law19_valid {R : Type} (O : Ora R) (k : IV → GH → Option R) (L0 : Option GA → Nat → Int → Int → GH → Option R) (p0a : Option GA) (p0n : Nat) (G : GH) : Option R :=
  L0 p0a p0n (p0n : Int) (0 : Int) G

def a_law19_valid_0ret {R : Type} (O : Ora R) (k : IV → GH → Option R) (s2 : Bool) (G : GH) : Option R :=
  k (.bool s2) G

def a_law19_valid_00 {R : Type} (O : Ora R) (k : IV → GH → Option R)  (G : GH) : Option R :=
  k (.bool true) G

def L_law19_valid_0 {R : Type} (O : Ora R) (fuel : Nat) (k : IV → GH → Option R) : Option GA → Nat → Int → Int → GH → Option R := fun (s0a : Option GA) (s0n : Nat) (s5 : Int) (s6 : Int) G =>
  l_law19_valid_0 O (a_law19_valid_0ret O k) (a_law19_valid_00 O k) fuel s0a s0n s5 s6 G

theorem a_law19_valid_0ret_raw {R : Type} (O : Ora R) (fuel : Nat) (s2 : Bool) (G : GH) (k : IV → GH → Option R) :
  contC Try.prog O lo19 fuel (Try.f19.body.getD .skip) [1, 0, 1, 0] (fun e env F G => match e with | .exit _ => none | _ => resC Try.prog Try.f19 env F G k) .ret (mkE 17 [(2, .bool s2)]) [] G =
  a_law19_valid_0ret O k s2 G := by kernel_rfl

theorem a_law19_valid_00_raw {R : Type} (O : Ora R) (fuel : Nat)  (G : GH) (k : IV → GH → Option R) :
  contC Try.prog O lo19 fuel (Try.f19.body.getD .skip) [1, 0, 1, 0] (fun e env F G => match e with | .exit _ => none | _ => resC Try.prog Try.f19 env F G k) (.exit 0) (mkE 17 []) [] G =
  a_law19_valid_00 O k G := by kernel_rfl

theorem L_law19_valid_0_eq {R : Type} (O : Ora R) (fuel : Nat) (k : IV → GH → Option R) :
  (fun (s0a : Option GA) (s0n : Nat) (s5 : Int) (s6 : Int) (G : GH) => loopN (loopD Try.prog O lo19 fuel (nav (Try.f19.body.getD .skip) [1, 0, 1, 0, 0]) 8) fuel (mkE 17 [(0, .slice s0a s0n), (5, .int .i64 s5), (6, .int .i64 s6)]) [] G (contC Try.prog O lo19 fuel (Try.f19.body.getD .skip) [1, 0, 1, 0] (fun e env F G => match e with | .exit _ => none | _ => resC Try.prog Try.f19 env F G k))) = L_law19_valid_0 O fuel k := by
  funext s0a s0n s5 s6 G
  simp only [L_law19_valid_0, l_law19_valid_0_eq, a_law19_valid_0ret_raw, a_law19_valid_00_raw]

theorem e_law19_valid_raw {R : Type} (O : Ora R) (fuel : Nat) (p0a : Option GA) (p0n : Nat) (G : GH) (k : IV → GH → Option R) :
  bodyC Try.prog O lo19 fuel Try.f19 [.slice p0a p0n] G k =
  u_law19_valid O k (fun (s0a : Option GA) (s0n : Nat) (s5 : Int) (s6 : Int) (G : GH) => loopN (loopD Try.prog O lo19 fuel (nav (Try.f19.body.getD .skip) [1, 0, 1, 0, 0]) 8) fuel (mkE 17 [(0, .slice s0a s0n), (5, .int .i64 s5), (6, .int .i64 s6)]) [] G (contC Try.prog O lo19 fuel (Try.f19.body.getD .skip) [1, 0, 1, 0] (fun e env F G => match e with | .exit _ => none | _ => resC Try.prog Try.f19 env F G k))) p0a p0n G := by kernel_rfl

theorem e_law19_valid {R : Type} (O : Ora R) (fuel : Nat) (p0a : Option GA) (p0n : Nat) (G : GH) (k : IV → GH → Option R) :
  bodyC Try.prog O lo19 fuel Try.f19 [.slice p0a p0n] G k =
  u_law19_valid O k (L_law19_valid_0 O fuel k) p0a p0n G := by
  rw [e_law19_valid_raw, L_law19_valid_0_eq]

theorem r_law19_valid {R : Type} (fuel n : Nat) (p0a : Option GA) (p0n : Nat) (G : GH) (k : IV → GH → Option R) :
  runC Try.prog lo0 fuel (n + 1) 19 [.slice p0a p0n] G k = bodyC Try.prog (runC Try.prog lo0 fuel n) lo19 fuel Try.f19 [.slice p0a p0n] G k := run_body Try.func19 rfl rfl

/-! ### lantern/lanternlaw19.dropped -/
def u_law19_dropped_1 {R : Type} (O : Ora R) (KN : Int → Int → Option GA → Nat → Option GA → Option GA → Nat → Int → GH → Option R) (K0 : Option GA → Option GA → Nat → GH → Option R) (s0 : Int) (s1 : Int) (s2a : Option GA) (s2n : Nat) (s9 : Option GA) (s11a : Option GA) (s11n : Nat) (s12 : Int) (G : GH) : Option R :=
  bif (decide (s12 < (s2n : Int))) then
  bif (decide (s12 < (200 : Int))) then
  KN s0 s1 s2a s2n s9 s11a s11n s12 G
  else
  K0 s9 s11a s11n G
  else
  K0 s9 s11a s11n G

def l_law19_dropped_1 {R : Type} (O : Ora R) (KN : Int → Int → Option GA → Nat → Option GA → Option GA → Nat → Int → GH → Option R) (K0 : Option GA → Option GA → Nat → GH → Option R) : Int → Int → Option GA → Nat → Option GA → Option GA → Nat → Int → GH → Option R := fun (s0 : Int) (s1 : Int) (s2a : Option GA) (s2n : Nat) (s9 : Option GA) (s11a : Option GA) (s11n : Nat) (s12 : Int) G => u_law19_dropped_1 O KN K0 s0 s1 s2a s2n s9 s11a s11n s12 G

theorem u_law19_dropped_1_raw {R : Type} (O : Ora R) (fuel : Nat) (s0 : Int) (s1 : Int) (s2a : Option GA) (s2n : Nat) (s9 : Option GA) (s11a : Option GA) (s11n : Nat) (s12 : Int) (G : GH) (k : Ex → List IV → List (List IV) → GH → Option R) :
  loopD Try.prog O lo20 fuel (nav (Try.f20.body.getD .skip) [1, 1, 1, 1, 0, 1, 0, 0, 0]) 35 (mkE 102 [(0, .int .i64 s0), (1, .int .i64 s1), (2, .slice s2a s2n), (9, .ptr s9), (11, .slice s11a s11n), (12, .int .i64 s12)]) [] G k =
  u_law19_dropped_1 O (fun (s0 : Int) (s1 : Int) (s2a : Option GA) (s2n : Nat) (s9 : Option GA) (s11a : Option GA) (s11n : Nat) (s12 : Int) (G : GH) => k .normal (mkE 102 [(0, .int .i64 s0), (1, .int .i64 s1), (2, .slice s2a s2n), (9, .ptr s9), (11, .slice s11a s11n), (12, .int .i64 s12)]) [] G) (fun (s9 : Option GA) (s11a : Option GA) (s11n : Nat) (G : GH) => k (.exit 0) (mkE 102 [(9, .ptr s9), (11, .slice s11a s11n)]) [] G) s0 s1 s2a s2n s9 s11a s11n s12 G := by kernel_rfl

theorem l_law19_dropped_1_eq {R : Type} (O : Ora R) (fuel : Nat) (k : Ex → List IV → List (List IV) → GH → Option R) : ∀ (s0 : Int) (s1 : Int) (s2a : Option GA) (s2n : Nat) (s9 : Option GA) (s11a : Option GA) (s11n : Nat) (s12 : Int) (G : GH),
  loopD Try.prog O lo20 fuel (nav (Try.f20.body.getD .skip) [1, 1, 1, 1, 0, 1, 0, 0, 0]) 35 (mkE 102 [(0, .int .i64 s0), (1, .int .i64 s1), (2, .slice s2a s2n), (9, .ptr s9), (11, .slice s11a s11n), (12, .int .i64 s12)]) [] G k = l_law19_dropped_1 O (fun (s0 : Int) (s1 : Int) (s2a : Option GA) (s2n : Nat) (s9 : Option GA) (s11a : Option GA) (s11n : Nat) (s12 : Int) (G : GH) => k .normal (mkE 102 [(0, .int .i64 s0), (1, .int .i64 s1), (2, .slice s2a s2n), (9, .ptr s9), (11, .slice s11a s11n), (12, .int .i64 s12)]) [] G) (fun (s9 : Option GA) (s11a : Option GA) (s11n : Nat) (G : GH) => k (.exit 0) (mkE 102 [(9, .ptr s9), (11, .slice s11a s11n)]) [] G) s0 s1 s2a s2n s9 s11a s11n s12 G := by
  intros
  rw [u_law19_dropped_1_raw]
  simp only [l_law19_dropped_1]

def u_law19_dropped_3 {R : Type} (O : Ora R) (KN : Int → Int → Option GA → Nat → Option GA → Option GA → Nat → Int → Bool → Int → Int → Nat → Nat → Nat → Nat → Nat → Nat → Bool → Nat → Nat → Nat → Nat → Nat → Nat → Bool → Option GA → Nat → GH → Option R) (s0 : Int) (s1 : Int) (s2a : Option GA) (s2n : Nat) (s9 : Option GA) (s11a : Option GA) (s11n : Nat) (s12 : Int) (b0_0 : Int) (b0_1 : Int) (b0_2 : Nat) (b0_3 : Nat) (b0_4 : Nat) (b0_5 : Nat) (b0_6 : Nat) (b0_7 : Nat) (b0_8 : Bool) (b1_0 : Nat) (b1_1 : Nat) (b1_2 : Nat) (b1_3 : Nat) (b1_4 : Nat) (b1_5 : Nat) (b1_6 : Bool) (b1_7a : Option GA) (b1_7n : Nat) (G : GH) : Option R :=
  bif (decide (b0_0 ≥ (0 : Int))) then
  bif (decide (b0_1 ≥ (0 : Int))) then
  bif (decide (b0_0 < s0)) then
  KN s0 s1 s2a s2n s9 s11a s11n s12 (decide (b0_1 < s1)) b0_0 b0_1 b0_2 b0_3 b0_4 b0_5 b0_6 b0_7 b0_8 b1_0 b1_1 b1_2 b1_3 b1_4 b1_5 b1_6 b1_7a b1_7n G
  else
  KN s0 s1 s2a s2n s9 s11a s11n s12 false b0_0 b0_1 b0_2 b0_3 b0_4 b0_5 b0_6 b0_7 b0_8 b1_0 b1_1 b1_2 b1_3 b1_4 b1_5 b1_6 b1_7a b1_7n G
  else
  KN s0 s1 s2a s2n s9 s11a s11n s12 false b0_0 b0_1 b0_2 b0_3 b0_4 b0_5 b0_6 b0_7 b0_8 b1_0 b1_1 b1_2 b1_3 b1_4 b1_5 b1_6 b1_7a b1_7n G
  else
  KN s0 s1 s2a s2n s9 s11a s11n s12 false b0_0 b0_1 b0_2 b0_3 b0_4 b0_5 b0_6 b0_7 b0_8 b1_0 b1_1 b1_2 b1_3 b1_4 b1_5 b1_6 b1_7a b1_7n G

def l_law19_dropped_3 {R : Type} (O : Ora R) (KN : Int → Int → Option GA → Nat → Option GA → Option GA → Nat → Int → Bool → Int → Int → Nat → Nat → Nat → Nat → Nat → Nat → Bool → Nat → Nat → Nat → Nat → Nat → Nat → Bool → Option GA → Nat → GH → Option R) : Int → Int → Option GA → Nat → Option GA → Option GA → Nat → Int → Int → Int → Nat → Nat → Nat → Nat → Nat → Nat → Bool → Nat → Nat → Nat → Nat → Nat → Nat → Bool → Option GA → Nat → GH → Option R := fun (s0 : Int) (s1 : Int) (s2a : Option GA) (s2n : Nat) (s9 : Option GA) (s11a : Option GA) (s11n : Nat) (s12 : Int) (b0_0 : Int) (b0_1 : Int) (b0_2 : Nat) (b0_3 : Nat) (b0_4 : Nat) (b0_5 : Nat) (b0_6 : Nat) (b0_7 : Nat) (b0_8 : Bool) (b1_0 : Nat) (b1_1 : Nat) (b1_2 : Nat) (b1_3 : Nat) (b1_4 : Nat) (b1_5 : Nat) (b1_6 : Bool) (b1_7a : Option GA) (b1_7n : Nat) G => u_law19_dropped_3 O KN s0 s1 s2a s2n s9 s11a s11n s12 b0_0 b0_1 b0_2 b0_3 b0_4 b0_5 b0_6 b0_7 b0_8 b1_0 b1_1 b1_2 b1_3 b1_4 b1_5 b1_6 b1_7a b1_7n G

theorem u_law19_dropped_3_raw {R : Type} (O : Ora R) (fuel : Nat) (s0 : Int) (s1 : Int) (s2a : Option GA) (s2n : Nat) (s9 : Option GA) (s11a : Option GA) (s11n : Nat) (s12 : Int) (b0_0 : Int) (b0_1 : Int) (b0_2 : Nat) (b0_3 : Nat) (b0_4 : Nat) (b0_5 : Nat) (b0_6 : Nat) (b0_7 : Nat) (b0_8 : Bool) (b1_0 : Nat) (b1_1 : Nat) (b1_2 : Nat) (b1_3 : Nat) (b1_4 : Nat) (b1_5 : Nat) (b1_6 : Bool) (b1_7a : Option GA) (b1_7n : Nat) (G : GH) (k : Ex → List IV → List (List IV) → GH → Option R) :
  loopD Try.prog O lo20 fuel (nav (Try.f20.body.getD .skip) [1, 1, 1, 1, 0, 1, 0, 0, 1, 0, 0, 1, 1, 0]) 47 (mkE 102 [(0, .int .i64 s0), (1, .int .i64 s1), (2, .slice s2a s2n), (9, .ptr s9), (11, .slice s11a s11n), (12, .int .i64 s12), (13, .loc 0 0), (14, .loc 1 0)]) [[.int .i64 b0_0, .int .i64 b0_1, .float .f64 b0_2, .float .f64 b0_3, .float .f64 b0_4, .float .f64 b0_5, .float .f64 b0_6, .float .f64 b0_7, .bool b0_8], [.float .f64 b1_0, .float .f64 b1_1, .float .f64 b1_2, .float .f64 b1_3, .float .f64 b1_4, .float .f64 b1_5, .bool b1_6, .slice b1_7a b1_7n]] G k =
  u_law19_dropped_3 O (fun (s0 : Int) (s1 : Int) (s2a : Option GA) (s2n : Nat) (s9 : Option GA) (s11a : Option GA) (s11n : Nat) (s12 : Int) (s15 : Bool) (b0_0 : Int) (b0_1 : Int) (b0_2 : Nat) (b0_3 : Nat) (b0_4 : Nat) (b0_5 : Nat) (b0_6 : Nat) (b0_7 : Nat) (b0_8 : Bool) (b1_0 : Nat) (b1_1 : Nat) (b1_2 : Nat) (b1_3 : Nat) (b1_4 : Nat) (b1_5 : Nat) (b1_6 : Bool) (b1_7a : Option GA) (b1_7n : Nat) (G : GH) => k .normal (mkE 102 [(0, .int .i64 s0), (1, .int .i64 s1), (2, .slice s2a s2n), (9, .ptr s9), (11, .slice s11a s11n), (12, .int .i64 s12), (13, .loc 0 0), (14, .loc 1 0), (15, .bool s15)]) [[.int .i64 b0_0, .int .i64 b0_1, .float .f64 b0_2, .float .f64 b0_3, .float .f64 b0_4, .float .f64 b0_5, .float .f64 b0_6, .float .f64 b0_7, .bool b0_8], [.float .f64 b1_0, .float .f64 b1_1, .float .f64 b1_2, .float .f64 b1_3, .float .f64 b1_4, .float .f64 b1_5, .bool b1_6, .slice b1_7a b1_7n]] G) s0 s1 s2a s2n s9 s11a s11n s12 b0_0 b0_1 b0_2 b0_3 b0_4 b0_5 b0_6 b0_7 b0_8 b1_0 b1_1 b1_2 b1_3 b1_4 b1_5 b1_6 b1_7a b1_7n G := by kernel_rfl

theorem l_law19_dropped_3_eq {R : Type} (O : Ora R) (fuel : Nat) (k : Ex → List IV → List (List IV) → GH → Option R) : ∀ (s0 : Int) (s1 : Int) (s2a : Option GA) (s2n : Nat) (s9 : Option GA) (s11a : Option GA) (s11n : Nat) (s12 : Int) (b0_0 : Int) (b0_1 : Int) (b0_2 : Nat) (b0_3 : Nat) (b0_4 : Nat) (b0_5 : Nat) (b0_6 : Nat) (b0_7 : Nat) (b0_8 : Bool) (b1_0 : Nat) (b1_1 : Nat) (b1_2 : Nat) (b1_3 : Nat) (b1_4 : Nat) (b1_5 : Nat) (b1_6 : Bool) (b1_7a : Option GA) (b1_7n : Nat) (G : GH),
  loopD Try.prog O lo20 fuel (nav (Try.f20.body.getD .skip) [1, 1, 1, 1, 0, 1, 0, 0, 1, 0, 0, 1, 1, 0]) 47 (mkE 102 [(0, .int .i64 s0), (1, .int .i64 s1), (2, .slice s2a s2n), (9, .ptr s9), (11, .slice s11a s11n), (12, .int .i64 s12), (13, .loc 0 0), (14, .loc 1 0)]) [[.int .i64 b0_0, .int .i64 b0_1, .float .f64 b0_2, .float .f64 b0_3, .float .f64 b0_4, .float .f64 b0_5, .float .f64 b0_6, .float .f64 b0_7, .bool b0_8], [.float .f64 b1_0, .float .f64 b1_1, .float .f64 b1_2, .float .f64 b1_3, .float .f64 b1_4, .float .f64 b1_5, .bool b1_6, .slice b1_7a b1_7n]] G k = l_law19_dropped_3 O (fun (s0 : Int) (s1 : Int) (s2a : Option GA) (s2n : Nat) (s9 : Option GA) (s11a : Option GA) (s11n : Nat) (s12 : Int) (s15 : Bool) (b0_0 : Int) (b0_1 : Int) (b0_2 : Nat) (b0_3 : Nat) (b0_4 : Nat) (b0_5 : Nat) (b0_6 : Nat) (b0_7 : Nat) (b0_8 : Bool) (b1_0 : Nat) (b1_1 : Nat) (b1_2 : Nat) (b1_3 : Nat) (b1_4 : Nat) (b1_5 : Nat) (b1_6 : Bool) (b1_7a : Option GA) (b1_7n : Nat) (G : GH) => k .normal (mkE 102 [(0, .int .i64 s0), (1, .int .i64 s1), (2, .slice s2a s2n), (9, .ptr s9), (11, .slice s11a s11n), (12, .int .i64 s12), (13, .loc 0 0), (14, .loc 1 0), (15, .bool s15)]) [[.int .i64 b0_0, .int .i64 b0_1, .float .f64 b0_2, .float .f64 b0_3, .float .f64 b0_4, .float .f64 b0_5, .float .f64 b0_6, .float .f64 b0_7, .bool b0_8], [.float .f64 b1_0, .float .f64 b1_1, .float .f64 b1_2, .float .f64 b1_3, .float .f64 b1_4, .float .f64 b1_5, .bool b1_6, .slice b1_7a b1_7n]] G) s0 s1 s2a s2n s9 s11a s11n s12 b0_0 b0_1 b0_2 b0_3 b0_4 b0_5 b0_6 b0_7 b0_8 b1_0 b1_1 b1_2 b1_3 b1_4 b1_5 b1_6 b1_7a b1_7n G := by
  intros
  rw [u_law19_dropped_3_raw]
  simp only [l_law19_dropped_3]

def u_law19_dropped_2 {R : Type} (O : Ora R) (Kret : Option GA → Option GA → Nat → Bool → GH → Option R) (KN : Int → Int → Option GA → Nat → Option GA → Option GA → Nat → Int → GH → Option R) (L3 : Int → Int → Option GA → Nat → Option GA → Option GA → Nat → Int → Int → Int → Nat → Nat → Nat → Nat → Nat → Nat → Bool → Nat → Nat → Nat → Nat → Nat → Nat → Bool → Option GA → Nat → GH → Option R) (s0 : Int) (s1 : Int) (s2a : Option GA) (s2n : Nat) (s9 : Option GA) (s11a : Option GA) (s11n : Nat) (s12 : Int) (G : GH) : Option R :=
  (idx? s2a s2n s12 9).bind fun a1 =>
  (ldInt G .i64 (GA.add a1 0)).bind fun x2 =>
  (ldInt G .i64 (GA.add a1 1)).bind fun x3 =>
  (ldFloat G .f64 (GA.add a1 2)).bind fun x4 =>
  (ldFloat G .f64 (GA.add a1 3)).bind fun x5 =>
  (ldFloat G .f64 (GA.add a1 4)).bind fun x6 =>
  (ldFloat G .f64 (GA.add a1 5)).bind fun x7 =>
  (ldFloat G .f64 (GA.add a1 6)).bind fun x8 =>
  (ldFloat G .f64 (GA.add a1 7)).bind fun x9 =>
  (ldBool G (GA.add a1 8)).bind fun x10 =>
  L3 s0 s1 s2a s2n s9 s11a s11n s12 x2 x3 x4 x5 x6 x7 x8 x9 x10 x4 x5 x6 x7 x8 x9 (!x10) none 0 G

def a_law19_dropped_3N {R : Type} (O : Ora R) (Kret : Option GA → Option GA → Nat → Bool → GH → Option R) (KN : Int → Int → Option GA → Nat → Option GA → Option GA → Nat → Int → GH → Option R) (s0 : Int) (s1 : Int) (s2a : Option GA) (s2n : Nat) (s9 : Option GA) (s11a : Option GA) (s11n : Nat) (s12 : Int) (s15 : Bool) (b0_0 : Int) (b0_1 : Int) (b0_2 : Nat) (b0_3 : Nat) (b0_4 : Nat) (b0_5 : Nat) (b0_6 : Nat) (b0_7 : Nat) (b0_8 : Bool) (b1_0 : Nat) (b1_1 : Nat) (b1_2 : Nat) (b1_3 : Nat) (b1_4 : Nat) (b1_5 : Nat) (b1_6 : Bool) (b1_7a : Option GA) (b1_7n : Nat) (G : GH) : Option R :=
  O fn_film_Film_Add [.ptr s9, .int .i64 b0_0, .int .i64 b0_1, .agg [.float .f64 b1_0, .float .f64 b1_1, .float .f64 b1_2, .float .f64 b1_3, .float .f64 b1_4, .float .f64 b1_5, .bool b1_6, .slice b1_7a b1_7n]] G fun v1 G2 =>
  (ivInt .i64 v1).bind fun x3 =>
  bif (!((x3 == (0 : Int)) == s15)) then
  Kret none none 0 false G2
  else
  bif s15 then
  (idx? s11a s11n (IntKind.wrap .i64 ((IntKind.wrap .i64 (b0_1 * s0)) + b0_0)) 8).bind fun a4 =>
  (ldFloat G2 .f64 (GA.add a4 0)).bind fun x5 =>
  (ldFloat G2 .f64 (GA.add a4 1)).bind fun x6 =>
  (ldFloat G2 .f64 (GA.add a4 2)).bind fun x7 =>
  (ldFloat G2 .f64 (GA.add a4 3)).bind fun x8 =>
  (ldFloat G2 .f64 (GA.add a4 4)).bind fun x9 =>
  (ldFloat G2 .f64 (GA.add a4 5)).bind fun x10 =>
  (ldInt G2 .i64 (GA.add a4 6)).bind fun x11 =>
  (ldInt G2 .i64 (GA.add a4 7)).bind fun x12 =>
  O fn_ref19_Add [.agg [.float .f64 x5, .float .f64 x6, .float .f64 x7, .float .f64 x8, .float .f64 x9, .float .f64 x10, .int .i64 x11, .int .i64 x12], .agg [.float .f64 b1_0, .float .f64 b1_1, .float .f64 b1_2, .float .f64 b1_3, .float .f64 b1_4, .float .f64 b1_5, .bool b1_6, .slice b1_7a b1_7n]] (gfreeze G2) fun v13 _ =>
  (ivAgg 8 v13).bind fun c14 =>
  (ivFloat .f64 (c14.getD 0 undefI)).bind fun x15 =>
  (ivFloat .f64 (c14.getD 1 undefI)).bind fun x16 =>
  (ivFloat .f64 (c14.getD 2 undefI)).bind fun x17 =>
  (ivFloat .f64 (c14.getD 3 undefI)).bind fun x18 =>
  (ivFloat .f64 (c14.getD 4 undefI)).bind fun x19 =>
  (ivFloat .f64 (c14.getD 5 undefI)).bind fun x20 =>
  (ivInt .i64 (c14.getD 6 undefI)).bind fun x21 =>
  (ivInt .i64 (c14.getD 7 undefI)).bind fun x22 =>
  (idx? s11a s11n (IntKind.wrap .i64 ((IntKind.wrap .i64 (b0_1 * s0)) + b0_0)) 8).bind fun a23 =>
  (gst G2 a23 [.float .f64 x15, .float .f64 x16, .float .f64 x17, .float .f64 x18, .float .f64 x19, .float .f64 x20, .int .i64 x21, .int .i64 x22]).bind fun G24 =>
  KN s0 s1 s2a s2n s9 s11a s11n s12 G24
  else
  KN s0 s1 s2a s2n s9 s11a s11n s12 G2

def L_law19_dropped_3 {R : Type} (O : Ora R) (fuel : Nat) (Kret : Option GA → Option GA → Nat → Bool → GH → Option R) (KN : Int → Int → Option GA → Nat → Option GA → Option GA → Nat → Int → GH → Option R) : Int → Int → Option GA → Nat → Option GA → Option GA → Nat → Int → Int → Int → Nat → Nat → Nat → Nat → Nat → Nat → Bool → Nat → Nat → Nat → Nat → Nat → Nat → Bool → Option GA → Nat → GH → Option R := fun (s0 : Int) (s1 : Int) (s2a : Option GA) (s2n : Nat) (s9 : Option GA) (s11a : Option GA) (s11n : Nat) (s12 : Int) (b0_0 : Int) (b0_1 : Int) (b0_2 : Nat) (b0_3 : Nat) (b0_4 : Nat) (b0_5 : Nat) (b0_6 : Nat) (b0_7 : Nat) (b0_8 : Bool) (b1_0 : Nat) (b1_1 : Nat) (b1_2 : Nat) (b1_3 : Nat) (b1_4 : Nat) (b1_5 : Nat) (b1_6 : Bool) (b1_7a : Option GA) (b1_7n : Nat) G =>
  stepN fuel (l_law19_dropped_3 O (a_law19_dropped_3N O Kret KN) s0 s1 s2a s2n s9 s11a s11n s12 b0_0 b0_1 b0_2 b0_3 b0_4 b0_5 b0_6 b0_7 b0_8 b1_0 b1_1 b1_2 b1_3 b1_4 b1_5 b1_6 b1_7a b1_7n G)

theorem a_law19_dropped_3N_raw {R : Type} (O : Ora R) (fuel : Nat) (s0 : Int) (s1 : Int) (s2a : Option GA) (s2n : Nat) (s9 : Option GA) (s11a : Option GA) (s11n : Nat) (s12 : Int) (s15 : Bool) (b0_0 : Int) (b0_1 : Int) (b0_2 : Nat) (b0_3 : Nat) (b0_4 : Nat) (b0_5 : Nat) (b0_6 : Nat) (b0_7 : Nat) (b0_8 : Bool) (b1_0 : Nat) (b1_1 : Nat) (b1_2 : Nat) (b1_3 : Nat) (b1_4 : Nat) (b1_5 : Nat) (b1_6 : Bool) (b1_7a : Option GA) (b1_7n : Nat) (G : GH) (k : Ex → List IV → List (List IV) → GH → Option R) :
  contC Try.prog O lo20 fuel (nav (Try.f20.body.getD .skip) [1, 1, 1, 1, 0, 1, 0, 0, 1, 0]) [0, 1, 1, 0] (kpD lo20 31 0 k) .normal (mkE 102 [(0, .int .i64 s0), (1, .int .i64 s1), (2, .slice s2a s2n), (9, .ptr s9), (11, .slice s11a s11n), (12, .int .i64 s12), (13, .loc 0 0), (14, .loc 1 0), (15, .bool s15)]) [[.int .i64 b0_0, .int .i64 b0_1, .float .f64 b0_2, .float .f64 b0_3, .float .f64 b0_4, .float .f64 b0_5, .float .f64 b0_6, .float .f64 b0_7, .bool b0_8], [.float .f64 b1_0, .float .f64 b1_1, .float .f64 b1_2, .float .f64 b1_3, .float .f64 b1_4, .float .f64 b1_5, .bool b1_6, .slice b1_7a b1_7n]] G =
  a_law19_dropped_3N O (fun (s6 : Option GA) (s7a : Option GA) (s7n : Nat) (s8 : Bool) (G : GH) => k .ret (mkE 102 [(6, .ptr s6), (7, .slice s7a s7n), (8, .bool s8)]) [] G) (fun (s0 : Int) (s1 : Int) (s2a : Option GA) (s2n : Nat) (s9 : Option GA) (s11a : Option GA) (s11n : Nat) (s12 : Int) (G : GH) => k .normal (mkE 102 [(0, .int .i64 s0), (1, .int .i64 s1), (2, .slice s2a s2n), (9, .ptr s9), (11, .slice s11a s11n), (12, .int .i64 s12)]) [] G) s0 s1 s2a s2n s9 s11a s11n s12 s15 b0_0 b0_1 b0_2 b0_3 b0_4 b0_5 b0_6 b0_7 b0_8 b1_0 b1_1 b1_2 b1_3 b1_4 b1_5 b1_6 b1_7a b1_7n G := by kernel_rfl

theorem L_law19_dropped_3_eq {R : Type} (O : Ora R) (fuel : Nat) (k : Ex → List IV → List (List IV) → GH → Option R) :
  (fun (s0 : Int) (s1 : Int) (s2a : Option GA) (s2n : Nat) (s9 : Option GA) (s11a : Option GA) (s11n : Nat) (s12 : Int) (b0_0 : Int) (b0_1 : Int) (b0_2 : Nat) (b0_3 : Nat) (b0_4 : Nat) (b0_5 : Nat) (b0_6 : Nat) (b0_7 : Nat) (b0_8 : Bool) (b1_0 : Nat) (b1_1 : Nat) (b1_2 : Nat) (b1_3 : Nat) (b1_4 : Nat) (b1_5 : Nat) (b1_6 : Bool) (b1_7a : Option GA) (b1_7n : Nat) (G : GH) => stepN fuel (loopD Try.prog O lo20 fuel (nav (Try.f20.body.getD .skip) [1, 1, 1, 1, 0, 1, 0, 0, 1, 0, 0, 1, 1, 0]) 47 (mkE 102 [(0, .int .i64 s0), (1, .int .i64 s1), (2, .slice s2a s2n), (9, .ptr s9), (11, .slice s11a s11n), (12, .int .i64 s12), (13, .loc 0 0), (14, .loc 1 0)]) [[.int .i64 b0_0, .int .i64 b0_1, .float .f64 b0_2, .float .f64 b0_3, .float .f64 b0_4, .float .f64 b0_5, .float .f64 b0_6, .float .f64 b0_7, .bool b0_8], [.float .f64 b1_0, .float .f64 b1_1, .float .f64 b1_2, .float .f64 b1_3, .float .f64 b1_4, .float .f64 b1_5, .bool b1_6, .slice b1_7a b1_7n]] G (contC Try.prog O lo20 fuel (nav (Try.f20.body.getD .skip) [1, 1, 1, 1, 0, 1, 0, 0, 1, 0]) [0, 1, 1, 0] (kpD lo20 31 0 k)))) = L_law19_dropped_3 O fuel (fun (s6 : Option GA) (s7a : Option GA) (s7n : Nat) (s8 : Bool) (G : GH) => k .ret (mkE 102 [(6, .ptr s6), (7, .slice s7a s7n), (8, .bool s8)]) [] G) (fun (s0 : Int) (s1 : Int) (s2a : Option GA) (s2n : Nat) (s9 : Option GA) (s11a : Option GA) (s11n : Nat) (s12 : Int) (G : GH) => k .normal (mkE 102 [(0, .int .i64 s0), (1, .int .i64 s1), (2, .slice s2a s2n), (9, .ptr s9), (11, .slice s11a s11n), (12, .int .i64 s12)]) [] G) := by
  funext s0 s1 s2a s2n s9 s11a s11n s12 b0_0 b0_1 b0_2 b0_3 b0_4 b0_5 b0_6 b0_7 b0_8 b1_0 b1_1 b1_2 b1_3 b1_4 b1_5 b1_6 b1_7a b1_7n G
  simp only [L_law19_dropped_3, l_law19_dropped_3_eq, a_law19_dropped_3N_raw]

def l_law19_dropped_2 {R : Type} (O : Ora R) (fuel : Nat) (Kret : Option GA → Option GA → Nat → Bool → GH → Option R) (KN : Int → Int → Option GA → Nat → Option GA → Option GA → Nat → Int → GH → Option R) : Int → Int → Option GA → Nat → Option GA → Option GA → Nat → Int → GH → Option R := fun (s0 : Int) (s1 : Int) (s2a : Option GA) (s2n : Nat) (s9 : Option GA) (s11a : Option GA) (s11n : Nat) (s12 : Int) G => u_law19_dropped_2 O Kret KN (L_law19_dropped_3 O fuel Kret KN) s0 s1 s2a s2n s9 s11a s11n s12 G

theorem u_law19_dropped_2_raw {R : Type} (O : Ora R) (fuel : Nat) (s0 : Int) (s1 : Int) (s2a : Option GA) (s2n : Nat) (s9 : Option GA) (s11a : Option GA) (s11n : Nat) (s12 : Int) (G : GH) (k : Ex → List IV → List (List IV) → GH → Option R) :
  loopD Try.prog O lo20 fuel (nav (Try.f20.body.getD .skip) [1, 1, 1, 1, 0, 1, 0, 0, 1, 0]) 31 (mkE 102 [(0, .int .i64 s0), (1, .int .i64 s1), (2, .slice s2a s2n), (9, .ptr s9), (11, .slice s11a s11n), (12, .int .i64 s12)]) [] G k =
  u_law19_dropped_2 O (fun (s6 : Option GA) (s7a : Option GA) (s7n : Nat) (s8 : Bool) (G : GH) => k .ret (mkE 102 [(6, .ptr s6), (7, .slice s7a s7n), (8, .bool s8)]) [] G) (fun (s0 : Int) (s1 : Int) (s2a : Option GA) (s2n : Nat) (s9 : Option GA) (s11a : Option GA) (s11n : Nat) (s12 : Int) (G : GH) => k .normal (mkE 102 [(0, .int .i64 s0), (1, .int .i64 s1), (2, .slice s2a s2n), (9, .ptr s9), (11, .slice s11a s11n), (12, .int .i64 s12)]) [] G) (fun (s0 : Int) (s1 : Int) (s2a : Option GA) (s2n : Nat) (s9 : Option GA) (s11a : Option GA) (s11n : Nat) (s12 : Int) (b0_0 : Int) (b0_1 : Int) (b0_2 : Nat) (b0_3 : Nat) (b0_4 : Nat) (b0_5 : Nat) (b0_6 : Nat) (b0_7 : Nat) (b0_8 : Bool) (b1_0 : Nat) (b1_1 : Nat) (b1_2 : Nat) (b1_3 : Nat) (b1_4 : Nat) (b1_5 : Nat) (b1_6 : Bool) (b1_7a : Option GA) (b1_7n : Nat) (G : GH) => stepN fuel (loopD Try.prog O lo20 fuel (nav (Try.f20.body.getD .skip) [1, 1, 1, 1, 0, 1, 0, 0, 1, 0, 0, 1, 1, 0]) 47 (mkE 102 [(0, .int .i64 s0), (1, .int .i64 s1), (2, .slice s2a s2n), (9, .ptr s9), (11, .slice s11a s11n), (12, .int .i64 s12), (13, .loc 0 0), (14, .loc 1 0)]) [[.int .i64 b0_0, .int .i64 b0_1, .float .f64 b0_2, .float .f64 b0_3, .float .f64 b0_4, .float .f64 b0_5, .float .f64 b0_6, .float .f64 b0_7, .bool b0_8], [.float .f64 b1_0, .float .f64 b1_1, .float .f64 b1_2, .float .f64 b1_3, .float .f64 b1_4, .float .f64 b1_5, .bool b1_6, .slice b1_7a b1_7n]] G (contC Try.prog O lo20 fuel (nav (Try.f20.body.getD .skip) [1, 1, 1, 1, 0, 1, 0, 0, 1, 0]) [0, 1, 1, 0] (kpD lo20 31 0 k)))) s0 s1 s2a s2n s9 s11a s11n s12 G := by kernel_rfl

theorem l_law19_dropped_2_eq {R : Type} (O : Ora R) (fuel : Nat) (k : Ex → List IV → List (List IV) → GH → Option R) : ∀ (s0 : Int) (s1 : Int) (s2a : Option GA) (s2n : Nat) (s9 : Option GA) (s11a : Option GA) (s11n : Nat) (s12 : Int) (G : GH),
  loopD Try.prog O lo20 fuel (nav (Try.f20.body.getD .skip) [1, 1, 1, 1, 0, 1, 0, 0, 1, 0]) 31 (mkE 102 [(0, .int .i64 s0), (1, .int .i64 s1), (2, .slice s2a s2n), (9, .ptr s9), (11, .slice s11a s11n), (12, .int .i64 s12)]) [] G k = l_law19_dropped_2 O fuel (fun (s6 : Option GA) (s7a : Option GA) (s7n : Nat) (s8 : Bool) (G : GH) => k .ret (mkE 102 [(6, .ptr s6), (7, .slice s7a s7n), (8, .bool s8)]) [] G) (fun (s0 : Int) (s1 : Int) (s2a : Option GA) (s2n : Nat) (s9 : Option GA) (s11a : Option GA) (s11n : Nat) (s12 : Int) (G : GH) => k .normal (mkE 102 [(0, .int .i64 s0), (1, .int .i64 s1), (2, .slice s2a s2n), (9, .ptr s9), (11, .slice s11a s11n), (12, .int .i64 s12)]) [] G) s0 s1 s2a s2n s9 s11a s11n s12 G := by
  intros
  rw [u_law19_dropped_2_raw]
  simp only [l_law19_dropped_2, L_law19_dropped_3_eq]

def u_law19_dropped_0 {R : Type} (O : Ora R) (Kret : Option GA → Option GA → Nat → Bool → GH → Option R) (KN : Int → Int → Option GA → Nat → Option GA → Option GA → Nat → Int → GH → Option R) (K0 : Option GA → Option GA → Nat → GH → Option R) (L1 : Int → Int → Option GA → Nat → Option GA → Option GA → Nat → Int → GH → Option R) (s0 : Int) (s1 : Int) (s2a : Option GA) (s2n : Nat) (s9 : Option GA) (s11a : Option GA) (s11n : Nat) (s12 : Int) (G : GH) : Option R :=
  L1 s0 s1 s2a s2n s9 s11a s11n s12 G

def a_law19_dropped_1N {R : Type} (O : Ora R) (Kret : Option GA → Option GA → Nat → Bool → GH → Option R) (KN : Int → Int → Option GA → Nat → Option GA → Option GA → Nat → Int → GH → Option R) (K0 : Option GA → Option GA → Nat → GH → Option R) (L2 : Int → Int → Option GA → Nat → Option GA → Option GA → Nat → Int → GH → Option R) (s0 : Int) (s1 : Int) (s2a : Option GA) (s2n : Nat) (s9 : Option GA) (s11a : Option GA) (s11n : Nat) (s12 : Int) (G : GH) : Option R :=
  L2 s0 s1 s2a s2n s9 s11a s11n s12 G

def a_law19_dropped_10 {R : Type} (O : Ora R) (Kret : Option GA → Option GA → Nat → Bool → GH → Option R) (KN : Int → Int → Option GA → Nat → Option GA → Option GA → Nat → Int → GH → Option R) (K0 : Option GA → Option GA → Nat → GH → Option R) (s9 : Option GA) (s11a : Option GA) (s11n : Nat) (G : GH) : Option R :=
  K0 s9 s11a s11n G

def a_law19_dropped_2ret {R : Type} (O : Ora R) (Kret : Option GA → Option GA → Nat → Bool → GH → Option R) (KN : Int → Int → Option GA → Nat → Option GA → Option GA → Nat → Int → GH → Option R) (K0 : Option GA → Option GA → Nat → GH → Option R) (s6 : Option GA) (s7a : Option GA) (s7n : Nat) (s8 : Bool) (G : GH) : Option R :=
  Kret s6 s7a s7n s8 G

def a_law19_dropped_2N {R : Type} (O : Ora R) (Kret : Option GA → Option GA → Nat → Bool → GH → Option R) (KN : Int → Int → Option GA → Nat → Option GA → Option GA → Nat → Int → GH → Option R) (K0 : Option GA → Option GA → Nat → GH → Option R) (s0 : Int) (s1 : Int) (s2a : Option GA) (s2n : Nat) (s9 : Option GA) (s11a : Option GA) (s11n : Nat) (s12 : Int) (G : GH) : Option R :=
  KN s0 s1 s2a s2n s9 s11a s11n (IntKind.wrap .i64 (s12 + (1 : Int))) G

def L_law19_dropped_2 {R : Type} (O : Ora R) (fuel : Nat) (Kret : Option GA → Option GA → Nat → Bool → GH → Option R) (KN : Int → Int → Option GA → Nat → Option GA → Option GA → Nat → Int → GH → Option R) (K0 : Option GA → Option GA → Nat → GH → Option R) : Int → Int → Option GA → Nat → Option GA → Option GA → Nat → Int → GH → Option R := fun (s0 : Int) (s1 : Int) (s2a : Option GA) (s2n : Nat) (s9 : Option GA) (s11a : Option GA) (s11n : Nat) (s12 : Int) G =>
  stepN fuel (l_law19_dropped_2 O fuel (a_law19_dropped_2ret O Kret KN K0) (a_law19_dropped_2N O Kret KN K0) s0 s1 s2a s2n s9 s11a s11n s12 G)

theorem a_law19_dropped_2ret_raw {R : Type} (O : Ora R) (fuel : Nat) (s6 : Option GA) (s7a : Option GA) (s7n : Nat) (s8 : Bool) (G : GH) (k : Ex → List IV → List (List IV) → GH → Option R) :
  contC Try.prog O lo20 fuel (nav (Try.f20.body.getD .skip) [1, 1, 1, 1, 0, 1, 0, 0]) [1, 0] (kpD lo20 24 0 k) .ret (mkE 102 [(6, .ptr s6), (7, .slice s7a s7n), (8, .bool s8)]) [] G =
  a_law19_dropped_2ret O (fun (s6 : Option GA) (s7a : Option GA) (s7n : Nat) (s8 : Bool) (G : GH) => k .ret (mkE 102 [(6, .ptr s6), (7, .slice s7a s7n), (8, .bool s8)]) [] G) (fun (s0 : Int) (s1 : Int) (s2a : Option GA) (s2n : Nat) (s9 : Option GA) (s11a : Option GA) (s11n : Nat) (s12 : Int) (G : GH) => k .normal (mkE 102 [(0, .int .i64 s0), (1, .int .i64 s1), (2, .slice s2a s2n), (9, .ptr s9), (11, .slice s11a s11n), (12, .int .i64 s12)]) [] G) (fun (s9 : Option GA) (s11a : Option GA) (s11n : Nat) (G : GH) => k (.exit 0) (mkE 102 [(9, .ptr s9), (11, .slice s11a s11n)]) [] G) s6 s7a s7n s8 G := by kernel_rfl

theorem a_law19_dropped_2N_raw {R : Type} (O : Ora R) (fuel : Nat) (s0 : Int) (s1 : Int) (s2a : Option GA) (s2n : Nat) (s9 : Option GA) (s11a : Option GA) (s11n : Nat) (s12 : Int) (G : GH) (k : Ex → List IV → List (List IV) → GH → Option R) :
  contC Try.prog O lo20 fuel (nav (Try.f20.body.getD .skip) [1, 1, 1, 1, 0, 1, 0, 0]) [1, 0] (kpD lo20 24 0 k) .normal (mkE 102 [(0, .int .i64 s0), (1, .int .i64 s1), (2, .slice s2a s2n), (9, .ptr s9), (11, .slice s11a s11n), (12, .int .i64 s12)]) [] G =
  a_law19_dropped_2N O (fun (s6 : Option GA) (s7a : Option GA) (s7n : Nat) (s8 : Bool) (G : GH) => k .ret (mkE 102 [(6, .ptr s6), (7, .slice s7a s7n), (8, .bool s8)]) [] G) (fun (s0 : Int) (s1 : Int) (s2a : Option GA) (s2n : Nat) (s9 : Option GA) (s11a : Option GA) (s11n : Nat) (s12 : Int) (G : GH) => k .normal (mkE 102 [(0, .int .i64 s0), (1, .int .i64 s1), (2, .slice s2a s2n), (9, .ptr s9), (11, .slice s11a s11n), (12, .int .i64 s12)]) [] G) (fun (s9 : Option GA) (s11a : Option GA) (s11n : Nat) (G : GH) => k (.exit 0) (mkE 102 [(9, .ptr s9), (11, .slice s11a s11n)]) [] G) s0 s1 s2a s2n s9 s11a s11n s12 G := by kernel_rfl

theorem L_law19_dropped_2_eq {R : Type} (O : Ora R) (fuel : Nat) (k : Ex → List IV → List (List IV) → GH → Option R) :
  (fun (s0 : Int) (s1 : Int) (s2a : Option GA) (s2n : Nat) (s9 : Option GA) (s11a : Option GA) (s11n : Nat) (s12 : Int) (G : GH) => stepN fuel (loopD Try.prog O lo20 fuel (nav (Try.f20.body.getD .skip) [1, 1, 1, 1, 0, 1, 0, 0, 1, 0]) 31 (mkE 102 [(0, .int .i64 s0), (1, .int .i64 s1), (2, .slice s2a s2n), (9, .ptr s9), (11, .slice s11a s11n), (12, .int .i64 s12)]) [] G (contC Try.prog O lo20 fuel (nav (Try.f20.body.getD .skip) [1, 1, 1, 1, 0, 1, 0, 0]) [1, 0] (kpD lo20 24 0 k)))) = L_law19_dropped_2 O fuel (fun (s6 : Option GA) (s7a : Option GA) (s7n : Nat) (s8 : Bool) (G : GH) => k .ret (mkE 102 [(6, .ptr s6), (7, .slice s7a s7n), (8, .bool s8)]) [] G) (fun (s0 : Int) (s1 : Int) (s2a : Option GA) (s2n : Nat) (s9 : Option GA) (s11a : Option GA) (s11n : Nat) (s12 : Int) (G : GH) => k .normal (mkE 102 [(0, .int .i64 s0), (1, .int .i64 s1), (2, .slice s2a s2n), (9, .ptr s9), (11, .slice s11a s11n), (12, .int .i64 s12)]) [] G) (fun (s9 : Option GA) (s11a : Option GA) (s11n : Nat) (G : GH) => k (.exit 0) (mkE 102 [(9, .ptr s9), (11, .slice s11a s11n)]) [] G) := by
  funext s0 s1 s2a s2n s9 s11a s11n s12 G
  simp only [L_law19_dropped_2, l_law19_dropped_2_eq, a_law19_dropped_2ret_raw, a_law19_dropped_2N_raw]

def L_law19_dropped_1 {R : Type} (O : Ora R) (fuel : Nat) (Kret : Option GA → Option GA → Nat → Bool → GH → Option R) (KN : Int → Int → Option GA → Nat → Option GA → Option GA → Nat → Int → GH → Option R) (K0 : Option GA → Option GA → Nat → GH → Option R) : Int → Int → Option GA → Nat → Option GA → Option GA → Nat → Int → GH → Option R := fun (s0 : Int) (s1 : Int) (s2a : Option GA) (s2n : Nat) (s9 : Option GA) (s11a : Option GA) (s11n : Nat) (s12 : Int) G =>
  stepN fuel (l_law19_dropped_1 O (a_law19_dropped_1N O Kret KN K0 (L_law19_dropped_2 O fuel Kret KN K0)) (a_law19_dropped_10 O Kret KN K0) s0 s1 s2a s2n s9 s11a s11n s12 G)

theorem a_law19_dropped_1N_raw {R : Type} (O : Ora R) (fuel : Nat) (s0 : Int) (s1 : Int) (s2a : Option GA) (s2n : Nat) (s9 : Option GA) (s11a : Option GA) (s11n : Nat) (s12 : Int) (G : GH) (k : Ex → List IV → List (List IV) → GH → Option R) :
  contC Try.prog O lo20 fuel (nav (Try.f20.body.getD .skip) [1, 1, 1, 1, 0, 1, 0, 0]) [0] (kpD lo20 24 0 k) .normal (mkE 102 [(0, .int .i64 s0), (1, .int .i64 s1), (2, .slice s2a s2n), (9, .ptr s9), (11, .slice s11a s11n), (12, .int .i64 s12)]) [] G =
  a_law19_dropped_1N O (fun (s6 : Option GA) (s7a : Option GA) (s7n : Nat) (s8 : Bool) (G : GH) => k .ret (mkE 102 [(6, .ptr s6), (7, .slice s7a s7n), (8, .bool s8)]) [] G) (fun (s0 : Int) (s1 : Int) (s2a : Option GA) (s2n : Nat) (s9 : Option GA) (s11a : Option GA) (s11n : Nat) (s12 : Int) (G : GH) => k .normal (mkE 102 [(0, .int .i64 s0), (1, .int .i64 s1), (2, .slice s2a s2n), (9, .ptr s9), (11, .slice s11a s11n), (12, .int .i64 s12)]) [] G) (fun (s9 : Option GA) (s11a : Option GA) (s11n : Nat) (G : GH) => k (.exit 0) (mkE 102 [(9, .ptr s9), (11, .slice s11a s11n)]) [] G) (fun (s0 : Int) (s1 : Int) (s2a : Option GA) (s2n : Nat) (s9 : Option GA) (s11a : Option GA) (s11n : Nat) (s12 : Int) (G : GH) => stepN fuel (loopD Try.prog O lo20 fuel (nav (Try.f20.body.getD .skip) [1, 1, 1, 1, 0, 1, 0, 0, 1, 0]) 31 (mkE 102 [(0, .int .i64 s0), (1, .int .i64 s1), (2, .slice s2a s2n), (9, .ptr s9), (11, .slice s11a s11n), (12, .int .i64 s12)]) [] G (contC Try.prog O lo20 fuel (nav (Try.f20.body.getD .skip) [1, 1, 1, 1, 0, 1, 0, 0]) [1, 0] (kpD lo20 24 0 k)))) s0 s1 s2a s2n s9 s11a s11n s12 G := by kernel_rfl

theorem a_law19_dropped_10_raw {R : Type} (O : Ora R) (fuel : Nat) (s9 : Option GA) (s11a : Option GA) (s11n : Nat) (G : GH) (k : Ex → List IV → List (List IV) → GH → Option R) :
  contC Try.prog O lo20 fuel (nav (Try.f20.body.getD .skip) [1, 1, 1, 1, 0, 1, 0, 0]) [0] (kpD lo20 24 0 k) (.exit 0) (mkE 102 [(9, .ptr s9), (11, .slice s11a s11n)]) [] G =
  a_law19_dropped_10 O (fun (s6 : Option GA) (s7a : Option GA) (s7n : Nat) (s8 : Bool) (G : GH) => k .ret (mkE 102 [(6, .ptr s6), (7, .slice s7a s7n), (8, .bool s8)]) [] G) (fun (s0 : Int) (s1 : Int) (s2a : Option GA) (s2n : Nat) (s9 : Option GA) (s11a : Option GA) (s11n : Nat) (s12 : Int) (G : GH) => k .normal (mkE 102 [(0, .int .i64 s0), (1, .int .i64 s1), (2, .slice s2a s2n), (9, .ptr s9), (11, .slice s11a s11n), (12, .int .i64 s12)]) [] G) (fun (s9 : Option GA) (s11a : Option GA) (s11n : Nat) (G : GH) => k (.exit 0) (mkE 102 [(9, .ptr s9), (11, .slice s11a s11n)]) [] G) s9 s11a s11n G := by kernel_rfl

theorem L_law19_dropped_1_eq {R : Type} (O : Ora R) (fuel : Nat) (k : Ex → List IV → List (List IV) → GH → Option R) :
  (fun (s0 : Int) (s1 : Int) (s2a : Option GA) (s2n : Nat) (s9 : Option GA) (s11a : Option GA) (s11n : Nat) (s12 : Int) (G : GH) => stepN fuel (loopD Try.prog O lo20 fuel (nav (Try.f20.body.getD .skip) [1, 1, 1, 1, 0, 1, 0, 0, 0]) 35 (mkE 102 [(0, .int .i64 s0), (1, .int .i64 s1), (2, .slice s2a s2n), (9, .ptr s9), (11, .slice s11a s11n), (12, .int .i64 s12)]) [] G (contC Try.prog O lo20 fuel (nav (Try.f20.body.getD .skip) [1, 1, 1, 1, 0, 1, 0, 0]) [0] (kpD lo20 24 0 k)))) = L_law19_dropped_1 O fuel (fun (s6 : Option GA) (s7a : Option GA) (s7n : Nat) (s8 : Bool) (G : GH) => k .ret (mkE 102 [(6, .ptr s6), (7, .slice s7a s7n), (8, .bool s8)]) [] G) (fun (s0 : Int) (s1 : Int) (s2a : Option GA) (s2n : Nat) (s9 : Option GA) (s11a : Option GA) (s11n : Nat) (s12 : Int) (G : GH) => k .normal (mkE 102 [(0, .int .i64 s0), (1, .int .i64 s1), (2, .slice s2a s2n), (9, .ptr s9), (11, .slice s11a s11n), (12, .int .i64 s12)]) [] G) (fun (s9 : Option GA) (s11a : Option GA) (s11n : Nat) (G : GH) => k (.exit 0) (mkE 102 [(9, .ptr s9), (11, .slice s11a s11n)]) [] G) := by
  funext s0 s1 s2a s2n s9 s11a s11n s12 G
  simp only [L_law19_dropped_1, l_law19_dropped_1_eq, a_law19_dropped_1N_raw, a_law19_dropped_10_raw, L_law19_dropped_2_eq]

def l_law19_dropped_0 {R : Type} (O : Ora R) (fuel : Nat) (Kret : Option GA → Option GA → Nat → Bool → GH → Option R) (K0 : Option GA → Option GA → Nat → GH → Option R) : Nat → Int → Int → Option GA → Nat → Option GA → Option GA → Nat → Int → GH → Option R
  | 0, _, _, _, _, _, _, _, _, _ => none
  | n + 1, s0, s1, s2a, s2n, s9, s11a, s11n, s12, G => u_law19_dropped_0 O Kret (l_law19_dropped_0 O fuel Kret K0 n) K0 (L_law19_dropped_1 O fuel Kret (l_law19_dropped_0 O fuel Kret K0 n) K0) s0 s1 s2a s2n s9 s11a s11n s12 G

theorem u_law19_dropped_0_raw {R : Type} (O : Ora R) (fuel : Nat) (s0 : Int) (s1 : Int) (s2a : Option GA) (s2n : Nat) (s9 : Option GA) (s11a : Option GA) (s11n : Nat) (s12 : Int) (G : GH) (k : Ex → List IV → List (List IV) → GH → Option R) :
  loopD Try.prog O lo20 fuel (nav (Try.f20.body.getD .skip) [1, 1, 1, 1, 0, 1, 0, 0]) 24 (mkE 102 [(0, .int .i64 s0), (1, .int .i64 s1), (2, .slice s2a s2n), (9, .ptr s9), (11, .slice s11a s11n), (12, .int .i64 s12)]) [] G k =
  u_law19_dropped_0 O (fun (s6 : Option GA) (s7a : Option GA) (s7n : Nat) (s8 : Bool) (G : GH) => k .ret (mkE 102 [(6, .ptr s6), (7, .slice s7a s7n), (8, .bool s8)]) [] G) (fun (s0 : Int) (s1 : Int) (s2a : Option GA) (s2n : Nat) (s9 : Option GA) (s11a : Option GA) (s11n : Nat) (s12 : Int) (G : GH) => k .normal (mkE 102 [(0, .int .i64 s0), (1, .int .i64 s1), (2, .slice s2a s2n), (9, .ptr s9), (11, .slice s11a s11n), (12, .int .i64 s12)]) [] G) (fun (s9 : Option GA) (s11a : Option GA) (s11n : Nat) (G : GH) => k (.exit 0) (mkE 102 [(9, .ptr s9), (11, .slice s11a s11n)]) [] G) (fun (s0 : Int) (s1 : Int) (s2a : Option GA) (s2n : Nat) (s9 : Option GA) (s11a : Option GA) (s11n : Nat) (s12 : Int) (G : GH) => stepN fuel (loopD Try.prog O lo20 fuel (nav (Try.f20.body.getD .skip) [1, 1, 1, 1, 0, 1, 0, 0, 0]) 35 (mkE 102 [(0, .int .i64 s0), (1, .int .i64 s1), (2, .slice s2a s2n), (9, .ptr s9), (11, .slice s11a s11n), (12, .int .i64 s12)]) [] G (contC Try.prog O lo20 fuel (nav (Try.f20.body.getD .skip) [1, 1, 1, 1, 0, 1, 0, 0]) [0] (kpD lo20 24 0 k)))) s0 s1 s2a s2n s9 s11a s11n s12 G := by kernel_rfl

theorem l_law19_dropped_0_eq {R : Type} (O : Ora R) (fuel : Nat) (k : Ex → List IV → List (List IV) → GH → Option R) : ∀ (n : Nat) (s0 : Int) (s1 : Int) (s2a : Option GA) (s2n : Nat) (s9 : Option GA) (s11a : Option GA) (s11n : Nat) (s12 : Int) (G : GH),
  loopN (loopD Try.prog O lo20 fuel (nav (Try.f20.body.getD .skip) [1, 1, 1, 1, 0, 1, 0, 0]) 24) n (mkE 102 [(0, .int .i64 s0), (1, .int .i64 s1), (2, .slice s2a s2n), (9, .ptr s9), (11, .slice s11a s11n), (12, .int .i64 s12)]) [] G k = l_law19_dropped_0 O fuel (fun (s6 : Option GA) (s7a : Option GA) (s7n : Nat) (s8 : Bool) (G : GH) => k .ret (mkE 102 [(6, .ptr s6), (7, .slice s7a s7n), (8, .bool s8)]) [] G) (fun (s9 : Option GA) (s11a : Option GA) (s11n : Nat) (G : GH) => k (.exit 0) (mkE 102 [(9, .ptr s9), (11, .slice s11a s11n)]) [] G) n s0 s1 s2a s2n s9 s11a s11n s12 G := by
  intro n
  induction n with
  | zero => intros; rfl
  | succ n ih =>
    intros
    rw [loopN_succ, u_law19_dropped_0_raw]
    simp only [l_law19_dropped_0, loopK_normal, loopK_exit, loopK_ret, ih, L_law19_dropped_1_eq]

def u_law19_dropped {R : Type} (O : Ora R) (k : IV → GH → Option R) (L0 : Int → Int → Option GA → Nat → Option GA → Option GA → Nat → Int → GH → Option R) (p0 : Int) (p1 : Int) (p2a : Option GA) (p2n : Nat) (G : GH) : Option R :=
  O fn_film_New [.int .i64 p0, .int .i64 p1] G fun v1 G2 =>
  (ivTup 2 v1).bind fun c3 =>
  (ivPtr (c3.getD 0 undefI)).bind fun x4 =>
  (ivInt .i64 (c3.getD 1 undefI)).bind fun x5 =>
  bif (x5 != (0 : Int)) then
  k (.tuple [.ptr none, .slice none 0, .bool false]) G2
  else
  bif (decide (0 ≤ (IntKind.wrap .i64 (p0 * p1)) ∧ (IntKind.wrap .i64 (p0 * p1)) ≤ (IntKind.wrap .i64 (p0 * p1)) ∧ (IntKind.wrap .i64 (p0 * p1)) * 64 ≤ roomI ∧ (IntKind.wrap .i64 (p0 * p1)) ≤ roomI) && true && true) then
  L0 p0 p1 p2a p2n x4 (some (gaddr G2)) (Int.toNat (IntKind.wrap .i64 (p0 * p1))) (0 : Int) (gnew G2 (List.replicate (Int.toNat (IntKind.wrap .i64 (p0 * p1))) [.float .f64 (0 : Nat), .float .f64 (0 : Nat), .float .f64 (0 : Nat), .float .f64 (0 : Nat), .float .f64 (0 : Nat), .float .f64 (0 : Nat), .int .i64 (0 : Int), .int .i64 (0 : Int)]).flatten 54)
  else none

def a_law19_dropped_0ret {R : Type} (O : Ora R) (k : IV → GH → Option R) (s6 : Option GA) (s7a : Option GA) (s7n : Nat) (s8 : Bool) (G : GH) : Option R :=
  k (.tuple [.ptr s6, .slice s7a s7n, .bool s8]) G

def a_law19_dropped_00 {R : Type} (O : Ora R) (k : IV → GH → Option R) (s9 : Option GA) (s11a : Option GA) (s11n : Nat) (G : GH) : Option R :=
  k (.tuple [.ptr s9, .slice s11a s11n, .bool true]) G

def L_law19_dropped_0 {R : Type} (O : Ora R) (fuel : Nat) (k : IV → GH → Option R) : Int → Int → Option GA → Nat → Option GA → Option GA → Nat → Int → GH → Option R := fun (s0 : Int) (s1 : Int) (s2a : Option GA) (s2n : Nat) (s9 : Option GA) (s11a : Option GA) (s11n : Nat) (s12 : Int) G =>
  l_law19_dropped_0 O fuel (a_law19_dropped_0ret O k) (a_law19_dropped_00 O k) fuel s0 s1 s2a s2n s9 s11a s11n s12 G

theorem a_law19_dropped_0ret_raw {R : Type} (O : Ora R) (fuel : Nat) (s6 : Option GA) (s7a : Option GA) (s7n : Nat) (s8 : Bool) (G : GH) (k : IV → GH → Option R) :
  contC Try.prog O lo20 fuel (Try.f20.body.getD .skip) [1, 1, 1, 1, 0, 1, 0] (fun e env F G => match e with | .exit _ => none | _ => resC Try.prog Try.f20 env F G k) .ret (mkE 102 [(6, .ptr s6), (7, .slice s7a s7n), (8, .bool s8)]) [] G =
  a_law19_dropped_0ret O k s6 s7a s7n s8 G := by kernel_rfl

theorem a_law19_dropped_00_raw {R : Type} (O : Ora R) (fuel : Nat) (s9 : Option GA) (s11a : Option GA) (s11n : Nat) (G : GH) (k : IV → GH → Option R) :
  contC Try.prog O lo20 fuel (Try.f20.body.getD .skip) [1, 1, 1, 1, 0, 1, 0] (fun e env F G => match e with | .exit _ => none | _ => resC Try.prog Try.f20 env F G k) (.exit 0) (mkE 102 [(9, .ptr s9), (11, .slice s11a s11n)]) [] G =
  a_law19_dropped_00 O k s9 s11a s11n G := by kernel_rfl

theorem L_law19_dropped_0_eq {R : Type} (O : Ora R) (fuel : Nat) (k : IV → GH → Option R) :
  (fun (s0 : Int) (s1 : Int) (s2a : Option GA) (s2n : Nat) (s9 : Option GA) (s11a : Option GA) (s11n : Nat) (s12 : Int) (G : GH) => loopN (loopD Try.prog O lo20 fuel (nav (Try.f20.body.getD .skip) [1, 1, 1, 1, 0, 1, 0, 0]) 24) fuel (mkE 102 [(0, .int .i64 s0), (1, .int .i64 s1), (2, .slice s2a s2n), (9, .ptr s9), (11, .slice s11a s11n), (12, .int .i64 s12)]) [] G (contC Try.prog O lo20 fuel (Try.f20.body.getD .skip) [1, 1, 1, 1, 0, 1, 0] (fun e env F G => match e with | .exit _ => none | _ => resC Try.prog Try.f20 env F G k))) = L_law19_dropped_0 O fuel k := by
  funext s0 s1 s2a s2n s9 s11a s11n s12 G
  simp only [L_law19_dropped_0, l_law19_dropped_0_eq, a_law19_dropped_0ret_raw, a_law19_dropped_00_raw]

theorem e_law19_dropped_raw {R : Type} (O : Ora R) (fuel : Nat) (p0 : Int) (p1 : Int) (p2a : Option GA) (p2n : Nat) (G : GH) (k : IV → GH → Option R) :
  bodyC Try.prog O lo20 fuel Try.f20 [.int .i64 p0, .int .i64 p1, .slice p2a p2n] G k =
  u_law19_dropped O k (fun (s0 : Int) (s1 : Int) (s2a : Option GA) (s2n : Nat) (s9 : Option GA) (s11a : Option GA) (s11n : Nat) (s12 : Int) (G : GH) => loopN (loopD Try.prog O lo20 fuel (nav (Try.f20.body.getD .skip) [1, 1, 1, 1, 0, 1, 0, 0]) 24) fuel (mkE 102 [(0, .int .i64 s0), (1, .int .i64 s1), (2, .slice s2a s2n), (9, .ptr s9), (11, .slice s11a s11n), (12, .int .i64 s12)]) [] G (contC Try.prog O lo20 fuel (Try.f20.body.getD .skip) [1, 1, 1, 1, 0, 1, 0] (fun e env F G => match e with | .exit _ => none | _ => resC Try.prog Try.f20 env F G k))) p0 p1 p2a p2n G := by kernel_rfl

theorem e_law19_dropped {R : Type} (O : Ora R) (fuel : Nat) (p0 : Int) (p1 : Int) (p2a : Option GA) (p2n : Nat) (G : GH) (k : IV → GH → Option R) :
  bodyC Try.prog O lo20 fuel Try.f20 [.int .i64 p0, .int .i64 p1, .slice p2a p2n] G k =
  u_law19_dropped O k (L_law19_dropped_0 O fuel k) p0 p1 p2a p2n G := by
  rw [e_law19_dropped_raw, L_law19_dropped_0_eq]

theorem r_law19_dropped {R : Type} (fuel n : Nat) (p0 : Int) (p1 : Int) (p2a : Option GA) (p2n : Nat) (G : GH) (k : IV → GH → Option R) :
  runC Try.prog lo0 fuel (n + 1) 20 [.int .i64 p0, .int .i64 p1, .slice p2a p2n] G k = bodyC Try.prog (runC Try.prog lo0 fuel n) lo20 fuel Try.f20 [.int .i64 p0, .int .i64 p1, .slice p2a p2n] G k := run_body Try.func20 rfl rfl

/-! ### lantern/lanternlaw19.FilmMerges -/
def u_law19_FilmMerges_0 {R : Type} (O : Ora R) (Kret : Bool → Int → Int → Int → Int → GH → Option R) (KN : Option GA → Nat → Option GA → Nat → Int → Int → Int → Int → GH → Option R) (s0a : Option GA) (s0n : Nat) (s1a : Option GA) (s1n : Nat) (b0_0 : Int) (b0_1 : Int) (b0_2 : Int) (b0_3 : Int) (G : GH) : Option R :=
  O fn_law19_valid [.slice s0a s0n] G fun v1 G2 =>
  (ivBool v1).bind fun x3 =>
  bif (!x3) then
  Kret true b0_0 b0_1 b0_2 b0_3 G2
  else
  O fn_law19_valid [.slice s1a s1n] G2 fun v4 G5 =>
  (ivBool v4).bind fun x6 =>
  bif (!x6) then
  Kret true b0_0 b0_1 b0_2 b0_3 G5
  else
  KN s0a s0n s1a s1n b0_0 b0_1 b0_2 b0_3 G5

def l_law19_FilmMerges_0 {R : Type} (O : Ora R) (Kret : Bool → Int → Int → Int → Int → GH → Option R) (KN : Option GA → Nat → Option GA → Nat → Int → Int → Int → Int → GH → Option R) : Option GA → Nat → Option GA → Nat → Int → Int → Int → Int → GH → Option R := fun (s0a : Option GA) (s0n : Nat) (s1a : Option GA) (s1n : Nat) (b0_0 : Int) (b0_1 : Int) (b0_2 : Int) (b0_3 : Int) G => u_law19_FilmMerges_0 O Kret KN s0a s0n s1a s1n b0_0 b0_1 b0_2 b0_3 G

theorem u_law19_FilmMerges_0_raw {R : Type} (O : Ora R) (fuel : Nat) (s0a : Option GA) (s0n : Nat) (s1a : Option GA) (s1n : Nat) (b0_0 : Int) (b0_1 : Int) (b0_2 : Int) (b0_3 : Int) (G : GH) (k : Ex → List IV → List (List IV) → GH → Option R) :
  loopD Try.prog O lo5 fuel (nav (Try.f5.body.getD .skip) [1, 1, 0]) 23 (mkE 175 [(0, .slice s0a s0n), (1, .slice s1a s1n), (5, .loc 0 0)]) [[.int .i64 b0_0, .int .i64 b0_1, .int .i64 b0_2, .int .i64 b0_3]] G k =
  u_law19_FilmMerges_0 O (fun (s6 : Bool) (b0_0 : Int) (b0_1 : Int) (b0_2 : Int) (b0_3 : Int) (G : GH) => k .ret (mkE 175 [(6, .bool s6)]) [[.int .i64 b0_0, .int .i64 b0_1, .int .i64 b0_2, .int .i64 b0_3]] G) (fun (s0a : Option GA) (s0n : Nat) (s1a : Option GA) (s1n : Nat) (b0_0 : Int) (b0_1 : Int) (b0_2 : Int) (b0_3 : Int) (G : GH) => k .normal (mkE 175 [(0, .slice s0a s0n), (1, .slice s1a s1n), (5, .loc 0 0)]) [[.int .i64 b0_0, .int .i64 b0_1, .int .i64 b0_2, .int .i64 b0_3]] G) s0a s0n s1a s1n b0_0 b0_1 b0_2 b0_3 G := by kernel_rfl

theorem l_law19_FilmMerges_0_eq {R : Type} (O : Ora R) (fuel : Nat) (k : Ex → List IV → List (List IV) → GH → Option R) : ∀ (s0a : Option GA) (s0n : Nat) (s1a : Option GA) (s1n : Nat) (b0_0 : Int) (b0_1 : Int) (b0_2 : Int) (b0_3 : Int) (G : GH),
  loopD Try.prog O lo5 fuel (nav (Try.f5.body.getD .skip) [1, 1, 0]) 23 (mkE 175 [(0, .slice s0a s0n), (1, .slice s1a s1n), (5, .loc 0 0)]) [[.int .i64 b0_0, .int .i64 b0_1, .int .i64 b0_2, .int .i64 b0_3]] G k = l_law19_FilmMerges_0 O (fun (s6 : Bool) (b0_0 : Int) (b0_1 : Int) (b0_2 : Int) (b0_3 : Int) (G : GH) => k .ret (mkE 175 [(6, .bool s6)]) [[.int .i64 b0_0, .int .i64 b0_1, .int .i64 b0_2, .int .i64 b0_3]] G) (fun (s0a : Option GA) (s0n : Nat) (s1a : Option GA) (s1n : Nat) (b0_0 : Int) (b0_1 : Int) (b0_2 : Int) (b0_3 : Int) (G : GH) => k .normal (mkE 175 [(0, .slice s0a s0n), (1, .slice s1a s1n), (5, .loc 0 0)]) [[.int .i64 b0_0, .int .i64 b0_1, .int .i64 b0_2, .int .i64 b0_3]] G) s0a s0n s1a s1n b0_0 b0_1 b0_2 b0_3 G := by
  intros
  rw [u_law19_FilmMerges_0_raw]
  simp only [l_law19_FilmMerges_0]

def u_law19_FilmMerges_1 {R : Type} (O : Ora R) (KN : Option GA → Nat → Option GA → Option GA → Nat → Bool → Bool → Int → Int → Int → Int → GH → Option R) (s1a : Option GA) (s1n : Nat) (s7 : Option GA) (s8a : Option GA) (s8n : Nat) (s9 : Bool) (b0_0 : Int) (b0_1 : Int) (b0_2 : Int) (b0_3 : Int) (G : GH) : Option R :=
  bif (decide (b0_0 ≥ (0 : Int))) then
  bif (decide (b0_1 ≥ (0 : Int))) then
  bif (decide (b0_2 ≤ (5 : Int))) then
  bif (decide (b0_3 ≤ (4 : Int))) then
  bif (decide (b0_0 < b0_2)) then
  KN s1a s1n s7 s8a s8n s9 (decide (b0_1 < b0_3)) b0_0 b0_1 b0_2 b0_3 G
  else
  KN s1a s1n s7 s8a s8n s9 false b0_0 b0_1 b0_2 b0_3 G
  else
  KN s1a s1n s7 s8a s8n s9 false b0_0 b0_1 b0_2 b0_3 G
  else
  KN s1a s1n s7 s8a s8n s9 false b0_0 b0_1 b0_2 b0_3 G
  else
  KN s1a s1n s7 s8a s8n s9 false b0_0 b0_1 b0_2 b0_3 G
  else
  KN s1a s1n s7 s8a s8n s9 false b0_0 b0_1 b0_2 b0_3 G

def l_law19_FilmMerges_1 {R : Type} (O : Ora R) (KN : Option GA → Nat → Option GA → Option GA → Nat → Bool → Bool → Int → Int → Int → Int → GH → Option R) : Option GA → Nat → Option GA → Option GA → Nat → Bool → Int → Int → Int → Int → GH → Option R := fun (s1a : Option GA) (s1n : Nat) (s7 : Option GA) (s8a : Option GA) (s8n : Nat) (s9 : Bool) (b0_0 : Int) (b0_1 : Int) (b0_2 : Int) (b0_3 : Int) G => u_law19_FilmMerges_1 O KN s1a s1n s7 s8a s8n s9 b0_0 b0_1 b0_2 b0_3 G

theorem u_law19_FilmMerges_1_raw {R : Type} (O : Ora R) (fuel : Nat) (s1a : Option GA) (s1n : Nat) (s7 : Option GA) (s8a : Option GA) (s8n : Nat) (s9 : Bool) (b0_0 : Int) (b0_1 : Int) (b0_2 : Int) (b0_3 : Int) (G : GH) (k : Ex → List IV → List (List IV) → GH → Option R) :
  loopD Try.prog O lo5 fuel (nav (Try.f5.body.getD .skip) [1, 1, 1, 1, 0]) 31 (mkE 175 [(1, .slice s1a s1n), (5, .loc 0 0), (7, .ptr s7), (8, .slice s8a s8n), (9, .bool s9)]) [[.int .i64 b0_0, .int .i64 b0_1, .int .i64 b0_2, .int .i64 b0_3]] G k =
  u_law19_FilmMerges_1 O (fun (s1a : Option GA) (s1n : Nat) (s7 : Option GA) (s8a : Option GA) (s8n : Nat) (s9 : Bool) (s10 : Bool) (b0_0 : Int) (b0_1 : Int) (b0_2 : Int) (b0_3 : Int) (G : GH) => k .normal (mkE 175 [(1, .slice s1a s1n), (5, .loc 0 0), (7, .ptr s7), (8, .slice s8a s8n), (9, .bool s9), (10, .bool s10)]) [[.int .i64 b0_0, .int .i64 b0_1, .int .i64 b0_2, .int .i64 b0_3]] G) s1a s1n s7 s8a s8n s9 b0_0 b0_1 b0_2 b0_3 G := by kernel_rfl

theorem l_law19_FilmMerges_1_eq {R : Type} (O : Ora R) (fuel : Nat) (k : Ex → List IV → List (List IV) → GH → Option R) : ∀ (s1a : Option GA) (s1n : Nat) (s7 : Option GA) (s8a : Option GA) (s8n : Nat) (s9 : Bool) (b0_0 : Int) (b0_1 : Int) (b0_2 : Int) (b0_3 : Int) (G : GH),
  loopD Try.prog O lo5 fuel (nav (Try.f5.body.getD .skip) [1, 1, 1, 1, 0]) 31 (mkE 175 [(1, .slice s1a s1n), (5, .loc 0 0), (7, .ptr s7), (8, .slice s8a s8n), (9, .bool s9)]) [[.int .i64 b0_0, .int .i64 b0_1, .int .i64 b0_2, .int .i64 b0_3]] G k = l_law19_FilmMerges_1 O (fun (s1a : Option GA) (s1n : Nat) (s7 : Option GA) (s8a : Option GA) (s8n : Nat) (s9 : Bool) (s10 : Bool) (b0_0 : Int) (b0_1 : Int) (b0_2 : Int) (b0_3 : Int) (G : GH) => k .normal (mkE 175 [(1, .slice s1a s1n), (5, .loc 0 0), (7, .ptr s7), (8, .slice s8a s8n), (9, .bool s9), (10, .bool s10)]) [[.int .i64 b0_0, .int .i64 b0_1, .int .i64 b0_2, .int .i64 b0_3]] G) s1a s1n s7 s8a s8n s9 b0_0 b0_1 b0_2 b0_3 G := by
  intros
  rw [u_law19_FilmMerges_1_raw]
  simp only [l_law19_FilmMerges_1]

def u_law19_FilmMerges_2 {R : Type} (O : Ora R) (KN : Option GA → Nat → Option GA → Option GA → Nat → Bool → Bool → Int → Int → Int → Int → Int → Int → GH → Option R) (s1a : Option GA) (s1n : Nat) (s7 : Option GA) (s8a : Option GA) (s8n : Nat) (s9 : Bool) (s10 : Bool) (s11 : Int) (s12 : Int) (b0_0 : Int) (b0_1 : Int) (b0_2 : Int) (b0_3 : Int) (G : GH) : Option R :=
  bif s10 then
  KN s1a s1n s7 s8a s8n s9 s10 (IntKind.wrap .i64 (b0_2 - b0_0)) (IntKind.wrap .i64 (b0_3 - b0_1)) b0_0 b0_1 b0_2 b0_3 G
  else
  KN s1a s1n s7 s8a s8n s9 s10 s11 s12 b0_0 b0_1 b0_2 b0_3 G

def l_law19_FilmMerges_2 {R : Type} (O : Ora R) (KN : Option GA → Nat → Option GA → Option GA → Nat → Bool → Bool → Int → Int → Int → Int → Int → Int → GH → Option R) : Option GA → Nat → Option GA → Option GA → Nat → Bool → Bool → Int → Int → Int → Int → Int → Int → GH → Option R := fun (s1a : Option GA) (s1n : Nat) (s7 : Option GA) (s8a : Option GA) (s8n : Nat) (s9 : Bool) (s10 : Bool) (s11 : Int) (s12 : Int) (b0_0 : Int) (b0_1 : Int) (b0_2 : Int) (b0_3 : Int) G => u_law19_FilmMerges_2 O KN s1a s1n s7 s8a s8n s9 s10 s11 s12 b0_0 b0_1 b0_2 b0_3 G

theorem u_law19_FilmMerges_2_raw {R : Type} (O : Ora R) (fuel : Nat) (s1a : Option GA) (s1n : Nat) (s7 : Option GA) (s8a : Option GA) (s8n : Nat) (s9 : Bool) (s10 : Bool) (s11 : Int) (s12 : Int) (b0_0 : Int) (b0_1 : Int) (b0_2 : Int) (b0_3 : Int) (G : GH) (k : Ex → List IV → List (List IV) → GH → Option R) :
  loopD Try.prog O lo5 fuel (nav (Try.f5.body.getD .skip) [1, 1, 1, 1, 1, 1, 0]) 43 (mkE 175 [(1, .slice s1a s1n), (5, .loc 0 0), (7, .ptr s7), (8, .slice s8a s8n), (9, .bool s9), (10, .bool s10), (11, .int .i64 s11), (12, .int .i64 s12)]) [[.int .i64 b0_0, .int .i64 b0_1, .int .i64 b0_2, .int .i64 b0_3]] G k =
  u_law19_FilmMerges_2 O (fun (s1a : Option GA) (s1n : Nat) (s7 : Option GA) (s8a : Option GA) (s8n : Nat) (s9 : Bool) (s10 : Bool) (s11 : Int) (s12 : Int) (b0_0 : Int) (b0_1 : Int) (b0_2 : Int) (b0_3 : Int) (G : GH) => k .normal (mkE 175 [(1, .slice s1a s1n), (5, .loc 0 0), (7, .ptr s7), (8, .slice s8a s8n), (9, .bool s9), (10, .bool s10), (11, .int .i64 s11), (12, .int .i64 s12)]) [[.int .i64 b0_0, .int .i64 b0_1, .int .i64 b0_2, .int .i64 b0_3]] G) s1a s1n s7 s8a s8n s9 s10 s11 s12 b0_0 b0_1 b0_2 b0_3 G := by kernel_rfl

theorem l_law19_FilmMerges_2_eq {R : Type} (O : Ora R) (fuel : Nat) (k : Ex → List IV → List (List IV) → GH → Option R) : ∀ (s1a : Option GA) (s1n : Nat) (s7 : Option GA) (s8a : Option GA) (s8n : Nat) (s9 : Bool) (s10 : Bool) (s11 : Int) (s12 : Int) (b0_0 : Int) (b0_1 : Int) (b0_2 : Int) (b0_3 : Int) (G : GH),
  loopD Try.prog O lo5 fuel (nav (Try.f5.body.getD .skip) [1, 1, 1, 1, 1, 1, 0]) 43 (mkE 175 [(1, .slice s1a s1n), (5, .loc 0 0), (7, .ptr s7), (8, .slice s8a s8n), (9, .bool s9), (10, .bool s10), (11, .int .i64 s11), (12, .int .i64 s12)]) [[.int .i64 b0_0, .int .i64 b0_1, .int .i64 b0_2, .int .i64 b0_3]] G k = l_law19_FilmMerges_2 O (fun (s1a : Option GA) (s1n : Nat) (s7 : Option GA) (s8a : Option GA) (s8n : Nat) (s9 : Bool) (s10 : Bool) (s11 : Int) (s12 : Int) (b0_0 : Int) (b0_1 : Int) (b0_2 : Int) (b0_3 : Int) (G : GH) => k .normal (mkE 175 [(1, .slice s1a s1n), (5, .loc 0 0), (7, .ptr s7), (8, .slice s8a s8n), (9, .bool s9), (10, .bool s10), (11, .int .i64 s11), (12, .int .i64 s12)]) [[.int .i64 b0_0, .int .i64 b0_1, .int .i64 b0_2, .int .i64 b0_3]] G) s1a s1n s7 s8a s8n s9 s10 s11 s12 b0_0 b0_1 b0_2 b0_3 G := by
  intros
  rw [u_law19_FilmMerges_2_raw]
  simp only [l_law19_FilmMerges_2]

def u_law19_FilmMerges_3 {R : Type} (O : Ora R) (Kret : Bool → Int → Int → Int → Int → GH → Option R) (KN : Option GA → Option GA → Nat → Bool → Int → Option GA → Option GA → Nat → Option GA → Int → Int → Int → Int → GH → Option R) (s7 : Option GA) (s8a : Option GA) (s8n : Nat) (s9 : Bool) (s10 : Bool) (s11 : Int) (s13 : Option GA) (s14a : Option GA) (s14n : Nat) (s15 : Bool) (s16 : Option GA) (b0_0 : Int) (b0_1 : Int) (b0_2 : Int) (b0_3 : Int) (G : GH) : Option R :=
  bif (!s9) then
  Kret false b0_0 b0_1 b0_2 b0_3 G
  else
  bif (!s15) then
  Kret false b0_0 b0_1 b0_2 b0_3 G
  else
  KN s7 s8a s8n s10 s11 s13 s14a s14n s16 b0_0 b0_1 b0_2 b0_3 G

def l_law19_FilmMerges_3 {R : Type} (O : Ora R) (Kret : Bool → Int → Int → Int → Int → GH → Option R) (KN : Option GA → Option GA → Nat → Bool → Int → Option GA → Option GA → Nat → Option GA → Int → Int → Int → Int → GH → Option R) : Option GA → Option GA → Nat → Bool → Bool → Int → Option GA → Option GA → Nat → Bool → Option GA → Int → Int → Int → Int → GH → Option R := fun (s7 : Option GA) (s8a : Option GA) (s8n : Nat) (s9 : Bool) (s10 : Bool) (s11 : Int) (s13 : Option GA) (s14a : Option GA) (s14n : Nat) (s15 : Bool) (s16 : Option GA) (b0_0 : Int) (b0_1 : Int) (b0_2 : Int) (b0_3 : Int) G => u_law19_FilmMerges_3 O Kret KN s7 s8a s8n s9 s10 s11 s13 s14a s14n s15 s16 b0_0 b0_1 b0_2 b0_3 G

theorem u_law19_FilmMerges_3_raw {R : Type} (O : Ora R) (fuel : Nat) (s7 : Option GA) (s8a : Option GA) (s8n : Nat) (s9 : Bool) (s10 : Bool) (s11 : Int) (s13 : Option GA) (s14a : Option GA) (s14n : Nat) (s15 : Bool) (s16 : Option GA) (b0_0 : Int) (b0_1 : Int) (b0_2 : Int) (b0_3 : Int) (G : GH) (k : Ex → List IV → List (List IV) → GH → Option R) :
  loopD Try.prog O lo5 fuel (nav (Try.f5.body.getD .skip) [1, 1, 1, 1, 1, 1, 1, 1, 1, 0]) 59 (mkE 175 [(5, .loc 0 0), (7, .ptr s7), (8, .slice s8a s8n), (9, .bool s9), (10, .bool s10), (11, .int .i64 s11), (13, .ptr s13), (14, .slice s14a s14n), (15, .bool s15), (16, .ptr s16)]) [[.int .i64 b0_0, .int .i64 b0_1, .int .i64 b0_2, .int .i64 b0_3]] G k =
  u_law19_FilmMerges_3 O (fun (s6 : Bool) (b0_0 : Int) (b0_1 : Int) (b0_2 : Int) (b0_3 : Int) (G : GH) => k .ret (mkE 175 [(6, .bool s6)]) [[.int .i64 b0_0, .int .i64 b0_1, .int .i64 b0_2, .int .i64 b0_3]] G) (fun (s7 : Option GA) (s8a : Option GA) (s8n : Nat) (s10 : Bool) (s11 : Int) (s13 : Option GA) (s14a : Option GA) (s14n : Nat) (s16 : Option GA) (b0_0 : Int) (b0_1 : Int) (b0_2 : Int) (b0_3 : Int) (G : GH) => k .normal (mkE 175 [(5, .loc 0 0), (7, .ptr s7), (8, .slice s8a s8n), (10, .bool s10), (11, .int .i64 s11), (13, .ptr s13), (14, .slice s14a s14n), (16, .ptr s16)]) [[.int .i64 b0_0, .int .i64 b0_1, .int .i64 b0_2, .int .i64 b0_3]] G) s7 s8a s8n s9 s10 s11 s13 s14a s14n s15 s16 b0_0 b0_1 b0_2 b0_3 G := by kernel_rfl

theorem l_law19_FilmMerges_3_eq {R : Type} (O : Ora R) (fuel : Nat) (k : Ex → List IV → List (List IV) → GH → Option R) : ∀ (s7 : Option GA) (s8a : Option GA) (s8n : Nat) (s9 : Bool) (s10 : Bool) (s11 : Int) (s13 : Option GA) (s14a : Option GA) (s14n : Nat) (s15 : Bool) (s16 : Option GA) (b0_0 : Int) (b0_1 : Int) (b0_2 : Int) (b0_3 : Int) (G : GH),
  loopD Try.prog O lo5 fuel (nav (Try.f5.body.getD .skip) [1, 1, 1, 1, 1, 1, 1, 1, 1, 0]) 59 (mkE 175 [(5, .loc 0 0), (7, .ptr s7), (8, .slice s8a s8n), (9, .bool s9), (10, .bool s10), (11, .int .i64 s11), (13, .ptr s13), (14, .slice s14a s14n), (15, .bool s15), (16, .ptr s16)]) [[.int .i64 b0_0, .int .i64 b0_1, .int .i64 b0_2, .int .i64 b0_3]] G k = l_law19_FilmMerges_3 O (fun (s6 : Bool) (b0_0 : Int) (b0_1 : Int) (b0_2 : Int) (b0_3 : Int) (G : GH) => k .ret (mkE 175 [(6, .bool s6)]) [[.int .i64 b0_0, .int .i64 b0_1, .int .i64 b0_2, .int .i64 b0_3]] G) (fun (s7 : Option GA) (s8a : Option GA) (s8n : Nat) (s10 : Bool) (s11 : Int) (s13 : Option GA) (s14a : Option GA) (s14n : Nat) (s16 : Option GA) (b0_0 : Int) (b0_1 : Int) (b0_2 : Int) (b0_3 : Int) (G : GH) => k .normal (mkE 175 [(5, .loc 0 0), (7, .ptr s7), (8, .slice s8a s8n), (10, .bool s10), (11, .int .i64 s11), (13, .ptr s13), (14, .slice s14a s14n), (16, .ptr s16)]) [[.int .i64 b0_0, .int .i64 b0_1, .int .i64 b0_2, .int .i64 b0_3]] G) s7 s8a s8n s9 s10 s11 s13 s14a s14n s15 s16 b0_0 b0_1 b0_2 b0_3 G := by
  intros
  rw [u_law19_FilmMerges_3_raw]
  simp only [l_law19_FilmMerges_3]

def u_law19_FilmMerges_5 {R : Type} (O : Ora R) (Kret : Bool → Int → Int → Int → Int → GH → Option R) (KN : Option GA → Option GA → Nat → Int → Option GA → Nat → Int → Int → Int → Int → GH → Option R) (s7 : Option GA) (s8a : Option GA) (s8n : Nat) (s11 : Int) (s13 : Option GA) (s14a : Option GA) (s14n : Nat) (s16 : Option GA) (b0_0 : Int) (b0_1 : Int) (b0_2 : Int) (b0_3 : Int) (G : GH) : Option R :=
  O fn_film_Film_Merge [.ptr s7, .ptr s16, .agg [.int .i64 b0_0, .int .i64 b0_1, .int .i64 b0_2, .int .i64 b0_3]] G fun v1 G2 =>
  (ivInt .i64 v1).bind fun x3 =>
  bif (x3 != (70 : Int)) then
  Kret false b0_0 b0_1 b0_2 b0_3 G2
  else
  O fn_film_Film_Merge [.ptr s7, .ptr none, .agg [.int .i64 b0_0, .int .i64 b0_1, .int .i64 b0_2, .int .i64 b0_3]] G2 fun v4 G5 =>
  (ivInt .i64 v4).bind fun x6 =>
  bif (x6 != (1 : Int)) then
  Kret false b0_0 b0_1 b0_2 b0_3 G5
  else
  O fn_film_Film_Merge [.ptr s7, .ptr s13, .agg [.int .i64 b0_0, .int .i64 b0_1, .int .i64 b0_2, .int .i64 b0_3]] G5 fun v7 G8 =>
  (ivInt .i64 v7).bind fun x9 =>
  bif (x9 != (0 : Int)) then
  Kret false b0_0 b0_1 b0_2 b0_3 G8
  else
  KN s7 s8a s8n s11 s14a s14n b0_0 b0_1 b0_2 b0_3 G8

def l_law19_FilmMerges_5 {R : Type} (O : Ora R) (Kret : Bool → Int → Int → Int → Int → GH → Option R) (KN : Option GA → Option GA → Nat → Int → Option GA → Nat → Int → Int → Int → Int → GH → Option R) : Option GA → Option GA → Nat → Int → Option GA → Option GA → Nat → Option GA → Int → Int → Int → Int → GH → Option R := fun (s7 : Option GA) (s8a : Option GA) (s8n : Nat) (s11 : Int) (s13 : Option GA) (s14a : Option GA) (s14n : Nat) (s16 : Option GA) (b0_0 : Int) (b0_1 : Int) (b0_2 : Int) (b0_3 : Int) G => u_law19_FilmMerges_5 O Kret KN s7 s8a s8n s11 s13 s14a s14n s16 b0_0 b0_1 b0_2 b0_3 G

theorem u_law19_FilmMerges_5_raw {R : Type} (O : Ora R) (fuel : Nat) (s7 : Option GA) (s8a : Option GA) (s8n : Nat) (s11 : Int) (s13 : Option GA) (s14a : Option GA) (s14n : Nat) (s16 : Option GA) (b0_0 : Int) (b0_1 : Int) (b0_2 : Int) (b0_3 : Int) (G : GH) (k : Ex → List IV → List (List IV) → GH → Option R) :
  loopD Try.prog O lo5 fuel (nav (Try.f5.body.getD .skip) [1, 1, 1, 1, 1, 1, 1, 1, 1, 1, 0, 1, 1, 0]) 79 (mkE 175 [(5, .loc 0 0), (7, .ptr s7), (8, .slice s8a s8n), (11, .int .i64 s11), (13, .ptr s13), (14, .slice s14a s14n), (16, .ptr s16)]) [[.int .i64 b0_0, .int .i64 b0_1, .int .i64 b0_2, .int .i64 b0_3]] G k =
  u_law19_FilmMerges_5 O (fun (s6 : Bool) (b0_0 : Int) (b0_1 : Int) (b0_2 : Int) (b0_3 : Int) (G : GH) => k .ret (mkE 175 [(6, .bool s6)]) [[.int .i64 b0_0, .int .i64 b0_1, .int .i64 b0_2, .int .i64 b0_3]] G) (fun (s7 : Option GA) (s8a : Option GA) (s8n : Nat) (s11 : Int) (s14a : Option GA) (s14n : Nat) (b0_0 : Int) (b0_1 : Int) (b0_2 : Int) (b0_3 : Int) (G : GH) => k .normal (mkE 175 [(5, .loc 0 0), (7, .ptr s7), (8, .slice s8a s8n), (11, .int .i64 s11), (14, .slice s14a s14n)]) [[.int .i64 b0_0, .int .i64 b0_1, .int .i64 b0_2, .int .i64 b0_3]] G) s7 s8a s8n s11 s13 s14a s14n s16 b0_0 b0_1 b0_2 b0_3 G := by kernel_rfl

theorem l_law19_FilmMerges_5_eq {R : Type} (O : Ora R) (fuel : Nat) (k : Ex → List IV → List (List IV) → GH → Option R) : ∀ (s7 : Option GA) (s8a : Option GA) (s8n : Nat) (s11 : Int) (s13 : Option GA) (s14a : Option GA) (s14n : Nat) (s16 : Option GA) (b0_0 : Int) (b0_1 : Int) (b0_2 : Int) (b0_3 : Int) (G : GH),
  loopD Try.prog O lo5 fuel (nav (Try.f5.body.getD .skip) [1, 1, 1, 1, 1, 1, 1, 1, 1, 1, 0, 1, 1, 0]) 79 (mkE 175 [(5, .loc 0 0), (7, .ptr s7), (8, .slice s8a s8n), (11, .int .i64 s11), (13, .ptr s13), (14, .slice s14a s14n), (16, .ptr s16)]) [[.int .i64 b0_0, .int .i64 b0_1, .int .i64 b0_2, .int .i64 b0_3]] G k = l_law19_FilmMerges_5 O (fun (s6 : Bool) (b0_0 : Int) (b0_1 : Int) (b0_2 : Int) (b0_3 : Int) (G : GH) => k .ret (mkE 175 [(6, .bool s6)]) [[.int .i64 b0_0, .int .i64 b0_1, .int .i64 b0_2, .int .i64 b0_3]] G) (fun (s7 : Option GA) (s8a : Option GA) (s8n : Nat) (s11 : Int) (s14a : Option GA) (s14n : Nat) (b0_0 : Int) (b0_1 : Int) (b0_2 : Int) (b0_3 : Int) (G : GH) => k .normal (mkE 175 [(5, .loc 0 0), (7, .ptr s7), (8, .slice s8a s8n), (11, .int .i64 s11), (14, .slice s14a s14n)]) [[.int .i64 b0_0, .int .i64 b0_1, .int .i64 b0_2, .int .i64 b0_3]] G) s7 s8a s8n s11 s13 s14a s14n s16 b0_0 b0_1 b0_2 b0_3 G := by
  intros
  rw [u_law19_FilmMerges_5_raw]
  simp only [l_law19_FilmMerges_5]

def u_law19_FilmMerges_6 {R : Type} (O : Ora R) (KN : Option GA → Option GA → Nat → Int → Option GA → Nat → Int → Int → Int → Int → Int → Int → GH → Option R) (K0 : Option GA → Option GA → Nat → Int → Int → Int → Int → GH → Option R) (s7 : Option GA) (s8a : Option GA) (s8n : Nat) (s11 : Int) (s14a : Option GA) (s14n : Nat) (s128 : Int) (s129 : Int) (b0_0 : Int) (b0_1 : Int) (b0_2 : Int) (b0_3 : Int) (G : GH) : Option R :=
  bif (decide (s129 < s128)) then
  bif s11 == 0 then none else
  bif s11 == 0 then none else
  (idx? s14a s14n s129 8).bind fun a1 =>
  (ldFloat G .f64 (GA.add a1 0)).bind fun x2 =>
  (ldFloat G .f64 (GA.add a1 1)).bind fun x3 =>
  (ldFloat G .f64 (GA.add a1 2)).bind fun x4 =>
  (ldFloat G .f64 (GA.add a1 3)).bind fun x5 =>
  (ldFloat G .f64 (GA.add a1 4)).bind fun x6 =>
  (ldFloat G .f64 (GA.add a1 5)).bind fun x7 =>
  (ldInt G .i64 (GA.add a1 6)).bind fun x8 =>
  (ldInt G .i64 (GA.add a1 7)).bind fun x9 =>
  (idx? s8a s8n (IntKind.wrap .i64 ((IntKind.wrap .i64 ((IntKind.wrap .i64 ((IntKind.wrap .i64 (b0_1 + (IntKind.wrap .i64 (Int.tdiv s129 s11)))) * (5 : Int))) + b0_0)) + (Int.tmod s129 s11))) 8).bind fun a10 =>
  (gst G a10 [.float .f64 x2, .float .f64 x3, .float .f64 x4, .float .f64 x5, .float .f64 x6, .float .f64 x7, .int .i64 x8, .int .i64 x9]).bind fun G11 =>
  KN s7 s8a s8n s11 s14a s14n s128 (IntKind.wrap .i64 (s129 + (1 : Int))) b0_0 b0_1 b0_2 b0_3 G11
  else
  K0 s7 s8a s8n b0_0 b0_1 b0_2 b0_3 G

def l_law19_FilmMerges_6 {R : Type} (O : Ora R) (K0 : Option GA → Option GA → Nat → Int → Int → Int → Int → GH → Option R) : Nat → Option GA → Option GA → Nat → Int → Option GA → Nat → Int → Int → Int → Int → Int → Int → GH → Option R
  | 0, _, _, _, _, _, _, _, _, _, _, _, _, _ => none
  | n + 1, s7, s8a, s8n, s11, s14a, s14n, s128, s129, b0_0, b0_1, b0_2, b0_3, G => u_law19_FilmMerges_6 O (l_law19_FilmMerges_6 O K0 n) K0 s7 s8a s8n s11 s14a s14n s128 s129 b0_0 b0_1 b0_2 b0_3 G

theorem u_law19_FilmMerges_6_raw {R : Type} (O : Ora R) (fuel : Nat) (s7 : Option GA) (s8a : Option GA) (s8n : Nat) (s11 : Int) (s14a : Option GA) (s14n : Nat) (s128 : Int) (s129 : Int) (b0_0 : Int) (b0_1 : Int) (b0_2 : Int) (b0_3 : Int) (G : GH) (k : Ex → List IV → List (List IV) → GH → Option R) :
  loopD Try.prog O lo5 fuel (nav (Try.f5.body.getD .skip) [1, 1, 1, 1, 1, 1, 1, 1, 1, 1, 0, 1, 1, 1, 1, 0, 0]) 80 (mkE 175 [(5, .loc 0 0), (7, .ptr s7), (8, .slice s8a s8n), (11, .int .i64 s11), (14, .slice s14a s14n), (128, .int .i64 s128), (129, .int .i64 s129)]) [[.int .i64 b0_0, .int .i64 b0_1, .int .i64 b0_2, .int .i64 b0_3]] G k =
  u_law19_FilmMerges_6 O (fun (s7 : Option GA) (s8a : Option GA) (s8n : Nat) (s11 : Int) (s14a : Option GA) (s14n : Nat) (s128 : Int) (s129 : Int) (b0_0 : Int) (b0_1 : Int) (b0_2 : Int) (b0_3 : Int) (G : GH) => k .normal (mkE 175 [(5, .loc 0 0), (7, .ptr s7), (8, .slice s8a s8n), (11, .int .i64 s11), (14, .slice s14a s14n), (128, .int .i64 s128), (129, .int .i64 s129)]) [[.int .i64 b0_0, .int .i64 b0_1, .int .i64 b0_2, .int .i64 b0_3]] G) (fun (s7 : Option GA) (s8a : Option GA) (s8n : Nat) (b0_0 : Int) (b0_1 : Int) (b0_2 : Int) (b0_3 : Int) (G : GH) => k (.exit 0) (mkE 175 [(7, .ptr s7), (8, .slice s8a s8n)]) [[.int .i64 b0_0, .int .i64 b0_1, .int .i64 b0_2, .int .i64 b0_3]] G) s7 s8a s8n s11 s14a s14n s128 s129 b0_0 b0_1 b0_2 b0_3 G := by kernel_rfl

theorem l_law19_FilmMerges_6_eq {R : Type} (O : Ora R) (fuel : Nat) (k : Ex → List IV → List (List IV) → GH → Option R) : ∀ (n : Nat) (s7 : Option GA) (s8a : Option GA) (s8n : Nat) (s11 : Int) (s14a : Option GA) (s14n : Nat) (s128 : Int) (s129 : Int) (b0_0 : Int) (b0_1 : Int) (b0_2 : Int) (b0_3 : Int) (G : GH),
  loopN (loopD Try.prog O lo5 fuel (nav (Try.f5.body.getD .skip) [1, 1, 1, 1, 1, 1, 1, 1, 1, 1, 0, 1, 1, 1, 1, 0, 0]) 80) n (mkE 175 [(5, .loc 0 0), (7, .ptr s7), (8, .slice s8a s8n), (11, .int .i64 s11), (14, .slice s14a s14n), (128, .int .i64 s128), (129, .int .i64 s129)]) [[.int .i64 b0_0, .int .i64 b0_1, .int .i64 b0_2, .int .i64 b0_3]] G k = l_law19_FilmMerges_6 O (fun (s7 : Option GA) (s8a : Option GA) (s8n : Nat) (b0_0 : Int) (b0_1 : Int) (b0_2 : Int) (b0_3 : Int) (G : GH) => k (.exit 0) (mkE 175 [(7, .ptr s7), (8, .slice s8a s8n)]) [[.int .i64 b0_0, .int .i64 b0_1, .int .i64 b0_2, .int .i64 b0_3]] G) n s7 s8a s8n s11 s14a s14n s128 s129 b0_0 b0_1 b0_2 b0_3 G := by
  intro n
  induction n with
  | zero => intros; rfl
  | succ n ih =>
    intros
    rw [loopN_succ, u_law19_FilmMerges_6_raw]
    simp only [l_law19_FilmMerges_6, loopK_normal, loopK_exit, loopK_ret, ih]

def u_law19_FilmMerges_4 {R : Type} (O : Ora R) (Kret : Bool → Int → Int → Int → Int → GH → Option R) (KN : Option GA → Option GA → Nat → Int → Int → Int → Int → GH → Option R) (L5 : Option GA → Option GA → Nat → Int → Option GA → Option GA → Nat → Option GA → Int → Int → Int → Int → GH → Option R) (s7 : Option GA) (s8a : Option GA) (s8n : Nat) (s10 : Bool) (s11 : Int) (s13 : Option GA) (s14a : Option GA) (s14n : Nat) (s16 : Option GA) (b0_0 : Int) (b0_1 : Int) (b0_2 : Int) (b0_3 : Int) (G : GH) : Option R :=
  bif (!s10) then
  O fn_film_Film_Merge [.ptr s7, .ptr s13, .agg [.int .i64 b0_0, .int .i64 b0_1, .int .i64 b0_2, .int .i64 b0_3]] G fun v1 G2 =>
  (ivInt .i64 v1).bind fun x3 =>
  bif (x3 != (2 : Int)) then
  Kret false b0_0 b0_1 b0_2 b0_3 G2
  else
  KN s7 s8a s8n b0_0 b0_1 b0_2 b0_3 G2
  else
  L5 s7 s8a s8n s11 s13 s14a s14n s16 b0_0 b0_1 b0_2 b0_3 G

def a_law19_FilmMerges_5ret {R : Type} (O : Ora R) (Kret : Bool → Int → Int → Int → Int → GH → Option R) (KN : Option GA → Option GA → Nat → Int → Int → Int → Int → GH → Option R) (s6 : Bool) (b0_0 : Int) (b0_1 : Int) (b0_2 : Int) (b0_3 : Int) (G : GH) : Option R :=
  Kret s6 b0_0 b0_1 b0_2 b0_3 G

def a_law19_FilmMerges_5N {R : Type} (O : Ora R) (Kret : Bool → Int → Int → Int → Int → GH → Option R) (KN : Option GA → Option GA → Nat → Int → Int → Int → Int → GH → Option R) (L6 : Option GA → Option GA → Nat → Int → Option GA → Nat → Int → Int → Int → Int → Int → Int → GH → Option R) (s7 : Option GA) (s8a : Option GA) (s8n : Nat) (s11 : Int) (s14a : Option GA) (s14n : Nat) (b0_0 : Int) (b0_1 : Int) (b0_2 : Int) (b0_3 : Int) (G : GH) : Option R :=
  L6 s7 s8a s8n s11 s14a s14n (s14n : Int) (0 : Int) b0_0 b0_1 b0_2 b0_3 G

def a_law19_FilmMerges_60 {R : Type} (O : Ora R) (Kret : Bool → Int → Int → Int → Int → GH → Option R) (KN : Option GA → Option GA → Nat → Int → Int → Int → Int → GH → Option R) (s7 : Option GA) (s8a : Option GA) (s8n : Nat) (b0_0 : Int) (b0_1 : Int) (b0_2 : Int) (b0_3 : Int) (G : GH) : Option R :=
  KN s7 s8a s8n b0_0 b0_1 b0_2 b0_3 G

def L_law19_FilmMerges_6 {R : Type} (O : Ora R) (fuel : Nat) (Kret : Bool → Int → Int → Int → Int → GH → Option R) (KN : Option GA → Option GA → Nat → Int → Int → Int → Int → GH → Option R) : Option GA → Option GA → Nat → Int → Option GA → Nat → Int → Int → Int → Int → Int → Int → GH → Option R := fun (s7 : Option GA) (s8a : Option GA) (s8n : Nat) (s11 : Int) (s14a : Option GA) (s14n : Nat) (s128 : Int) (s129 : Int) (b0_0 : Int) (b0_1 : Int) (b0_2 : Int) (b0_3 : Int) G =>
  l_law19_FilmMerges_6 O (a_law19_FilmMerges_60 O Kret KN) fuel s7 s8a s8n s11 s14a s14n s128 s129 b0_0 b0_1 b0_2 b0_3 G

theorem a_law19_FilmMerges_60_raw {R : Type} (O : Ora R) (fuel : Nat) (s7 : Option GA) (s8a : Option GA) (s8n : Nat) (b0_0 : Int) (b0_1 : Int) (b0_2 : Int) (b0_3 : Int) (G : GH) (k : Ex → List IV → List (List IV) → GH → Option R) :
  contC Try.prog O lo5 fuel (nav (Try.f5.body.getD .skip) [1, 1, 1, 1, 1, 1, 1, 1, 1, 1, 0]) [1, 1, 1, 1, 0] (kpD lo5 99 1 k) (.exit 0) (mkE 175 [(7, .ptr s7), (8, .slice s8a s8n)]) [[.int .i64 b0_0, .int .i64 b0_1, .int .i64 b0_2, .int .i64 b0_3]] G =
  a_law19_FilmMerges_60 O (fun (s6 : Bool) (b0_0 : Int) (b0_1 : Int) (b0_2 : Int) (b0_3 : Int) (G : GH) => k .ret (mkE 175 [(6, .bool s6)]) [[.int .i64 b0_0, .int .i64 b0_1, .int .i64 b0_2, .int .i64 b0_3]] G) (fun (s7 : Option GA) (s8a : Option GA) (s8n : Nat) (b0_0 : Int) (b0_1 : Int) (b0_2 : Int) (b0_3 : Int) (G : GH) => k .normal (mkE 175 [(7, .ptr s7), (8, .slice s8a s8n)]) [[.int .i64 b0_0, .int .i64 b0_1, .int .i64 b0_2, .int .i64 b0_3]] G) s7 s8a s8n b0_0 b0_1 b0_2 b0_3 G := by kernel_rfl

theorem L_law19_FilmMerges_6_eq {R : Type} (O : Ora R) (fuel : Nat) (k : Ex → List IV → List (List IV) → GH → Option R) :
  (fun (s7 : Option GA) (s8a : Option GA) (s8n : Nat) (s11 : Int) (s14a : Option GA) (s14n : Nat) (s128 : Int) (s129 : Int) (b0_0 : Int) (b0_1 : Int) (b0_2 : Int) (b0_3 : Int) (G : GH) => loopN (loopD Try.prog O lo5 fuel (nav (Try.f5.body.getD .skip) [1, 1, 1, 1, 1, 1, 1, 1, 1, 1, 0, 1, 1, 1, 1, 0, 0]) 80) fuel (mkE 175 [(5, .loc 0 0), (7, .ptr s7), (8, .slice s8a s8n), (11, .int .i64 s11), (14, .slice s14a s14n), (128, .int .i64 s128), (129, .int .i64 s129)]) [[.int .i64 b0_0, .int .i64 b0_1, .int .i64 b0_2, .int .i64 b0_3]] G (contC Try.prog O lo5 fuel (nav (Try.f5.body.getD .skip) [1, 1, 1, 1, 1, 1, 1, 1, 1, 1, 0]) [1, 1, 1, 1, 0] (kpD lo5 99 1 k))) = L_law19_FilmMerges_6 O fuel (fun (s6 : Bool) (b0_0 : Int) (b0_1 : Int) (b0_2 : Int) (b0_3 : Int) (G : GH) => k .ret (mkE 175 [(6, .bool s6)]) [[.int .i64 b0_0, .int .i64 b0_1, .int .i64 b0_2, .int .i64 b0_3]] G) (fun (s7 : Option GA) (s8a : Option GA) (s8n : Nat) (b0_0 : Int) (b0_1 : Int) (b0_2 : Int) (b0_3 : Int) (G : GH) => k .normal (mkE 175 [(7, .ptr s7), (8, .slice s8a s8n)]) [[.int .i64 b0_0, .int .i64 b0_1, .int .i64 b0_2, .int .i64 b0_3]] G) := by
  funext s7 s8a s8n s11 s14a s14n s128 s129 b0_0 b0_1 b0_2 b0_3 G
  simp only [L_law19_FilmMerges_6, l_law19_FilmMerges_6_eq, a_law19_FilmMerges_60_raw]

def L_law19_FilmMerges_5 {R : Type} (O : Ora R) (fuel : Nat) (Kret : Bool → Int → Int → Int → Int → GH → Option R) (KN : Option GA → Option GA → Nat → Int → Int → Int → Int → GH → Option R) : Option GA → Option GA → Nat → Int → Option GA → Option GA → Nat → Option GA → Int → Int → Int → Int → GH → Option R := fun (s7 : Option GA) (s8a : Option GA) (s8n : Nat) (s11 : Int) (s13 : Option GA) (s14a : Option GA) (s14n : Nat) (s16 : Option GA) (b0_0 : Int) (b0_1 : Int) (b0_2 : Int) (b0_3 : Int) G =>
  stepN fuel (l_law19_FilmMerges_5 O (a_law19_FilmMerges_5ret O Kret KN) (a_law19_FilmMerges_5N O Kret KN (L_law19_FilmMerges_6 O fuel Kret KN)) s7 s8a s8n s11 s13 s14a s14n s16 b0_0 b0_1 b0_2 b0_3 G)

theorem a_law19_FilmMerges_5ret_raw {R : Type} (O : Ora R) (fuel : Nat) (s6 : Bool) (b0_0 : Int) (b0_1 : Int) (b0_2 : Int) (b0_3 : Int) (G : GH) (k : Ex → List IV → List (List IV) → GH → Option R) :
  contC Try.prog O lo5 fuel (nav (Try.f5.body.getD .skip) [1, 1, 1, 1, 1, 1, 1, 1, 1, 1, 0]) [1, 1, 0] (kpD lo5 99 1 k) .ret (mkE 175 [(6, .bool s6)]) [[.int .i64 b0_0, .int .i64 b0_1, .int .i64 b0_2, .int .i64 b0_3]] G =
  a_law19_FilmMerges_5ret O (fun (s6 : Bool) (b0_0 : Int) (b0_1 : Int) (b0_2 : Int) (b0_3 : Int) (G : GH) => k .ret (mkE 175 [(6, .bool s6)]) [[.int .i64 b0_0, .int .i64 b0_1, .int .i64 b0_2, .int .i64 b0_3]] G) (fun (s7 : Option GA) (s8a : Option GA) (s8n : Nat) (b0_0 : Int) (b0_1 : Int) (b0_2 : Int) (b0_3 : Int) (G : GH) => k .normal (mkE 175 [(7, .ptr s7), (8, .slice s8a s8n)]) [[.int .i64 b0_0, .int .i64 b0_1, .int .i64 b0_2, .int .i64 b0_3]] G) s6 b0_0 b0_1 b0_2 b0_3 G := by kernel_rfl

theorem a_law19_FilmMerges_5N_raw {R : Type} (O : Ora R) (fuel : Nat) (s7 : Option GA) (s8a : Option GA) (s8n : Nat) (s11 : Int) (s14a : Option GA) (s14n : Nat) (b0_0 : Int) (b0_1 : Int) (b0_2 : Int) (b0_3 : Int) (G : GH) (k : Ex → List IV → List (List IV) → GH → Option R) :
  contC Try.prog O lo5 fuel (nav (Try.f5.body.getD .skip) [1, 1, 1, 1, 1, 1, 1, 1, 1, 1, 0]) [1, 1, 0] (kpD lo5 99 1 k) .normal (mkE 175 [(5, .loc 0 0), (7, .ptr s7), (8, .slice s8a s8n), (11, .int .i64 s11), (14, .slice s14a s14n)]) [[.int .i64 b0_0, .int .i64 b0_1, .int .i64 b0_2, .int .i64 b0_3]] G =
  a_law19_FilmMerges_5N O (fun (s6 : Bool) (b0_0 : Int) (b0_1 : Int) (b0_2 : Int) (b0_3 : Int) (G : GH) => k .ret (mkE 175 [(6, .bool s6)]) [[.int .i64 b0_0, .int .i64 b0_1, .int .i64 b0_2, .int .i64 b0_3]] G) (fun (s7 : Option GA) (s8a : Option GA) (s8n : Nat) (b0_0 : Int) (b0_1 : Int) (b0_2 : Int) (b0_3 : Int) (G : GH) => k .normal (mkE 175 [(7, .ptr s7), (8, .slice s8a s8n)]) [[.int .i64 b0_0, .int .i64 b0_1, .int .i64 b0_2, .int .i64 b0_3]] G) (fun (s7 : Option GA) (s8a : Option GA) (s8n : Nat) (s11 : Int) (s14a : Option GA) (s14n : Nat) (s128 : Int) (s129 : Int) (b0_0 : Int) (b0_1 : Int) (b0_2 : Int) (b0_3 : Int) (G : GH) => loopN (loopD Try.prog O lo5 fuel (nav (Try.f5.body.getD .skip) [1, 1, 1, 1, 1, 1, 1, 1, 1, 1, 0, 1, 1, 1, 1, 0, 0]) 80) fuel (mkE 175 [(5, .loc 0 0), (7, .ptr s7), (8, .slice s8a s8n), (11, .int .i64 s11), (14, .slice s14a s14n), (128, .int .i64 s128), (129, .int .i64 s129)]) [[.int .i64 b0_0, .int .i64 b0_1, .int .i64 b0_2, .int .i64 b0_3]] G (contC Try.prog O lo5 fuel (nav (Try.f5.body.getD .skip) [1, 1, 1, 1, 1, 1, 1, 1, 1, 1, 0]) [1, 1, 1, 1, 0] (kpD lo5 99 1 k))) s7 s8a s8n s11 s14a s14n b0_0 b0_1 b0_2 b0_3 G := by kernel_rfl

theorem L_law19_FilmMerges_5_eq {R : Type} (O : Ora R) (fuel : Nat) (k : Ex → List IV → List (List IV) → GH → Option R) :
  (fun (s7 : Option GA) (s8a : Option GA) (s8n : Nat) (s11 : Int) (s13 : Option GA) (s14a : Option GA) (s14n : Nat) (s16 : Option GA) (b0_0 : Int) (b0_1 : Int) (b0_2 : Int) (b0_3 : Int) (G : GH) => stepN fuel (loopD Try.prog O lo5 fuel (nav (Try.f5.body.getD .skip) [1, 1, 1, 1, 1, 1, 1, 1, 1, 1, 0, 1, 1, 0]) 79 (mkE 175 [(5, .loc 0 0), (7, .ptr s7), (8, .slice s8a s8n), (11, .int .i64 s11), (13, .ptr s13), (14, .slice s14a s14n), (16, .ptr s16)]) [[.int .i64 b0_0, .int .i64 b0_1, .int .i64 b0_2, .int .i64 b0_3]] G (contC Try.prog O lo5 fuel (nav (Try.f5.body.getD .skip) [1, 1, 1, 1, 1, 1, 1, 1, 1, 1, 0]) [1, 1, 0] (kpD lo5 99 1 k)))) = L_law19_FilmMerges_5 O fuel (fun (s6 : Bool) (b0_0 : Int) (b0_1 : Int) (b0_2 : Int) (b0_3 : Int) (G : GH) => k .ret (mkE 175 [(6, .bool s6)]) [[.int .i64 b0_0, .int .i64 b0_1, .int .i64 b0_2, .int .i64 b0_3]] G) (fun (s7 : Option GA) (s8a : Option GA) (s8n : Nat) (b0_0 : Int) (b0_1 : Int) (b0_2 : Int) (b0_3 : Int) (G : GH) => k .normal (mkE 175 [(7, .ptr s7), (8, .slice s8a s8n)]) [[.int .i64 b0_0, .int .i64 b0_1, .int .i64 b0_2, .int .i64 b0_3]] G) := by
  funext s7 s8a s8n s11 s13 s14a s14n s16 b0_0 b0_1 b0_2 b0_3 G
  simp only [L_law19_FilmMerges_5, l_law19_FilmMerges_5_eq, a_law19_FilmMerges_5ret_raw, a_law19_FilmMerges_5N_raw, L_law19_FilmMerges_6_eq]

def l_law19_FilmMerges_4 {R : Type} (O : Ora R) (fuel : Nat) (Kret : Bool → Int → Int → Int → Int → GH → Option R) (KN : Option GA → Option GA → Nat → Int → Int → Int → Int → GH → Option R) : Option GA → Option GA → Nat → Bool → Int → Option GA → Option GA → Nat → Option GA → Int → Int → Int → Int → GH → Option R := fun (s7 : Option GA) (s8a : Option GA) (s8n : Nat) (s10 : Bool) (s11 : Int) (s13 : Option GA) (s14a : Option GA) (s14n : Nat) (s16 : Option GA) (b0_0 : Int) (b0_1 : Int) (b0_2 : Int) (b0_3 : Int) G => u_law19_FilmMerges_4 O Kret KN (L_law19_FilmMerges_5 O fuel Kret KN) s7 s8a s8n s10 s11 s13 s14a s14n s16 b0_0 b0_1 b0_2 b0_3 G

theorem u_law19_FilmMerges_4_raw {R : Type} (O : Ora R) (fuel : Nat) (s7 : Option GA) (s8a : Option GA) (s8n : Nat) (s10 : Bool) (s11 : Int) (s13 : Option GA) (s14a : Option GA) (s14n : Nat) (s16 : Option GA) (b0_0 : Int) (b0_1 : Int) (b0_2 : Int) (b0_3 : Int) (G : GH) (k : Ex → List IV → List (List IV) → GH → Option R) :
  loopD Try.prog O lo5 fuel (nav (Try.f5.body.getD .skip) [1, 1, 1, 1, 1, 1, 1, 1, 1, 1, 0]) 99 (mkE 175 [(5, .loc 0 0), (7, .ptr s7), (8, .slice s8a s8n), (10, .bool s10), (11, .int .i64 s11), (13, .ptr s13), (14, .slice s14a s14n), (16, .ptr s16)]) [[.int .i64 b0_0, .int .i64 b0_1, .int .i64 b0_2, .int .i64 b0_3]] G k =
  u_law19_FilmMerges_4 O (fun (s6 : Bool) (b0_0 : Int) (b0_1 : Int) (b0_2 : Int) (b0_3 : Int) (G : GH) => k .ret (mkE 175 [(6, .bool s6)]) [[.int .i64 b0_0, .int .i64 b0_1, .int .i64 b0_2, .int .i64 b0_3]] G) (fun (s7 : Option GA) (s8a : Option GA) (s8n : Nat) (b0_0 : Int) (b0_1 : Int) (b0_2 : Int) (b0_3 : Int) (G : GH) => k .normal (mkE 175 [(7, .ptr s7), (8, .slice s8a s8n)]) [[.int .i64 b0_0, .int .i64 b0_1, .int .i64 b0_2, .int .i64 b0_3]] G) (fun (s7 : Option GA) (s8a : Option GA) (s8n : Nat) (s11 : Int) (s13 : Option GA) (s14a : Option GA) (s14n : Nat) (s16 : Option GA) (b0_0 : Int) (b0_1 : Int) (b0_2 : Int) (b0_3 : Int) (G : GH) => stepN fuel (loopD Try.prog O lo5 fuel (nav (Try.f5.body.getD .skip) [1, 1, 1, 1, 1, 1, 1, 1, 1, 1, 0, 1, 1, 0]) 79 (mkE 175 [(5, .loc 0 0), (7, .ptr s7), (8, .slice s8a s8n), (11, .int .i64 s11), (13, .ptr s13), (14, .slice s14a s14n), (16, .ptr s16)]) [[.int .i64 b0_0, .int .i64 b0_1, .int .i64 b0_2, .int .i64 b0_3]] G (contC Try.prog O lo5 fuel (nav (Try.f5.body.getD .skip) [1, 1, 1, 1, 1, 1, 1, 1, 1, 1, 0]) [1, 1, 0] (kpD lo5 99 1 k)))) s7 s8a s8n s10 s11 s13 s14a s14n s16 b0_0 b0_1 b0_2 b0_3 G := by kernel_rfl

theorem l_law19_FilmMerges_4_eq {R : Type} (O : Ora R) (fuel : Nat) (k : Ex → List IV → List (List IV) → GH → Option R) : ∀ (s7 : Option GA) (s8a : Option GA) (s8n : Nat) (s10 : Bool) (s11 : Int) (s13 : Option GA) (s14a : Option GA) (s14n : Nat) (s16 : Option GA) (b0_0 : Int) (b0_1 : Int) (b0_2 : Int) (b0_3 : Int) (G : GH),
  loopD Try.prog O lo5 fuel (nav (Try.f5.body.getD .skip) [1, 1, 1, 1, 1, 1, 1, 1, 1, 1, 0]) 99 (mkE 175 [(5, .loc 0 0), (7, .ptr s7), (8, .slice s8a s8n), (10, .bool s10), (11, .int .i64 s11), (13, .ptr s13), (14, .slice s14a s14n), (16, .ptr s16)]) [[.int .i64 b0_0, .int .i64 b0_1, .int .i64 b0_2, .int .i64 b0_3]] G k = l_law19_FilmMerges_4 O fuel (fun (s6 : Bool) (b0_0 : Int) (b0_1 : Int) (b0_2 : Int) (b0_3 : Int) (G : GH) => k .ret (mkE 175 [(6, .bool s6)]) [[.int .i64 b0_0, .int .i64 b0_1, .int .i64 b0_2, .int .i64 b0_3]] G) (fun (s7 : Option GA) (s8a : Option GA) (s8n : Nat) (b0_0 : Int) (b0_1 : Int) (b0_2 : Int) (b0_3 : Int) (G : GH) => k .normal (mkE 175 [(7, .ptr s7), (8, .slice s8a s8n)]) [[.int .i64 b0_0, .int .i64 b0_1, .int .i64 b0_2, .int .i64 b0_3]] G) s7 s8a s8n s10 s11 s13 s14a s14n s16 b0_0 b0_1 b0_2 b0_3 G := by
  intros
  rw [u_law19_FilmMerges_4_raw]
  simp only [l_law19_FilmMerges_4, L_law19_FilmMerges_5_eq]

def u_law19_FilmMerges_7 {R : Type} (O : Ora R) (Kret : Bool → Int → Int → Int → Int → GH → Option R) (KN : Option GA → Option GA → Nat → Int → Int → Int → Int → Int → Int → GH → Option R) (K2 : Int → Int → Int → Int → GH → Option R) (s7 : Option GA) (s8a : Option GA) (s8n : Nat) (s154 : Int) (s155 : Int) (b0_0 : Int) (b0_1 : Int) (b0_2 : Int) (b0_3 : Int) (G : GH) : Option R :=
  bif (decide (s155 < s154)) then
  O fn_film_Film_Pixel [.ptr s7, .int .i64 (Int.tmod s155 (5 : Int)), .int .i64 (IntKind.wrap .i64 (Int.tdiv s155 (5 : Int)))] G fun v1 G2 =>
  (ivTup 2 v1).bind fun c3 =>
  (ivAgg 8 (c3.getD 0 undefI)).bind fun c4 =>
  (ivFloat .f64 (c4.getD 0 undefI)).bind fun x5 =>
  (ivFloat .f64 (c4.getD 1 undefI)).bind fun x6 =>
  (ivFloat .f64 (c4.getD 2 undefI)).bind fun x7 =>
  (ivFloat .f64 (c4.getD 3 undefI)).bind fun x8 =>
  (ivFloat .f64 (c4.getD 4 undefI)).bind fun x9 =>
  (ivFloat .f64 (c4.getD 5 undefI)).bind fun x10 =>
  (ivInt .i64 (c4.getD 6 undefI)).bind fun x11 =>
  (ivInt .i64 (c4.getD 7 undefI)).bind fun x12 =>
  (ivInt .i64 (c3.getD 1 undefI)).bind fun x13 =>
  (idx? s8a s8n s155 8).bind fun a14 =>
  (ldFloat G2 .f64 (GA.add a14 0)).bind fun x15 =>
  (ldFloat G2 .f64 (GA.add a14 1)).bind fun x16 =>
  (ldFloat G2 .f64 (GA.add a14 2)).bind fun x17 =>
  (ldFloat G2 .f64 (GA.add a14 3)).bind fun x18 =>
  (ldFloat G2 .f64 (GA.add a14 4)).bind fun x19 =>
  (ldFloat G2 .f64 (GA.add a14 5)).bind fun x20 =>
  (ldInt G2 .i64 (GA.add a14 6)).bind fun x21 =>
  (ldInt G2 .i64 (GA.add a14 7)).bind fun x22 =>
  O fn_ref19_SamePixel [.agg [.float .f64 x5, .float .f64 x6, .float .f64 x7, .float .f64 x8, .float .f64 x9, .float .f64 x10, .int .i64 x11, .int .i64 x12], .agg [.float .f64 x15, .float .f64 x16, .float .f64 x17, .float .f64 x18, .float .f64 x19, .float .f64 x20, .int .i64 x21, .int .i64 x22]] G2 fun v23 G24 =>
  (ivBool v23).bind fun x25 =>
  bif (!x25) then
  Kret false b0_0 b0_1 b0_2 b0_3 G24
  else
  KN s7 s8a s8n s154 (IntKind.wrap .i64 (s155 + (1 : Int))) b0_0 b0_1 b0_2 b0_3 G24
  else
  K2 b0_0 b0_1 b0_2 b0_3 G

def l_law19_FilmMerges_7 {R : Type} (O : Ora R) (Kret : Bool → Int → Int → Int → Int → GH → Option R) (K2 : Int → Int → Int → Int → GH → Option R) : Nat → Option GA → Option GA → Nat → Int → Int → Int → Int → Int → Int → GH → Option R
  | 0, _, _, _, _, _, _, _, _, _, _ => none
  | n + 1, s7, s8a, s8n, s154, s155, b0_0, b0_1, b0_2, b0_3, G => u_law19_FilmMerges_7 O Kret (l_law19_FilmMerges_7 O Kret K2 n) K2 s7 s8a s8n s154 s155 b0_0 b0_1 b0_2 b0_3 G

theorem u_law19_FilmMerges_7_raw {R : Type} (O : Ora R) (fuel : Nat) (s7 : Option GA) (s8a : Option GA) (s8n : Nat) (s154 : Int) (s155 : Int) (b0_0 : Int) (b0_1 : Int) (b0_2 : Int) (b0_3 : Int) (G : GH) (k : Ex → List IV → List (List IV) → GH → Option R) :
  loopD Try.prog O lo5 fuel (nav (Try.f5.body.getD .skip) [1, 1, 1, 1, 1, 1, 1, 1, 1, 1, 1, 0, 1, 0, 0]) 100 (mkE 175 [(7, .ptr s7), (8, .slice s8a s8n), (154, .int .i64 s154), (155, .int .i64 s155)]) [[.int .i64 b0_0, .int .i64 b0_1, .int .i64 b0_2, .int .i64 b0_3]] G k =
  u_law19_FilmMerges_7 O (fun (s6 : Bool) (b0_0 : Int) (b0_1 : Int) (b0_2 : Int) (b0_3 : Int) (G : GH) => k .ret (mkE 175 [(6, .bool s6)]) [[.int .i64 b0_0, .int .i64 b0_1, .int .i64 b0_2, .int .i64 b0_3]] G) (fun (s7 : Option GA) (s8a : Option GA) (s8n : Nat) (s154 : Int) (s155 : Int) (b0_0 : Int) (b0_1 : Int) (b0_2 : Int) (b0_3 : Int) (G : GH) => k .normal (mkE 175 [(7, .ptr s7), (8, .slice s8a s8n), (154, .int .i64 s154), (155, .int .i64 s155)]) [[.int .i64 b0_0, .int .i64 b0_1, .int .i64 b0_2, .int .i64 b0_3]] G) (fun (b0_0 : Int) (b0_1 : Int) (b0_2 : Int) (b0_3 : Int) (G : GH) => k (.exit 2) (mkE 175 []) [[.int .i64 b0_0, .int .i64 b0_1, .int .i64 b0_2, .int .i64 b0_3]] G) s7 s8a s8n s154 s155 b0_0 b0_1 b0_2 b0_3 G := by kernel_rfl

theorem l_law19_FilmMerges_7_eq {R : Type} (O : Ora R) (fuel : Nat) (k : Ex → List IV → List (List IV) → GH → Option R) : ∀ (n : Nat) (s7 : Option GA) (s8a : Option GA) (s8n : Nat) (s154 : Int) (s155 : Int) (b0_0 : Int) (b0_1 : Int) (b0_2 : Int) (b0_3 : Int) (G : GH),
  loopN (loopD Try.prog O lo5 fuel (nav (Try.f5.body.getD .skip) [1, 1, 1, 1, 1, 1, 1, 1, 1, 1, 1, 0, 1, 0, 0]) 100) n (mkE 175 [(7, .ptr s7), (8, .slice s8a s8n), (154, .int .i64 s154), (155, .int .i64 s155)]) [[.int .i64 b0_0, .int .i64 b0_1, .int .i64 b0_2, .int .i64 b0_3]] G k = l_law19_FilmMerges_7 O (fun (s6 : Bool) (b0_0 : Int) (b0_1 : Int) (b0_2 : Int) (b0_3 : Int) (G : GH) => k .ret (mkE 175 [(6, .bool s6)]) [[.int .i64 b0_0, .int .i64 b0_1, .int .i64 b0_2, .int .i64 b0_3]] G) (fun (b0_0 : Int) (b0_1 : Int) (b0_2 : Int) (b0_3 : Int) (G : GH) => k (.exit 2) (mkE 175 []) [[.int .i64 b0_0, .int .i64 b0_1, .int .i64 b0_2, .int .i64 b0_3]] G) n s7 s8a s8n s154 s155 b0_0 b0_1 b0_2 b0_3 G := by
  intro n
  induction n with
  | zero => intros; rfl
  | succ n ih =>
    intros
    rw [loopN_succ, u_law19_FilmMerges_7_raw]
    simp only [l_law19_FilmMerges_7, loopK_normal, loopK_exit, loopK_ret, ih]

def u_law19_FilmMerges {R : Type} (O : Ora R) (k : IV → GH → Option R) (L0 : Option GA → Nat → Option GA → Nat → Int → Int → Int → Int → GH → Option R) (p0a : Option GA) (p0n : Nat) (p1a : Option GA) (p1n : Nat) (p2_0 : Int) (p2_1 : Int) (p2_2 : Int) (p2_3 : Int) (G : GH) : Option R :=
  O fn_law19_Awake [] G fun v1 G2 =>
  (ivBool v1).bind fun x3 =>
  bif (!x3) then
  k (.bool false) G2
  else
  L0 p0a p0n p1a p1n p2_0 p2_1 p2_2 p2_3 G2

def a_law19_FilmMerges_0ret {R : Type} (O : Ora R) (k : IV → GH → Option R) (s6 : Bool) (b0_0 : Int) (b0_1 : Int) (b0_2 : Int) (b0_3 : Int) (G : GH) : Option R :=
  k (.bool s6) G

def a_law19_FilmMerges_0N {R : Type} (O : Ora R) (k : IV → GH → Option R) (L1 : Option GA → Nat → Option GA → Option GA → Nat → Bool → Int → Int → Int → Int → GH → Option R) (s0a : Option GA) (s0n : Nat) (s1a : Option GA) (s1n : Nat) (b0_0 : Int) (b0_1 : Int) (b0_2 : Int) (b0_3 : Int) (G : GH) : Option R :=
  O fn_law19_dropped [.int .i64 (5 : Int), .int .i64 (4 : Int), .slice s0a s0n] G fun v1 G2 =>
  (ivTup 3 v1).bind fun c3 =>
  (ivPtr (c3.getD 0 undefI)).bind fun x4 =>
  (ivSlice (c3.getD 1 undefI)).bind fun x5 =>
  (ivBool (c3.getD 2 undefI)).bind fun x6 =>
  L1 s1a s1n x4 x5.1 x5.2 x6 b0_0 b0_1 b0_2 b0_3 G2

def a_law19_FilmMerges_1N {R : Type} (O : Ora R) (k : IV → GH → Option R) (L2 : Option GA → Nat → Option GA → Option GA → Nat → Bool → Bool → Int → Int → Int → Int → Int → Int → GH → Option R) (s1a : Option GA) (s1n : Nat) (s7 : Option GA) (s8a : Option GA) (s8n : Nat) (s9 : Bool) (s10 : Bool) (b0_0 : Int) (b0_1 : Int) (b0_2 : Int) (b0_3 : Int) (G : GH) : Option R :=
  L2 s1a s1n s7 s8a s8n s9 s10 (2 : Int) (2 : Int) b0_0 b0_1 b0_2 b0_3 G

def a_law19_FilmMerges_2N {R : Type} (O : Ora R) (k : IV → GH → Option R) (L3 : Option GA → Option GA → Nat → Bool → Bool → Int → Option GA → Option GA → Nat → Bool → Option GA → Int → Int → Int → Int → GH → Option R) (s1a : Option GA) (s1n : Nat) (s7 : Option GA) (s8a : Option GA) (s8n : Nat) (s9 : Bool) (s10 : Bool) (s11 : Int) (s12 : Int) (b0_0 : Int) (b0_1 : Int) (b0_2 : Int) (b0_3 : Int) (G : GH) : Option R :=
  O fn_law19_dropped [.int .i64 s11, .int .i64 s12, .slice s1a s1n] G fun v1 G2 =>
  (ivTup 3 v1).bind fun c3 =>
  (ivPtr (c3.getD 0 undefI)).bind fun x4 =>
  (ivSlice (c3.getD 1 undefI)).bind fun x5 =>
  (ivBool (c3.getD 2 undefI)).bind fun x6 =>
  O fn_film_New [.int .i64 (IntKind.wrap .i64 (s11 + (1 : Int))), .int .i64 s12] G2 fun v7 G8 =>
  (ivTup 2 v7).bind fun c9 =>
  (ivPtr (c9.getD 0 undefI)).bind fun x10 =>
  (ivInt .i64 (c9.getD 1 undefI)).bind fun x11 =>
  L3 s7 s8a s8n s9 s10 s11 x4 x5.1 x5.2 x6 x10 b0_0 b0_1 b0_2 b0_3 G8

def a_law19_FilmMerges_3ret {R : Type} (O : Ora R) (k : IV → GH → Option R) (s6 : Bool) (b0_0 : Int) (b0_1 : Int) (b0_2 : Int) (b0_3 : Int) (G : GH) : Option R :=
  k (.bool s6) G

def a_law19_FilmMerges_3N {R : Type} (O : Ora R) (k : IV → GH → Option R) (L4 : Option GA → Option GA → Nat → Bool → Int → Option GA → Option GA → Nat → Option GA → Int → Int → Int → Int → GH → Option R) (s7 : Option GA) (s8a : Option GA) (s8n : Nat) (s10 : Bool) (s11 : Int) (s13 : Option GA) (s14a : Option GA) (s14n : Nat) (s16 : Option GA) (b0_0 : Int) (b0_1 : Int) (b0_2 : Int) (b0_3 : Int) (G : GH) : Option R :=
  L4 s7 s8a s8n s10 s11 s13 s14a s14n s16 b0_0 b0_1 b0_2 b0_3 G

def a_law19_FilmMerges_4ret {R : Type} (O : Ora R) (k : IV → GH → Option R) (s6 : Bool) (b0_0 : Int) (b0_1 : Int) (b0_2 : Int) (b0_3 : Int) (G : GH) : Option R :=
  k (.bool s6) G

def a_law19_FilmMerges_4N {R : Type} (O : Ora R) (k : IV → GH → Option R) (L7 : Option GA → Option GA → Nat → Int → Int → Int → Int → Int → Int → GH → Option R) (s7 : Option GA) (s8a : Option GA) (s8n : Nat) (b0_0 : Int) (b0_1 : Int) (b0_2 : Int) (b0_3 : Int) (G : GH) : Option R :=
  L7 s7 s8a s8n (s8n : Int) (0 : Int) b0_0 b0_1 b0_2 b0_3 G

def a_law19_FilmMerges_7ret {R : Type} (O : Ora R) (k : IV → GH → Option R) (s6 : Bool) (b0_0 : Int) (b0_1 : Int) (b0_2 : Int) (b0_3 : Int) (G : GH) : Option R :=
  k (.bool s6) G

def a_law19_FilmMerges_72 {R : Type} (O : Ora R) (k : IV → GH → Option R) (b0_0 : Int) (b0_1 : Int) (b0_2 : Int) (b0_3 : Int) (G : GH) : Option R :=
  k (.bool true) G

def L_law19_FilmMerges_7 {R : Type} (O : Ora R) (fuel : Nat) (k : IV → GH → Option R) : Option GA → Option GA → Nat → Int → Int → Int → Int → Int → Int → GH → Option R := fun (s7 : Option GA) (s8a : Option GA) (s8n : Nat) (s154 : Int) (s155 : Int) (b0_0 : Int) (b0_1 : Int) (b0_2 : Int) (b0_3 : Int) G =>
  l_law19_FilmMerges_7 O (a_law19_FilmMerges_7ret O k) (a_law19_FilmMerges_72 O k) fuel s7 s8a s8n s154 s155 b0_0 b0_1 b0_2 b0_3 G

theorem a_law19_FilmMerges_7ret_raw {R : Type} (O : Ora R) (fuel : Nat) (s6 : Bool) (b0_0 : Int) (b0_1 : Int) (b0_2 : Int) (b0_3 : Int) (G : GH) (k : IV → GH → Option R) :
  contC Try.prog O lo5 fuel (Try.f5.body.getD .skip) [1, 1, 1, 1, 1, 1, 1, 1, 1, 1, 1, 0, 1, 0] (fun e env F G => match e with | .exit _ => none | _ => resC Try.prog Try.f5 env F G k) .ret (mkE 175 [(6, .bool s6)]) [[.int .i64 b0_0, .int .i64 b0_1, .int .i64 b0_2, .int .i64 b0_3]] G =
  a_law19_FilmMerges_7ret O k s6 b0_0 b0_1 b0_2 b0_3 G := by kernel_rfl

theorem a_law19_FilmMerges_72_raw {R : Type} (O : Ora R) (fuel : Nat) (b0_0 : Int) (b0_1 : Int) (b0_2 : Int) (b0_3 : Int) (G : GH) (k : IV → GH → Option R) :
  contC Try.prog O lo5 fuel (Try.f5.body.getD .skip) [1, 1, 1, 1, 1, 1, 1, 1, 1, 1, 1, 0, 1, 0] (fun e env F G => match e with | .exit _ => none | _ => resC Try.prog Try.f5 env F G k) (.exit 2) (mkE 175 []) [[.int .i64 b0_0, .int .i64 b0_1, .int .i64 b0_2, .int .i64 b0_3]] G =
  a_law19_FilmMerges_72 O k b0_0 b0_1 b0_2 b0_3 G := by kernel_rfl

theorem L_law19_FilmMerges_7_eq {R : Type} (O : Ora R) (fuel : Nat) (k : IV → GH → Option R) :
  (fun (s7 : Option GA) (s8a : Option GA) (s8n : Nat) (s154 : Int) (s155 : Int) (b0_0 : Int) (b0_1 : Int) (b0_2 : Int) (b0_3 : Int) (G : GH) => loopN (loopD Try.prog O lo5 fuel (nav (Try.f5.body.getD .skip) [1, 1, 1, 1, 1, 1, 1, 1, 1, 1, 1, 0, 1, 0, 0]) 100) fuel (mkE 175 [(7, .ptr s7), (8, .slice s8a s8n), (154, .int .i64 s154), (155, .int .i64 s155)]) [[.int .i64 b0_0, .int .i64 b0_1, .int .i64 b0_2, .int .i64 b0_3]] G (contC Try.prog O lo5 fuel (Try.f5.body.getD .skip) [1, 1, 1, 1, 1, 1, 1, 1, 1, 1, 1, 0, 1, 0] (fun e env F G => match e with | .exit _ => none | _ => resC Try.prog Try.f5 env F G k))) = L_law19_FilmMerges_7 O fuel k := by
  funext s7 s8a s8n s154 s155 b0_0 b0_1 b0_2 b0_3 G
  simp only [L_law19_FilmMerges_7, l_law19_FilmMerges_7_eq, a_law19_FilmMerges_7ret_raw, a_law19_FilmMerges_72_raw]

def L_law19_FilmMerges_4 {R : Type} (O : Ora R) (fuel : Nat) (k : IV → GH → Option R) : Option GA → Option GA → Nat → Bool → Int → Option GA → Option GA → Nat → Option GA → Int → Int → Int → Int → GH → Option R := fun (s7 : Option GA) (s8a : Option GA) (s8n : Nat) (s10 : Bool) (s11 : Int) (s13 : Option GA) (s14a : Option GA) (s14n : Nat) (s16 : Option GA) (b0_0 : Int) (b0_1 : Int) (b0_2 : Int) (b0_3 : Int) G =>
  stepN fuel (l_law19_FilmMerges_4 O fuel (a_law19_FilmMerges_4ret O k) (a_law19_FilmMerges_4N O k (L_law19_FilmMerges_7 O fuel k)) s7 s8a s8n s10 s11 s13 s14a s14n s16 b0_0 b0_1 b0_2 b0_3 G)

theorem a_law19_FilmMerges_4ret_raw {R : Type} (O : Ora R) (fuel : Nat) (s6 : Bool) (b0_0 : Int) (b0_1 : Int) (b0_2 : Int) (b0_3 : Int) (G : GH) (k : IV → GH → Option R) :
  contC Try.prog O lo5 fuel (Try.f5.body.getD .skip) [1, 1, 1, 1, 1, 1, 1, 1, 1, 1, 0] (fun e env F G => match e with | .exit _ => none | _ => resC Try.prog Try.f5 env F G k) .ret (mkE 175 [(6, .bool s6)]) [[.int .i64 b0_0, .int .i64 b0_1, .int .i64 b0_2, .int .i64 b0_3]] G =
  a_law19_FilmMerges_4ret O k s6 b0_0 b0_1 b0_2 b0_3 G := by kernel_rfl

theorem a_law19_FilmMerges_4N_raw {R : Type} (O : Ora R) (fuel : Nat) (s7 : Option GA) (s8a : Option GA) (s8n : Nat) (b0_0 : Int) (b0_1 : Int) (b0_2 : Int) (b0_3 : Int) (G : GH) (k : IV → GH → Option R) :
  contC Try.prog O lo5 fuel (Try.f5.body.getD .skip) [1, 1, 1, 1, 1, 1, 1, 1, 1, 1, 0] (fun e env F G => match e with | .exit _ => none | _ => resC Try.prog Try.f5 env F G k) .normal (mkE 175 [(7, .ptr s7), (8, .slice s8a s8n)]) [[.int .i64 b0_0, .int .i64 b0_1, .int .i64 b0_2, .int .i64 b0_3]] G =
  a_law19_FilmMerges_4N O k (fun (s7 : Option GA) (s8a : Option GA) (s8n : Nat) (s154 : Int) (s155 : Int) (b0_0 : Int) (b0_1 : Int) (b0_2 : Int) (b0_3 : Int) (G : GH) => loopN (loopD Try.prog O lo5 fuel (nav (Try.f5.body.getD .skip) [1, 1, 1, 1, 1, 1, 1, 1, 1, 1, 1, 0, 1, 0, 0]) 100) fuel (mkE 175 [(7, .ptr s7), (8, .slice s8a s8n), (154, .int .i64 s154), (155, .int .i64 s155)]) [[.int .i64 b0_0, .int .i64 b0_1, .int .i64 b0_2, .int .i64 b0_3]] G (contC Try.prog O lo5 fuel (Try.f5.body.getD .skip) [1, 1, 1, 1, 1, 1, 1, 1, 1, 1, 1, 0, 1, 0] (fun e env F G => match e with | .exit _ => none | _ => resC Try.prog Try.f5 env F G k))) s7 s8a s8n b0_0 b0_1 b0_2 b0_3 G := by kernel_rfl

theorem L_law19_FilmMerges_4_eq {R : Type} (O : Ora R) (fuel : Nat) (k : IV → GH → Option R) :
  (fun (s7 : Option GA) (s8a : Option GA) (s8n : Nat) (s10 : Bool) (s11 : Int) (s13 : Option GA) (s14a : Option GA) (s14n : Nat) (s16 : Option GA) (b0_0 : Int) (b0_1 : Int) (b0_2 : Int) (b0_3 : Int) (G : GH) => stepN fuel (loopD Try.prog O lo5 fuel (nav (Try.f5.body.getD .skip) [1, 1, 1, 1, 1, 1, 1, 1, 1, 1, 0]) 99 (mkE 175 [(5, .loc 0 0), (7, .ptr s7), (8, .slice s8a s8n), (10, .bool s10), (11, .int .i64 s11), (13, .ptr s13), (14, .slice s14a s14n), (16, .ptr s16)]) [[.int .i64 b0_0, .int .i64 b0_1, .int .i64 b0_2, .int .i64 b0_3]] G (contC Try.prog O lo5 fuel (Try.f5.body.getD .skip) [1, 1, 1, 1, 1, 1, 1, 1, 1, 1, 0] (fun e env F G => match e with | .exit _ => none | _ => resC Try.prog Try.f5 env F G k)))) = L_law19_FilmMerges_4 O fuel k := by
  funext s7 s8a s8n s10 s11 s13 s14a s14n s16 b0_0 b0_1 b0_2 b0_3 G
  simp only [L_law19_FilmMerges_4, l_law19_FilmMerges_4_eq, a_law19_FilmMerges_4ret_raw, a_law19_FilmMerges_4N_raw, L_law19_FilmMerges_7_eq]

def L_law19_FilmMerges_3 {R : Type} (O : Ora R) (fuel : Nat) (k : IV → GH → Option R) : Option GA → Option GA → Nat → Bool → Bool → Int → Option GA → Option GA → Nat → Bool → Option GA → Int → Int → Int → Int → GH → Option R := fun (s7 : Option GA) (s8a : Option GA) (s8n : Nat) (s9 : Bool) (s10 : Bool) (s11 : Int) (s13 : Option GA) (s14a : Option GA) (s14n : Nat) (s15 : Bool) (s16 : Option GA) (b0_0 : Int) (b0_1 : Int) (b0_2 : Int) (b0_3 : Int) G =>
  stepN fuel (l_law19_FilmMerges_3 O (a_law19_FilmMerges_3ret O k) (a_law19_FilmMerges_3N O k (L_law19_FilmMerges_4 O fuel k)) s7 s8a s8n s9 s10 s11 s13 s14a s14n s15 s16 b0_0 b0_1 b0_2 b0_3 G)

theorem a_law19_FilmMerges_3ret_raw {R : Type} (O : Ora R) (fuel : Nat) (s6 : Bool) (b0_0 : Int) (b0_1 : Int) (b0_2 : Int) (b0_3 : Int) (G : GH) (k : IV → GH → Option R) :
  contC Try.prog O lo5 fuel (Try.f5.body.getD .skip) [1, 1, 1, 1, 1, 1, 1, 1, 1, 0] (fun e env F G => match e with | .exit _ => none | _ => resC Try.prog Try.f5 env F G k) .ret (mkE 175 [(6, .bool s6)]) [[.int .i64 b0_0, .int .i64 b0_1, .int .i64 b0_2, .int .i64 b0_3]] G =
  a_law19_FilmMerges_3ret O k s6 b0_0 b0_1 b0_2 b0_3 G := by kernel_rfl

theorem a_law19_FilmMerges_3N_raw {R : Type} (O : Ora R) (fuel : Nat) (s7 : Option GA) (s8a : Option GA) (s8n : Nat) (s10 : Bool) (s11 : Int) (s13 : Option GA) (s14a : Option GA) (s14n : Nat) (s16 : Option GA) (b0_0 : Int) (b0_1 : Int) (b0_2 : Int) (b0_3 : Int) (G : GH) (k : IV → GH → Option R) :
  contC Try.prog O lo5 fuel (Try.f5.body.getD .skip) [1, 1, 1, 1, 1, 1, 1, 1, 1, 0] (fun e env F G => match e with | .exit _ => none | _ => resC Try.prog Try.f5 env F G k) .normal (mkE 175 [(5, .loc 0 0), (7, .ptr s7), (8, .slice s8a s8n), (10, .bool s10), (11, .int .i64 s11), (13, .ptr s13), (14, .slice s14a s14n), (16, .ptr s16)]) [[.int .i64 b0_0, .int .i64 b0_1, .int .i64 b0_2, .int .i64 b0_3]] G =
  a_law19_FilmMerges_3N O k (fun (s7 : Option GA) (s8a : Option GA) (s8n : Nat) (s10 : Bool) (s11 : Int) (s13 : Option GA) (s14a : Option GA) (s14n : Nat) (s16 : Option GA) (b0_0 : Int) (b0_1 : Int) (b0_2 : Int) (b0_3 : Int) (G : GH) => stepN fuel (loopD Try.prog O lo5 fuel (nav (Try.f5.body.getD .skip) [1, 1, 1, 1, 1, 1, 1, 1, 1, 1, 0]) 99 (mkE 175 [(5, .loc 0 0), (7, .ptr s7), (8, .slice s8a s8n), (10, .bool s10), (11, .int .i64 s11), (13, .ptr s13), (14, .slice s14a s14n), (16, .ptr s16)]) [[.int .i64 b0_0, .int .i64 b0_1, .int .i64 b0_2, .int .i64 b0_3]] G (contC Try.prog O lo5 fuel (Try.f5.body.getD .skip) [1, 1, 1, 1, 1, 1, 1, 1, 1, 1, 0] (fun e env F G => match e with | .exit _ => none | _ => resC Try.prog Try.f5 env F G k)))) s7 s8a s8n s10 s11 s13 s14a s14n s16 b0_0 b0_1 b0_2 b0_3 G := by kernel_rfl

theorem L_law19_FilmMerges_3_eq {R : Type} (O : Ora R) (fuel : Nat) (k : IV → GH → Option R) :
  (fun (s7 : Option GA) (s8a : Option GA) (s8n : Nat) (s9 : Bool) (s10 : Bool) (s11 : Int) (s13 : Option GA) (s14a : Option GA) (s14n : Nat) (s15 : Bool) (s16 : Option GA) (b0_0 : Int) (b0_1 : Int) (b0_2 : Int) (b0_3 : Int) (G : GH) => stepN fuel (loopD Try.prog O lo5 fuel (nav (Try.f5.body.getD .skip) [1, 1, 1, 1, 1, 1, 1, 1, 1, 0]) 59 (mkE 175 [(5, .loc 0 0), (7, .ptr s7), (8, .slice s8a s8n), (9, .bool s9), (10, .bool s10), (11, .int .i64 s11), (13, .ptr s13), (14, .slice s14a s14n), (15, .bool s15), (16, .ptr s16)]) [[.int .i64 b0_0, .int .i64 b0_1, .int .i64 b0_2, .int .i64 b0_3]] G (contC Try.prog O lo5 fuel (Try.f5.body.getD .skip) [1, 1, 1, 1, 1, 1, 1, 1, 1, 0] (fun e env F G => match e with | .exit _ => none | _ => resC Try.prog Try.f5 env F G k)))) = L_law19_FilmMerges_3 O fuel k := by
  funext s7 s8a s8n s9 s10 s11 s13 s14a s14n s15 s16 b0_0 b0_1 b0_2 b0_3 G
  simp only [L_law19_FilmMerges_3, l_law19_FilmMerges_3_eq, a_law19_FilmMerges_3ret_raw, a_law19_FilmMerges_3N_raw, L_law19_FilmMerges_4_eq]

def L_law19_FilmMerges_2 {R : Type} (O : Ora R) (fuel : Nat) (k : IV → GH → Option R) : Option GA → Nat → Option GA → Option GA → Nat → Bool → Bool → Int → Int → Int → Int → Int → Int → GH → Option R := fun (s1a : Option GA) (s1n : Nat) (s7 : Option GA) (s8a : Option GA) (s8n : Nat) (s9 : Bool) (s10 : Bool) (s11 : Int) (s12 : Int) (b0_0 : Int) (b0_1 : Int) (b0_2 : Int) (b0_3 : Int) G =>
  stepN fuel (l_law19_FilmMerges_2 O (a_law19_FilmMerges_2N O k (L_law19_FilmMerges_3 O fuel k)) s1a s1n s7 s8a s8n s9 s10 s11 s12 b0_0 b0_1 b0_2 b0_3 G)

theorem a_law19_FilmMerges_2N_raw {R : Type} (O : Ora R) (fuel : Nat) (s1a : Option GA) (s1n : Nat) (s7 : Option GA) (s8a : Option GA) (s8n : Nat) (s9 : Bool) (s10 : Bool) (s11 : Int) (s12 : Int) (b0_0 : Int) (b0_1 : Int) (b0_2 : Int) (b0_3 : Int) (G : GH) (k : IV → GH → Option R) :
  contC Try.prog O lo5 fuel (Try.f5.body.getD .skip) [1, 1, 1, 1, 1, 1, 0] (fun e env F G => match e with | .exit _ => none | _ => resC Try.prog Try.f5 env F G k) .normal (mkE 175 [(1, .slice s1a s1n), (5, .loc 0 0), (7, .ptr s7), (8, .slice s8a s8n), (9, .bool s9), (10, .bool s10), (11, .int .i64 s11), (12, .int .i64 s12)]) [[.int .i64 b0_0, .int .i64 b0_1, .int .i64 b0_2, .int .i64 b0_3]] G =
  a_law19_FilmMerges_2N O k (fun (s7 : Option GA) (s8a : Option GA) (s8n : Nat) (s9 : Bool) (s10 : Bool) (s11 : Int) (s13 : Option GA) (s14a : Option GA) (s14n : Nat) (s15 : Bool) (s16 : Option GA) (b0_0 : Int) (b0_1 : Int) (b0_2 : Int) (b0_3 : Int) (G : GH) => stepN fuel (loopD Try.prog O lo5 fuel (nav (Try.f5.body.getD .skip) [1, 1, 1, 1, 1, 1, 1, 1, 1, 0]) 59 (mkE 175 [(5, .loc 0 0), (7, .ptr s7), (8, .slice s8a s8n), (9, .bool s9), (10, .bool s10), (11, .int .i64 s11), (13, .ptr s13), (14, .slice s14a s14n), (15, .bool s15), (16, .ptr s16)]) [[.int .i64 b0_0, .int .i64 b0_1, .int .i64 b0_2, .int .i64 b0_3]] G (contC Try.prog O lo5 fuel (Try.f5.body.getD .skip) [1, 1, 1, 1, 1, 1, 1, 1, 1, 0] (fun e env F G => match e with | .exit _ => none | _ => resC Try.prog Try.f5 env F G k)))) s1a s1n s7 s8a s8n s9 s10 s11 s12 b0_0 b0_1 b0_2 b0_3 G := by kernel_rfl

theorem L_law19_FilmMerges_2_eq {R : Type} (O : Ora R) (fuel : Nat) (k : IV → GH → Option R) :
  (fun (s1a : Option GA) (s1n : Nat) (s7 : Option GA) (s8a : Option GA) (s8n : Nat) (s9 : Bool) (s10 : Bool) (s11 : Int) (s12 : Int) (b0_0 : Int) (b0_1 : Int) (b0_2 : Int) (b0_3 : Int) (G : GH) => stepN fuel (loopD Try.prog O lo5 fuel (nav (Try.f5.body.getD .skip) [1, 1, 1, 1, 1, 1, 0]) 43 (mkE 175 [(1, .slice s1a s1n), (5, .loc 0 0), (7, .ptr s7), (8, .slice s8a s8n), (9, .bool s9), (10, .bool s10), (11, .int .i64 s11), (12, .int .i64 s12)]) [[.int .i64 b0_0, .int .i64 b0_1, .int .i64 b0_2, .int .i64 b0_3]] G (contC Try.prog O lo5 fuel (Try.f5.body.getD .skip) [1, 1, 1, 1, 1, 1, 0] (fun e env F G => match e with | .exit _ => none | _ => resC Try.prog Try.f5 env F G k)))) = L_law19_FilmMerges_2 O fuel k := by
  funext s1a s1n s7 s8a s8n s9 s10 s11 s12 b0_0 b0_1 b0_2 b0_3 G
  simp only [L_law19_FilmMerges_2, l_law19_FilmMerges_2_eq, a_law19_FilmMerges_2N_raw, L_law19_FilmMerges_3_eq]

def L_law19_FilmMerges_1 {R : Type} (O : Ora R) (fuel : Nat) (k : IV → GH → Option R) : Option GA → Nat → Option GA → Option GA → Nat → Bool → Int → Int → Int → Int → GH → Option R := fun (s1a : Option GA) (s1n : Nat) (s7 : Option GA) (s8a : Option GA) (s8n : Nat) (s9 : Bool) (b0_0 : Int) (b0_1 : Int) (b0_2 : Int) (b0_3 : Int) G =>
  stepN fuel (l_law19_FilmMerges_1 O (a_law19_FilmMerges_1N O k (L_law19_FilmMerges_2 O fuel k)) s1a s1n s7 s8a s8n s9 b0_0 b0_1 b0_2 b0_3 G)

theorem a_law19_FilmMerges_1N_raw {R : Type} (O : Ora R) (fuel : Nat) (s1a : Option GA) (s1n : Nat) (s7 : Option GA) (s8a : Option GA) (s8n : Nat) (s9 : Bool) (s10 : Bool) (b0_0 : Int) (b0_1 : Int) (b0_2 : Int) (b0_3 : Int) (G : GH) (k : IV → GH → Option R) :
  contC Try.prog O lo5 fuel (Try.f5.body.getD .skip) [1, 1, 1, 1, 0] (fun e env F G => match e with | .exit _ => none | _ => resC Try.prog Try.f5 env F G k) .normal (mkE 175 [(1, .slice s1a s1n), (5, .loc 0 0), (7, .ptr s7), (8, .slice s8a s8n), (9, .bool s9), (10, .bool s10)]) [[.int .i64 b0_0, .int .i64 b0_1, .int .i64 b0_2, .int .i64 b0_3]] G =
  a_law19_FilmMerges_1N O k (fun (s1a : Option GA) (s1n : Nat) (s7 : Option GA) (s8a : Option GA) (s8n : Nat) (s9 : Bool) (s10 : Bool) (s11 : Int) (s12 : Int) (b0_0 : Int) (b0_1 : Int) (b0_2 : Int) (b0_3 : Int) (G : GH) => stepN fuel (loopD Try.prog O lo5 fuel (nav (Try.f5.body.getD .skip) [1, 1, 1, 1, 1, 1, 0]) 43 (mkE 175 [(1, .slice s1a s1n), (5, .loc 0 0), (7, .ptr s7), (8, .slice s8a s8n), (9, .bool s9), (10, .bool s10), (11, .int .i64 s11), (12, .int .i64 s12)]) [[.int .i64 b0_0, .int .i64 b0_1, .int .i64 b0_2, .int .i64 b0_3]] G (contC Try.prog O lo5 fuel (Try.f5.body.getD .skip) [1, 1, 1, 1, 1, 1, 0] (fun e env F G => match e with | .exit _ => none | _ => resC Try.prog Try.f5 env F G k)))) s1a s1n s7 s8a s8n s9 s10 b0_0 b0_1 b0_2 b0_3 G := by kernel_rfl

theorem L_law19_FilmMerges_1_eq {R : Type} (O : Ora R) (fuel : Nat) (k : IV → GH → Option R) :
  (fun (s1a : Option GA) (s1n : Nat) (s7 : Option GA) (s8a : Option GA) (s8n : Nat) (s9 : Bool) (b0_0 : Int) (b0_1 : Int) (b0_2 : Int) (b0_3 : Int) (G : GH) => stepN fuel (loopD Try.prog O lo5 fuel (nav (Try.f5.body.getD .skip) [1, 1, 1, 1, 0]) 31 (mkE 175 [(1, .slice s1a s1n), (5, .loc 0 0), (7, .ptr s7), (8, .slice s8a s8n), (9, .bool s9)]) [[.int .i64 b0_0, .int .i64 b0_1, .int .i64 b0_2, .int .i64 b0_3]] G (contC Try.prog O lo5 fuel (Try.f5.body.getD .skip) [1, 1, 1, 1, 0] (fun e env F G => match e with | .exit _ => none | _ => resC Try.prog Try.f5 env F G k)))) = L_law19_FilmMerges_1 O fuel k := by
  funext s1a s1n s7 s8a s8n s9 b0_0 b0_1 b0_2 b0_3 G
  simp only [L_law19_FilmMerges_1, l_law19_FilmMerges_1_eq, a_law19_FilmMerges_1N_raw, L_law19_FilmMerges_2_eq]

def L_law19_FilmMerges_0 {R : Type} (O : Ora R) (fuel : Nat) (k : IV → GH → Option R) : Option GA → Nat → Option GA → Nat → Int → Int → Int → Int → GH → Option R := fun (s0a : Option GA) (s0n : Nat) (s1a : Option GA) (s1n : Nat) (b0_0 : Int) (b0_1 : Int) (b0_2 : Int) (b0_3 : Int) G =>
  stepN fuel (l_law19_FilmMerges_0 O (a_law19_FilmMerges_0ret O k) (a_law19_FilmMerges_0N O k (L_law19_FilmMerges_1 O fuel k)) s0a s0n s1a s1n b0_0 b0_1 b0_2 b0_3 G)

theorem a_law19_FilmMerges_0ret_raw {R : Type} (O : Ora R) (fuel : Nat) (s6 : Bool) (b0_0 : Int) (b0_1 : Int) (b0_2 : Int) (b0_3 : Int) (G : GH) (k : IV → GH → Option R) :
  contC Try.prog O lo5 fuel (Try.f5.body.getD .skip) [1, 1, 0] (fun e env F G => match e with | .exit _ => none | _ => resC Try.prog Try.f5 env F G k) .ret (mkE 175 [(6, .bool s6)]) [[.int .i64 b0_0, .int .i64 b0_1, .int .i64 b0_2, .int .i64 b0_3]] G =
  a_law19_FilmMerges_0ret O k s6 b0_0 b0_1 b0_2 b0_3 G := by kernel_rfl

theorem a_law19_FilmMerges_0N_raw {R : Type} (O : Ora R) (fuel : Nat) (s0a : Option GA) (s0n : Nat) (s1a : Option GA) (s1n : Nat) (b0_0 : Int) (b0_1 : Int) (b0_2 : Int) (b0_3 : Int) (G : GH) (k : IV → GH → Option R) :
  contC Try.prog O lo5 fuel (Try.f5.body.getD .skip) [1, 1, 0] (fun e env F G => match e with | .exit _ => none | _ => resC Try.prog Try.f5 env F G k) .normal (mkE 175 [(0, .slice s0a s0n), (1, .slice s1a s1n), (5, .loc 0 0)]) [[.int .i64 b0_0, .int .i64 b0_1, .int .i64 b0_2, .int .i64 b0_3]] G =
  a_law19_FilmMerges_0N O k (fun (s1a : Option GA) (s1n : Nat) (s7 : Option GA) (s8a : Option GA) (s8n : Nat) (s9 : Bool) (b0_0 : Int) (b0_1 : Int) (b0_2 : Int) (b0_3 : Int) (G : GH) => stepN fuel (loopD Try.prog O lo5 fuel (nav (Try.f5.body.getD .skip) [1, 1, 1, 1, 0]) 31 (mkE 175 [(1, .slice s1a s1n), (5, .loc 0 0), (7, .ptr s7), (8, .slice s8a s8n), (9, .bool s9)]) [[.int .i64 b0_0, .int .i64 b0_1, .int .i64 b0_2, .int .i64 b0_3]] G (contC Try.prog O lo5 fuel (Try.f5.body.getD .skip) [1, 1, 1, 1, 0] (fun e env F G => match e with | .exit _ => none | _ => resC Try.prog Try.f5 env F G k)))) s0a s0n s1a s1n b0_0 b0_1 b0_2 b0_3 G := by kernel_rfl

theorem L_law19_FilmMerges_0_eq {R : Type} (O : Ora R) (fuel : Nat) (k : IV → GH → Option R) :
  (fun (s0a : Option GA) (s0n : Nat) (s1a : Option GA) (s1n : Nat) (b0_0 : Int) (b0_1 : Int) (b0_2 : Int) (b0_3 : Int) (G : GH) => stepN fuel (loopD Try.prog O lo5 fuel (nav (Try.f5.body.getD .skip) [1, 1, 0]) 23 (mkE 175 [(0, .slice s0a s0n), (1, .slice s1a s1n), (5, .loc 0 0)]) [[.int .i64 b0_0, .int .i64 b0_1, .int .i64 b0_2, .int .i64 b0_3]] G (contC Try.prog O lo5 fuel (Try.f5.body.getD .skip) [1, 1, 0] (fun e env F G => match e with | .exit _ => none | _ => resC Try.prog Try.f5 env F G k)))) = L_law19_FilmMerges_0 O fuel k := by
  funext s0a s0n s1a s1n b0_0 b0_1 b0_2 b0_3 G
  simp only [L_law19_FilmMerges_0, l_law19_FilmMerges_0_eq, a_law19_FilmMerges_0ret_raw, a_law19_FilmMerges_0N_raw, L_law19_FilmMerges_1_eq]

theorem e_law19_FilmMerges_raw {R : Type} (O : Ora R) (fuel : Nat) (p0a : Option GA) (p0n : Nat) (p1a : Option GA) (p1n : Nat) (p2_0 : Int) (p2_1 : Int) (p2_2 : Int) (p2_3 : Int) (G : GH) (k : IV → GH → Option R) :
  bodyC Try.prog O lo5 fuel Try.f5 [.slice p0a p0n, .slice p1a p1n, .agg [.int .i64 p2_0, .int .i64 p2_1, .int .i64 p2_2, .int .i64 p2_3]] G k =
  u_law19_FilmMerges O k (fun (s0a : Option GA) (s0n : Nat) (s1a : Option GA) (s1n : Nat) (b0_0 : Int) (b0_1 : Int) (b0_2 : Int) (b0_3 : Int) (G : GH) => stepN fuel (loopD Try.prog O lo5 fuel (nav (Try.f5.body.getD .skip) [1, 1, 0]) 23 (mkE 175 [(0, .slice s0a s0n), (1, .slice s1a s1n), (5, .loc 0 0)]) [[.int .i64 b0_0, .int .i64 b0_1, .int .i64 b0_2, .int .i64 b0_3]] G (contC Try.prog O lo5 fuel (Try.f5.body.getD .skip) [1, 1, 0] (fun e env F G => match e with | .exit _ => none | _ => resC Try.prog Try.f5 env F G k)))) p0a p0n p1a p1n p2_0 p2_1 p2_2 p2_3 G := by kernel_rfl

theorem e_law19_FilmMerges {R : Type} (O : Ora R) (fuel : Nat) (p0a : Option GA) (p0n : Nat) (p1a : Option GA) (p1n : Nat) (p2_0 : Int) (p2_1 : Int) (p2_2 : Int) (p2_3 : Int) (G : GH) (k : IV → GH → Option R) :
  bodyC Try.prog O lo5 fuel Try.f5 [.slice p0a p0n, .slice p1a p1n, .agg [.int .i64 p2_0, .int .i64 p2_1, .int .i64 p2_2, .int .i64 p2_3]] G k =
  u_law19_FilmMerges O k (L_law19_FilmMerges_0 O fuel k) p0a p0n p1a p1n p2_0 p2_1 p2_2 p2_3 G := by
  rw [e_law19_FilmMerges_raw, L_law19_FilmMerges_0_eq]

theorem r_law19_FilmMerges {R : Type} (fuel n : Nat) (p0a : Option GA) (p0n : Nat) (p1a : Option GA) (p1n : Nat) (p2_0 : Int) (p2_1 : Int) (p2_2 : Int) (p2_3 : Int) (G : GH) (k : IV → GH → Option R) :
  runC Try.prog lo0 fuel (n + 1) 5 [.slice p0a p0n, .slice p1a p1n, .agg [.int .i64 p2_0, .int .i64 p2_1, .int .i64 p2_2, .int .i64 p2_3]] G k = bodyC Try.prog (runC Try.prog lo0 fuel n) lo5 fuel Try.f5 [.slice p0a p0n, .slice p1a p1n, .agg [.int .i64 p2_0, .int .i64 p2_1, .int .i64 p2_2, .int .i64 p2_3]] G k := run_body Try.func5 rfl rfl

end Go.LI.Film
