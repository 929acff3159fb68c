/- What the interpreter gives for drops (written by rnd.py). -/
import Derived.Test.YtmhoddmenfondaaSeatA
namespace Go.LI.Film
open Go.Proofs.Ytmhoddmenfondaa Go Go.Proofs Go.LI
set_option maxRecDepth 100000
set_option linter.unusedVariables false
set_option linter.unusedSimpArgs false
/-! ### lantern/lanternlaw19.valid -/
def u_zu_0 {R : Type} (O : Ora R) (Kret : Bool → GH → Option R) (KN : OG → Nat → Int → Int → GH → Option R) (K0 : GH → Option R) (s0a : OG) (s0n : Nat) (s5 s6 : Int) (G : GH) : Option R :=
  bif (decide (s6 < s5)) then
  (idx? s0a s0n s6 9).bind fun a1 =>
  (ldFloat G .f64 (GA.add (GA.add a1 2) 0)).bind fun x2 =>
  (ldFloat G .f64 (GA.add (GA.add a1 2) 1)).bind fun x3 =>
  (ldFloat G .f64 (GA.add (GA.add a1 2) 2)).bind fun x4 =>
  (ldFloat G .f64 (GA.add (GA.add a1 2) 3)).bind fun x5 =>
  (ldFloat G .f64 (GA.add (GA.add a1 2) 4)).bind fun x6 =>
  (ldFloat G .f64 (GA.add (GA.add a1 2) 5)).bind fun x7 =>
  O fn_zE1 [.agg [.float .f64 x2, .float .f64 x3, .float .f64 x4, .float .f64 x5, .float .f64 x6, .float .f64 x7]] G fun v8 G9 =>
  (ivBool v8).bind fun x10 =>
  bif (!x10) then
  Kret false G9
  else
  KN s0a s0n s5 (IntKind.wrap .i64 (s6 + (1 : Int))) G9
  else
  K0 G

def l_zu_0 {R : Type} (O : Ora R) (Kret : Bool → GH → Option R) (K0 : GH → Option R) : Nat → OG → Nat → Int → Int → GH → Option R
  | 0, _, _, _, _, _ => none
  | n + 1, s0a, s0n, s5, s6, G => u_zu_0 O Kret (l_zu_0 O Kret K0 n) K0 s0a s0n s5 s6 G

theorem u_zu_0_raw {R : Type} (O : Ora R) (fuel : Nat) (s0a : OG) (s0n : Nat) (s5 s6 : Int) (G : GH) (k : KE R) :
  loopD Try.prog O lo19 fuel (nav (Try.f19.body.getD .skip) [1, 0, 1, 0, 0]) 8 (mkE 17 [(0, .slice s0a s0n), (5, .int .i64 s5), (6, .int .i64 s6)]) [] G k =
  u_zu_0 O (fun s2 G => k .ret (mkE 17 [(2, .bool s2)]) [] G) (fun s0a s0n s5 s6 G => k .normal (mkE 17 [(0, .slice s0a s0n), (5, .int .i64 s5), (6, .int .i64 s6)]) [] G) (fun G => k (.exit 0) (mkE 17 []) [] G) s0a s0n s5 s6 G := by kernel_rfl

theorem l_zu_0_eq {R : Type} (O : Ora R) (fuel : Nat) (k : KE R) : ∀ (n : Nat) (s0a : OG) (s0n : Nat) (s5 s6 : Int) (G : GH),
  loopN (loopD Try.prog O lo19 fuel (nav (Try.f19.body.getD .skip) [1, 0, 1, 0, 0]) 8) n (mkE 17 [(0, .slice s0a s0n), (5, .int .i64 s5), (6, .int .i64 s6)]) [] G k = l_zu_0 O (fun s2 G => k .ret (mkE 17 [(2, .bool s2)]) [] G) (fun G => k (.exit 0) (mkE 17 []) [] G) n s0a s0n s5 s6 G := by
  intro n
  induction n with
  | zero => intros; rfl
  | succ n ih =>
    intros
    rw [loopN_succ, u_zu_0_raw]
    simp only [l_zu_0, loopK_normal, loopK_exit, loopK_ret, ih]

def u_zu {R : Type} (O : Ora R) (k : KV R) (L0 : OG → Nat → Int → Int → GH → Option R) (p0a : OG) (p0n : Nat) (G : GH) : Option R :=
  L0 p0a p0n (p0n : Int) (0 : Int) G

def a_zu_0ret {R : Type} (O : Ora R) (k : KV R) (s2 : Bool) (G : GH) : Option R :=
  k (.bool s2) G

def a_zu_00 {R : Type} (O : Ora R) (k : KV R)  (G : GH) : Option R :=
  k (.bool true) G

def L_zu_0 {R : Type} (O : Ora R) (fuel : Nat) (k : KV R) : OG → Nat → Int → Int → GH → Option R := fun s0a s0n s5 s6 G =>
  l_zu_0 O (a_zu_0ret O k) (a_zu_00 O k) fuel s0a s0n s5 s6 G

theorem a_zu_0ret_raw {R : Type} (O : Ora R) (fuel : Nat) (s2 : Bool) (G : GH) (k : KV R) :
  contC Try.prog O lo19 fuel (Try.f19.body.getD .skip) [1, 0, 1, 0] (fun e env F G => match e with | .exit _ => none | _ => resC Try.prog Try.f19 env F G k) .ret (mkE 17 [(2, .bool s2)]) [] G =
  a_zu_0ret O k s2 G := by kernel_rfl

theorem a_zu_00_raw {R : Type} (O : Ora R) (fuel : Nat)  (G : GH) (k : KV R) :
  contC Try.prog O lo19 fuel (Try.f19.body.getD .skip) [1, 0, 1, 0] (fun e env F G => match e with | .exit _ => none | _ => resC Try.prog Try.f19 env F G k) (.exit 0) (mkE 17 []) [] G =
  a_zu_00 O k G := by kernel_rfl

theorem L_zu_0_eq {R : Type} (O : Ora R) (fuel : Nat) (k : KV R) :
  (fun (s0a : OG) (s0n : Nat) (s5 s6 : Int) (G : GH) => loopN (loopD Try.prog O lo19 fuel (nav (Try.f19.body.getD .skip) [1, 0, 1, 0, 0]) 8) fuel (mkE 17 [(0, .slice s0a s0n), (5, .int .i64 s5), (6, .int .i64 s6)]) [] G (contC Try.prog O lo19 fuel (Try.f19.body.getD .skip) [1, 0, 1, 0] (fun e env F G => match e with | .exit _ => none | _ => resC Try.prog Try.f19 env F G k))) = L_zu_0 O fuel k := by
  funext s0a s0n s5 s6 G
  simp only [L_zu_0, l_zu_0_eq, a_zu_0ret_raw, a_zu_00_raw]

theorem e_zu_raw {R : Type} (O : Ora R) (fuel : Nat) (p0a : OG) (p0n : Nat) (G : GH) (k : KV R) :
  bodyC Try.prog O lo19 fuel Try.f19 [.slice p0a p0n] G k =
  u_zu O k (fun s0a s0n s5 s6 G => loopN (loopD Try.prog O lo19 fuel (nav (Try.f19.body.getD .skip) [1, 0, 1, 0, 0]) 8) fuel (mkE 17 [(0, .slice s0a s0n), (5, .int .i64 s5), (6, .int .i64 s6)]) [] G (contC Try.prog O lo19 fuel (Try.f19.body.getD .skip) [1, 0, 1, 0] (fun e env F G => match e with | .exit _ => none | _ => resC Try.prog Try.f19 env F G k))) p0a p0n G := by kernel_rfl

theorem e_zu {R : Type} (O : Ora R) (fuel : Nat) (p0a : OG) (p0n : Nat) (G : GH) (k : KV R) :
  bodyC Try.prog O lo19 fuel Try.f19 [.slice p0a p0n] G k =
  u_zu O k (L_zu_0 O fuel k) p0a p0n G := by
  rw [e_zu_raw, L_zu_0_eq]

theorem r_zu {R : Type} (fuel n : Nat) (p0a : OG) (p0n : Nat) (G : GH) (k : KV R) :
  runC Try.prog lo0 fuel (n + 1) 19 [.slice p0a p0n] G k = bodyC Try.prog (runC Try.prog lo0 fuel n) lo19 fuel Try.f19 [.slice p0a p0n] G k := run_body Try.func19 rfl rfl

/-! ### lantern/lanternlaw19.dropped -/
def u_zg_1 {R : Type} (O : Ora R) (KN : Int → Int → OG → Nat → OG → OG → Nat → Int → GH → Option R) (K0 : OG → OG → Nat → GH → Option R) (s0 s1 : Int) (s2a : OG) (s2n : Nat) (s9 s11a : OG) (s11n : Nat) (s12 : Int) (G : GH) : Option R :=
  bif (decide (s12 < (s2n : Int))) then
  bif (decide (s12 < (200 : Int))) then
  KN s0 s1 s2a s2n s9 s11a s11n s12 G
  else
  K0 s9 s11a s11n G
  else
  K0 s9 s11a s11n G

def l_zg_1 {R : Type} (O : Ora R) (KN : Int → Int → OG → Nat → OG → OG → Nat → Int → GH → Option R) (K0 : OG → OG → Nat → GH → Option R) : Int → Int → OG → Nat → OG → OG → Nat → Int → GH → Option R := fun s0 s1 s2a s2n s9 s11a s11n s12 G => u_zg_1 O KN K0 s0 s1 s2a s2n s9 s11a s11n s12 G

theorem u_zg_1_raw {R : Type} (O : Ora R) (fuel : Nat) (s0 s1 : Int) (s2a : OG) (s2n : Nat) (s9 s11a : OG) (s11n : Nat) (s12 : Int) (G : GH) (k : KE R) :
  loopD Try.prog O lo20 fuel (nav (Try.f20.body.getD .skip) [1, 1, 1, 1, 0, 1, 0, 0, 0]) 35 (mkE 102 [(0, .int .i64 s0), (1, .int .i64 s1), (2, .slice s2a s2n), (9, .ptr s9), (11, .slice s11a s11n), (12, .int .i64 s12)]) [] G k =
  u_zg_1 O (fun s0 s1 s2a s2n s9 s11a s11n s12 G => k .normal (mkE 102 [(0, .int .i64 s0), (1, .int .i64 s1), (2, .slice s2a s2n), (9, .ptr s9), (11, .slice s11a s11n), (12, .int .i64 s12)]) [] G) (fun s9 s11a s11n G => k (.exit 0) (mkE 102 [(9, .ptr s9), (11, .slice s11a s11n)]) [] G) s0 s1 s2a s2n s9 s11a s11n s12 G := by kernel_rfl

theorem l_zg_1_eq {R : Type} (O : Ora R) (fuel : Nat) (k : KE R) : ∀ (s0 s1 : Int) (s2a : OG) (s2n : Nat) (s9 s11a : OG) (s11n : Nat) (s12 : Int) (G : GH),
  loopD Try.prog O lo20 fuel (nav (Try.f20.body.getD .skip) [1, 1, 1, 1, 0, 1, 0, 0, 0]) 35 (mkE 102 [(0, .int .i64 s0), (1, .int .i64 s1), (2, .slice s2a s2n), (9, .ptr s9), (11, .slice s11a s11n), (12, .int .i64 s12)]) [] G k = l_zg_1 O (fun s0 s1 s2a s2n s9 s11a s11n s12 G => k .normal (mkE 102 [(0, .int .i64 s0), (1, .int .i64 s1), (2, .slice s2a s2n), (9, .ptr s9), (11, .slice s11a s11n), (12, .int .i64 s12)]) [] G) (fun s9 s11a s11n G => k (.exit 0) (mkE 102 [(9, .ptr s9), (11, .slice s11a s11n)]) [] G) s0 s1 s2a s2n s9 s11a s11n s12 G := by
  intros
  rw [u_zg_1_raw]
  simp only [l_zg_1]

def u_zg_3 {R : Type} (O : Ora R) (KN : Int → Int → OG → Nat → OG → OG → Nat → Int → Bool → Int → Int → Nat → Nat → Nat → Nat → Nat → Nat → Bool → Nat → Nat → Nat → Nat → Nat → Nat → Bool → OG → Nat → GH → Option R) (s0 s1 : Int) (s2a : OG) (s2n : Nat) (s9 s11a : OG) (s11n : Nat) (s12 b0_0 b0_1 : Int) (b0_2 b0_3 : Nat) (b0_4 b0_5 : Nat) (b0_6 b0_7 : Nat) (b0_8 : Bool) (b1_0 b1_1 : Nat) (b1_2 b1_3 : Nat) (b1_4 b1_5 : Nat) (b1_6 : Bool) (b1_7a : OG) (b1_7n : Nat) (G : GH) : Option R :=
  bif (decide (b0_0 ≥ (0 : Int))) then
  bif (decide (b0_1 ≥ (0 : Int))) then
  bif (decide (b0_0 < s0)) then
  KN s0 s1 s2a s2n s9 s11a s11n s12 (decide (b0_1 < s1)) b0_0 b0_1 b0_2 b0_3 b0_4 b0_5 b0_6 b0_7 b0_8 b1_0 b1_1 b1_2 b1_3 b1_4 b1_5 b1_6 b1_7a b1_7n G
  else
  KN s0 s1 s2a s2n s9 s11a s11n s12 false b0_0 b0_1 b0_2 b0_3 b0_4 b0_5 b0_6 b0_7 b0_8 b1_0 b1_1 b1_2 b1_3 b1_4 b1_5 b1_6 b1_7a b1_7n G
  else
  KN s0 s1 s2a s2n s9 s11a s11n s12 false b0_0 b0_1 b0_2 b0_3 b0_4 b0_5 b0_6 b0_7 b0_8 b1_0 b1_1 b1_2 b1_3 b1_4 b1_5 b1_6 b1_7a b1_7n G
  else
  KN s0 s1 s2a s2n s9 s11a s11n s12 false b0_0 b0_1 b0_2 b0_3 b0_4 b0_5 b0_6 b0_7 b0_8 b1_0 b1_1 b1_2 b1_3 b1_4 b1_5 b1_6 b1_7a b1_7n G

def l_zg_3 {R : Type} (O : Ora R) (KN : Int → Int → OG → Nat → OG → OG → Nat → Int → Bool → Int → Int → Nat → Nat → Nat → Nat → Nat → Nat → Bool → Nat → Nat → Nat → Nat → Nat → Nat → Bool → OG → Nat → GH → Option R) : Int → Int → OG → Nat → OG → OG → Nat → Int → Int → Int → Nat → Nat → Nat → Nat → Nat → Nat → Bool → Nat → Nat → Nat → Nat → Nat → Nat → Bool → OG → Nat → GH → Option R := fun s0 s1 s2a s2n s9 s11a s11n s12 b0_0 b0_1 b0_2 b0_3 b0_4 b0_5 b0_6 b0_7 b0_8 b1_0 b1_1 b1_2 b1_3 b1_4 b1_5 b1_6 b1_7a b1_7n G => u_zg_3 O KN s0 s1 s2a s2n s9 s11a s11n s12 b0_0 b0_1 b0_2 b0_3 b0_4 b0_5 b0_6 b0_7 b0_8 b1_0 b1_1 b1_2 b1_3 b1_4 b1_5 b1_6 b1_7a b1_7n G

theorem u_zg_3_raw {R : Type} (O : Ora R) (fuel : Nat) (s0 s1 : Int) (s2a : OG) (s2n : Nat) (s9 s11a : OG) (s11n : Nat) (s12 b0_0 b0_1 : Int) (b0_2 b0_3 : Nat) (b0_4 b0_5 : Nat) (b0_6 b0_7 : Nat) (b0_8 : Bool) (b1_0 b1_1 : Nat) (b1_2 b1_3 : Nat) (b1_4 b1_5 : Nat) (b1_6 : Bool) (b1_7a : OG) (b1_7n : Nat) (G : GH) (k : KE R) :
  loopD Try.prog O lo20 fuel (nav (Try.f20.body.getD .skip) [1, 1, 1, 1, 0, 1, 0, 0, 1, 0, 0, 1, 1, 0]) 47 (mkE 102 [(0, .int .i64 s0), (1, .int .i64 s1), (2, .slice s2a s2n), (9, .ptr s9), (11, .slice s11a s11n), (12, .int .i64 s12), (13, .loc 0 0), (14, .loc 1 0)]) [[.int .i64 b0_0, .int .i64 b0_1, .float .f64 b0_2, .float .f64 b0_3, .float .f64 b0_4, .float .f64 b0_5, .float .f64 b0_6, .float .f64 b0_7, .bool b0_8], [.float .f64 b1_0, .float .f64 b1_1, .float .f64 b1_2, .float .f64 b1_3, .float .f64 b1_4, .float .f64 b1_5, .bool b1_6, .slice b1_7a b1_7n]] G k =
  u_zg_3 O (fun s0 s1 s2a s2n s9 s11a s11n s12 s15 b0_0 b0_1 b0_2 b0_3 b0_4 b0_5 b0_6 b0_7 b0_8 b1_0 b1_1 b1_2 b1_3 b1_4 b1_5 b1_6 b1_7a b1_7n G => k .normal (mkE 102 [(0, .int .i64 s0), (1, .int .i64 s1), (2, .slice s2a s2n), (9, .ptr s9), (11, .slice s11a s11n), (12, .int .i64 s12), (13, .loc 0 0), (14, .loc 1 0), (15, .bool s15)]) [[.int .i64 b0_0, .int .i64 b0_1, .float .f64 b0_2, .float .f64 b0_3, .float .f64 b0_4, .float .f64 b0_5, .float .f64 b0_6, .float .f64 b0_7, .bool b0_8], [.float .f64 b1_0, .float .f64 b1_1, .float .f64 b1_2, .float .f64 b1_3, .float .f64 b1_4, .float .f64 b1_5, .bool b1_6, .slice b1_7a b1_7n]] G) s0 s1 s2a s2n s9 s11a s11n s12 b0_0 b0_1 b0_2 b0_3 b0_4 b0_5 b0_6 b0_7 b0_8 b1_0 b1_1 b1_2 b1_3 b1_4 b1_5 b1_6 b1_7a b1_7n G := by kernel_rfl

theorem l_zg_3_eq {R : Type} (O : Ora R) (fuel : Nat) (k : KE R) : ∀ (s0 s1 : Int) (s2a : OG) (s2n : Nat) (s9 s11a : OG) (s11n : Nat) (s12 b0_0 b0_1 : Int) (b0_2 b0_3 : Nat) (b0_4 b0_5 : Nat) (b0_6 b0_7 : Nat) (b0_8 : Bool) (b1_0 b1_1 : Nat) (b1_2 b1_3 : Nat) (b1_4 b1_5 : Nat) (b1_6 : Bool) (b1_7a : OG) (b1_7n : Nat) (G : GH),
  loopD Try.prog O lo20 fuel (nav (Try.f20.body.getD .skip) [1, 1, 1, 1, 0, 1, 0, 0, 1, 0, 0, 1, 1, 0]) 47 (mkE 102 [(0, .int .i64 s0), (1, .int .i64 s1), (2, .slice s2a s2n), (9, .ptr s9), (11, .slice s11a s11n), (12, .int .i64 s12), (13, .loc 0 0), (14, .loc 1 0)]) [[.int .i64 b0_0, .int .i64 b0_1, .float .f64 b0_2, .float .f64 b0_3, .float .f64 b0_4, .float .f64 b0_5, .float .f64 b0_6, .float .f64 b0_7, .bool b0_8], [.float .f64 b1_0, .float .f64 b1_1, .float .f64 b1_2, .float .f64 b1_3, .float .f64 b1_4, .float .f64 b1_5, .bool b1_6, .slice b1_7a b1_7n]] G k = l_zg_3 O (fun s0 s1 s2a s2n s9 s11a s11n s12 s15 b0_0 b0_1 b0_2 b0_3 b0_4 b0_5 b0_6 b0_7 b0_8 b1_0 b1_1 b1_2 b1_3 b1_4 b1_5 b1_6 b1_7a b1_7n G => k .normal (mkE 102 [(0, .int .i64 s0), (1, .int .i64 s1), (2, .slice s2a s2n), (9, .ptr s9), (11, .slice s11a s11n), (12, .int .i64 s12), (13, .loc 0 0), (14, .loc 1 0), (15, .bool s15)]) [[.int .i64 b0_0, .int .i64 b0_1, .float .f64 b0_2, .float .f64 b0_3, .float .f64 b0_4, .float .f64 b0_5, .float .f64 b0_6, .float .f64 b0_7, .bool b0_8], [.float .f64 b1_0, .float .f64 b1_1, .float .f64 b1_2, .float .f64 b1_3, .float .f64 b1_4, .float .f64 b1_5, .bool b1_6, .slice b1_7a b1_7n]] G) s0 s1 s2a s2n s9 s11a s11n s12 b0_0 b0_1 b0_2 b0_3 b0_4 b0_5 b0_6 b0_7 b0_8 b1_0 b1_1 b1_2 b1_3 b1_4 b1_5 b1_6 b1_7a b1_7n G := by
  intros
  rw [u_zg_3_raw]
  simp only [l_zg_3]

def u_zg_2 {R : Type} (O : Ora R) (Kret : OG → OG → Nat → Bool → GH → Option R) (KN : Int → Int → OG → Nat → OG → OG → Nat → Int → GH → Option R) (L3 : Int → Int → OG → Nat → OG → OG → Nat → Int → Int → Int → Nat → Nat → Nat → Nat → Nat → Nat → Bool → Nat → Nat → Nat → Nat → Nat → Nat → Bool → OG → Nat → GH → Option R) (s0 s1 : Int) (s2a : OG) (s2n : Nat) (s9 s11a : OG) (s11n : Nat) (s12 : Int) (G : GH) : Option R :=
  (idx? s2a s2n s12 9).bind fun a1 =>
  (ldInt G .i64 (GA.add a1 0)).bind fun x2 =>
  (ldInt G .i64 (GA.add a1 1)).bind fun x3 =>
  (ldFloat G .f64 (GA.add a1 2)).bind fun x4 =>
  (ldFloat G .f64 (GA.add a1 3)).bind fun x5 =>
  (ldFloat G .f64 (GA.add a1 4)).bind fun x6 =>
  (ldFloat G .f64 (GA.add a1 5)).bind fun x7 =>
  (ldFloat G .f64 (GA.add a1 6)).bind fun x8 =>
  (ldFloat G .f64 (GA.add a1 7)).bind fun x9 =>
  (ldBool G (GA.add a1 8)).bind fun x10 =>
  L3 s0 s1 s2a s2n s9 s11a s11n s12 x2 x3 x4 x5 x6 x7 x8 x9 x10 x4 x5 x6 x7 x8 x9 (!x10) none 0 G

def a_zg_3N {R : Type} (O : Ora R) (Kret : OG → OG → Nat → Bool → GH → Option R) (KN : Int → Int → OG → Nat → OG → OG → Nat → Int → GH → Option R) (s0 s1 : Int) (s2a : OG) (s2n : Nat) (s9 s11a : OG) (s11n : Nat) (s12 : Int) (s15 : Bool) (b0_0 b0_1 : Int) (b0_2 b0_3 : Nat) (b0_4 b0_5 : Nat) (b0_6 b0_7 : Nat) (b0_8 : Bool) (b1_0 b1_1 : Nat) (b1_2 b1_3 : Nat) (b1_4 b1_5 : Nat) (b1_6 : Bool) (b1_7a : OG) (b1_7n : Nat) (G : GH) : Option R :=
  O fn_zy [.ptr s9, .int .i64 b0_0, .int .i64 b0_1, .agg [.float .f64 b1_0, .float .f64 b1_1, .float .f64 b1_2, .float .f64 b1_3, .float .f64 b1_4, .float .f64 b1_5, .bool b1_6, .slice b1_7a b1_7n]] G fun v1 G2 =>
  (ivInt .i64 v1).bind fun x3 =>
  bif (!((x3 == (0 : Int)) == s15)) then
  Kret none none 0 false G2
  else
  bif s15 then
  (idx? s11a s11n (IntKind.wrap .i64 ((IntKind.wrap .i64 (b0_1 * s0)) + b0_0)) 8).bind fun a4 =>
  (ldFloat G2 .f64 (GA.add a4 0)).bind fun x5 =>
  (ldFloat G2 .f64 (GA.add a4 1)).bind fun x6 =>
  (ldFloat G2 .f64 (GA.add a4 2)).bind fun x7 =>
  (ldFloat G2 .f64 (GA.add a4 3)).bind fun x8 =>
  (ldFloat G2 .f64 (GA.add a4 4)).bind fun x9 =>
  (ldFloat G2 .f64 (GA.add a4 5)).bind fun x10 =>
  (ldInt G2 .i64 (GA.add a4 6)).bind fun x11 =>
  (ldInt G2 .i64 (GA.add a4 7)).bind fun x12 =>
  O fn_zw1 [.agg [.float .f64 x5, .float .f64 x6, .float .f64 x7, .float .f64 x8, .float .f64 x9, .float .f64 x10, .int .i64 x11, .int .i64 x12], .agg [.float .f64 b1_0, .float .f64 b1_1, .float .f64 b1_2, .float .f64 b1_3, .float .f64 b1_4, .float .f64 b1_5, .bool b1_6, .slice b1_7a b1_7n]] (gfreeze G2) fun v13 _ =>
  (ivAgg 8 v13).bind fun c14 =>
  (ivFloat .f64 (c14.getD 0 undefI)).bind fun x15 =>
  (ivFloat .f64 (c14.getD 1 undefI)).bind fun x16 =>
  (ivFloat .f64 (c14.getD 2 undefI)).bind fun x17 =>
  (ivFloat .f64 (c14.getD 3 undefI)).bind fun x18 =>
  (ivFloat .f64 (c14.getD 4 undefI)).bind fun x19 =>
  (ivFloat .f64 (c14.getD 5 undefI)).bind fun x20 =>
  (ivInt .i64 (c14.getD 6 undefI)).bind fun x21 =>
  (ivInt .i64 (c14.getD 7 undefI)).bind fun x22 =>
  (idx? s11a s11n (IntKind.wrap .i64 ((IntKind.wrap .i64 (b0_1 * s0)) + b0_0)) 8).bind fun a23 =>
  (gst G2 a23 [.float .f64 x15, .float .f64 x16, .float .f64 x17, .float .f64 x18, .float .f64 x19, .float .f64 x20, .int .i64 x21, .int .i64 x22]).bind fun G24 =>
  KN s0 s1 s2a s2n s9 s11a s11n s12 G24
  else
  KN s0 s1 s2a s2n s9 s11a s11n s12 G2

def L_zg_3 {R : Type} (O : Ora R) (fuel : Nat) (Kret : OG → OG → Nat → Bool → GH → Option R) (KN : Int → Int → OG → Nat → OG → OG → Nat → Int → GH → Option R) : Int → Int → OG → Nat → OG → OG → Nat → Int → Int → Int → Nat → Nat → Nat → Nat → Nat → Nat → Bool → Nat → Nat → Nat → Nat → Nat → Nat → Bool → OG → Nat → GH → Option R := fun s0 s1 s2a s2n s9 s11a s11n s12 b0_0 b0_1 b0_2 b0_3 b0_4 b0_5 b0_6 b0_7 b0_8 b1_0 b1_1 b1_2 b1_3 b1_4 b1_5 b1_6 b1_7a b1_7n G =>
  stepN fuel (l_zg_3 O (a_zg_3N O Kret KN) s0 s1 s2a s2n s9 s11a s11n s12 b0_0 b0_1 b0_2 b0_3 b0_4 b0_5 b0_6 b0_7 b0_8 b1_0 b1_1 b1_2 b1_3 b1_4 b1_5 b1_6 b1_7a b1_7n G)

theorem a_zg_3N_raw {R : Type} (O : Ora R) (fuel : Nat) (s0 s1 : Int) (s2a : OG) (s2n : Nat) (s9 s11a : OG) (s11n : Nat) (s12 : Int) (s15 : Bool) (b0_0 b0_1 : Int) (b0_2 b0_3 : Nat) (b0_4 b0_5 : Nat) (b0_6 b0_7 : Nat) (b0_8 : Bool) (b1_0 b1_1 : Nat) (b1_2 b1_3 : Nat) (b1_4 b1_5 : Nat) (b1_6 : Bool) (b1_7a : OG) (b1_7n : Nat) (G : GH) (k : KE R) :
  contC Try.prog O lo20 fuel (nav (Try.f20.body.getD .skip) [1, 1, 1, 1, 0, 1, 0, 0, 1, 0]) [0, 1, 1, 0] (kpD lo20 31 0 k) .normal (mkE 102 [(0, .int .i64 s0), (1, .int .i64 s1), (2, .slice s2a s2n), (9, .ptr s9), (11, .slice s11a s11n), (12, .int .i64 s12), (13, .loc 0 0), (14, .loc 1 0), (15, .bool s15)]) [[.int .i64 b0_0, .int .i64 b0_1, .float .f64 b0_2, .float .f64 b0_3, .float .f64 b0_4, .float .f64 b0_5, .float .f64 b0_6, .float .f64 b0_7, .bool b0_8], [.float .f64 b1_0, .float .f64 b1_1, .float .f64 b1_2, .float .f64 b1_3, .float .f64 b1_4, .float .f64 b1_5, .bool b1_6, .slice b1_7a b1_7n]] G =
  a_zg_3N O (fun s6 s7a s7n s8 G => k .ret (mkE 102 [(6, .ptr s6), (7, .slice s7a s7n), (8, .bool s8)]) [] G) (fun s0 s1 s2a s2n s9 s11a s11n s12 G => k .normal (mkE 102 [(0, .int .i64 s0), (1, .int .i64 s1), (2, .slice s2a s2n), (9, .ptr s9), (11, .slice s11a s11n), (12, .int .i64 s12)]) [] G) s0 s1 s2a s2n s9 s11a s11n s12 s15 b0_0 b0_1 b0_2 b0_3 b0_4 b0_5 b0_6 b0_7 b0_8 b1_0 b1_1 b1_2 b1_3 b1_4 b1_5 b1_6 b1_7a b1_7n G := by kernel_rfl

theorem L_zg_3_eq {R : Type} (O : Ora R) (fuel : Nat) (k : KE R) :
  (fun (s0 s1 : Int) (s2a : OG) (s2n : Nat) (s9 s11a : OG) (s11n : Nat) (s12 b0_0 b0_1 : Int) (b0_2 b0_3 : Nat) (b0_4 b0_5 : Nat) (b0_6 b0_7 : Nat) (b0_8 : Bool) (b1_0 b1_1 : Nat) (b1_2 b1_3 : Nat) (b1_4 b1_5 : Nat) (b1_6 : Bool) (b1_7a : OG) (b1_7n : Nat) (G : GH) => stepN fuel (loopD Try.prog O lo20 fuel (nav (Try.f20.body.getD .skip) [1, 1, 1, 1, 0, 1, 0, 0, 1, 0, 0, 1, 1, 0]) 47 (mkE 102 [(0, .int .i64 s0), (1, .int .i64 s1), (2, .slice s2a s2n), (9, .ptr s9), (11, .slice s11a s11n), (12, .int .i64 s12), (13, .loc 0 0), (14, .loc 1 0)]) [[.int .i64 b0_0, .int .i64 b0_1, .float .f64 b0_2, .float .f64 b0_3, .float .f64 b0_4, .float .f64 b0_5, .float .f64 b0_6, .float .f64 b0_7, .bool b0_8], [.float .f64 b1_0, .float .f64 b1_1, .float .f64 b1_2, .float .f64 b1_3, .float .f64 b1_4, .float .f64 b1_5, .bool b1_6, .slice b1_7a b1_7n]] G (contC Try.prog O lo20 fuel (nav (Try.f20.body.getD .skip) [1, 1, 1, 1, 0, 1, 0, 0, 1, 0]) [0, 1, 1, 0] (kpD lo20 31 0 k)))) = L_zg_3 O fuel (fun (s6 s7a : OG) (s7n : Nat) (s8 : Bool) (G : GH) => k .ret (mkE 102 [(6, .ptr s6), (7, .slice s7a s7n), (8, .bool s8)]) [] G) (fun (s0 s1 : Int) (s2a : OG) (s2n : Nat) (s9 s11a : OG) (s11n : Nat) (s12 : Int) (G : GH) => k .normal (mkE 102 [(0, .int .i64 s0), (1, .int .i64 s1), (2, .slice s2a s2n), (9, .ptr s9), (11, .slice s11a s11n), (12, .int .i64 s12)]) [] G) := by
  funext s0 s1 s2a s2n s9 s11a s11n s12 b0_0 b0_1 b0_2 b0_3 b0_4 b0_5 b0_6 b0_7 b0_8 b1_0 b1_1 b1_2 b1_3 b1_4 b1_5 b1_6 b1_7a b1_7n G
  simp only [L_zg_3, l_zg_3_eq, a_zg_3N_raw]

def l_zg_2 {R : Type} (O : Ora R) (fuel : Nat) (Kret : OG → OG → Nat → Bool → GH → Option R) (KN : Int → Int → OG → Nat → OG → OG → Nat → Int → GH → Option R) : Int → Int → OG → Nat → OG → OG → Nat → Int → GH → Option R := fun s0 s1 s2a s2n s9 s11a s11n s12 G => u_zg_2 O Kret KN (L_zg_3 O fuel Kret KN) s0 s1 s2a s2n s9 s11a s11n s12 G

theorem u_zg_2_raw {R : Type} (O : Ora R) (fuel : Nat) (s0 s1 : Int) (s2a : OG) (s2n : Nat) (s9 s11a : OG) (s11n : Nat) (s12 : Int) (G : GH) (k : KE R) :
  loopD Try.prog O lo20 fuel (nav (Try.f20.body.getD .skip) [1, 1, 1, 1, 0, 1, 0, 0, 1, 0]) 31 (mkE 102 [(0, .int .i64 s0), (1, .int .i64 s1), (2, .slice s2a s2n), (9, .ptr s9), (11, .slice s11a s11n), (12, .int .i64 s12)]) [] G k =
  u_zg_2 O (fun s6 s7a s7n s8 G => k .ret (mkE 102 [(6, .ptr s6), (7, .slice s7a s7n), (8, .bool s8)]) [] G) (fun s0 s1 s2a s2n s9 s11a s11n s12 G => k .normal (mkE 102 [(0, .int .i64 s0), (1, .int .i64 s1), (2, .slice s2a s2n), (9, .ptr s9), (11, .slice s11a s11n), (12, .int .i64 s12)]) [] G) (fun s0 s1 s2a s2n s9 s11a s11n s12 b0_0 b0_1 b0_2 b0_3 b0_4 b0_5 b0_6 b0_7 b0_8 b1_0 b1_1 b1_2 b1_3 b1_4 b1_5 b1_6 b1_7a b1_7n G => stepN fuel (loopD Try.prog O lo20 fuel (nav (Try.f20.body.getD .skip) [1, 1, 1, 1, 0, 1, 0, 0, 1, 0, 0, 1, 1, 0]) 47 (mkE 102 [(0, .int .i64 s0), (1, .int .i64 s1), (2, .slice s2a s2n), (9, .ptr s9), (11, .slice s11a s11n), (12, .int .i64 s12), (13, .loc 0 0), (14, .loc 1 0)]) [[.int .i64 b0_0, .int .i64 b0_1, .float .f64 b0_2, .float .f64 b0_3, .float .f64 b0_4, .float .f64 b0_5, .float .f64 b0_6, .float .f64 b0_7, .bool b0_8], [.float .f64 b1_0, .float .f64 b1_1, .float .f64 b1_2, .float .f64 b1_3, .float .f64 b1_4, .float .f64 b1_5, .bool b1_6, .slice b1_7a b1_7n]] G (contC Try.prog O lo20 fuel (nav (Try.f20.body.getD .skip) [1, 1, 1, 1, 0, 1, 0, 0, 1, 0]) [0, 1, 1, 0] (kpD lo20 31 0 k)))) s0 s1 s2a s2n s9 s11a s11n s12 G := by kernel_rfl

theorem l_zg_2_eq {R : Type} (O : Ora R) (fuel : Nat) (k : KE R) : ∀ (s0 s1 : Int) (s2a : OG) (s2n : Nat) (s9 s11a : OG) (s11n : Nat) (s12 : Int) (G : GH),
  loopD Try.prog O lo20 fuel (nav (Try.f20.body.getD .skip) [1, 1, 1, 1, 0, 1, 0, 0, 1, 0]) 31 (mkE 102 [(0, .int .i64 s0), (1, .int .i64 s1), (2, .slice s2a s2n), (9, .ptr s9), (11, .slice s11a s11n), (12, .int .i64 s12)]) [] G k = l_zg_2 O fuel (fun s6 s7a s7n s8 G => k .ret (mkE 102 [(6, .ptr s6), (7, .slice s7a s7n), (8, .bool s8)]) [] G) (fun s0 s1 s2a s2n s9 s11a s11n s12 G => k .normal (mkE 102 [(0, .int .i64 s0), (1, .int .i64 s1), (2, .slice s2a s2n), (9, .ptr s9), (11, .slice s11a s11n), (12, .int .i64 s12)]) [] G) s0 s1 s2a s2n s9 s11a s11n s12 G := by
  intros
  rw [u_zg_2_raw]
  simp only [l_zg_2, L_zg_3_eq]

def u_zg_0 {R : Type} (O : Ora R) (Kret : OG → OG → Nat → Bool → GH → Option R) (KN : Int → Int → OG → Nat → OG → OG → Nat → Int → GH → Option R) (K0 : OG → OG → Nat → GH → Option R) (L1 : Int → Int → OG → Nat → OG → OG → Nat → Int → GH → Option R) (s0 s1 : Int) (s2a : OG) (s2n : Nat) (s9 s11a : OG) (s11n : Nat) (s12 : Int) (G : GH) : Option R :=
  L1 s0 s1 s2a s2n s9 s11a s11n s12 G

def a_zg_1N {R : Type} (O : Ora R) (Kret : OG → OG → Nat → Bool → GH → Option R) (KN : Int → Int → OG → Nat → OG → OG → Nat → Int → GH → Option R) (K0 : OG → OG → Nat → GH → Option R) (L2 : Int → Int → OG → Nat → OG → OG → Nat → Int → GH → Option R) (s0 s1 : Int) (s2a : OG) (s2n : Nat) (s9 s11a : OG) (s11n : Nat) (s12 : Int) (G : GH) : Option R :=
  L2 s0 s1 s2a s2n s9 s11a s11n s12 G

def a_zg_10 {R : Type} (O : Ora R) (Kret : OG → OG → Nat → Bool → GH → Option R) (KN : Int → Int → OG → Nat → OG → OG → Nat → Int → GH → Option R) (K0 : OG → OG → Nat → GH → Option R) (s9 s11a : OG) (s11n : Nat) (G : GH) : Option R :=
  K0 s9 s11a s11n G

def a_zg_2ret {R : Type} (O : Ora R) (Kret : OG → OG → Nat → Bool → GH → Option R) (KN : Int → Int → OG → Nat → OG → OG → Nat → Int → GH → Option R) (K0 : OG → OG → Nat → GH → Option R) (s6 s7a : OG) (s7n : Nat) (s8 : Bool) (G : GH) : Option R :=
  Kret s6 s7a s7n s8 G

def a_zg_2N {R : Type} (O : Ora R) (Kret : OG → OG → Nat → Bool → GH → Option R) (KN : Int → Int → OG → Nat → OG → OG → Nat → Int → GH → Option R) (K0 : OG → OG → Nat → GH → Option R) (s0 s1 : Int) (s2a : OG) (s2n : Nat) (s9 s11a : OG) (s11n : Nat) (s12 : Int) (G : GH) : Option R :=
  KN s0 s1 s2a s2n s9 s11a s11n (IntKind.wrap .i64 (s12 + (1 : Int))) G

def L_zg_2 {R : Type} (O : Ora R) (fuel : Nat) (Kret : OG → OG → Nat → Bool → GH → Option R) (KN : Int → Int → OG → Nat → OG → OG → Nat → Int → GH → Option R) (K0 : OG → OG → Nat → GH → Option R) : Int → Int → OG → Nat → OG → OG → Nat → Int → GH → Option R := fun s0 s1 s2a s2n s9 s11a s11n s12 G =>
  stepN fuel (l_zg_2 O fuel (a_zg_2ret O Kret KN K0) (a_zg_2N O Kret KN K0) s0 s1 s2a s2n s9 s11a s11n s12 G)

theorem a_zg_2ret_raw {R : Type} (O : Ora R) (fuel : Nat) (s6 s7a : OG) (s7n : Nat) (s8 : Bool) (G : GH) (k : KE R) :
  contC Try.prog O lo20 fuel (nav (Try.f20.body.getD .skip) [1, 1, 1, 1, 0, 1, 0, 0]) [1, 0] (kpD lo20 24 0 k) .ret (mkE 102 [(6, .ptr s6), (7, .slice s7a s7n), (8, .bool s8)]) [] G =
  a_zg_2ret O (fun s6 s7a s7n s8 G => k .ret (mkE 102 [(6, .ptr s6), (7, .slice s7a s7n), (8, .bool s8)]) [] G) (fun s0 s1 s2a s2n s9 s11a s11n s12 G => k .normal (mkE 102 [(0, .int .i64 s0), (1, .int .i64 s1), (2, .slice s2a s2n), (9, .ptr s9), (11, .slice s11a s11n), (12, .int .i64 s12)]) [] G) (fun s9 s11a s11n G => k (.exit 0) (mkE 102 [(9, .ptr s9), (11, .slice s11a s11n)]) [] G) s6 s7a s7n s8 G := by kernel_rfl

theorem a_zg_2N_raw {R : Type} (O : Ora R) (fuel : Nat) (s0 s1 : Int) (s2a : OG) (s2n : Nat) (s9 s11a : OG) (s11n : Nat) (s12 : Int) (G : GH) (k : KE R) :
  contC Try.prog O lo20 fuel (nav (Try.f20.body.getD .skip) [1, 1, 1, 1, 0, 1, 0, 0]) [1, 0] (kpD lo20 24 0 k) .normal (mkE 102 [(0, .int .i64 s0), (1, .int .i64 s1), (2, .slice s2a s2n), (9, .ptr s9), (11, .slice s11a s11n), (12, .int .i64 s12)]) [] G =
  a_zg_2N O (fun s6 s7a s7n s8 G => k .ret (mkE 102 [(6, .ptr s6), (7, .slice s7a s7n), (8, .bool s8)]) [] G) (fun s0 s1 s2a s2n s9 s11a s11n s12 G => k .normal (mkE 102 [(0, .int .i64 s0), (1, .int .i64 s1), (2, .slice s2a s2n), (9, .ptr s9), (11, .slice s11a s11n), (12, .int .i64 s12)]) [] G) (fun s9 s11a s11n G => k (.exit 0) (mkE 102 [(9, .ptr s9), (11, .slice s11a s11n)]) [] G) s0 s1 s2a s2n s9 s11a s11n s12 G := by kernel_rfl

theorem L_zg_2_eq {R : Type} (O : Ora R) (fuel : Nat) (k : KE R) :
  (fun (s0 s1 : Int) (s2a : OG) (s2n : Nat) (s9 s11a : OG) (s11n : Nat) (s12 : Int) (G : GH) => stepN fuel (loopD Try.prog O lo20 fuel (nav (Try.f20.body.getD .skip) [1, 1, 1, 1, 0, 1, 0, 0, 1, 0]) 31 (mkE 102 [(0, .int .i64 s0), (1, .int .i64 s1), (2, .slice s2a s2n), (9, .ptr s9), (11, .slice s11a s11n), (12, .int .i64 s12)]) [] G (contC Try.prog O lo20 fuel (nav (Try.f20.body.getD .skip) [1, 1, 1, 1, 0, 1, 0, 0]) [1, 0] (kpD lo20 24 0 k)))) = L_zg_2 O fuel (fun (s6 s7a : OG) (s7n : Nat) (s8 : Bool) (G : GH) => k .ret (mkE 102 [(6, .ptr s6), (7, .slice s7a s7n), (8, .bool s8)]) [] G) (fun (s0 s1 : Int) (s2a : OG) (s2n : Nat) (s9 s11a : OG) (s11n : Nat) (s12 : Int) (G : GH) => k .normal (mkE 102 [(0, .int .i64 s0), (1, .int .i64 s1), (2, .slice s2a s2n), (9, .ptr s9), (11, .slice s11a s11n), (12, .int .i64 s12)]) [] G) (fun (s9 s11a : OG) (s11n : Nat) (G : GH) => k (.exit 0) (mkE 102 [(9, .ptr s9), (11, .slice s11a s11n)]) [] G) := by
  funext s0 s1 s2a s2n s9 s11a s11n s12 G
  simp only [L_zg_2, l_zg_2_eq, a_zg_2ret_raw, a_zg_2N_raw]

def L_zg_1 {R : Type} (O : Ora R) (fuel : Nat) (Kret : OG → OG → Nat → Bool → GH → Option R) (KN : Int → Int → OG → Nat → OG → OG → Nat → Int → GH → Option R) (K0 : OG → OG → Nat → GH → Option R) : Int → Int → OG → Nat → OG → OG → Nat → Int → GH → Option R := fun s0 s1 s2a s2n s9 s11a s11n s12 G =>
  stepN fuel (l_zg_1 O (a_zg_1N O Kret KN K0 (L_zg_2 O fuel Kret KN K0)) (a_zg_10 O Kret KN K0) s0 s1 s2a s2n s9 s11a s11n s12 G)

theorem a_zg_1N_raw {R : Type} (O : Ora R) (fuel : Nat) (s0 s1 : Int) (s2a : OG) (s2n : Nat) (s9 s11a : OG) (s11n : Nat) (s12 : Int) (G : GH) (k : KE R) :
  contC Try.prog O lo20 fuel (nav (Try.f20.body.getD .skip) [1, 1, 1, 1, 0, 1, 0, 0]) [0] (kpD lo20 24 0 k) .normal (mkE 102 [(0, .int .i64 s0), (1, .int .i64 s1), (2, .slice s2a s2n), (9, .ptr s9), (11, .slice s11a s11n), (12, .int .i64 s12)]) [] G =
  a_zg_1N O (fun s6 s7a s7n s8 G => k .ret (mkE 102 [(6, .ptr s6), (7, .slice s7a s7n), (8, .bool s8)]) [] G) (fun s0 s1 s2a s2n s9 s11a s11n s12 G => k .normal (mkE 102 [(0, .int .i64 s0), (1, .int .i64 s1), (2, .slice s2a s2n), (9, .ptr s9), (11, .slice s11a s11n), (12, .int .i64 s12)]) [] G) (fun s9 s11a s11n G => k (.exit 0) (mkE 102 [(9, .ptr s9), (11, .slice s11a s11n)]) [] G) (fun s0 s1 s2a s2n s9 s11a s11n s12 G => stepN fuel (loopD Try.prog O lo20 fuel (nav (Try.f20.body.getD .skip) [1, 1, 1, 1, 0, 1, 0, 0, 1, 0]) 31 (mkE 102 [(0, .int .i64 s0), (1, .int .i64 s1), (2, .slice s2a s2n), (9, .ptr s9), (11, .slice s11a s11n), (12, .int .i64 s12)]) [] G (contC Try.prog O lo20 fuel (nav (Try.f20.body.getD .skip) [1, 1, 1, 1, 0, 1, 0, 0]) [1, 0] (kpD lo20 24 0 k)))) s0 s1 s2a s2n s9 s11a s11n s12 G := by kernel_rfl

theorem a_zg_10_raw {R : Type} (O : Ora R) (fuel : Nat) (s9 s11a : OG) (s11n : Nat) (G : GH) (k : KE R) :
  contC Try.prog O lo20 fuel (nav (Try.f20.body.getD .skip) [1, 1, 1, 1, 0, 1, 0, 0]) [0] (kpD lo20 24 0 k) (.exit 0) (mkE 102 [(9, .ptr s9), (11, .slice s11a s11n)]) [] G =
  a_zg_10 O (fun s6 s7a s7n s8 G => k .ret (mkE 102 [(6, .ptr s6), (7, .slice s7a s7n), (8, .bool s8)]) [] G) (fun s0 s1 s2a s2n s9 s11a s11n s12 G => k .normal (mkE 102 [(0, .int .i64 s0), (1, .int .i64 s1), (2, .slice s2a s2n), (9, .ptr s9), (11, .slice s11a s11n), (12, .int .i64 s12)]) [] G) (fun s9 s11a s11n G => k (.exit 0) (mkE 102 [(9, .ptr s9), (11, .slice s11a s11n)]) [] G) s9 s11a s11n G := by kernel_rfl

theorem L_zg_1_eq {R : Type} (O : Ora R) (fuel : Nat) (k : KE R) :
  (fun (s0 s1 : Int) (s2a : OG) (s2n : Nat) (s9 s11a : OG) (s11n : Nat) (s12 : Int) (G : GH) => stepN fuel (loopD Try.prog O lo20 fuel (nav (Try.f20.body.getD .skip) [1, 1, 1, 1, 0, 1, 0, 0, 0]) 35 (mkE 102 [(0, .int .i64 s0), (1, .int .i64 s1), (2, .slice s2a s2n), (9, .ptr s9), (11, .slice s11a s11n), (12, .int .i64 s12)]) [] G (contC Try.prog O lo20 fuel (nav (Try.f20.body.getD .skip) [1, 1, 1, 1, 0, 1, 0, 0]) [0] (kpD lo20 24 0 k)))) = L_zg_1 O fuel (fun (s6 s7a : OG) (s7n : Nat) (s8 : Bool) (G : GH) => k .ret (mkE 102 [(6, .ptr s6), (7, .slice s7a s7n), (8, .bool s8)]) [] G) (fun (s0 s1 : Int) (s2a : OG) (s2n : Nat) (s9 s11a : OG) (s11n : Nat) (s12 : Int) (G : GH) => k .normal (mkE 102 [(0, .int .i64 s0), (1, .int .i64 s1), (2, .slice s2a s2n), (9, .ptr s9), (11, .slice s11a s11n), (12, .int .i64 s12)]) [] G) (fun (s9 s11a : OG) (s11n : Nat) (G : GH) => k (.exit 0) (mkE 102 [(9, .ptr s9), (11, .slice s11a s11n)]) [] G) := by
  funext s0 s1 s2a s2n s9 s11a s11n s12 G
  simp only [L_zg_1, l_zg_1_eq, a_zg_1N_raw, a_zg_10_raw, L_zg_2_eq]

def l_zg_0 {R : Type} (O : Ora R) (fuel : Nat) (Kret : OG → OG → Nat → Bool → GH → Option R) (K0 : OG → OG → Nat → GH → Option R) : Nat → Int → Int → OG → Nat → OG → OG → Nat → Int → GH → Option R
  | 0, _, _, _, _, _, _, _, _, _ => none
  | n + 1, s0, s1, s2a, s2n, s9, s11a, s11n, s12, G => u_zg_0 O Kret (l_zg_0 O fuel Kret K0 n) K0 (L_zg_1 O fuel Kret (l_zg_0 O fuel Kret K0 n) K0) s0 s1 s2a s2n s9 s11a s11n s12 G

theorem u_zg_0_raw {R : Type} (O : Ora R) (fuel : Nat) (s0 s1 : Int) (s2a : OG) (s2n : Nat) (s9 s11a : OG) (s11n : Nat) (s12 : Int) (G : GH) (k : KE R) :
  loopD Try.prog O lo20 fuel (nav (Try.f20.body.getD .skip) [1, 1, 1, 1, 0, 1, 0, 0]) 24 (mkE 102 [(0, .int .i64 s0), (1, .int .i64 s1), (2, .slice s2a s2n), (9, .ptr s9), (11, .slice s11a s11n), (12, .int .i64 s12)]) [] G k =
  u_zg_0 O (fun s6 s7a s7n s8 G => k .ret (mkE 102 [(6, .ptr s6), (7, .slice s7a s7n), (8, .bool s8)]) [] G) (fun s0 s1 s2a s2n s9 s11a s11n s12 G => k .normal (mkE 102 [(0, .int .i64 s0), (1, .int .i64 s1), (2, .slice s2a s2n), (9, .ptr s9), (11, .slice s11a s11n), (12, .int .i64 s12)]) [] G) (fun s9 s11a s11n G => k (.exit 0) (mkE 102 [(9, .ptr s9), (11, .slice s11a s11n)]) [] G) (fun s0 s1 s2a s2n s9 s11a s11n s12 G => stepN fuel (loopD Try.prog O lo20 fuel (nav (Try.f20.body.getD .skip) [1, 1, 1, 1, 0, 1, 0, 0, 0]) 35 (mkE 102 [(0, .int .i64 s0), (1, .int .i64 s1), (2, .slice s2a s2n), (9, .ptr s9), (11, .slice s11a s11n), (12, .int .i64 s12)]) [] G (contC Try.prog O lo20 fuel (nav (Try.f20.body.getD .skip) [1, 1, 1, 1, 0, 1, 0, 0]) [0] (kpD lo20 24 0 k)))) s0 s1 s2a s2n s9 s11a s11n s12 G := by kernel_rfl

theorem l_zg_0_eq {R : Type} (O : Ora R) (fuel : Nat) (k : KE R) : ∀ (n : Nat) (s0 s1 : Int) (s2a : OG) (s2n : Nat) (s9 s11a : OG) (s11n : Nat) (s12 : Int) (G : GH),
  loopN (loopD Try.prog O lo20 fuel (nav (Try.f20.body.getD .skip) [1, 1, 1, 1, 0, 1, 0, 0]) 24) n (mkE 102 [(0, .int .i64 s0), (1, .int .i64 s1), (2, .slice s2a s2n), (9, .ptr s9), (11, .slice s11a s11n), (12, .int .i64 s12)]) [] G k = l_zg_0 O fuel (fun s6 s7a s7n s8 G => k .ret (mkE 102 [(6, .ptr s6), (7, .slice s7a s7n), (8, .bool s8)]) [] G) (fun s9 s11a s11n G => k (.exit 0) (mkE 102 [(9, .ptr s9), (11, .slice s11a s11n)]) [] G) n s0 s1 s2a s2n s9 s11a s11n s12 G := by
  intro n
  induction n with
  | zero => intros; rfl
  | succ n ih =>
    intros
    rw [loopN_succ, u_zg_0_raw]
    simp only [l_zg_0, loopK_normal, loopK_exit, loopK_ret, ih, L_zg_1_eq]

def u_zg {R : Type} (O : Ora R) (k : KV R) (L0 : Int → Int → OG → Nat → OG → OG → Nat → Int → GH → Option R) (p0 p1 : Int) (p2a : OG) (p2n : Nat) (G : GH) : Option R :=
  O fn_zN [.int .i64 p0, .int .i64 p1] G fun v1 G2 =>
  (ivTup 2 v1).bind fun c3 =>
  (ivPtr (c3.getD 0 undefI)).bind fun x4 =>
  (ivInt .i64 (c3.getD 1 undefI)).bind fun x5 =>
  bif (x5 != (0 : Int)) then
  k (.tuple [.ptr none, .slice none 0, .bool false]) G2
  else
  bif (decide (0 ≤ (IntKind.wrap .i64 (p0 * p1)) ∧ (IntKind.wrap .i64 (p0 * p1)) ≤ (IntKind.wrap .i64 (p0 * p1)) ∧ (IntKind.wrap .i64 (p0 * p1)) * 64 ≤ roomI ∧ (IntKind.wrap .i64 (p0 * p1)) ≤ roomI) && true && true) then
  L0 p0 p1 p2a p2n x4 (some (gaddr G2)) (Int.toNat (IntKind.wrap .i64 (p0 * p1))) (0 : Int) (gnew G2 (List.replicate (Int.toNat (IntKind.wrap .i64 (p0 * p1))) [.float .f64 (0 : Nat), .float .f64 (0 : Nat), .float .f64 (0 : Nat), .float .f64 (0 : Nat), .float .f64 (0 : Nat), .float .f64 (0 : Nat), .int .i64 (0 : Int), .int .i64 (0 : Int)]).flatten 54)
  else none

def a_zg_0ret {R : Type} (O : Ora R) (k : KV R) (s6 s7a : OG) (s7n : Nat) (s8 : Bool) (G : GH) : Option R :=
  k (.tuple [.ptr s6, .slice s7a s7n, .bool s8]) G

def a_zg_00 {R : Type} (O : Ora R) (k : KV R) (s9 s11a : OG) (s11n : Nat) (G : GH) : Option R :=
  k (.tuple [.ptr s9, .slice s11a s11n, .bool true]) G

def L_zg_0 {R : Type} (O : Ora R) (fuel : Nat) (k : KV R) : Int → Int → OG → Nat → OG → OG → Nat → Int → GH → Option R := fun s0 s1 s2a s2n s9 s11a s11n s12 G =>
  l_zg_0 O fuel (a_zg_0ret O k) (a_zg_00 O k) fuel s0 s1 s2a s2n s9 s11a s11n s12 G

theorem a_zg_0ret_raw {R : Type} (O : Ora R) (fuel : Nat) (s6 s7a : OG) (s7n : Nat) (s8 : Bool) (G : GH) (k : KV R) :
  contC Try.prog O lo20 fuel (Try.f20.body.getD .skip) [1, 1, 1, 1, 0, 1, 0] (fun e env F G => match e with | .exit _ => none | _ => resC Try.prog Try.f20 env F G k) .ret (mkE 102 [(6, .ptr s6), (7, .slice s7a s7n), (8, .bool s8)]) [] G =
  a_zg_0ret O k s6 s7a s7n s8 G := by kernel_rfl

theorem a_zg_00_raw {R : Type} (O : Ora R) (fuel : Nat) (s9 s11a : OG) (s11n : Nat) (G : GH) (k : KV R) :
  contC Try.prog O lo20 fuel (Try.f20.body.getD .skip) [1, 1, 1, 1, 0, 1, 0] (fun e env F G => match e with | .exit _ => none | _ => resC Try.prog Try.f20 env F G k) (.exit 0) (mkE 102 [(9, .ptr s9), (11, .slice s11a s11n)]) [] G =
  a_zg_00 O k s9 s11a s11n G := by kernel_rfl

theorem L_zg_0_eq {R : Type} (O : Ora R) (fuel : Nat) (k : KV R) :
  (fun (s0 s1 : Int) (s2a : OG) (s2n : Nat) (s9 s11a : OG) (s11n : Nat) (s12 : Int) (G : GH) => loopN (loopD Try.prog O lo20 fuel (nav (Try.f20.body.getD .skip) [1, 1, 1, 1, 0, 1, 0, 0]) 24) fuel (mkE 102 [(0, .int .i64 s0), (1, .int .i64 s1), (2, .slice s2a s2n), (9, .ptr s9), (11, .slice s11a s11n), (12, .int .i64 s12)]) [] G (contC Try.prog O lo20 fuel (Try.f20.body.getD .skip) [1, 1, 1, 1, 0, 1, 0] (fun e env F G => match e with | .exit _ => none | _ => resC Try.prog Try.f20 env F G k))) = L_zg_0 O fuel k := by
  funext s0 s1 s2a s2n s9 s11a s11n s12 G
  simp only [L_zg_0, l_zg_0_eq, a_zg_0ret_raw, a_zg_00_raw]

theorem e_zg_raw {R : Type} (O : Ora R) (fuel : Nat) (p0 p1 : Int) (p2a : OG) (p2n : Nat) (G : GH) (k : KV R) :
  bodyC Try.prog O lo20 fuel Try.f20 [.int .i64 p0, .int .i64 p1, .slice p2a p2n] G k =
  u_zg O k (fun s0 s1 s2a s2n s9 s11a s11n s12 G => loopN (loopD Try.prog O lo20 fuel (nav (Try.f20.body.getD .skip) [1, 1, 1, 1, 0, 1, 0, 0]) 24) fuel (mkE 102 [(0, .int .i64 s0), (1, .int .i64 s1), (2, .slice s2a s2n), (9, .ptr s9), (11, .slice s11a s11n), (12, .int .i64 s12)]) [] G (contC Try.prog O lo20 fuel (Try.f20.body.getD .skip) [1, 1, 1, 1, 0, 1, 0] (fun e env F G => match e with | .exit _ => none | _ => resC Try.prog Try.f20 env F G k))) p0 p1 p2a p2n G := by kernel_rfl

theorem e_zg {R : Type} (O : Ora R) (fuel : Nat) (p0 p1 : Int) (p2a : OG) (p2n : Nat) (G : GH) (k : KV R) :
  bodyC Try.prog O lo20 fuel Try.f20 [.int .i64 p0, .int .i64 p1, .slice p2a p2n] G k =
  u_zg O k (L_zg_0 O fuel k) p0 p1 p2a p2n G := by
  rw [e_zg_raw, L_zg_0_eq]

theorem r_zg {R : Type} (fuel n : Nat) (p0 p1 : Int) (p2a : OG) (p2n : Nat) (G : GH) (k : KV R) :
  runC Try.prog lo0 fuel (n + 1) 20 [.int .i64 p0, .int .i64 p1, .slice p2a p2n] G k = bodyC Try.prog (runC Try.prog lo0 fuel n) lo20 fuel Try.f20 [.int .i64 p0, .int .i64 p1, .slice p2a p2n] G k := run_body Try.func20 rfl rfl

end Go.LI.Film
