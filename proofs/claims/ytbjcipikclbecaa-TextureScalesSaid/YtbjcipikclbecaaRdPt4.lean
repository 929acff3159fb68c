/- What the interpreter gives for textures: Checks (written by tex.py). -/
import Derived.Test.YtbjcipikclbecaaSeatA
namespace Go.LI.Film
open Go.Proofs.Ytbjcipikclbecaa Go Go.Proofs Go.LI
set_option maxRecDepth 100000
set_option linter.unusedVariables false
set_option linter.unusedSimpArgs false
def grdO (G : GH) (b : OG) (n sz : Nat) : Option (List IV) := match b with | some b => grd G b (n * sz) | none => if n = 0 then some [] else none
/-! ### lantern/lanternlaw09.long -/
def u_law09_long_0 {R : Type} (O : Ora R) (Kret : Bool → GH → Option R) (KN : OG → Nat → GH → Option R) (s0a : OG) (s0n : Nat) (s1a : OG) (s1n : Nat) (G : GH) : Option R :=
  bif (decide ((s0n : Int) > (100 : Int))) then
  Kret true G
  else
  bif (decide ((s1n : Int) > (10 : Int))) then
  Kret true G
  else
  KN s1a s1n G

def l_law09_long_0 {R : Type} (O : Ora R) (Kret : Bool → GH → Option R) (KN : OG → Nat → GH → Option R) : OG → Nat → OG → Nat → GH → Option R := fun s0a s0n s1a s1n G => u_law09_long_0 O Kret KN s0a s0n s1a s1n G

theorem u_law09_long_0_raw {R : Type} (O : Ora R) (fuel : Nat) (s0a : OG) (s0n : Nat) (s1a : OG) (s1n : Nat) (G : GH) (k : KE R) :
  loopD Try.prog O lo9 fuel (nav (Try.f9.body.getD .skip) [1, 0]) 15 (mkE 27 [(0, .slice s0a s0n), (1, .slice s1a s1n)]) [] G k =
  u_law09_long_0 O (fun s4 G => k .ret (mkE 27 [(4, .bool s4)]) [] G) (fun s1a s1n G => k .normal (mkE 27 [(1, .slice s1a s1n)]) [] G) s0a s0n s1a s1n G := by kernel_rfl

theorem l_law09_long_0_eq {R : Type} (O : Ora R) (fuel : Nat) (k : KE R) : ∀ (s0a : OG) (s0n : Nat) (s1a : OG) (s1n : Nat) (G : GH),
  loopD Try.prog O lo9 fuel (nav (Try.f9.body.getD .skip) [1, 0]) 15 (mkE 27 [(0, .slice s0a s0n), (1, .slice s1a s1n)]) [] G k = l_law09_long_0 O (fun s4 G => k .ret (mkE 27 [(4, .bool s4)]) [] G) (fun s1a s1n G => k .normal (mkE 27 [(1, .slice s1a s1n)]) [] G) s0a s0n s1a s1n G := by
  intros
  rw [u_law09_long_0_raw]
  simp only [l_law09_long_0]

def u_law09_long_1 {R : Type} (O : Ora R) (Kret : Bool → GH → Option R) (KN : OG → Nat → Int → GH → Option R) (K0 : GH → Option R) (s1a : OG) (s1n : Nat) (s5 : Int) (G : GH) : Option R :=
  bif (decide (s5 < (s1n : Int))) then
  (idx? s1a s1n s5 3).bind fun a1 =>
  (ldSlice G (GA.add a1 2)).bind fun x2 =>
  bif (decide ((x2.2 : Int) > (500 : Int))) then
  Kret true G
  else
  KN s1a s1n (IntKind.wrap .i64 (s5 + (1 : Int))) G
  else
  K0 G

def l_law09_long_1 {R : Type} (O : Ora R) (Kret : Bool → GH → Option R) (K0 : GH → Option R) : Nat → OG → Nat → Int → GH → Option R
  | 0, _, _, _, _ => none
  | n + 1, s1a, s1n, s5, G => u_law09_long_1 O Kret (l_law09_long_1 O Kret K0 n) K0 s1a s1n s5 G

theorem u_law09_long_1_raw {R : Type} (O : Ora R) (fuel : Nat) (s1a : OG) (s1n : Nat) (s5 : Int) (G : GH) (k : KE R) :
  loopD Try.prog O lo9 fuel (nav (Try.f9.body.getD .skip) [1, 1, 0, 1, 0, 0]) 16 (mkE 27 [(1, .slice s1a s1n), (5, .int .i64 s5)]) [] G k =
  u_law09_long_1 O (fun s4 G => k .ret (mkE 27 [(4, .bool s4)]) [] G) (fun s1a s1n s5 G => k .normal (mkE 27 [(1, .slice s1a s1n), (5, .int .i64 s5)]) [] G) (fun G => k (.exit 0) (mkE 27 []) [] G) s1a s1n s5 G := by kernel_rfl

theorem l_law09_long_1_eq {R : Type} (O : Ora R) (fuel : Nat) (k : KE R) : ∀ (n : Nat) (s1a : OG) (s1n : Nat) (s5 : Int) (G : GH),
  loopN (loopD Try.prog O lo9 fuel (nav (Try.f9.body.getD .skip) [1, 1, 0, 1, 0, 0]) 16) n (mkE 27 [(1, .slice s1a s1n), (5, .int .i64 s5)]) [] G k = l_law09_long_1 O (fun s4 G => k .ret (mkE 27 [(4, .bool s4)]) [] G) (fun G => k (.exit 0) (mkE 27 []) [] G) n s1a s1n s5 G := by
  intro n
  induction n with
  | zero => intros; first | rfl | simp only [loopN, l_law09_long_1]
  | succ n ih =>
    intros
    rw [loopN_succ, u_law09_long_1_raw]
    simp only [l_law09_long_1, loopK_normal, loopK_exit, loopK_ret, ih]

def u_law09_long {R : Type} (O : Ora R) (k : KV R) (L0 : OG → Nat → OG → Nat → GH → Option R) (p0a : OG) (p0n : Nat) (p1a : OG) (p1n : Nat) (G : GH) : Option R :=
  L0 p0a p0n p1a p1n G

def a_law09_long_0ret {R : Type} (O : Ora R) (k : KV R) (s4 : Bool) (G : GH) : Option R :=
  k (.bool s4) G

def a_law09_long_0N {R : Type} (O : Ora R) (k : KV R) (L1 : OG → Nat → Int → GH → Option R) (s1a : OG) (s1n : Nat) (G : GH) : Option R :=
  L1 s1a s1n (0 : Int) G

def a_law09_long_1ret {R : Type} (O : Ora R) (k : KV R) (s4 : Bool) (G : GH) : Option R :=
  k (.bool s4) G

def a_law09_long_10 {R : Type} (O : Ora R) (k : KV R)  (G : GH) : Option R :=
  k (.bool false) G

def L_law09_long_1 {R : Type} (O : Ora R) (fuel : Nat) (k : KV R) : OG → Nat → Int → GH → Option R := fun s1a s1n s5 G =>
  l_law09_long_1 O (a_law09_long_1ret O k) (a_law09_long_10 O k) fuel s1a s1n s5 G

theorem a_law09_long_1ret_raw {R : Type} (O : Ora R) (fuel : Nat) (s4 : Bool) (G : GH) (k : KV R) :
  contC Try.prog O lo9 fuel (Try.f9.body.getD .skip) [1, 1, 0, 1, 0] (fun e env F G => match e with | .exit _ => none | _ => resC Try.prog Try.f9 env F G k) .ret (mkE 27 [(4, .bool s4)]) [] G =
  a_law09_long_1ret O k s4 G := by kernel_rfl

theorem a_law09_long_10_raw {R : Type} (O : Ora R) (fuel : Nat)  (G : GH) (k : KV R) :
  contC Try.prog O lo9 fuel (Try.f9.body.getD .skip) [1, 1, 0, 1, 0] (fun e env F G => match e with | .exit _ => none | _ => resC Try.prog Try.f9 env F G k) (.exit 0) (mkE 27 []) [] G =
  a_law09_long_10 O k G := by kernel_rfl

theorem L_law09_long_1_eq {R : Type} (O : Ora R) (fuel : Nat) (k : KV R) :
  (fun (s1a : OG) (s1n : Nat) (s5 : Int) (G : GH) => loopN (loopD Try.prog O lo9 fuel (nav (Try.f9.body.getD .skip) [1, 1, 0, 1, 0, 0]) 16) fuel (mkE 27 [(1, .slice s1a s1n), (5, .int .i64 s5)]) [] G (contC Try.prog O lo9 fuel (Try.f9.body.getD .skip) [1, 1, 0, 1, 0] (fun e env F G => match e with | .exit _ => none | _ => resC Try.prog Try.f9 env F G k))) = L_law09_long_1 O fuel k := by
  funext s1a s1n s5 G
  simp only [L_law09_long_1, l_law09_long_1_eq, a_law09_long_1ret_raw, a_law09_long_10_raw]

def L_law09_long_0 {R : Type} (O : Ora R) (fuel : Nat) (k : KV R) : OG → Nat → OG → Nat → GH → Option R := fun s0a s0n s1a s1n G =>
  stepN fuel (l_law09_long_0 O (a_law09_long_0ret O k) (a_law09_long_0N O k (L_law09_long_1 O fuel k)) s0a s0n s1a s1n G)

theorem a_law09_long_0ret_raw {R : Type} (O : Ora R) (fuel : Nat) (s4 : Bool) (G : GH) (k : KV R) :
  contC Try.prog O lo9 fuel (Try.f9.body.getD .skip) [1, 0] (fun e env F G => match e with | .exit _ => none | _ => resC Try.prog Try.f9 env F G k) .ret (mkE 27 [(4, .bool s4)]) [] G =
  a_law09_long_0ret O k s4 G := by kernel_rfl

theorem a_law09_long_0N_raw {R : Type} (O : Ora R) (fuel : Nat) (s1a : OG) (s1n : Nat) (G : GH) (k : KV R) :
  contC Try.prog O lo9 fuel (Try.f9.body.getD .skip) [1, 0] (fun e env F G => match e with | .exit _ => none | _ => resC Try.prog Try.f9 env F G k) .normal (mkE 27 [(1, .slice s1a s1n)]) [] G =
  a_law09_long_0N O k (fun s1a s1n s5 G => loopN (loopD Try.prog O lo9 fuel (nav (Try.f9.body.getD .skip) [1, 1, 0, 1, 0, 0]) 16) fuel (mkE 27 [(1, .slice s1a s1n), (5, .int .i64 s5)]) [] G (contC Try.prog O lo9 fuel (Try.f9.body.getD .skip) [1, 1, 0, 1, 0] (fun e env F G => match e with | .exit _ => none | _ => resC Try.prog Try.f9 env F G k))) s1a s1n G := by kernel_rfl

theorem L_law09_long_0_eq {R : Type} (O : Ora R) (fuel : Nat) (k : KV R) :
  (fun (s0a : OG) (s0n : Nat) (s1a : OG) (s1n : Nat) (G : GH) => stepN fuel (loopD Try.prog O lo9 fuel (nav (Try.f9.body.getD .skip) [1, 0]) 15 (mkE 27 [(0, .slice s0a s0n), (1, .slice s1a s1n)]) [] G (contC Try.prog O lo9 fuel (Try.f9.body.getD .skip) [1, 0] (fun e env F G => match e with | .exit _ => none | _ => resC Try.prog Try.f9 env F G k)))) = L_law09_long_0 O fuel k := by
  funext s0a s0n s1a s1n G
  simp only [L_law09_long_0, l_law09_long_0_eq, a_law09_long_0ret_raw, a_law09_long_0N_raw, L_law09_long_1_eq]

theorem e_law09_long_raw {R : Type} (O : Ora R) (fuel : Nat) (p0a : OG) (p0n : Nat) (p1a : OG) (p1n : Nat) (G : GH) (k : KV R) :
  bodyC Try.prog O lo9 fuel Try.f9 [.slice p0a p0n, .slice p1a p1n] G k =
  u_law09_long O k (fun s0a s0n s1a s1n G => stepN fuel (loopD Try.prog O lo9 fuel (nav (Try.f9.body.getD .skip) [1, 0]) 15 (mkE 27 [(0, .slice s0a s0n), (1, .slice s1a s1n)]) [] G (contC Try.prog O lo9 fuel (Try.f9.body.getD .skip) [1, 0] (fun e env F G => match e with | .exit _ => none | _ => resC Try.prog Try.f9 env F G k)))) p0a p0n p1a p1n G := by kernel_rfl

theorem e_law09_long {R : Type} (O : Ora R) (fuel : Nat) (p0a : OG) (p0n : Nat) (p1a : OG) (p1n : Nat) (G : GH) (k : KV R) :
  bodyC Try.prog O lo9 fuel Try.f9 [.slice p0a p0n, .slice p1a p1n] G k =
  u_law09_long O k (L_law09_long_0 O fuel k) p0a p0n p1a p1n G := by
  rw [e_law09_long_raw, L_law09_long_0_eq]

theorem r_law09_long {R : Type} (fuel n : Nat) (p0a : OG) (p0n : Nat) (p1a : OG) (p1n : Nat) (G : GH) (k : KV R) :
  runC Try.prog lo0 fuel (n + 1) 9 [.slice p0a p0n, .slice p1a p1n] G k = bodyC Try.prog (runC Try.prog lo0 fuel n) lo9 fuel Try.f9 [.slice p0a p0n, .slice p1a p1n] G k := run_body Try.func9 rfl rfl

/-! ### lantern/lanternlaw08.Copied -/
theorem e_law08_Copied {R : Type} (O : Ora R) (fuel : Nat) (p0_0 p0_1 : Int) (p0_2a : OG) (p0_2n : Nat) (G : GH) (k : KV R) :
  bodyC Try.prog O [1, 2, 777777] fuel Try.f23 [.agg [.int .i64 p0_0, .int .i64 p0_1, .slice p0_2a p0_2n]] G k =
  (grdO (gnew G [] 48) p0_2a p0_2n 3).bind fun x1 =>
  (gappend (gnew G [] 48) 48 3 24 (some (gaddr G)) 0 x1 p0_2n).bind fun r2 =>
  k (.agg [.int .i64 p0_0, .int .i64 p0_1, .slice r2.1 (0 + p0_2n)]) r2.2 := by kernel_rfl

theorem r_law08_Copied {R : Type} (fuel n : Nat) (p0_0 p0_1 : Int) (p0_2a : OG) (p0_2n : Nat) (G : GH) (k : KV R) :
  runC Try.prog lo0 fuel (n + 1) 23 [.agg [.int .i64 p0_0, .int .i64 p0_1, .slice p0_2a p0_2n]] G k = bodyC Try.prog (runC Try.prog lo0 fuel n) [1, 2, 777777] fuel Try.f23 [.agg [.int .i64 p0_0, .int .i64 p0_1, .slice p0_2a p0_2n]] G k := run_body Try.func23 rfl rfl

/-! ### lantern/lanternlaw09.Copied -/
def u_law09_Copied_0 {R : Type} (O : Ora R) (KN : OG → Nat → OG → Nat → Int → GH → Option R) (K0 : OG → Nat → GH → Option R) (s0a : OG) (s0n : Nat) (s3a : OG) (s3n : Nat) (s4 : Int) (G : GH) : Option R :=
  bif (decide (s4 < (s0n : Int))) then
  (idx? s0a s0n s4 3).bind fun a1 =>
  (ldInt G .i64 (GA.add a1 0)).bind fun x2 =>
  (ldInt G .i64 (GA.add a1 1)).bind fun x3 =>
  (ldSlice G (GA.add a1 2)).bind fun x4 =>
  O fn_law08_Copied [.agg [.int .i64 x2, .int .i64 x3, .slice x4.1 x4.2]] G fun v5 G6 =>
  (ivAgg 3 v5).bind fun c7 =>
  (ivInt .i64 (c7.getD 0 undefI)).bind fun x8 =>
  (ivInt .i64 (c7.getD 1 undefI)).bind fun x9 =>
  (ivSlice (c7.getD 2 undefI)).bind fun x10 =>
  (grd (gnew G6 [.int .i64 x8, .int .i64 x9, .slice x10.1 x10.2] 59) (gaddr G6) (1 * 3)).bind fun x11 =>
  (gappend (gnew G6 [.int .i64 x8, .int .i64 x9, .slice x10.1 x10.2] 59) 59 3 40 s3a s3n x11 1).bind fun r12 =>
  KN s0a s0n r12.1 (s3n + 1) (IntKind.wrap .i64 (s4 + (1 : Int))) r12.2
  else
  K0 s3a s3n G

def l_law09_Copied_0 {R : Type} (O : Ora R) (K0 : OG → Nat → GH → Option R) : Nat → OG → Nat → OG → Nat → Int → GH → Option R
  | 0, _, _, _, _, _, _ => none
  | n + 1, s0a, s0n, s3a, s3n, s4, G => u_law09_Copied_0 O (l_law09_Copied_0 O K0 n) K0 s0a s0n s3a s3n s4 G

theorem u_law09_Copied_0_raw {R : Type} (O : Ora R) (fuel : Nat) (s0a : OG) (s0n : Nat) (s3a : OG) (s3n : Nat) (s4 : Int) (G : GH) (k : KE R) :
  loopD Try.prog O lo11 fuel (nav (Try.f11.body.getD .skip) [1, 1, 0, 1, 0, 0]) 12 (mkE 20 [(0, .slice s0a s0n), (3, .slice s3a s3n), (4, .int .i64 s4)]) [] G k =
  u_law09_Copied_0 O (fun s0a s0n s3a s3n s4 G => k .normal (mkE 20 [(0, .slice s0a s0n), (3, .slice s3a s3n), (4, .int .i64 s4)]) [] G) (fun s3a s3n G => k (.exit 0) (mkE 20 [(3, .slice s3a s3n)]) [] G) s0a s0n s3a s3n s4 G := by kernel_rfl

theorem l_law09_Copied_0_eq {R : Type} (O : Ora R) (fuel : Nat) (k : KE R) : ∀ (n : Nat) (s0a : OG) (s0n : Nat) (s3a : OG) (s3n : Nat) (s4 : Int) (G : GH),
  loopN (loopD Try.prog O lo11 fuel (nav (Try.f11.body.getD .skip) [1, 1, 0, 1, 0, 0]) 12) n (mkE 20 [(0, .slice s0a s0n), (3, .slice s3a s3n), (4, .int .i64 s4)]) [] G k = l_law09_Copied_0 O (fun s3a s3n G => k (.exit 0) (mkE 20 [(3, .slice s3a s3n)]) [] G) n s0a s0n s3a s3n s4 G := by
  intro n
  induction n with
  | zero => intros; first | rfl | simp only [loopN, l_law09_Copied_0]
  | succ n ih =>
    intros
    rw [loopN_succ, u_law09_Copied_0_raw]
    simp only [l_law09_Copied_0, loopK_normal, loopK_exit, loopK_ret, ih]

def u_law09_Copied {R : Type} (O : Ora R) (k : KV R) (L0 : OG → Nat → OG → Nat → Int → GH → Option R) (p0a : OG) (p0n : Nat) (G : GH) : Option R :=
  L0 p0a p0n none 0 (0 : Int) G

def a_law09_Copied_00 {R : Type} (O : Ora R) (k : KV R) (s3a : OG) (s3n : Nat) (G : GH) : Option R :=
  k (.slice s3a s3n) G

def L_law09_Copied_0 {R : Type} (O : Ora R) (fuel : Nat) (k : KV R) : OG → Nat → OG → Nat → Int → GH → Option R := fun s0a s0n s3a s3n s4 G =>
  l_law09_Copied_0 O (a_law09_Copied_00 O k) fuel s0a s0n s3a s3n s4 G

theorem a_law09_Copied_00_raw {R : Type} (O : Ora R) (fuel : Nat) (s3a : OG) (s3n : Nat) (G : GH) (k : KV R) :
  contC Try.prog O lo11 fuel (Try.f11.body.getD .skip) [1, 1, 0, 1, 0] (fun e env F G => match e with | .exit _ => none | _ => resC Try.prog Try.f11 env F G k) (.exit 0) (mkE 20 [(3, .slice s3a s3n)]) [] G =
  a_law09_Copied_00 O k s3a s3n G := by kernel_rfl

theorem L_law09_Copied_0_eq {R : Type} (O : Ora R) (fuel : Nat) (k : KV R) :
  (fun (s0a : OG) (s0n : Nat) (s3a : OG) (s3n : Nat) (s4 : Int) (G : GH) => loopN (loopD Try.prog O lo11 fuel (nav (Try.f11.body.getD .skip) [1, 1, 0, 1, 0, 0]) 12) fuel (mkE 20 [(0, .slice s0a s0n), (3, .slice s3a s3n), (4, .int .i64 s4)]) [] G (contC Try.prog O lo11 fuel (Try.f11.body.getD .skip) [1, 1, 0, 1, 0] (fun e env F G => match e with | .exit _ => none | _ => resC Try.prog Try.f11 env F G k))) = L_law09_Copied_0 O fuel k := by
  funext s0a s0n s3a s3n s4 G
  simp only [L_law09_Copied_0, l_law09_Copied_0_eq, a_law09_Copied_00_raw]

theorem e_law09_Copied_raw {R : Type} (O : Ora R) (fuel : Nat) (p0a : OG) (p0n : Nat) (G : GH) (k : KV R) :
  bodyC Try.prog O lo11 fuel Try.f11 [.slice p0a p0n] G k =
  u_law09_Copied O k (fun s0a s0n s3a s3n s4 G => loopN (loopD Try.prog O lo11 fuel (nav (Try.f11.body.getD .skip) [1, 1, 0, 1, 0, 0]) 12) fuel (mkE 20 [(0, .slice s0a s0n), (3, .slice s3a s3n), (4, .int .i64 s4)]) [] G (contC Try.prog O lo11 fuel (Try.f11.body.getD .skip) [1, 1, 0, 1, 0] (fun e env F G => match e with | .exit _ => none | _ => resC Try.prog Try.f11 env F G k))) p0a p0n G := by kernel_rfl

theorem e_law09_Copied {R : Type} (O : Ora R) (fuel : Nat) (p0a : OG) (p0n : Nat) (G : GH) (k : KV R) :
  bodyC Try.prog O lo11 fuel Try.f11 [.slice p0a p0n] G k =
  u_law09_Copied O k (L_law09_Copied_0 O fuel k) p0a p0n G := by
  rw [e_law09_Copied_raw, L_law09_Copied_0_eq]

theorem r_law09_Copied {R : Type} (fuel n : Nat) (p0a : OG) (p0n : Nat) (G : GH) (k : KV R) :
  runC Try.prog lo0 fuel (n + 1) 11 [.slice p0a p0n] G k = bodyC Try.prog (runC Try.prog lo0 fuel n) lo11 fuel Try.f11 [.slice p0a p0n] G k := run_body Try.func11 rfl rfl

/-! ### lantern/lanternref09.number -/
theorem e_ref09_number {R : Type} (O : Ora R) (fuel p0_0 : Nat) (p0_1 p0_2 : Nat) (G : GH) (k : KV R) :
  bodyC Try.prog O [1, 777777] fuel Try.f41 [.agg [.float .f64 p0_0, .float .f64 p0_1, .float .f64 p0_2]] G k =
  O fn_ref01_Number [.float .f64 p0_0] G fun v1 G2 =>
  (ivBool v1).bind fun x3 =>
  bif x3 then
  O fn_ref01_Number [.float .f64 p0_1] G2 fun v4 G5 =>
  (ivBool v4).bind fun x6 =>
  bif x6 then
  O fn_ref01_Number [.float .f64 p0_2] G5 fun v7 G8 =>
  (ivBool v7).bind fun x9 =>
  k (.bool x9) G8
  else
  k (.bool false) G5
  else
  k (.bool false) G2 := by kernel_rfl

theorem r_ref09_number {R : Type} (fuel n p0_0 : Nat) (p0_1 p0_2 : Nat) (G : GH) (k : KV R) :
  runC Try.prog lo0 fuel (n + 1) 41 [.agg [.float .f64 p0_0, .float .f64 p0_1, .float .f64 p0_2]] G k = bodyC Try.prog (runC Try.prog lo0 fuel n) [1, 777777] fuel Try.f41 [.agg [.float .f64 p0_0, .float .f64 p0_1, .float .f64 p0_2]] G k := run_body Try.func41 rfl rfl

/-! ### lantern/lanternref09.one -/
def u_ref09_one_0 {R : Type} (O : Ora R) (KN : Int → Int → Bool → Int → Nat → Nat → Nat → Int → Int → Nat → Int → GH → Option R) (s1 s2 b0_0 : Int) (b0_1 b0_2 b0_3 : Nat) (b0_4 b0_5 : Int) (b0_6 : Nat) (b0_7 : Int) (G : GH) : Option R :=
  bif (b0_0 == (2 : Int)) then
  KN s1 s2 true b0_0 b0_1 b0_2 b0_3 b0_4 b0_5 b0_6 b0_7 G
  else
  KN s1 s2 (b0_0 == (3 : Int)) b0_0 b0_1 b0_2 b0_3 b0_4 b0_5 b0_6 b0_7 G

def l_ref09_one_0 {R : Type} (O : Ora R) (KN : Int → Int → Bool → Int → Nat → Nat → Nat → Int → Int → Nat → Int → GH → Option R) : Int → Int → Int → Nat → Nat → Nat → Int → Int → Nat → Int → GH → Option R := fun s1 s2 b0_0 b0_1 b0_2 b0_3 b0_4 b0_5 b0_6 b0_7 G => u_ref09_one_0 O KN s1 s2 b0_0 b0_1 b0_2 b0_3 b0_4 b0_5 b0_6 b0_7 G

theorem u_ref09_one_0_raw {R : Type} (O : Ora R) (fuel : Nat) (s1 s2 b0_0 : Int) (b0_1 b0_2 b0_3 : Nat) (b0_4 b0_5 : Int) (b0_6 : Nat) (b0_7 : Int) (G : GH) (k : KE R) :
  loopD Try.prog O lo24 fuel (nav (Try.f24.body.getD .skip) [1, 0]) 11 (mkE 121 [(1, .int .i64 s1), (2, .int .i64 s2), (3, .loc 0 0)]) [[.int .i64 b0_0, .float .f64 b0_1, .float .f64 b0_2, .float .f64 b0_3, .int .i64 b0_4, .int .i64 b0_5, .float .f64 b0_6, .int .i64 b0_7]] G k =
  u_ref09_one_0 O (fun s1 s2 s7 b0_0 b0_1 b0_2 b0_3 b0_4 b0_5 b0_6 b0_7 G => k .normal (mkE 121 [(1, .int .i64 s1), (2, .int .i64 s2), (3, .loc 0 0), (7, .bool s7)]) [[.int .i64 b0_0, .float .f64 b0_1, .float .f64 b0_2, .float .f64 b0_3, .int .i64 b0_4, .int .i64 b0_5, .float .f64 b0_6, .int .i64 b0_7]] G) s1 s2 b0_0 b0_1 b0_2 b0_3 b0_4 b0_5 b0_6 b0_7 G := by kernel_rfl

theorem l_ref09_one_0_eq {R : Type} (O : Ora R) (fuel : Nat) (k : KE R) : ∀ (s1 s2 b0_0 : Int) (b0_1 b0_2 b0_3 : Nat) (b0_4 b0_5 : Int) (b0_6 : Nat) (b0_7 : Int) (G : GH),
  loopD Try.prog O lo24 fuel (nav (Try.f24.body.getD .skip) [1, 0]) 11 (mkE 121 [(1, .int .i64 s1), (2, .int .i64 s2), (3, .loc 0 0)]) [[.int .i64 b0_0, .float .f64 b0_1, .float .f64 b0_2, .float .f64 b0_3, .int .i64 b0_4, .int .i64 b0_5, .float .f64 b0_6, .int .i64 b0_7]] G k = l_ref09_one_0 O (fun s1 s2 s7 b0_0 b0_1 b0_2 b0_3 b0_4 b0_5 b0_6 b0_7 G => k .normal (mkE 121 [(1, .int .i64 s1), (2, .int .i64 s2), (3, .loc 0 0), (7, .bool s7)]) [[.int .i64 b0_0, .float .f64 b0_1, .float .f64 b0_2, .float .f64 b0_3, .int .i64 b0_4, .int .i64 b0_5, .float .f64 b0_6, .int .i64 b0_7]] G) s1 s2 b0_0 b0_1 b0_2 b0_3 b0_4 b0_5 b0_6 b0_7 G := by
  intros
  rw [u_ref09_one_0_raw]
  simp only [l_ref09_one_0]

def u_ref09_one_1 {R : Type} (O : Ora R) (KN : Int → Int → Bool → Bool → Int → Nat → Nat → Nat → Int → Int → Nat → Int → GH → Option R) (s1 s2 : Int) (s7 : Bool) (b0_0 : Int) (b0_1 b0_2 b0_3 : Nat) (b0_4 b0_5 : Int) (b0_6 : Nat) (b0_7 : Int) (G : GH) : Option R :=
  bif (decide (b0_4 ≥ (0 : Int))) then
  KN s1 s2 s7 (decide (b0_4 < s1)) b0_0 b0_1 b0_2 b0_3 b0_4 b0_5 b0_6 b0_7 G
  else
  KN s1 s2 s7 false b0_0 b0_1 b0_2 b0_3 b0_4 b0_5 b0_6 b0_7 G

def l_ref09_one_1 {R : Type} (O : Ora R) (KN : Int → Int → Bool → Bool → Int → Nat → Nat → Nat → Int → Int → Nat → Int → GH → Option R) : Int → Int → Bool → Int → Nat → Nat → Nat → Int → Int → Nat → Int → GH → Option R := fun s1 s2 s7 b0_0 b0_1 b0_2 b0_3 b0_4 b0_5 b0_6 b0_7 G => u_ref09_one_1 O KN s1 s2 s7 b0_0 b0_1 b0_2 b0_3 b0_4 b0_5 b0_6 b0_7 G

theorem u_ref09_one_1_raw {R : Type} (O : Ora R) (fuel : Nat) (s1 s2 : Int) (s7 : Bool) (b0_0 : Int) (b0_1 b0_2 b0_3 : Nat) (b0_4 b0_5 : Int) (b0_6 : Nat) (b0_7 : Int) (G : GH) (k : KE R) :
  loopD Try.prog O lo24 fuel (nav (Try.f24.body.getD .skip) [1, 1, 0]) 15 (mkE 121 [(1, .int .i64 s1), (2, .int .i64 s2), (3, .loc 0 0), (7, .bool s7)]) [[.int .i64 b0_0, .float .f64 b0_1, .float .f64 b0_2, .float .f64 b0_3, .int .i64 b0_4, .int .i64 b0_5, .float .f64 b0_6, .int .i64 b0_7]] G k =
  u_ref09_one_1 O (fun s1 s2 s7 s8 b0_0 b0_1 b0_2 b0_3 b0_4 b0_5 b0_6 b0_7 G => k .normal (mkE 121 [(1, .int .i64 s1), (2, .int .i64 s2), (3, .loc 0 0), (7, .bool s7), (8, .bool s8)]) [[.int .i64 b0_0, .float .f64 b0_1, .float .f64 b0_2, .float .f64 b0_3, .int .i64 b0_4, .int .i64 b0_5, .float .f64 b0_6, .int .i64 b0_7]] G) s1 s2 s7 b0_0 b0_1 b0_2 b0_3 b0_4 b0_5 b0_6 b0_7 G := by kernel_rfl

theorem l_ref09_one_1_eq {R : Type} (O : Ora R) (fuel : Nat) (k : KE R) : ∀ (s1 s2 : Int) (s7 : Bool) (b0_0 : Int) (b0_1 b0_2 b0_3 : Nat) (b0_4 b0_5 : Int) (b0_6 : Nat) (b0_7 : Int) (G : GH),
  loopD Try.prog O lo24 fuel (nav (Try.f24.body.getD .skip) [1, 1, 0]) 15 (mkE 121 [(1, .int .i64 s1), (2, .int .i64 s2), (3, .loc 0 0), (7, .bool s7)]) [[.int .i64 b0_0, .float .f64 b0_1, .float .f64 b0_2, .float .f64 b0_3, .int .i64 b0_4, .int .i64 b0_5, .float .f64 b0_6, .int .i64 b0_7]] G k = l_ref09_one_1 O (fun s1 s2 s7 s8 b0_0 b0_1 b0_2 b0_3 b0_4 b0_5 b0_6 b0_7 G => k .normal (mkE 121 [(1, .int .i64 s1), (2, .int .i64 s2), (3, .loc 0 0), (7, .bool s7), (8, .bool s8)]) [[.int .i64 b0_0, .float .f64 b0_1, .float .f64 b0_2, .float .f64 b0_3, .int .i64 b0_4, .int .i64 b0_5, .float .f64 b0_6, .int .i64 b0_7]] G) s1 s2 s7 b0_0 b0_1 b0_2 b0_3 b0_4 b0_5 b0_6 b0_7 G := by
  intros
  rw [u_ref09_one_1_raw]
  simp only [l_ref09_one_1]

def u_ref09_one_2 {R : Type} (O : Ora R) (KN : Int → Bool → Bool → Bool → Int → Nat → Nat → Nat → Int → Int → Nat → Int → GH → Option R) (s1 s2 : Int) (s7 s8 : Bool) (b0_0 : Int) (b0_1 b0_2 b0_3 : Nat) (b0_4 b0_5 : Int) (b0_6 : Nat) (b0_7 : Int) (G : GH) : Option R :=
  bif (decide (b0_5 ≥ (0 : Int))) then
  KN s2 s7 s8 (decide (b0_5 < s1)) b0_0 b0_1 b0_2 b0_3 b0_4 b0_5 b0_6 b0_7 G
  else
  KN s2 s7 s8 false b0_0 b0_1 b0_2 b0_3 b0_4 b0_5 b0_6 b0_7 G

def l_ref09_one_2 {R : Type} (O : Ora R) (KN : Int → Bool → Bool → Bool → Int → Nat → Nat → Nat → Int → Int → Nat → Int → GH → Option R) : Int → Int → Bool → Bool → Int → Nat → Nat → Nat → Int → Int → Nat → Int → GH → Option R := fun s1 s2 s7 s8 b0_0 b0_1 b0_2 b0_3 b0_4 b0_5 b0_6 b0_7 G => u_ref09_one_2 O KN s1 s2 s7 s8 b0_0 b0_1 b0_2 b0_3 b0_4 b0_5 b0_6 b0_7 G

theorem u_ref09_one_2_raw {R : Type} (O : Ora R) (fuel : Nat) (s1 s2 : Int) (s7 s8 : Bool) (b0_0 : Int) (b0_1 b0_2 b0_3 : Nat) (b0_4 b0_5 : Int) (b0_6 : Nat) (b0_7 : Int) (G : GH) (k : KE R) :
  loopD Try.prog O lo24 fuel (nav (Try.f24.body.getD .skip) [1, 1, 1, 0]) 19 (mkE 121 [(1, .int .i64 s1), (2, .int .i64 s2), (3, .loc 0 0), (7, .bool s7), (8, .bool s8)]) [[.int .i64 b0_0, .float .f64 b0_1, .float .f64 b0_2, .float .f64 b0_3, .int .i64 b0_4, .int .i64 b0_5, .float .f64 b0_6, .int .i64 b0_7]] G k =
  u_ref09_one_2 O (fun s2 s7 s8 s9 b0_0 b0_1 b0_2 b0_3 b0_4 b0_5 b0_6 b0_7 G => k .normal (mkE 121 [(2, .int .i64 s2), (3, .loc 0 0), (7, .bool s7), (8, .bool s8), (9, .bool s9)]) [[.int .i64 b0_0, .float .f64 b0_1, .float .f64 b0_2, .float .f64 b0_3, .int .i64 b0_4, .int .i64 b0_5, .float .f64 b0_6, .int .i64 b0_7]] G) s1 s2 s7 s8 b0_0 b0_1 b0_2 b0_3 b0_4 b0_5 b0_6 b0_7 G := by kernel_rfl

theorem l_ref09_one_2_eq {R : Type} (O : Ora R) (fuel : Nat) (k : KE R) : ∀ (s1 s2 : Int) (s7 s8 : Bool) (b0_0 : Int) (b0_1 b0_2 b0_3 : Nat) (b0_4 b0_5 : Int) (b0_6 : Nat) (b0_7 : Int) (G : GH),
  loopD Try.prog O lo24 fuel (nav (Try.f24.body.getD .skip) [1, 1, 1, 0]) 19 (mkE 121 [(1, .int .i64 s1), (2, .int .i64 s2), (3, .loc 0 0), (7, .bool s7), (8, .bool s8)]) [[.int .i64 b0_0, .float .f64 b0_1, .float .f64 b0_2, .float .f64 b0_3, .int .i64 b0_4, .int .i64 b0_5, .float .f64 b0_6, .int .i64 b0_7]] G k = l_ref09_one_2 O (fun s2 s7 s8 s9 b0_0 b0_1 b0_2 b0_3 b0_4 b0_5 b0_6 b0_7 G => k .normal (mkE 121 [(2, .int .i64 s2), (3, .loc 0 0), (7, .bool s7), (8, .bool s8), (9, .bool s9)]) [[.int .i64 b0_0, .float .f64 b0_1, .float .f64 b0_2, .float .f64 b0_3, .int .i64 b0_4, .int .i64 b0_5, .float .f64 b0_6, .int .i64 b0_7]] G) s1 s2 s7 s8 b0_0 b0_1 b0_2 b0_3 b0_4 b0_5 b0_6 b0_7 G := by
  intros
  rw [u_ref09_one_2_raw]
  simp only [l_ref09_one_2]

def u_ref09_one_3 {R : Type} (O : Ora R) (KN : Int → Bool → Bool → Bool → Bool → Int → Nat → Nat → Nat → Int → Int → Nat → Int → GH → Option R) (s2 : Int) (s7 s8 s9 : Bool) (b0_0 : Int) (b0_1 b0_2 b0_3 : Nat) (b0_4 b0_5 : Int) (b0_6 : Nat) (b0_7 : Int) (G : GH) : Option R :=
  bif (decide (b0_0 < (1 : Int))) then
  KN s2 s7 s8 s9 true b0_0 b0_1 b0_2 b0_3 b0_4 b0_5 b0_6 b0_7 G
  else
  KN s2 s7 s8 s9 (decide (b0_0 > (5 : Int))) b0_0 b0_1 b0_2 b0_3 b0_4 b0_5 b0_6 b0_7 G

def l_ref09_one_3 {R : Type} (O : Ora R) (KN : Int → Bool → Bool → Bool → Bool → Int → Nat → Nat → Nat → Int → Int → Nat → Int → GH → Option R) : Int → Bool → Bool → Bool → Int → Nat → Nat → Nat → Int → Int → Nat → Int → GH → Option R := fun s2 s7 s8 s9 b0_0 b0_1 b0_2 b0_3 b0_4 b0_5 b0_6 b0_7 G => u_ref09_one_3 O KN s2 s7 s8 s9 b0_0 b0_1 b0_2 b0_3 b0_4 b0_5 b0_6 b0_7 G

theorem u_ref09_one_3_raw {R : Type} (O : Ora R) (fuel : Nat) (s2 : Int) (s7 s8 s9 : Bool) (b0_0 : Int) (b0_1 b0_2 b0_3 : Nat) (b0_4 b0_5 : Int) (b0_6 : Nat) (b0_7 : Int) (G : GH) (k : KE R) :
  loopD Try.prog O lo24 fuel (nav (Try.f24.body.getD .skip) [1, 1, 1, 1, 0, 0, 0]) 23 (mkE 121 [(2, .int .i64 s2), (3, .loc 0 0), (7, .bool s7), (8, .bool s8), (9, .bool s9)]) [[.int .i64 b0_0, .float .f64 b0_1, .float .f64 b0_2, .float .f64 b0_3, .int .i64 b0_4, .int .i64 b0_5, .float .f64 b0_6, .int .i64 b0_7]] G k =
  u_ref09_one_3 O (fun s2 s7 s8 s9 s36 b0_0 b0_1 b0_2 b0_3 b0_4 b0_5 b0_6 b0_7 G => k .normal (mkE 121 [(2, .int .i64 s2), (3, .loc 0 0), (7, .bool s7), (8, .bool s8), (9, .bool s9), (36, .bool s36)]) [[.int .i64 b0_0, .float .f64 b0_1, .float .f64 b0_2, .float .f64 b0_3, .int .i64 b0_4, .int .i64 b0_5, .float .f64 b0_6, .int .i64 b0_7]] G) s2 s7 s8 s9 b0_0 b0_1 b0_2 b0_3 b0_4 b0_5 b0_6 b0_7 G := by kernel_rfl

theorem l_ref09_one_3_eq {R : Type} (O : Ora R) (fuel : Nat) (k : KE R) : ∀ (s2 : Int) (s7 s8 s9 : Bool) (b0_0 : Int) (b0_1 b0_2 b0_3 : Nat) (b0_4 b0_5 : Int) (b0_6 : Nat) (b0_7 : Int) (G : GH),
  loopD Try.prog O lo24 fuel (nav (Try.f24.body.getD .skip) [1, 1, 1, 1, 0, 0, 0]) 23 (mkE 121 [(2, .int .i64 s2), (3, .loc 0 0), (7, .bool s7), (8, .bool s8), (9, .bool s9)]) [[.int .i64 b0_0, .float .f64 b0_1, .float .f64 b0_2, .float .f64 b0_3, .int .i64 b0_4, .int .i64 b0_5, .float .f64 b0_6, .int .i64 b0_7]] G k = l_ref09_one_3 O (fun s2 s7 s8 s9 s36 b0_0 b0_1 b0_2 b0_3 b0_4 b0_5 b0_6 b0_7 G => k .normal (mkE 121 [(2, .int .i64 s2), (3, .loc 0 0), (7, .bool s7), (8, .bool s8), (9, .bool s9), (36, .bool s36)]) [[.int .i64 b0_0, .float .f64 b0_1, .float .f64 b0_2, .float .f64 b0_3, .int .i64 b0_4, .int .i64 b0_5, .float .f64 b0_6, .int .i64 b0_7]] G) s2 s7 s8 s9 b0_0 b0_1 b0_2 b0_3 b0_4 b0_5 b0_6 b0_7 G := by
  intros
  rw [u_ref09_one_3_raw]
  simp only [l_ref09_one_3]

def u_ref09_one_4 {R : Type} (O : Ora R) (KN : Int → Bool → Bool → Bool → Bool → Int → Nat → Nat → Nat → Int → Int → Nat → Int → GH → Option R) (s2 : Int) (s7 s8 s9 : Bool) (b0_0 : Int) (b0_1 b0_2 b0_3 : Nat) (b0_4 b0_5 : Int) (b0_6 : Nat) (b0_7 : Int) (G : GH) : Option R :=
  bif (b0_0 == (1 : Int)) then
  O fn_ref09_number [.agg [.float .f64 b0_1, .float .f64 b0_2, .float .f64 b0_3]] G fun v1 G2 =>
  (ivBool v1).bind fun x3 =>
  KN s2 s7 s8 s9 (!x3) b0_0 b0_1 b0_2 b0_3 b0_4 b0_5 b0_6 b0_7 G2
  else
  bif (b0_0 == (5 : Int)) then
  O fn_ref09_number [.agg [.float .f64 b0_1, .float .f64 b0_2, .float .f64 b0_3]] G fun v4 G5 =>
  (ivBool v4).bind fun x6 =>
  KN s2 s7 s8 s9 (!x6) b0_0 b0_1 b0_2 b0_3 b0_4 b0_5 b0_6 b0_7 G5
  else
  KN s2 s7 s8 s9 false b0_0 b0_1 b0_2 b0_3 b0_4 b0_5 b0_6 b0_7 G

def l_ref09_one_4 {R : Type} (O : Ora R) (KN : Int → Bool → Bool → Bool → Bool → Int → Nat → Nat → Nat → Int → Int → Nat → Int → GH → Option R) : Int → Bool → Bool → Bool → Int → Nat → Nat → Nat → Int → Int → Nat → Int → GH → Option R := fun s2 s7 s8 s9 b0_0 b0_1 b0_2 b0_3 b0_4 b0_5 b0_6 b0_7 G => u_ref09_one_4 O KN s2 s7 s8 s9 b0_0 b0_1 b0_2 b0_3 b0_4 b0_5 b0_6 b0_7 G

theorem u_ref09_one_4_raw {R : Type} (O : Ora R) (fuel : Nat) (s2 : Int) (s7 s8 s9 : Bool) (b0_0 : Int) (b0_1 b0_2 b0_3 : Nat) (b0_4 b0_5 : Int) (b0_6 : Nat) (b0_7 : Int) (G : GH) (k : KE R) :
  loopD Try.prog O lo24 fuel (nav (Try.f24.body.getD .skip) [1, 1, 1, 1, 0, 0, 1, 1, 0]) 31 (mkE 121 [(2, .int .i64 s2), (3, .loc 0 0), (7, .bool s7), (8, .bool s8), (9, .bool s9)]) [[.int .i64 b0_0, .float .f64 b0_1, .float .f64 b0_2, .float .f64 b0_3, .int .i64 b0_4, .int .i64 b0_5, .float .f64 b0_6, .int .i64 b0_7]] G k =
  u_ref09_one_4 O (fun s2 s7 s8 s9 s45 b0_0 b0_1 b0_2 b0_3 b0_4 b0_5 b0_6 b0_7 G => k .normal (mkE 121 [(2, .int .i64 s2), (3, .loc 0 0), (7, .bool s7), (8, .bool s8), (9, .bool s9), (45, .bool s45)]) [[.int .i64 b0_0, .float .f64 b0_1, .float .f64 b0_2, .float .f64 b0_3, .int .i64 b0_4, .int .i64 b0_5, .float .f64 b0_6, .int .i64 b0_7]] G) s2 s7 s8 s9 b0_0 b0_1 b0_2 b0_3 b0_4 b0_5 b0_6 b0_7 G := by kernel_rfl

theorem l_ref09_one_4_eq {R : Type} (O : Ora R) (fuel : Nat) (k : KE R) : ∀ (s2 : Int) (s7 s8 s9 : Bool) (b0_0 : Int) (b0_1 b0_2 b0_3 : Nat) (b0_4 b0_5 : Int) (b0_6 : Nat) (b0_7 : Int) (G : GH),
  loopD Try.prog O lo24 fuel (nav (Try.f24.body.getD .skip) [1, 1, 1, 1, 0, 0, 1, 1, 0]) 31 (mkE 121 [(2, .int .i64 s2), (3, .loc 0 0), (7, .bool s7), (8, .bool s8), (9, .bool s9)]) [[.int .i64 b0_0, .float .f64 b0_1, .float .f64 b0_2, .float .f64 b0_3, .int .i64 b0_4, .int .i64 b0_5, .float .f64 b0_6, .int .i64 b0_7]] G k = l_ref09_one_4 O (fun s2 s7 s8 s9 s45 b0_0 b0_1 b0_2 b0_3 b0_4 b0_5 b0_6 b0_7 G => k .normal (mkE 121 [(2, .int .i64 s2), (3, .loc 0 0), (7, .bool s7), (8, .bool s8), (9, .bool s9), (45, .bool s45)]) [[.int .i64 b0_0, .float .f64 b0_1, .float .f64 b0_2, .float .f64 b0_3, .int .i64 b0_4, .int .i64 b0_5, .float .f64 b0_6, .int .i64 b0_7]] G) s2 s7 s8 s9 b0_0 b0_1 b0_2 b0_3 b0_4 b0_5 b0_6 b0_7 G := by
  intros
  rw [u_ref09_one_4_raw]
  simp only [l_ref09_one_4]

def u_ref09_one_5 {R : Type} (O : Ora R) (KN : Int → Bool → Bool → Bool → Bool → Int → Nat → Nat → Nat → Int → Int → Nat → Int → GH → Option R) (s2 : Int) (s7 s8 s9 : Bool) (b0_0 : Int) (b0_1 b0_2 b0_3 : Nat) (b0_4 b0_5 : Int) (b0_6 : Nat) (b0_7 : Int) (G : GH) : Option R :=
  bif s7 then
  O fn_ref01_Number [.float .f64 b0_6] G fun v1 G2 =>
  (ivBool v1).bind fun x3 =>
  KN s2 s7 s8 s9 (!x3) b0_0 b0_1 b0_2 b0_3 b0_4 b0_5 b0_6 b0_7 G2
  else
  bif (b0_0 == (4 : Int)) then
  O fn_ref01_Number [.float .f64 b0_6] G fun v4 G5 =>
  (ivBool v4).bind fun x6 =>
  KN s2 s7 s8 s9 (!x6) b0_0 b0_1 b0_2 b0_3 b0_4 b0_5 b0_6 b0_7 G5
  else
  KN s2 s7 s8 s9 false b0_0 b0_1 b0_2 b0_3 b0_4 b0_5 b0_6 b0_7 G

def l_ref09_one_5 {R : Type} (O : Ora R) (KN : Int → Bool → Bool → Bool → Bool → Int → Nat → Nat → Nat → Int → Int → Nat → Int → GH → Option R) : Int → Bool → Bool → Bool → Int → Nat → Nat → Nat → Int → Int → Nat → Int → GH → Option R := fun s2 s7 s8 s9 b0_0 b0_1 b0_2 b0_3 b0_4 b0_5 b0_6 b0_7 G => u_ref09_one_5 O KN s2 s7 s8 s9 b0_0 b0_1 b0_2 b0_3 b0_4 b0_5 b0_6 b0_7 G

theorem u_ref09_one_5_raw {R : Type} (O : Ora R) (fuel : Nat) (s2 : Int) (s7 s8 s9 : Bool) (b0_0 : Int) (b0_1 b0_2 b0_3 : Nat) (b0_4 b0_5 : Int) (b0_6 : Nat) (b0_7 : Int) (G : GH) (k : KE R) :
  loopD Try.prog O lo24 fuel (nav (Try.f24.body.getD .skip) [1, 1, 1, 1, 0, 0, 1, 1, 1, 1, 0]) 39 (mkE 121 [(2, .int .i64 s2), (3, .loc 0 0), (7, .bool s7), (8, .bool s8), (9, .bool s9)]) [[.int .i64 b0_0, .float .f64 b0_1, .float .f64 b0_2, .float .f64 b0_3, .int .i64 b0_4, .int .i64 b0_5, .float .f64 b0_6, .int .i64 b0_7]] G k =
  u_ref09_one_5 O (fun s2 s7 s8 s9 s60 b0_0 b0_1 b0_2 b0_3 b0_4 b0_5 b0_6 b0_7 G => k .normal (mkE 121 [(2, .int .i64 s2), (3, .loc 0 0), (7, .bool s7), (8, .bool s8), (9, .bool s9), (60, .bool s60)]) [[.int .i64 b0_0, .float .f64 b0_1, .float .f64 b0_2, .float .f64 b0_3, .int .i64 b0_4, .int .i64 b0_5, .float .f64 b0_6, .int .i64 b0_7]] G) s2 s7 s8 s9 b0_0 b0_1 b0_2 b0_3 b0_4 b0_5 b0_6 b0_7 G := by kernel_rfl

theorem l_ref09_one_5_eq {R : Type} (O : Ora R) (fuel : Nat) (k : KE R) : ∀ (s2 : Int) (s7 s8 s9 : Bool) (b0_0 : Int) (b0_1 b0_2 b0_3 : Nat) (b0_4 b0_5 : Int) (b0_6 : Nat) (b0_7 : Int) (G : GH),
  loopD Try.prog O lo24 fuel (nav (Try.f24.body.getD .skip) [1, 1, 1, 1, 0, 0, 1, 1, 1, 1, 0]) 39 (mkE 121 [(2, .int .i64 s2), (3, .loc 0 0), (7, .bool s7), (8, .bool s8), (9, .bool s9)]) [[.int .i64 b0_0, .float .f64 b0_1, .float .f64 b0_2, .float .f64 b0_3, .int .i64 b0_4, .int .i64 b0_5, .float .f64 b0_6, .int .i64 b0_7]] G k = l_ref09_one_5 O (fun s2 s7 s8 s9 s60 b0_0 b0_1 b0_2 b0_3 b0_4 b0_5 b0_6 b0_7 G => k .normal (mkE 121 [(2, .int .i64 s2), (3, .loc 0 0), (7, .bool s7), (8, .bool s8), (9, .bool s9), (60, .bool s60)]) [[.int .i64 b0_0, .float .f64 b0_1, .float .f64 b0_2, .float .f64 b0_3, .int .i64 b0_4, .int .i64 b0_5, .float .f64 b0_6, .int .i64 b0_7]] G) s2 s7 s8 s9 b0_0 b0_1 b0_2 b0_3 b0_4 b0_5 b0_6 b0_7 G := by
  intros
  rw [u_ref09_one_5_raw]
  simp only [l_ref09_one_5]

def u_ref09_one_6 {R : Type} (O : Ora R) (KN : Int → Bool → Bool → Bool → Bool → Int → Nat → Nat → Nat → Int → Int → Nat → Int → GH → Option R) (s2 : Int) (s7 s8 s9 : Bool) (b0_0 : Int) (b0_1 b0_2 b0_3 : Nat) (b0_4 b0_5 : Int) (b0_6 : Nat) (b0_7 : Int) (G : GH) : Option R :=
  bif (b0_0 == (3 : Int)) then
  bif (flt .f64 b0_6 (0 : Nat)) then
  KN s2 s7 s8 s9 true b0_0 b0_1 b0_2 b0_3 b0_4 b0_5 b0_6 b0_7 G
  else
  KN s2 s7 s8 s9 (fgt .f64 b0_6 (4607182418800017408 : Nat)) b0_0 b0_1 b0_2 b0_3 b0_4 b0_5 b0_6 b0_7 G
  else
  KN s2 s7 s8 s9 false b0_0 b0_1 b0_2 b0_3 b0_4 b0_5 b0_6 b0_7 G

def l_ref09_one_6 {R : Type} (O : Ora R) (KN : Int → Bool → Bool → Bool → Bool → Int → Nat → Nat → Nat → Int → Int → Nat → Int → GH → Option R) : Int → Bool → Bool → Bool → Int → Nat → Nat → Nat → Int → Int → Nat → Int → GH → Option R := fun s2 s7 s8 s9 b0_0 b0_1 b0_2 b0_3 b0_4 b0_5 b0_6 b0_7 G => u_ref09_one_6 O KN s2 s7 s8 s9 b0_0 b0_1 b0_2 b0_3 b0_4 b0_5 b0_6 b0_7 G

theorem u_ref09_one_6_raw {R : Type} (O : Ora R) (fuel : Nat) (s2 : Int) (s7 s8 s9 : Bool) (b0_0 : Int) (b0_1 b0_2 b0_3 : Nat) (b0_4 b0_5 : Int) (b0_6 : Nat) (b0_7 : Int) (G : GH) (k : KE R) :
  loopD Try.prog O lo24 fuel (nav (Try.f24.body.getD .skip) [1, 1, 1, 1, 0, 0, 1, 1, 1, 1, 1, 1, 0]) 47 (mkE 121 [(2, .int .i64 s2), (3, .loc 0 0), (7, .bool s7), (8, .bool s8), (9, .bool s9)]) [[.int .i64 b0_0, .float .f64 b0_1, .float .f64 b0_2, .float .f64 b0_3, .int .i64 b0_4, .int .i64 b0_5, .float .f64 b0_6, .int .i64 b0_7]] G k =
  u_ref09_one_6 O (fun s2 s7 s8 s9 s73 b0_0 b0_1 b0_2 b0_3 b0_4 b0_5 b0_6 b0_7 G => k .normal (mkE 121 [(2, .int .i64 s2), (3, .loc 0 0), (7, .bool s7), (8, .bool s8), (9, .bool s9), (73, .bool s73)]) [[.int .i64 b0_0, .float .f64 b0_1, .float .f64 b0_2, .float .f64 b0_3, .int .i64 b0_4, .int .i64 b0_5, .float .f64 b0_6, .int .i64 b0_7]] G) s2 s7 s8 s9 b0_0 b0_1 b0_2 b0_3 b0_4 b0_5 b0_6 b0_7 G := by kernel_rfl

theorem l_ref09_one_6_eq {R : Type} (O : Ora R) (fuel : Nat) (k : KE R) : ∀ (s2 : Int) (s7 s8 s9 : Bool) (b0_0 : Int) (b0_1 b0_2 b0_3 : Nat) (b0_4 b0_5 : Int) (b0_6 : Nat) (b0_7 : Int) (G : GH),
  loopD Try.prog O lo24 fuel (nav (Try.f24.body.getD .skip) [1, 1, 1, 1, 0, 0, 1, 1, 1, 1, 1, 1, 0]) 47 (mkE 121 [(2, .int .i64 s2), (3, .loc 0 0), (7, .bool s7), (8, .bool s8), (9, .bool s9)]) [[.int .i64 b0_0, .float .f64 b0_1, .float .f64 b0_2, .float .f64 b0_3, .int .i64 b0_4, .int .i64 b0_5, .float .f64 b0_6, .int .i64 b0_7]] G k = l_ref09_one_6 O (fun s2 s7 s8 s9 s73 b0_0 b0_1 b0_2 b0_3 b0_4 b0_5 b0_6 b0_7 G => k .normal (mkE 121 [(2, .int .i64 s2), (3, .loc 0 0), (7, .bool s7), (8, .bool s8), (9, .bool s9), (73, .bool s73)]) [[.int .i64 b0_0, .float .f64 b0_1, .float .f64 b0_2, .float .f64 b0_3, .int .i64 b0_4, .int .i64 b0_5, .float .f64 b0_6, .int .i64 b0_7]] G) s2 s7 s8 s9 b0_0 b0_1 b0_2 b0_3 b0_4 b0_5 b0_6 b0_7 G := by
  intros
  rw [u_ref09_one_6_raw]
  simp only [l_ref09_one_6]

def u_ref09_one_7 {R : Type} (O : Ora R) (KN : Int → Bool → Int → Nat → Nat → Nat → Int → Int → Nat → Int → GH → Option R) (s2 : Int) (s7 s8 s9 : Bool) (b0_0 : Int) (b0_1 b0_2 b0_3 : Nat) (b0_4 b0_5 : Int) (b0_6 : Nat) (b0_7 : Int) (G : GH) : Option R :=
  bif s7 then
  bif (!s8) then
  KN s2 true b0_0 b0_1 b0_2 b0_3 b0_4 b0_5 b0_6 b0_7 G
  else
  bif (!s9) then
  KN s2 true b0_0 b0_1 b0_2 b0_3 b0_4 b0_5 b0_6 b0_7 G
  else
  bif (b0_0 == (5 : Int)) then
  KN s2 (!s8) b0_0 b0_1 b0_2 b0_3 b0_4 b0_5 b0_6 b0_7 G
  else
  KN s2 false b0_0 b0_1 b0_2 b0_3 b0_4 b0_5 b0_6 b0_7 G
  else
  bif (b0_0 == (5 : Int)) then
  KN s2 (!s8) b0_0 b0_1 b0_2 b0_3 b0_4 b0_5 b0_6 b0_7 G
  else
  KN s2 false b0_0 b0_1 b0_2 b0_3 b0_4 b0_5 b0_6 b0_7 G

def l_ref09_one_7 {R : Type} (O : Ora R) (KN : Int → Bool → Int → Nat → Nat → Nat → Int → Int → Nat → Int → GH → Option R) : Int → Bool → Bool → Bool → Int → Nat → Nat → Nat → Int → Int → Nat → Int → GH → Option R := fun s2 s7 s8 s9 b0_0 b0_1 b0_2 b0_3 b0_4 b0_5 b0_6 b0_7 G => u_ref09_one_7 O KN s2 s7 s8 s9 b0_0 b0_1 b0_2 b0_3 b0_4 b0_5 b0_6 b0_7 G

theorem u_ref09_one_7_raw {R : Type} (O : Ora R) (fuel : Nat) (s2 : Int) (s7 s8 s9 : Bool) (b0_0 : Int) (b0_1 b0_2 b0_3 : Nat) (b0_4 b0_5 : Int) (b0_6 : Nat) (b0_7 : Int) (G : GH) (k : KE R) :
  loopD Try.prog O lo24 fuel (nav (Try.f24.body.getD .skip) [1, 1, 1, 1, 0, 0, 1, 1, 1, 1, 1, 1, 1, 1, 0]) 55 (mkE 121 [(2, .int .i64 s2), (3, .loc 0 0), (7, .bool s7), (8, .bool s8), (9, .bool s9)]) [[.int .i64 b0_0, .float .f64 b0_1, .float .f64 b0_2, .float .f64 b0_3, .int .i64 b0_4, .int .i64 b0_5, .float .f64 b0_6, .int .i64 b0_7]] G k =
  u_ref09_one_7 O (fun s2 s87 b0_0 b0_1 b0_2 b0_3 b0_4 b0_5 b0_6 b0_7 G => k .normal (mkE 121 [(2, .int .i64 s2), (3, .loc 0 0), (87, .bool s87)]) [[.int .i64 b0_0, .float .f64 b0_1, .float .f64 b0_2, .float .f64 b0_3, .int .i64 b0_4, .int .i64 b0_5, .float .f64 b0_6, .int .i64 b0_7]] G) s2 s7 s8 s9 b0_0 b0_1 b0_2 b0_3 b0_4 b0_5 b0_6 b0_7 G := by kernel_rfl

theorem l_ref09_one_7_eq {R : Type} (O : Ora R) (fuel : Nat) (k : KE R) : ∀ (s2 : Int) (s7 s8 s9 : Bool) (b0_0 : Int) (b0_1 b0_2 b0_3 : Nat) (b0_4 b0_5 : Int) (b0_6 : Nat) (b0_7 : Int) (G : GH),
  loopD Try.prog O lo24 fuel (nav (Try.f24.body.getD .skip) [1, 1, 1, 1, 0, 0, 1, 1, 1, 1, 1, 1, 1, 1, 0]) 55 (mkE 121 [(2, .int .i64 s2), (3, .loc 0 0), (7, .bool s7), (8, .bool s8), (9, .bool s9)]) [[.int .i64 b0_0, .float .f64 b0_1, .float .f64 b0_2, .float .f64 b0_3, .int .i64 b0_4, .int .i64 b0_5, .float .f64 b0_6, .int .i64 b0_7]] G k = l_ref09_one_7 O (fun s2 s87 b0_0 b0_1 b0_2 b0_3 b0_4 b0_5 b0_6 b0_7 G => k .normal (mkE 121 [(2, .int .i64 s2), (3, .loc 0 0), (87, .bool s87)]) [[.int .i64 b0_0, .float .f64 b0_1, .float .f64 b0_2, .float .f64 b0_3, .int .i64 b0_4, .int .i64 b0_5, .float .f64 b0_6, .int .i64 b0_7]] G) s2 s7 s8 s9 b0_0 b0_1 b0_2 b0_3 b0_4 b0_5 b0_6 b0_7 G := by
  intros
  rw [u_ref09_one_7_raw]
  simp only [l_ref09_one_7]

def u_ref09_one {R : Type} (O : Ora R) (k : KV R) (L0 : Int → Int → Int → Nat → Nat → Nat → Int → Int → Nat → Int → GH → Option R) (p0_0 : Int) (p0_1 p0_2 p0_3 : Nat) (p0_4 p0_5 : Int) (p0_6 : Nat) (p0_7 p1 p2 : Int) (G : GH) : Option R :=
  L0 p1 p2 p0_0 p0_1 p0_2 p0_3 p0_4 p0_5 p0_6 p0_7 G

def a_ref09_one_0N {R : Type} (O : Ora R) (k : KV R) (L1 : Int → Int → Bool → Int → Nat → Nat → Nat → Int → Int → Nat → Int → GH → Option R) (s1 s2 : Int) (s7 : Bool) (b0_0 : Int) (b0_1 b0_2 b0_3 : Nat) (b0_4 b0_5 : Int) (b0_6 : Nat) (b0_7 : Int) (G : GH) : Option R :=
  L1 s1 s2 s7 b0_0 b0_1 b0_2 b0_3 b0_4 b0_5 b0_6 b0_7 G

def a_ref09_one_1N {R : Type} (O : Ora R) (k : KV R) (L2 : Int → Int → Bool → Bool → Int → Nat → Nat → Nat → Int → Int → Nat → Int → GH → Option R) (s1 s2 : Int) (s7 s8 : Bool) (b0_0 : Int) (b0_1 b0_2 b0_3 : Nat) (b0_4 b0_5 : Int) (b0_6 : Nat) (b0_7 : Int) (G : GH) : Option R :=
  L2 s1 s2 s7 s8 b0_0 b0_1 b0_2 b0_3 b0_4 b0_5 b0_6 b0_7 G

def a_ref09_one_2N {R : Type} (O : Ora R) (k : KV R) (L3 : Int → Bool → Bool → Bool → Int → Nat → Nat → Nat → Int → Int → Nat → Int → GH → Option R) (s2 : Int) (s7 s8 s9 : Bool) (b0_0 : Int) (b0_1 b0_2 b0_3 : Nat) (b0_4 b0_5 : Int) (b0_6 : Nat) (b0_7 : Int) (G : GH) : Option R :=
  L3 s2 s7 s8 s9 b0_0 b0_1 b0_2 b0_3 b0_4 b0_5 b0_6 b0_7 G

def a_ref09_one_3N {R : Type} (O : Ora R) (k : KV R) (L4 : Int → Bool → Bool → Bool → Int → Nat → Nat → Nat → Int → Int → Nat → Int → GH → Option R) (s2 : Int) (s7 s8 : Bool) (s9 s36 : Bool) (b0_0 : Int) (b0_1 b0_2 b0_3 : Nat) (b0_4 b0_5 : Int) (b0_6 : Nat) (b0_7 : Int) (G : GH) : Option R :=
  bif s36 then
  k (.int .i64 (2 : Int)) G
  else
  L4 s2 s7 s8 s9 b0_0 b0_1 b0_2 b0_3 b0_4 b0_5 b0_6 b0_7 G

def a_ref09_one_4N {R : Type} (O : Ora R) (k : KV R) (L5 : Int → Bool → Bool → Bool → Int → Nat → Nat → Nat → Int → Int → Nat → Int → GH → Option R) (s2 : Int) (s7 s8 : Bool) (s9 s45 : Bool) (b0_0 : Int) (b0_1 b0_2 b0_3 : Nat) (b0_4 b0_5 : Int) (b0_6 : Nat) (b0_7 : Int) (G : GH) : Option R :=
  bif s45 then
  k (.int .i64 (10 : Int)) G
  else
  L5 s2 s7 s8 s9 b0_0 b0_1 b0_2 b0_3 b0_4 b0_5 b0_6 b0_7 G

def a_ref09_one_5N {R : Type} (O : Ora R) (k : KV R) (L6 : Int → Bool → Bool → Bool → Int → Nat → Nat → Nat → Int → Int → Nat → Int → GH → Option R) (s2 : Int) (s7 s8 : Bool) (s9 s60 : Bool) (b0_0 : Int) (b0_1 b0_2 b0_3 : Nat) (b0_4 b0_5 : Int) (b0_6 : Nat) (b0_7 : Int) (G : GH) : Option R :=
  bif s60 then
  k (.int .i64 (10 : Int)) G
  else
  L6 s2 s7 s8 s9 b0_0 b0_1 b0_2 b0_3 b0_4 b0_5 b0_6 b0_7 G

def a_ref09_one_6N {R : Type} (O : Ora R) (k : KV R) (L7 : Int → Bool → Bool → Bool → Int → Nat → Nat → Nat → Int → Int → Nat → Int → GH → Option R) (s2 : Int) (s7 s8 : Bool) (s9 s73 : Bool) (b0_0 : Int) (b0_1 b0_2 b0_3 : Nat) (b0_4 b0_5 : Int) (b0_6 : Nat) (b0_7 : Int) (G : GH) : Option R :=
  bif s73 then
  k (.int .i64 (2 : Int)) G
  else
  L7 s2 s7 s8 s9 b0_0 b0_1 b0_2 b0_3 b0_4 b0_5 b0_6 b0_7 G

def a_ref09_one_7N {R : Type} (O : Ora R) (k : KV R) (s2 : Int) (s87 : Bool) (b0_0 : Int) (b0_1 b0_2 b0_3 : Nat) (b0_4 b0_5 : Int) (b0_6 : Nat) (b0_7 : Int) (G : GH) : Option R :=
  bif s87 then
  k (.int .i64 (110 : Int)) G
  else
  bif (b0_0 == (4 : Int)) then
  bif (decide (b0_7 < (0 : Int))) then
  k (.int .i64 (110 : Int)) G
  else
  bif (decide (b0_7 ≥ s2)) then
  k (.int .i64 (110 : Int)) G
  else
  k (.int .i64 (0 : Int)) G
  else
  k (.int .i64 (0 : Int)) G

def L_ref09_one_7 {R : Type} (O : Ora R) (fuel : Nat) (k : KV R) : Int → Bool → Bool → Bool → Int → Nat → Nat → Nat → Int → Int → Nat → Int → GH → Option R := fun s2 s7 s8 s9 b0_0 b0_1 b0_2 b0_3 b0_4 b0_5 b0_6 b0_7 G =>
  stepN fuel (l_ref09_one_7 O (a_ref09_one_7N O k) s2 s7 s8 s9 b0_0 b0_1 b0_2 b0_3 b0_4 b0_5 b0_6 b0_7 G)

theorem a_ref09_one_7N_raw {R : Type} (O : Ora R) (fuel : Nat) (s2 : Int) (s87 : Bool) (b0_0 : Int) (b0_1 b0_2 b0_3 : Nat) (b0_4 b0_5 : Int) (b0_6 : Nat) (b0_7 : Int) (G : GH) (k : KV R) :
  contC Try.prog O lo24 fuel (Try.f24.body.getD .skip) [1, 1, 1, 1, 0, 0, 1, 1, 1, 1, 1, 1, 1, 1, 0] (fun e env F G => match e with | .exit _ => none | _ => resC Try.prog Try.f24 env F G k) .normal (mkE 121 [(2, .int .i64 s2), (3, .loc 0 0), (87, .bool s87)]) [[.int .i64 b0_0, .float .f64 b0_1, .float .f64 b0_2, .float .f64 b0_3, .int .i64 b0_4, .int .i64 b0_5, .float .f64 b0_6, .int .i64 b0_7]] G =
  a_ref09_one_7N O k s2 s87 b0_0 b0_1 b0_2 b0_3 b0_4 b0_5 b0_6 b0_7 G := by kernel_rfl

theorem L_ref09_one_7_eq {R : Type} (O : Ora R) (fuel : Nat) (k : KV R) :
  (fun (s2 : Int) (s7 s8 s9 : Bool) (b0_0 : Int) (b0_1 b0_2 b0_3 : Nat) (b0_4 b0_5 : Int) (b0_6 : Nat) (b0_7 : Int) (G : GH) => stepN fuel (loopD Try.prog O lo24 fuel (nav (Try.f24.body.getD .skip) [1, 1, 1, 1, 0, 0, 1, 1, 1, 1, 1, 1, 1, 1, 0]) 55 (mkE 121 [(2, .int .i64 s2), (3, .loc 0 0), (7, .bool s7), (8, .bool s8), (9, .bool s9)]) [[.int .i64 b0_0, .float .f64 b0_1, .float .f64 b0_2, .float .f64 b0_3, .int .i64 b0_4, .int .i64 b0_5, .float .f64 b0_6, .int .i64 b0_7]] G (contC Try.prog O lo24 fuel (Try.f24.body.getD .skip) [1, 1, 1, 1, 0, 0, 1, 1, 1, 1, 1, 1, 1, 1, 0] (fun e env F G => match e with | .exit _ => none | _ => resC Try.prog Try.f24 env F G k)))) = L_ref09_one_7 O fuel k := by
  funext s2 s7 s8 s9 b0_0 b0_1 b0_2 b0_3 b0_4 b0_5 b0_6 b0_7 G
  simp only [L_ref09_one_7, l_ref09_one_7_eq, a_ref09_one_7N_raw]

def L_ref09_one_6 {R : Type} (O : Ora R) (fuel : Nat) (k : KV R) : Int → Bool → Bool → Bool → Int → Nat → Nat → Nat → Int → Int → Nat → Int → GH → Option R := fun s2 s7 s8 s9 b0_0 b0_1 b0_2 b0_3 b0_4 b0_5 b0_6 b0_7 G =>
  stepN fuel (l_ref09_one_6 O (a_ref09_one_6N O k (L_ref09_one_7 O fuel k)) s2 s7 s8 s9 b0_0 b0_1 b0_2 b0_3 b0_4 b0_5 b0_6 b0_7 G)

theorem a_ref09_one_6N_raw {R : Type} (O : Ora R) (fuel : Nat) (s2 : Int) (s7 s8 : Bool) (s9 s73 : Bool) (b0_0 : Int) (b0_1 b0_2 b0_3 : Nat) (b0_4 b0_5 : Int) (b0_6 : Nat) (b0_7 : Int) (G : GH) (k : KV R) :
  contC Try.prog O lo24 fuel (Try.f24.body.getD .skip) [1, 1, 1, 1, 0, 0, 1, 1, 1, 1, 1, 1, 0] (fun e env F G => match e with | .exit _ => none | _ => resC Try.prog Try.f24 env F G k) .normal (mkE 121 [(2, .int .i64 s2), (3, .loc 0 0), (7, .bool s7), (8, .bool s8), (9, .bool s9), (73, .bool s73)]) [[.int .i64 b0_0, .float .f64 b0_1, .float .f64 b0_2, .float .f64 b0_3, .int .i64 b0_4, .int .i64 b0_5, .float .f64 b0_6, .int .i64 b0_7]] G =
  a_ref09_one_6N O k (fun s2 s7 s8 s9 b0_0 b0_1 b0_2 b0_3 b0_4 b0_5 b0_6 b0_7 G => stepN fuel (loopD Try.prog O lo24 fuel (nav (Try.f24.body.getD .skip) [1, 1, 1, 1, 0, 0, 1, 1, 1, 1, 1, 1, 1, 1, 0]) 55 (mkE 121 [(2, .int .i64 s2), (3, .loc 0 0), (7, .bool s7), (8, .bool s8), (9, .bool s9)]) [[.int .i64 b0_0, .float .f64 b0_1, .float .f64 b0_2, .float .f64 b0_3, .int .i64 b0_4, .int .i64 b0_5, .float .f64 b0_6, .int .i64 b0_7]] G (contC Try.prog O lo24 fuel (Try.f24.body.getD .skip) [1, 1, 1, 1, 0, 0, 1, 1, 1, 1, 1, 1, 1, 1, 0] (fun e env F G => match e with | .exit _ => none | _ => resC Try.prog Try.f24 env F G k)))) s2 s7 s8 s9 s73 b0_0 b0_1 b0_2 b0_3 b0_4 b0_5 b0_6 b0_7 G := by kernel_rfl

theorem L_ref09_one_6_eq {R : Type} (O : Ora R) (fuel : Nat) (k : KV R) :
  (fun (s2 : Int) (s7 s8 s9 : Bool) (b0_0 : Int) (b0_1 b0_2 b0_3 : Nat) (b0_4 b0_5 : Int) (b0_6 : Nat) (b0_7 : Int) (G : GH) => stepN fuel (loopD Try.prog O lo24 fuel (nav (Try.f24.body.getD .skip) [1, 1, 1, 1, 0, 0, 1, 1, 1, 1, 1, 1, 0]) 47 (mkE 121 [(2, .int .i64 s2), (3, .loc 0 0), (7, .bool s7), (8, .bool s8), (9, .bool s9)]) [[.int .i64 b0_0, .float .f64 b0_1, .float .f64 b0_2, .float .f64 b0_3, .int .i64 b0_4, .int .i64 b0_5, .float .f64 b0_6, .int .i64 b0_7]] G (contC Try.prog O lo24 fuel (Try.f24.body.getD .skip) [1, 1, 1, 1, 0, 0, 1, 1, 1, 1, 1, 1, 0] (fun e env F G => match e with | .exit _ => none | _ => resC Try.prog Try.f24 env F G k)))) = L_ref09_one_6 O fuel k := by
  funext s2 s7 s8 s9 b0_0 b0_1 b0_2 b0_3 b0_4 b0_5 b0_6 b0_7 G
  simp only [L_ref09_one_6, l_ref09_one_6_eq, a_ref09_one_6N_raw, L_ref09_one_7_eq]

def L_ref09_one_5 {R : Type} (O : Ora R) (fuel : Nat) (k : KV R) : Int → Bool → Bool → Bool → Int → Nat → Nat → Nat → Int → Int → Nat → Int → GH → Option R := fun s2 s7 s8 s9 b0_0 b0_1 b0_2 b0_3 b0_4 b0_5 b0_6 b0_7 G =>
  stepN fuel (l_ref09_one_5 O (a_ref09_one_5N O k (L_ref09_one_6 O fuel k)) s2 s7 s8 s9 b0_0 b0_1 b0_2 b0_3 b0_4 b0_5 b0_6 b0_7 G)

theorem a_ref09_one_5N_raw {R : Type} (O : Ora R) (fuel : Nat) (s2 : Int) (s7 s8 : Bool) (s9 s60 : Bool) (b0_0 : Int) (b0_1 b0_2 b0_3 : Nat) (b0_4 b0_5 : Int) (b0_6 : Nat) (b0_7 : Int) (G : GH) (k : KV R) :
  contC Try.prog O lo24 fuel (Try.f24.body.getD .skip) [1, 1, 1, 1, 0, 0, 1, 1, 1, 1, 0] (fun e env F G => match e with | .exit _ => none | _ => resC Try.prog Try.f24 env F G k) .normal (mkE 121 [(2, .int .i64 s2), (3, .loc 0 0), (7, .bool s7), (8, .bool s8), (9, .bool s9), (60, .bool s60)]) [[.int .i64 b0_0, .float .f64 b0_1, .float .f64 b0_2, .float .f64 b0_3, .int .i64 b0_4, .int .i64 b0_5, .float .f64 b0_6, .int .i64 b0_7]] G =
  a_ref09_one_5N O k (fun s2 s7 s8 s9 b0_0 b0_1 b0_2 b0_3 b0_4 b0_5 b0_6 b0_7 G => stepN fuel (loopD Try.prog O lo24 fuel (nav (Try.f24.body.getD .skip) [1, 1, 1, 1, 0, 0, 1, 1, 1, 1, 1, 1, 0]) 47 (mkE 121 [(2, .int .i64 s2), (3, .loc 0 0), (7, .bool s7), (8, .bool s8), (9, .bool s9)]) [[.int .i64 b0_0, .float .f64 b0_1, .float .f64 b0_2, .float .f64 b0_3, .int .i64 b0_4, .int .i64 b0_5, .float .f64 b0_6, .int .i64 b0_7]] G (contC Try.prog O lo24 fuel (Try.f24.body.getD .skip) [1, 1, 1, 1, 0, 0, 1, 1, 1, 1, 1, 1, 0] (fun e env F G => match e with | .exit _ => none | _ => resC Try.prog Try.f24 env F G k)))) s2 s7 s8 s9 s60 b0_0 b0_1 b0_2 b0_3 b0_4 b0_5 b0_6 b0_7 G := by kernel_rfl

theorem L_ref09_one_5_eq {R : Type} (O : Ora R) (fuel : Nat) (k : KV R) :
  (fun (s2 : Int) (s7 s8 s9 : Bool) (b0_0 : Int) (b0_1 b0_2 b0_3 : Nat) (b0_4 b0_5 : Int) (b0_6 : Nat) (b0_7 : Int) (G : GH) => stepN fuel (loopD Try.prog O lo24 fuel (nav (Try.f24.body.getD .skip) [1, 1, 1, 1, 0, 0, 1, 1, 1, 1, 0]) 39 (mkE 121 [(2, .int .i64 s2), (3, .loc 0 0), (7, .bool s7), (8, .bool s8), (9, .bool s9)]) [[.int .i64 b0_0, .float .f64 b0_1, .float .f64 b0_2, .float .f64 b0_3, .int .i64 b0_4, .int .i64 b0_5, .float .f64 b0_6, .int .i64 b0_7]] G (contC Try.prog O lo24 fuel (Try.f24.body.getD .skip) [1, 1, 1, 1, 0, 0, 1, 1, 1, 1, 0] (fun e env F G => match e with | .exit _ => none | _ => resC Try.prog Try.f24 env F G k)))) = L_ref09_one_5 O fuel k := by
  funext s2 s7 s8 s9 b0_0 b0_1 b0_2 b0_3 b0_4 b0_5 b0_6 b0_7 G
  simp only [L_ref09_one_5, l_ref09_one_5_eq, a_ref09_one_5N_raw, L_ref09_one_6_eq]

def L_ref09_one_4 {R : Type} (O : Ora R) (fuel : Nat) (k : KV R) : Int → Bool → Bool → Bool → Int → Nat → Nat → Nat → Int → Int → Nat → Int → GH → Option R := fun s2 s7 s8 s9 b0_0 b0_1 b0_2 b0_3 b0_4 b0_5 b0_6 b0_7 G =>
  stepN fuel (l_ref09_one_4 O (a_ref09_one_4N O k (L_ref09_one_5 O fuel k)) s2 s7 s8 s9 b0_0 b0_1 b0_2 b0_3 b0_4 b0_5 b0_6 b0_7 G)

theorem a_ref09_one_4N_raw {R : Type} (O : Ora R) (fuel : Nat) (s2 : Int) (s7 s8 : Bool) (s9 s45 : Bool) (b0_0 : Int) (b0_1 b0_2 b0_3 : Nat) (b0_4 b0_5 : Int) (b0_6 : Nat) (b0_7 : Int) (G : GH) (k : KV R) :
  contC Try.prog O lo24 fuel (Try.f24.body.getD .skip) [1, 1, 1, 1, 0, 0, 1, 1, 0] (fun e env F G => match e with | .exit _ => none | _ => resC Try.prog Try.f24 env F G k) .normal (mkE 121 [(2, .int .i64 s2), (3, .loc 0 0), (7, .bool s7), (8, .bool s8), (9, .bool s9), (45, .bool s45)]) [[.int .i64 b0_0, .float .f64 b0_1, .float .f64 b0_2, .float .f64 b0_3, .int .i64 b0_4, .int .i64 b0_5, .float .f64 b0_6, .int .i64 b0_7]] G =
  a_ref09_one_4N O k (fun s2 s7 s8 s9 b0_0 b0_1 b0_2 b0_3 b0_4 b0_5 b0_6 b0_7 G => stepN fuel (loopD Try.prog O lo24 fuel (nav (Try.f24.body.getD .skip) [1, 1, 1, 1, 0, 0, 1, 1, 1, 1, 0]) 39 (mkE 121 [(2, .int .i64 s2), (3, .loc 0 0), (7, .bool s7), (8, .bool s8), (9, .bool s9)]) [[.int .i64 b0_0, .float .f64 b0_1, .float .f64 b0_2, .float .f64 b0_3, .int .i64 b0_4, .int .i64 b0_5, .float .f64 b0_6, .int .i64 b0_7]] G (contC Try.prog O lo24 fuel (Try.f24.body.getD .skip) [1, 1, 1, 1, 0, 0, 1, 1, 1, 1, 0] (fun e env F G => match e with | .exit _ => none | _ => resC Try.prog Try.f24 env F G k)))) s2 s7 s8 s9 s45 b0_0 b0_1 b0_2 b0_3 b0_4 b0_5 b0_6 b0_7 G := by kernel_rfl

theorem L_ref09_one_4_eq {R : Type} (O : Ora R) (fuel : Nat) (k : KV R) :
  (fun (s2 : Int) (s7 s8 s9 : Bool) (b0_0 : Int) (b0_1 b0_2 b0_3 : Nat) (b0_4 b0_5 : Int) (b0_6 : Nat) (b0_7 : Int) (G : GH) => stepN fuel (loopD Try.prog O lo24 fuel (nav (Try.f24.body.getD .skip) [1, 1, 1, 1, 0, 0, 1, 1, 0]) 31 (mkE 121 [(2, .int .i64 s2), (3, .loc 0 0), (7, .bool s7), (8, .bool s8), (9, .bool s9)]) [[.int .i64 b0_0, .float .f64 b0_1, .float .f64 b0_2, .float .f64 b0_3, .int .i64 b0_4, .int .i64 b0_5, .float .f64 b0_6, .int .i64 b0_7]] G (contC Try.prog O lo24 fuel (Try.f24.body.getD .skip) [1, 1, 1, 1, 0, 0, 1, 1, 0] (fun e env F G => match e with | .exit _ => none | _ => resC Try.prog Try.f24 env F G k)))) = L_ref09_one_4 O fuel k := by
  funext s2 s7 s8 s9 b0_0 b0_1 b0_2 b0_3 b0_4 b0_5 b0_6 b0_7 G
  simp only [L_ref09_one_4, l_ref09_one_4_eq, a_ref09_one_4N_raw, L_ref09_one_5_eq]

def L_ref09_one_3 {R : Type} (O : Ora R) (fuel : Nat) (k : KV R) : Int → Bool → Bool → Bool → Int → Nat → Nat → Nat → Int → Int → Nat → Int → GH → Option R := fun s2 s7 s8 s9 b0_0 b0_1 b0_2 b0_3 b0_4 b0_5 b0_6 b0_7 G =>
  stepN fuel (l_ref09_one_3 O (a_ref09_one_3N O k (L_ref09_one_4 O fuel k)) s2 s7 s8 s9 b0_0 b0_1 b0_2 b0_3 b0_4 b0_5 b0_6 b0_7 G)

theorem a_ref09_one_3N_raw {R : Type} (O : Ora R) (fuel : Nat) (s2 : Int) (s7 s8 : Bool) (s9 s36 : Bool) (b0_0 : Int) (b0_1 b0_2 b0_3 : Nat) (b0_4 b0_5 : Int) (b0_6 : Nat) (b0_7 : Int) (G : GH) (k : KV R) :
  contC Try.prog O lo24 fuel (Try.f24.body.getD .skip) [1, 1, 1, 1, 0, 0, 0] (fun e env F G => match e with | .exit _ => none | _ => resC Try.prog Try.f24 env F G k) .normal (mkE 121 [(2, .int .i64 s2), (3, .loc 0 0), (7, .bool s7), (8, .bool s8), (9, .bool s9), (36, .bool s36)]) [[.int .i64 b0_0, .float .f64 b0_1, .float .f64 b0_2, .float .f64 b0_3, .int .i64 b0_4, .int .i64 b0_5, .float .f64 b0_6, .int .i64 b0_7]] G =
  a_ref09_one_3N O k (fun s2 s7 s8 s9 b0_0 b0_1 b0_2 b0_3 b0_4 b0_5 b0_6 b0_7 G => stepN fuel (loopD Try.prog O lo24 fuel (nav (Try.f24.body.getD .skip) [1, 1, 1, 1, 0, 0, 1, 1, 0]) 31 (mkE 121 [(2, .int .i64 s2), (3, .loc 0 0), (7, .bool s7), (8, .bool s8), (9, .bool s9)]) [[.int .i64 b0_0, .float .f64 b0_1, .float .f64 b0_2, .float .f64 b0_3, .int .i64 b0_4, .int .i64 b0_5, .float .f64 b0_6, .int .i64 b0_7]] G (contC Try.prog O lo24 fuel (Try.f24.body.getD .skip) [1, 1, 1, 1, 0, 0, 1, 1, 0] (fun e env F G => match e with | .exit _ => none | _ => resC Try.prog Try.f24 env F G k)))) s2 s7 s8 s9 s36 b0_0 b0_1 b0_2 b0_3 b0_4 b0_5 b0_6 b0_7 G := by kernel_rfl

theorem L_ref09_one_3_eq {R : Type} (O : Ora R) (fuel : Nat) (k : KV R) :
  (fun (s2 : Int) (s7 s8 s9 : Bool) (b0_0 : Int) (b0_1 b0_2 b0_3 : Nat) (b0_4 b0_5 : Int) (b0_6 : Nat) (b0_7 : Int) (G : GH) => stepN fuel (loopD Try.prog O lo24 fuel (nav (Try.f24.body.getD .skip) [1, 1, 1, 1, 0, 0, 0]) 23 (mkE 121 [(2, .int .i64 s2), (3, .loc 0 0), (7, .bool s7), (8, .bool s8), (9, .bool s9)]) [[.int .i64 b0_0, .float .f64 b0_1, .float .f64 b0_2, .float .f64 b0_3, .int .i64 b0_4, .int .i64 b0_5, .float .f64 b0_6, .int .i64 b0_7]] G (contC Try.prog O lo24 fuel (Try.f24.body.getD .skip) [1, 1, 1, 1, 0, 0, 0] (fun e env F G => match e with | .exit _ => none | _ => resC Try.prog Try.f24 env F G k)))) = L_ref09_one_3 O fuel k := by
  funext s2 s7 s8 s9 b0_0 b0_1 b0_2 b0_3 b0_4 b0_5 b0_6 b0_7 G
  simp only [L_ref09_one_3, l_ref09_one_3_eq, a_ref09_one_3N_raw, L_ref09_one_4_eq]

def L_ref09_one_2 {R : Type} (O : Ora R) (fuel : Nat) (k : KV R) : Int → Int → Bool → Bool → Int → Nat → Nat → Nat → Int → Int → Nat → Int → GH → Option R := fun s1 s2 s7 s8 b0_0 b0_1 b0_2 b0_3 b0_4 b0_5 b0_6 b0_7 G =>
  stepN fuel (l_ref09_one_2 O (a_ref09_one_2N O k (L_ref09_one_3 O fuel k)) s1 s2 s7 s8 b0_0 b0_1 b0_2 b0_3 b0_4 b0_5 b0_6 b0_7 G)

theorem a_ref09_one_2N_raw {R : Type} (O : Ora R) (fuel : Nat) (s2 : Int) (s7 s8 s9 : Bool) (b0_0 : Int) (b0_1 b0_2 b0_3 : Nat) (b0_4 b0_5 : Int) (b0_6 : Nat) (b0_7 : Int) (G : GH) (k : KV R) :
  contC Try.prog O lo24 fuel (Try.f24.body.getD .skip) [1, 1, 1, 0] (fun e env F G => match e with | .exit _ => none | _ => resC Try.prog Try.f24 env F G k) .normal (mkE 121 [(2, .int .i64 s2), (3, .loc 0 0), (7, .bool s7), (8, .bool s8), (9, .bool s9)]) [[.int .i64 b0_0, .float .f64 b0_1, .float .f64 b0_2, .float .f64 b0_3, .int .i64 b0_4, .int .i64 b0_5, .float .f64 b0_6, .int .i64 b0_7]] G =
  a_ref09_one_2N O k (fun s2 s7 s8 s9 b0_0 b0_1 b0_2 b0_3 b0_4 b0_5 b0_6 b0_7 G => stepN fuel (loopD Try.prog O lo24 fuel (nav (Try.f24.body.getD .skip) [1, 1, 1, 1, 0, 0, 0]) 23 (mkE 121 [(2, .int .i64 s2), (3, .loc 0 0), (7, .bool s7), (8, .bool s8), (9, .bool s9)]) [[.int .i64 b0_0, .float .f64 b0_1, .float .f64 b0_2, .float .f64 b0_3, .int .i64 b0_4, .int .i64 b0_5, .float .f64 b0_6, .int .i64 b0_7]] G (contC Try.prog O lo24 fuel (Try.f24.body.getD .skip) [1, 1, 1, 1, 0, 0, 0] (fun e env F G => match e with | .exit _ => none | _ => resC Try.prog Try.f24 env F G k)))) s2 s7 s8 s9 b0_0 b0_1 b0_2 b0_3 b0_4 b0_5 b0_6 b0_7 G := by kernel_rfl

theorem L_ref09_one_2_eq {R : Type} (O : Ora R) (fuel : Nat) (k : KV R) :
  (fun (s1 s2 : Int) (s7 s8 : Bool) (b0_0 : Int) (b0_1 b0_2 b0_3 : Nat) (b0_4 b0_5 : Int) (b0_6 : Nat) (b0_7 : Int) (G : GH) => stepN fuel (loopD Try.prog O lo24 fuel (nav (Try.f24.body.getD .skip) [1, 1, 1, 0]) 19 (mkE 121 [(1, .int .i64 s1), (2, .int .i64 s2), (3, .loc 0 0), (7, .bool s7), (8, .bool s8)]) [[.int .i64 b0_0, .float .f64 b0_1, .float .f64 b0_2, .float .f64 b0_3, .int .i64 b0_4, .int .i64 b0_5, .float .f64 b0_6, .int .i64 b0_7]] G (contC Try.prog O lo24 fuel (Try.f24.body.getD .skip) [1, 1, 1, 0] (fun e env F G => match e with | .exit _ => none | _ => resC Try.prog Try.f24 env F G k)))) = L_ref09_one_2 O fuel k := by
  funext s1 s2 s7 s8 b0_0 b0_1 b0_2 b0_3 b0_4 b0_5 b0_6 b0_7 G
  simp only [L_ref09_one_2, l_ref09_one_2_eq, a_ref09_one_2N_raw, L_ref09_one_3_eq]

def L_ref09_one_1 {R : Type} (O : Ora R) (fuel : Nat) (k : KV R) : Int → Int → Bool → Int → Nat → Nat → Nat → Int → Int → Nat → Int → GH → Option R := fun s1 s2 s7 b0_0 b0_1 b0_2 b0_3 b0_4 b0_5 b0_6 b0_7 G =>
  stepN fuel (l_ref09_one_1 O (a_ref09_one_1N O k (L_ref09_one_2 O fuel k)) s1 s2 s7 b0_0 b0_1 b0_2 b0_3 b0_4 b0_5 b0_6 b0_7 G)

theorem a_ref09_one_1N_raw {R : Type} (O : Ora R) (fuel : Nat) (s1 s2 : Int) (s7 s8 : Bool) (b0_0 : Int) (b0_1 b0_2 b0_3 : Nat) (b0_4 b0_5 : Int) (b0_6 : Nat) (b0_7 : Int) (G : GH) (k : KV R) :
  contC Try.prog O lo24 fuel (Try.f24.body.getD .skip) [1, 1, 0] (fun e env F G => match e with | .exit _ => none | _ => resC Try.prog Try.f24 env F G k) .normal (mkE 121 [(1, .int .i64 s1), (2, .int .i64 s2), (3, .loc 0 0), (7, .bool s7), (8, .bool s8)]) [[.int .i64 b0_0, .float .f64 b0_1, .float .f64 b0_2, .float .f64 b0_3, .int .i64 b0_4, .int .i64 b0_5, .float .f64 b0_6, .int .i64 b0_7]] G =
  a_ref09_one_1N O k (fun s1 s2 s7 s8 b0_0 b0_1 b0_2 b0_3 b0_4 b0_5 b0_6 b0_7 G => stepN fuel (loopD Try.prog O lo24 fuel (nav (Try.f24.body.getD .skip) [1, 1, 1, 0]) 19 (mkE 121 [(1, .int .i64 s1), (2, .int .i64 s2), (3, .loc 0 0), (7, .bool s7), (8, .bool s8)]) [[.int .i64 b0_0, .float .f64 b0_1, .float .f64 b0_2, .float .f64 b0_3, .int .i64 b0_4, .int .i64 b0_5, .float .f64 b0_6, .int .i64 b0_7]] G (contC Try.prog O lo24 fuel (Try.f24.body.getD .skip) [1, 1, 1, 0] (fun e env F G => match e with | .exit _ => none | _ => resC Try.prog Try.f24 env F G k)))) s1 s2 s7 s8 b0_0 b0_1 b0_2 b0_3 b0_4 b0_5 b0_6 b0_7 G := by kernel_rfl

theorem L_ref09_one_1_eq {R : Type} (O : Ora R) (fuel : Nat) (k : KV R) :
  (fun (s1 s2 : Int) (s7 : Bool) (b0_0 : Int) (b0_1 b0_2 b0_3 : Nat) (b0_4 b0_5 : Int) (b0_6 : Nat) (b0_7 : Int) (G : GH) => stepN fuel (loopD Try.prog O lo24 fuel (nav (Try.f24.body.getD .skip) [1, 1, 0]) 15 (mkE 121 [(1, .int .i64 s1), (2, .int .i64 s2), (3, .loc 0 0), (7, .bool s7)]) [[.int .i64 b0_0, .float .f64 b0_1, .float .f64 b0_2, .float .f64 b0_3, .int .i64 b0_4, .int .i64 b0_5, .float .f64 b0_6, .int .i64 b0_7]] G (contC Try.prog O lo24 fuel (Try.f24.body.getD .skip) [1, 1, 0] (fun e env F G => match e with | .exit _ => none | _ => resC Try.prog Try.f24 env F G k)))) = L_ref09_one_1 O fuel k := by
  funext s1 s2 s7 b0_0 b0_1 b0_2 b0_3 b0_4 b0_5 b0_6 b0_7 G
  simp only [L_ref09_one_1, l_ref09_one_1_eq, a_ref09_one_1N_raw, L_ref09_one_2_eq]

def L_ref09_one_0 {R : Type} (O : Ora R) (fuel : Nat) (k : KV R) : Int → Int → Int → Nat → Nat → Nat → Int → Int → Nat → Int → GH → Option R := fun s1 s2 b0_0 b0_1 b0_2 b0_3 b0_4 b0_5 b0_6 b0_7 G =>
  stepN fuel (l_ref09_one_0 O (a_ref09_one_0N O k (L_ref09_one_1 O fuel k)) s1 s2 b0_0 b0_1 b0_2 b0_3 b0_4 b0_5 b0_6 b0_7 G)

theorem a_ref09_one_0N_raw {R : Type} (O : Ora R) (fuel : Nat) (s1 s2 : Int) (s7 : Bool) (b0_0 : Int) (b0_1 b0_2 b0_3 : Nat) (b0_4 b0_5 : Int) (b0_6 : Nat) (b0_7 : Int) (G : GH) (k : KV R) :
  contC Try.prog O lo24 fuel (Try.f24.body.getD .skip) [1, 0] (fun e env F G => match e with | .exit _ => none | _ => resC Try.prog Try.f24 env F G k) .normal (mkE 121 [(1, .int .i64 s1), (2, .int .i64 s2), (3, .loc 0 0), (7, .bool s7)]) [[.int .i64 b0_0, .float .f64 b0_1, .float .f64 b0_2, .float .f64 b0_3, .int .i64 b0_4, .int .i64 b0_5, .float .f64 b0_6, .int .i64 b0_7]] G =
  a_ref09_one_0N O k (fun s1 s2 s7 b0_0 b0_1 b0_2 b0_3 b0_4 b0_5 b0_6 b0_7 G => stepN fuel (loopD Try.prog O lo24 fuel (nav (Try.f24.body.getD .skip) [1, 1, 0]) 15 (mkE 121 [(1, .int .i64 s1), (2, .int .i64 s2), (3, .loc 0 0), (7, .bool s7)]) [[.int .i64 b0_0, .float .f64 b0_1, .float .f64 b0_2, .float .f64 b0_3, .int .i64 b0_4, .int .i64 b0_5, .float .f64 b0_6, .int .i64 b0_7]] G (contC Try.prog O lo24 fuel (Try.f24.body.getD .skip) [1, 1, 0] (fun e env F G => match e with | .exit _ => none | _ => resC Try.prog Try.f24 env F G k)))) s1 s2 s7 b0_0 b0_1 b0_2 b0_3 b0_4 b0_5 b0_6 b0_7 G := by kernel_rfl

theorem L_ref09_one_0_eq {R : Type} (O : Ora R) (fuel : Nat) (k : KV R) :
  (fun (s1 s2 b0_0 : Int) (b0_1 b0_2 b0_3 : Nat) (b0_4 b0_5 : Int) (b0_6 : Nat) (b0_7 : Int) (G : GH) => stepN fuel (loopD Try.prog O lo24 fuel (nav (Try.f24.body.getD .skip) [1, 0]) 11 (mkE 121 [(1, .int .i64 s1), (2, .int .i64 s2), (3, .loc 0 0)]) [[.int .i64 b0_0, .float .f64 b0_1, .float .f64 b0_2, .float .f64 b0_3, .int .i64 b0_4, .int .i64 b0_5, .float .f64 b0_6, .int .i64 b0_7]] G (contC Try.prog O lo24 fuel (Try.f24.body.getD .skip) [1, 0] (fun e env F G => match e with | .exit _ => none | _ => resC Try.prog Try.f24 env F G k)))) = L_ref09_one_0 O fuel k := by
  funext s1 s2 b0_0 b0_1 b0_2 b0_3 b0_4 b0_5 b0_6 b0_7 G
  simp only [L_ref09_one_0, l_ref09_one_0_eq, a_ref09_one_0N_raw, L_ref09_one_1_eq]

theorem e_ref09_one_raw {R : Type} (O : Ora R) (fuel : Nat) (p0_0 : Int) (p0_1 p0_2 p0_3 : Nat) (p0_4 p0_5 : Int) (p0_6 : Nat) (p0_7 p1 p2 : Int) (G : GH) (k : KV R) :
  bodyC Try.prog O lo24 fuel Try.f24 [.agg [.int .i64 p0_0, .float .f64 p0_1, .float .f64 p0_2, .float .f64 p0_3, .int .i64 p0_4, .int .i64 p0_5, .float .f64 p0_6, .int .i64 p0_7], .int .i64 p1, .int .i64 p2] G k =
  u_ref09_one O k (fun s1 s2 b0_0 b0_1 b0_2 b0_3 b0_4 b0_5 b0_6 b0_7 G => stepN fuel (loopD Try.prog O lo24 fuel (nav (Try.f24.body.getD .skip) [1, 0]) 11 (mkE 121 [(1, .int .i64 s1), (2, .int .i64 s2), (3, .loc 0 0)]) [[.int .i64 b0_0, .float .f64 b0_1, .float .f64 b0_2, .float .f64 b0_3, .int .i64 b0_4, .int .i64 b0_5, .float .f64 b0_6, .int .i64 b0_7]] G (contC Try.prog O lo24 fuel (Try.f24.body.getD .skip) [1, 0] (fun e env F G => match e with | .exit _ => none | _ => resC Try.prog Try.f24 env F G k)))) p0_0 p0_1 p0_2 p0_3 p0_4 p0_5 p0_6 p0_7 p1 p2 G := by kernel_rfl

theorem e_ref09_one {R : Type} (O : Ora R) (fuel : Nat) (p0_0 : Int) (p0_1 p0_2 p0_3 : Nat) (p0_4 p0_5 : Int) (p0_6 : Nat) (p0_7 p1 p2 : Int) (G : GH) (k : KV R) :
  bodyC Try.prog O lo24 fuel Try.f24 [.agg [.int .i64 p0_0, .float .f64 p0_1, .float .f64 p0_2, .float .f64 p0_3, .int .i64 p0_4, .int .i64 p0_5, .float .f64 p0_6, .int .i64 p0_7], .int .i64 p1, .int .i64 p2] G k =
  u_ref09_one O k (L_ref09_one_0 O fuel k) p0_0 p0_1 p0_2 p0_3 p0_4 p0_5 p0_6 p0_7 p1 p2 G := by
  rw [e_ref09_one_raw, L_ref09_one_0_eq]

theorem r_ref09_one {R : Type} (fuel n : Nat) (p0_0 : Int) (p0_1 p0_2 p0_3 : Nat) (p0_4 p0_5 : Int) (p0_6 : Nat) (p0_7 p1 p2 : Int) (G : GH) (k : KV R) :
  runC Try.prog lo0 fuel (n + 1) 24 [.agg [.int .i64 p0_0, .float .f64 p0_1, .float .f64 p0_2, .float .f64 p0_3, .int .i64 p0_4, .int .i64 p0_5, .float .f64 p0_6, .int .i64 p0_7], .int .i64 p1, .int .i64 p2] G k = bodyC Try.prog (runC Try.prog lo0 fuel n) lo24 fuel Try.f24 [.agg [.int .i64 p0_0, .float .f64 p0_1, .float .f64 p0_2, .float .f64 p0_3, .int .i64 p0_4, .int .i64 p0_5, .float .f64 p0_6, .int .i64 p0_7], .int .i64 p1, .int .i64 p2] G k := run_body Try.func24 rfl rfl

/-! ### lantern/lanternref09.Check -/
def u_ref09_Check_0 {R : Type} (O : Ora R) (Kret : Int → Int → GH → Option R) (KN : OG → Nat → Int → Int → GH → Option R) (K0 : GH → Option R) (s0a : OG) (s0n : Nat) (s1 s6 : Int) (G : GH) : Option R :=
  bif (decide (s6 < (s0n : Int))) then
  (idx? s0a s0n s6 8).bind fun a1 =>
  (ldInt G .i64 (GA.add a1 0)).bind fun x2 =>
  (ldFloat G .f64 (GA.add a1 1)).bind fun x3 =>
  (ldFloat G .f64 (GA.add a1 2)).bind fun x4 =>
  (ldFloat G .f64 (GA.add a1 3)).bind fun x5 =>
  (ldInt G .i64 (GA.add a1 4)).bind fun x6 =>
  (ldInt G .i64 (GA.add a1 5)).bind fun x7 =>
  (ldFloat G .f64 (GA.add a1 6)).bind fun x8 =>
  (ldInt G .i64 (GA.add a1 7)).bind fun x9 =>
  O fn_ref09_one [.agg [.int .i64 x2, .float .f64 x3, .float .f64 x4, .float .f64 x5, .int .i64 x6, .int .i64 x7, .float .f64 x8, .int .i64 x9], .int .i64 s6, .int .i64 s1] G fun v10 G11 =>
  (ivInt .i64 v10).bind fun x12 =>
  bif (x12 != (0 : Int)) then
  Kret s6 x12 G11
  else
  KN s0a s0n s1 (IntKind.wrap .i64 (s6 + (1 : Int))) G11
  else
  K0 G

def l_ref09_Check_0 {R : Type} (O : Ora R) (Kret : Int → Int → GH → Option R) (K0 : GH → Option R) : Nat → OG → Nat → Int → Int → GH → Option R
  | 0, _, _, _, _, _ => none
  | n + 1, s0a, s0n, s1, s6, G => u_ref09_Check_0 O Kret (l_ref09_Check_0 O Kret K0 n) K0 s0a s0n s1 s6 G

theorem u_ref09_Check_0_raw {R : Type} (O : Ora R) (fuel : Nat) (s0a : OG) (s0n : Nat) (s1 s6 : Int) (G : GH) (k : KE R) :
  loopD Try.prog O lo12 fuel (nav (Try.f12.body.getD .skip) [1, 0, 1, 0, 0]) 8 (mkE 25 [(0, .slice s0a s0n), (1, .int .i64 s1), (6, .int .i64 s6)]) [] G k =
  u_ref09_Check_0 O (fun s4 s5 G => k .ret (mkE 25 [(4, .int .i64 s4), (5, .int .i64 s5)]) [] G) (fun s0a s0n s1 s6 G => k .normal (mkE 25 [(0, .slice s0a s0n), (1, .int .i64 s1), (6, .int .i64 s6)]) [] G) (fun G => k (.exit 0) (mkE 25 []) [] G) s0a s0n s1 s6 G := by kernel_rfl

theorem l_ref09_Check_0_eq {R : Type} (O : Ora R) (fuel : Nat) (k : KE R) : ∀ (n : Nat) (s0a : OG) (s0n : Nat) (s1 s6 : Int) (G : GH),
  loopN (loopD Try.prog O lo12 fuel (nav (Try.f12.body.getD .skip) [1, 0, 1, 0, 0]) 8) n (mkE 25 [(0, .slice s0a s0n), (1, .int .i64 s1), (6, .int .i64 s6)]) [] G k = l_ref09_Check_0 O (fun s4 s5 G => k .ret (mkE 25 [(4, .int .i64 s4), (5, .int .i64 s5)]) [] G) (fun G => k (.exit 0) (mkE 25 []) [] G) n s0a s0n s1 s6 G := by
  intro n
  induction n with
  | zero => intros; first | rfl | simp only [loopN, l_ref09_Check_0]
  | succ n ih =>
    intros
    rw [loopN_succ, u_ref09_Check_0_raw]
    simp only [l_ref09_Check_0, loopK_normal, loopK_exit, loopK_ret, ih]

def u_ref09_Check {R : Type} (O : Ora R) (k : KV R) (L0 : OG → Nat → Int → Int → GH → Option R) (p0a : OG) (p0n : Nat) (p1 : Int) (G : GH) : Option R :=
  L0 p0a p0n p1 (0 : Int) G

def a_ref09_Check_0ret {R : Type} (O : Ora R) (k : KV R) (s4 s5 : Int) (G : GH) : Option R :=
  k (.tuple [.int .i64 s4, .int .i64 s5]) G

def a_ref09_Check_00 {R : Type} (O : Ora R) (k : KV R)  (G : GH) : Option R :=
  k (.tuple [.int .i64 (0 : Int), .int .i64 (0 : Int)]) G

def L_ref09_Check_0 {R : Type} (O : Ora R) (fuel : Nat) (k : KV R) : OG → Nat → Int → Int → GH → Option R := fun s0a s0n s1 s6 G =>
  l_ref09_Check_0 O (a_ref09_Check_0ret O k) (a_ref09_Check_00 O k) fuel s0a s0n s1 s6 G

theorem a_ref09_Check_0ret_raw {R : Type} (O : Ora R) (fuel : Nat) (s4 s5 : Int) (G : GH) (k : KV R) :
  contC Try.prog O lo12 fuel (Try.f12.body.getD .skip) [1, 0, 1, 0] (fun e env F G => match e with | .exit _ => none | _ => resC Try.prog Try.f12 env F G k) .ret (mkE 25 [(4, .int .i64 s4), (5, .int .i64 s5)]) [] G =
  a_ref09_Check_0ret O k s4 s5 G := by kernel_rfl

theorem a_ref09_Check_00_raw {R : Type} (O : Ora R) (fuel : Nat)  (G : GH) (k : KV R) :
  contC Try.prog O lo12 fuel (Try.f12.body.getD .skip) [1, 0, 1, 0] (fun e env F G => match e with | .exit _ => none | _ => resC Try.prog Try.f12 env F G k) (.exit 0) (mkE 25 []) [] G =
  a_ref09_Check_00 O k G := by kernel_rfl

theorem L_ref09_Check_0_eq {R : Type} (O : Ora R) (fuel : Nat) (k : KV R) :
  (fun (s0a : OG) (s0n : Nat) (s1 s6 : Int) (G : GH) => loopN (loopD Try.prog O lo12 fuel (nav (Try.f12.body.getD .skip) [1, 0, 1, 0, 0]) 8) fuel (mkE 25 [(0, .slice s0a s0n), (1, .int .i64 s1), (6, .int .i64 s6)]) [] G (contC Try.prog O lo12 fuel (Try.f12.body.getD .skip) [1, 0, 1, 0] (fun e env F G => match e with | .exit _ => none | _ => resC Try.prog Try.f12 env F G k))) = L_ref09_Check_0 O fuel k := by
  funext s0a s0n s1 s6 G
  simp only [L_ref09_Check_0, l_ref09_Check_0_eq, a_ref09_Check_0ret_raw, a_ref09_Check_00_raw]

theorem e_ref09_Check_raw {R : Type} (O : Ora R) (fuel : Nat) (p0a : OG) (p0n : Nat) (p1 : Int) (G : GH) (k : KV R) :
  bodyC Try.prog O lo12 fuel Try.f12 [.slice p0a p0n, .int .i64 p1] G k =
  u_ref09_Check O k (fun s0a s0n s1 s6 G => loopN (loopD Try.prog O lo12 fuel (nav (Try.f12.body.getD .skip) [1, 0, 1, 0, 0]) 8) fuel (mkE 25 [(0, .slice s0a s0n), (1, .int .i64 s1), (6, .int .i64 s6)]) [] G (contC Try.prog O lo12 fuel (Try.f12.body.getD .skip) [1, 0, 1, 0] (fun e env F G => match e with | .exit _ => none | _ => resC Try.prog Try.f12 env F G k))) p0a p0n p1 G := by kernel_rfl

theorem e_ref09_Check {R : Type} (O : Ora R) (fuel : Nat) (p0a : OG) (p0n : Nat) (p1 : Int) (G : GH) (k : KV R) :
  bodyC Try.prog O lo12 fuel Try.f12 [.slice p0a p0n, .int .i64 p1] G k =
  u_ref09_Check O k (L_ref09_Check_0 O fuel k) p0a p0n p1 G := by
  rw [e_ref09_Check_raw, L_ref09_Check_0_eq]

theorem r_ref09_Check {R : Type} (fuel n : Nat) (p0a : OG) (p0n : Nat) (p1 : Int) (G : GH) (k : KV R) :
  runC Try.prog lo0 fuel (n + 1) 12 [.slice p0a p0n, .int .i64 p1] G k = bodyC Try.prog (runC Try.prog lo0 fuel n) lo12 fuel Try.f12 [.slice p0a p0n, .int .i64 p1] G k := run_body Try.func12 rfl rfl

/-! ### lantern/lanternlaw09.TextureChecks -/
theorem e_law09_TextureChecks {R : Type} (O : Ora R) (fuel : Nat) (p0a : OG) (p0n : Nat) (p1a : OG) (p1n : Nat) (G : GH) (k : KV R) :
  bodyC Try.prog O [777777] fuel Try.f3 [.slice p0a p0n, .slice p1a p1n] G k =
  O fn_law09_Awake [] G fun v1 G2 =>
  (ivBool v1).bind fun x3 =>
  bif (!x3) then
  k (.bool false) G2
  else
  O fn_law09_long [.slice p0a p0n, .slice p1a p1n] G2 fun v4 G5 =>
  (ivBool v4).bind fun x6 =>
  bif x6 then
  k (.bool true) G5
  else
  (grdO (gnew G5 [] 52) p0a p0n 8).bind fun x7 =>
  (gappend (gnew G5 [] 52) 52 8 64 (some (gaddr G5)) 0 x7 p0n).bind fun r8 =>
  O fn_law09_Copied [.slice p1a p1n] r8.2 fun v9 G10 =>
  (ivSlice v9).bind fun x11 =>
  O fn_texture_Check [.slice r8.1 (0 + p0n), .slice x11.1 x11.2] G10 fun v12 G13 =>
  (ivTup 2 v12).bind fun c14 =>
  (ivInt .i64 (c14.getD 0 undefI)).bind fun x15 =>
  (ivInt .i64 (c14.getD 1 undefI)).bind fun x16 =>
  O fn_ref09_Check [.slice p0a p0n, .int .i64 (p1n : Int)] G13 fun v17 G18 =>
  (ivTup 2 v17).bind fun c19 =>
  (ivInt .i64 (c19.getD 0 undefI)).bind fun x20 =>
  (ivInt .i64 (c19.getD 1 undefI)).bind fun x21 =>
  bif (x15 == x20) then
  k (.bool (x16 == x21)) G18
  else
  k (.bool false) G18 := by kernel_rfl

theorem r_law09_TextureChecks {R : Type} (fuel n : Nat) (p0a : OG) (p0n : Nat) (p1a : OG) (p1n : Nat) (G : GH) (k : KV R) :
  runC Try.prog lo0 fuel (n + 1) 3 [.slice p0a p0n, .slice p1a p1n] G k = bodyC Try.prog (runC Try.prog lo0 fuel n) [777777] fuel Try.f3 [.slice p0a p0n, .slice p1a p1n] G k := run_body Try.func3 rfl rfl

end Go.LI.Film
