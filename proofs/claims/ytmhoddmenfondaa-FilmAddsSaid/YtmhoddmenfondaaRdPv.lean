/- What the interpreter gives for the reference of pictures (written by rnd.py). -/
import Derived.Test.YtmhoddmenfondaaSeatA
namespace Go.LI.Film
open Go.Proofs.Ytmhoddmenfondaa Go Go.Proofs Go.LI
set_option maxRecDepth 100000
set_option linter.unusedVariables false
set_option linter.unusedSimpArgs false
/-! ### lantern/lanternref19.Picture -/
def u_zC_0 {R : Type} (O : Ora R) (KN : OG → Nat → Int → Int → Int → OG → Nat → Int → Int → Nat → Int → Int → OG → Nat → Int → Int → Nat → GH → Option R) (K0 : Int → Int → OG → Nat → Int → Int → Nat → Int → Int → OG → Nat → Int → Int → Nat → GH → Option R) (s2a : OG) (s2n : Nat) (s10 b0_0 b0_1 : Int) (b0_2a : OG) (b0_2n : Nat) (b1_0 b1_1 : Int) (b1_2 : Nat) (b2_0 b2_1 : Int) (b2_2a : OG) (b2_2n : Nat) (b3_0 b3_1 : Int) (b3_2 : Nat) (G : GH) : Option R :=
  bif (decide (s10 < (s2n : Int))) then
  (idx? s2a s2n s10 8).bind fun a1 =>
  (ldFloat G .f64 (GA.add a1 0)).bind fun x2 =>
  (ldFloat G .f64 (GA.add a1 1)).bind fun x3 =>
  (ldFloat G .f64 (GA.add a1 2)).bind fun x4 =>
  (ldFloat G .f64 (GA.add a1 3)).bind fun x5 =>
  (ldFloat G .f64 (GA.add a1 4)).bind fun x6 =>
  (ldFloat G .f64 (GA.add a1 5)).bind fun x7 =>
  (ldInt G .i64 (GA.add a1 6)).bind fun x8 =>
  (ldInt G .i64 (GA.add a1 7)).bind fun x9 =>
  O fn_zv1 [.agg [.float .f64 x2, .float .f64 x3, .float .f64 x4, .float .f64 x5, .float .f64 x6, .float .f64 x7, .int .i64 x8, .int .i64 x9]] G fun v10 G11 =>
  (ivAgg 6 v10).bind fun c12 =>
  (ivFloat .f64 (c12.getD 0 undefI)).bind fun x13 =>
  (ivFloat .f64 (c12.getD 1 undefI)).bind fun x14 =>
  (ivFloat .f64 (c12.getD 2 undefI)).bind fun x15 =>
  (ivFloat .f64 (c12.getD 3 undefI)).bind fun x16 =>
  (ivFloat .f64 (c12.getD 4 undefI)).bind fun x17 =>
  (ivFloat .f64 (c12.getD 5 undefI)).bind fun x18 =>
  O fn_zp1 [.agg [.float .f64 x13, .float .f64 x14]] G11 fun v19 G20 =>
  (ivTup 2 v19).bind fun c21 =>
  (ivFloat .f64 (c21.getD 0 undefI)).bind fun x22 =>
  (ivFloat .f64 (c21.getD 1 undefI)).bind fun x23 =>
  O fn_zc1 [.float .f64 x22] G20 fun v24 G25 =>
  (ivFloat .f64 v24).bind fun x26 =>
  O fn_zL [.float .f64 b3_2, .float .f64 x23] G25 fun v27 G28 =>
  (ivFloat .f64 v27).bind fun x29 =>
  O fn_zq1 [.agg [.float .f64 x13, .float .f64 x14], .float .f64 x26] (gfreeze G28) fun v30 _ =>
  (ivFloat .f64 v30).bind fun x31 =>
  O fn_zL [.float .f64 x29, .float .f64 x31] (gfreeze G28) fun v32 _ =>
  (ivFloat .f64 v32).bind fun x33 =>
  O fn_zp1 [.agg [.float .f64 x15, .float .f64 x16]] G28 fun v34 G35 =>
  (ivTup 2 v34).bind fun c36 =>
  (ivFloat .f64 (c36.getD 0 undefI)).bind fun x37 =>
  (ivFloat .f64 (c36.getD 1 undefI)).bind fun x38 =>
  O fn_zc1 [.float .f64 x37] G35 fun v39 G40 =>
  (ivFloat .f64 v39).bind fun x41 =>
  O fn_zL [.float .f64 x33, .float .f64 x38] G40 fun v42 G43 =>
  (ivFloat .f64 v42).bind fun x44 =>
  O fn_zq1 [.agg [.float .f64 x15, .float .f64 x16], .float .f64 x41] (gfreeze G43) fun v45 _ =>
  (ivFloat .f64 v45).bind fun x46 =>
  O fn_zL [.float .f64 x44, .float .f64 x46] (gfreeze G43) fun v47 _ =>
  (ivFloat .f64 v47).bind fun x48 =>
  O fn_zp1 [.agg [.float .f64 x17, .float .f64 x18]] G43 fun v49 G50 =>
  (ivTup 2 v49).bind fun c51 =>
  (ivFloat .f64 (c51.getD 0 undefI)).bind fun x52 =>
  (ivFloat .f64 (c51.getD 1 undefI)).bind fun x53 =>
  O fn_zc1 [.float .f64 x52] G50 fun v54 G55 =>
  (ivFloat .f64 v54).bind fun x56 =>
  O fn_zL [.float .f64 x48, .float .f64 x53] G55 fun v57 G58 =>
  (ivFloat .f64 v57).bind fun x59 =>
  O fn_zq1 [.agg [.float .f64 x17, .float .f64 x18], .float .f64 x56] (gfreeze G58) fun v60 _ =>
  (ivFloat .f64 v60).bind fun x61 =>
  O fn_zL [.float .f64 x59, .float .f64 x61] (gfreeze G58) fun v62 _ =>
  (ivFloat .f64 v62).bind fun x63 =>
  (grd (gnew G58 [.float .f64 x26, .float .f64 x41, .float .f64 x56] 76) (gaddr G58) (1 * 3)).bind fun x64 =>
  (gappend (gnew G58 [.float .f64 x26, .float .f64 x41, .float .f64 x56] 76) 76 3 24 b2_2a b2_2n x64 1).bind fun r65 =>
  (idx? s2a s2n s10 8).bind fun a66 =>
  (ldInt r65.2 .i64 (GA.add a66 6)).bind fun x67 =>
  (idx? s2a s2n s10 8).bind fun a68 =>
  (ldInt r65.2 .i64 (GA.add a68 7)).bind fun x69 =>
  KN s2a s2n (IntKind.wrap .i64 (s10 + (1 : Int))) b0_0 b0_1 b0_2a b0_2n b1_0 b1_1 b1_2 b2_0 b2_1 r65.1 (b2_2n + 1) (IntKind.wrap .i64 (b3_0 + x67)) (IntKind.wrap .i64 (b3_1 + x69)) x63 r65.2
  else
  K0 b0_0 b0_1 b0_2a b0_2n b1_0 b1_1 b1_2 b2_0 b2_1 b2_2a b2_2n b3_0 b3_1 b3_2 G

def l_zC_0 {R : Type} (O : Ora R) (K0 : Int → Int → OG → Nat → Int → Int → Nat → Int → Int → OG → Nat → Int → Int → Nat → GH → Option R) : Nat → OG → Nat → Int → Int → Int → OG → Nat → Int → Int → Nat → Int → Int → OG → Nat → Int → Int → Nat → GH → Option R
  | 0, _, _, _, _, _, _, _, _, _, _, _, _, _, _, _, _, _, _ => none
  | n + 1, s2a, s2n, s10, b0_0, b0_1, b0_2a, b0_2n, b1_0, b1_1, b1_2, b2_0, b2_1, b2_2a, b2_2n, b3_0, b3_1, b3_2, G => u_zC_0 O (l_zC_0 O K0 n) K0 s2a s2n s10 b0_0 b0_1 b0_2a b0_2n b1_0 b1_1 b1_2 b2_0 b2_1 b2_2a b2_2n b3_0 b3_1 b3_2 G

theorem u_zC_0_raw {R : Type} (O : Ora R) (fuel : Nat) (s2a : OG) (s2n : Nat) (s10 b0_0 b0_1 : Int) (b0_2a : OG) (b0_2n : Nat) (b1_0 b1_1 : Int) (b1_2 : Nat) (b2_0 b2_1 : Int) (b2_2a : OG) (b2_2n : Nat) (b3_0 b3_1 : Int) (b3_2 : Nat) (G : GH) (k : KE R) :
  loopD Try.prog O lo31 (fuel + 4) (nav (Try.f31.body.getD .skip) [1, 1, 1, 0, 1, 0, 0]) 16 (mkE 89 [(2, .slice s2a s2n), (6, .loc 0 0), (7, .loc 1 0), (8, .loc 2 0), (9, .loc 3 0), (10, .int .i64 s10)]) [[.int .i64 b0_0, .int .i64 b0_1, .slice b0_2a b0_2n], [.int .i64 b1_0, .int .i64 b1_1, .float .f64 b1_2], [.int .i64 b2_0, .int .i64 b2_1, .slice b2_2a b2_2n], [.int .i64 b3_0, .int .i64 b3_1, .float .f64 b3_2]] G k =
  u_zC_0 O (fun s2a s2n s10 b0_0 b0_1 b0_2a b0_2n b1_0 b1_1 b1_2 b2_0 b2_1 b2_2a b2_2n b3_0 b3_1 b3_2 G => k .normal (mkE 89 [(2, .slice s2a s2n), (6, .loc 0 0), (7, .loc 1 0), (8, .loc 2 0), (9, .loc 3 0), (10, .int .i64 s10)]) [[.int .i64 b0_0, .int .i64 b0_1, .slice b0_2a b0_2n], [.int .i64 b1_0, .int .i64 b1_1, .float .f64 b1_2], [.int .i64 b2_0, .int .i64 b2_1, .slice b2_2a b2_2n], [.int .i64 b3_0, .int .i64 b3_1, .float .f64 b3_2]] G) (fun b0_0 b0_1 b0_2a b0_2n b1_0 b1_1 b1_2 b2_0 b2_1 b2_2a b2_2n b3_0 b3_1 b3_2 G => k (.exit 0) (mkE 89 [(6, .loc 0 0), (7, .loc 1 0), (8, .loc 2 0), (9, .loc 3 0)]) [[.int .i64 b0_0, .int .i64 b0_1, .slice b0_2a b0_2n], [.int .i64 b1_0, .int .i64 b1_1, .float .f64 b1_2], [.int .i64 b2_0, .int .i64 b2_1, .slice b2_2a b2_2n], [.int .i64 b3_0, .int .i64 b3_1, .float .f64 b3_2]] G) s2a s2n s10 b0_0 b0_1 b0_2a b0_2n b1_0 b1_1 b1_2 b2_0 b2_1 b2_2a b2_2n b3_0 b3_1 b3_2 G := by kernel_rfl

theorem l_zC_0_eq {R : Type} (O : Ora R) (fuel : Nat) (k : KE R) : ∀ (n : Nat) (s2a : OG) (s2n : Nat) (s10 b0_0 b0_1 : Int) (b0_2a : OG) (b0_2n : Nat) (b1_0 b1_1 : Int) (b1_2 : Nat) (b2_0 b2_1 : Int) (b2_2a : OG) (b2_2n : Nat) (b3_0 b3_1 : Int) (b3_2 : Nat) (G : GH),
  loopN (loopD Try.prog O lo31 (fuel + 4) (nav (Try.f31.body.getD .skip) [1, 1, 1, 0, 1, 0, 0]) 16) n (mkE 89 [(2, .slice s2a s2n), (6, .loc 0 0), (7, .loc 1 0), (8, .loc 2 0), (9, .loc 3 0), (10, .int .i64 s10)]) [[.int .i64 b0_0, .int .i64 b0_1, .slice b0_2a b0_2n], [.int .i64 b1_0, .int .i64 b1_1, .float .f64 b1_2], [.int .i64 b2_0, .int .i64 b2_1, .slice b2_2a b2_2n], [.int .i64 b3_0, .int .i64 b3_1, .float .f64 b3_2]] G k = l_zC_0 O (fun b0_0 b0_1 b0_2a b0_2n b1_0 b1_1 b1_2 b2_0 b2_1 b2_2a b2_2n b3_0 b3_1 b3_2 G => k (.exit 0) (mkE 89 [(6, .loc 0 0), (7, .loc 1 0), (8, .loc 2 0), (9, .loc 3 0)]) [[.int .i64 b0_0, .int .i64 b0_1, .slice b0_2a b0_2n], [.int .i64 b1_0, .int .i64 b1_1, .float .f64 b1_2], [.int .i64 b2_0, .int .i64 b2_1, .slice b2_2a b2_2n], [.int .i64 b3_0, .int .i64 b3_1, .float .f64 b3_2]] G) n s2a s2n s10 b0_0 b0_1 b0_2a b0_2n b1_0 b1_1 b1_2 b2_0 b2_1 b2_2a b2_2n b3_0 b3_1 b3_2 G := by
  intro n
  induction n with
  | zero => intros; rfl
  | succ n ih =>
    intros
    rw [loopN_succ, u_zC_0_raw]
    simp only [l_zC_0, loopK_normal, loopK_exit, loopK_ret, ih]

def u_zC {R : Type} (O : Ora R) (k : KV R) (L0 : OG → Nat → Int → Int → Int → OG → Nat → Int → Int → Nat → Int → Int → OG → Nat → Int → Int → Nat → GH → Option R) (p0 p1 : Int) (p2a : OG) (p2n : Nat) (G : GH) : Option R :=
  L0 p2a p2n (0 : Int) (0 : Int) (0 : Int) none 0 (0 : Int) (0 : Int) (0 : Nat) p0 p1 none 0 (0 : Int) (0 : Int) (0 : Nat) G

def a_zC_00 {R : Type} (O : Ora R) (k : KV R) (b0_0 b0_1 : Int) (b0_2a : OG) (b0_2n : Nat) (b1_0 b1_1 : Int) (b1_2 : Nat) (b2_0 b2_1 : Int) (b2_2a : OG) (b2_2n : Nat) (b3_0 b3_1 : Int) (b3_2 : Nat) (G : GH) : Option R :=
  k (.tuple [.agg [.int .i64 b2_0, .int .i64 b2_1, .slice b2_2a b2_2n], .agg [.int .i64 b3_0, .int .i64 b3_1, .float .f64 b3_2]]) G

def L_zC_0 {R : Type} (O : Ora R) (fuel : Nat) (k : KV R) : OG → Nat → Int → Int → Int → OG → Nat → Int → Int → Nat → Int → Int → OG → Nat → Int → Int → Nat → GH → Option R := fun s2a s2n s10 b0_0 b0_1 b0_2a b0_2n b1_0 b1_1 b1_2 b2_0 b2_1 b2_2a b2_2n b3_0 b3_1 b3_2 G =>
  l_zC_0 O (a_zC_00 O k) fuel s2a s2n s10 b0_0 b0_1 b0_2a b0_2n b1_0 b1_1 b1_2 b2_0 b2_1 b2_2a b2_2n b3_0 b3_1 b3_2 G

theorem a_zC_00_raw {R : Type} (O : Ora R) (fuel : Nat) (b0_0 b0_1 : Int) (b0_2a : OG) (b0_2n : Nat) (b1_0 b1_1 : Int) (b1_2 : Nat) (b2_0 b2_1 : Int) (b2_2a : OG) (b2_2n : Nat) (b3_0 b3_1 : Int) (b3_2 : Nat) (G : GH) (k : KV R) :
  contC Try.prog O lo31 fuel (Try.f31.body.getD .skip) [1, 1, 1, 0, 1, 0] (fun e env F G => match e with | .exit _ => none | _ => resC Try.prog Try.f31 env F G k) (.exit 0) (mkE 89 [(6, .loc 0 0), (7, .loc 1 0), (8, .loc 2 0), (9, .loc 3 0)]) [[.int .i64 b0_0, .int .i64 b0_1, .slice b0_2a b0_2n], [.int .i64 b1_0, .int .i64 b1_1, .float .f64 b1_2], [.int .i64 b2_0, .int .i64 b2_1, .slice b2_2a b2_2n], [.int .i64 b3_0, .int .i64 b3_1, .float .f64 b3_2]] G =
  a_zC_00 O k b0_0 b0_1 b0_2a b0_2n b1_0 b1_1 b1_2 b2_0 b2_1 b2_2a b2_2n b3_0 b3_1 b3_2 G := by kernel_rfl

theorem L_zC_0_eq {R : Type} (O : Ora R) (fuel : Nat) (k : KV R) :
  (fun (s2a : OG) (s2n : Nat) (s10 b0_0 b0_1 : Int) (b0_2a : OG) (b0_2n : Nat) (b1_0 b1_1 : Int) (b1_2 : Nat) (b2_0 b2_1 : Int) (b2_2a : OG) (b2_2n : Nat) (b3_0 b3_1 : Int) (b3_2 : Nat) (G : GH) => loopN (loopD Try.prog O lo31 (fuel + 4) (nav (Try.f31.body.getD .skip) [1, 1, 1, 0, 1, 0, 0]) 16) (fuel + 4) (mkE 89 [(2, .slice s2a s2n), (6, .loc 0 0), (7, .loc 1 0), (8, .loc 2 0), (9, .loc 3 0), (10, .int .i64 s10)]) [[.int .i64 b0_0, .int .i64 b0_1, .slice b0_2a b0_2n], [.int .i64 b1_0, .int .i64 b1_1, .float .f64 b1_2], [.int .i64 b2_0, .int .i64 b2_1, .slice b2_2a b2_2n], [.int .i64 b3_0, .int .i64 b3_1, .float .f64 b3_2]] G (contC Try.prog O lo31 (fuel + 4) (Try.f31.body.getD .skip) [1, 1, 1, 0, 1, 0] (fun e env F G => match e with | .exit _ => none | _ => resC Try.prog Try.f31 env F G k))) = L_zC_0 O (fuel + 4) k := by
  funext s2a s2n s10 b0_0 b0_1 b0_2a b0_2n b1_0 b1_1 b1_2 b2_0 b2_1 b2_2a b2_2n b3_0 b3_1 b3_2 G
  simp only [L_zC_0, l_zC_0_eq, a_zC_00_raw]

theorem e_zC_raw {R : Type} (O : Ora R) (fuel : Nat) (p0 p1 : Int) (p2a : OG) (p2n : Nat) (G : GH) (k : KV R) :
  bodyC Try.prog O lo31 fuel Try.f31 [.int .i64 p0, .int .i64 p1, .slice p2a p2n] G k =
  u_zC O k (fun s2a s2n s10 b0_0 b0_1 b0_2a b0_2n b1_0 b1_1 b1_2 b2_0 b2_1 b2_2a b2_2n b3_0 b3_1 b3_2 G => loopN (loopD Try.prog O lo31 fuel (nav (Try.f31.body.getD .skip) [1, 1, 1, 0, 1, 0, 0]) 16) fuel (mkE 89 [(2, .slice s2a s2n), (6, .loc 0 0), (7, .loc 1 0), (8, .loc 2 0), (9, .loc 3 0), (10, .int .i64 s10)]) [[.int .i64 b0_0, .int .i64 b0_1, .slice b0_2a b0_2n], [.int .i64 b1_0, .int .i64 b1_1, .float .f64 b1_2], [.int .i64 b2_0, .int .i64 b2_1, .slice b2_2a b2_2n], [.int .i64 b3_0, .int .i64 b3_1, .float .f64 b3_2]] G (contC Try.prog O lo31 fuel (Try.f31.body.getD .skip) [1, 1, 1, 0, 1, 0] (fun e env F G => match e with | .exit _ => none | _ => resC Try.prog Try.f31 env F G k))) p0 p1 p2a p2n G := by kernel_rfl

theorem e_zC {R : Type} (O : Ora R) (fuel : Nat) (p0 p1 : Int) (p2a : OG) (p2n : Nat) (G : GH) (k : KV R) :
  bodyC Try.prog O lo31 (fuel + 4) Try.f31 [.int .i64 p0, .int .i64 p1, .slice p2a p2n] G k =
  u_zC O k (L_zC_0 O (fuel + 4) k) p0 p1 p2a p2n G := by
  rw [e_zC_raw, L_zC_0_eq]

theorem r_zC {R : Type} (fuel n : Nat) (p0 p1 : Int) (p2a : OG) (p2n : Nat) (G : GH) (k : KV R) :
  runC Try.prog lo0 fuel (n + 1) 31 [.int .i64 p0, .int .i64 p1, .slice p2a p2n] G k = bodyC Try.prog (runC Try.prog lo0 fuel n) lo31 fuel Try.f31 [.int .i64 p0, .int .i64 p1, .slice p2a p2n] G k := run_body Try.func31 rfl rfl

/-! ### lantern/lanternref08.Same -/
def u_zm_0 {R : Type} (O : Ora R) (Kret : Bool → Int → Int → OG → Nat → Int → Int → OG → Nat → GH → Option R) (KN : Int → Int → OG → Nat → Int → Int → OG → Nat → GH → Option R) (b0_0 b0_1 : Int) (b0_2a : OG) (b0_2n : Nat) (b1_0 b1_1 : Int) (b1_2a : OG) (b1_2n : Nat) (G : GH) : Option R :=
  bif (b0_0 != b1_0) then
  Kret false b0_0 b0_1 b0_2a b0_2n b1_0 b1_1 b1_2a b1_2n G
  else
  bif (b0_1 != b1_1) then
  Kret false b0_0 b0_1 b0_2a b0_2n b1_0 b1_1 b1_2a b1_2n G
  else
  bif ((b0_2n : Int) != (b1_2n : Int)) then
  Kret false b0_0 b0_1 b0_2a b0_2n b1_0 b1_1 b1_2a b1_2n G
  else
  KN b0_0 b0_1 b0_2a b0_2n b1_0 b1_1 b1_2a b1_2n G

def l_zm_0 {R : Type} (O : Ora R) (Kret : Bool → Int → Int → OG → Nat → Int → Int → OG → Nat → GH → Option R) (KN : Int → Int → OG → Nat → Int → Int → OG → Nat → GH → Option R) : Int → Int → OG → Nat → Int → Int → OG → Nat → GH → Option R := fun b0_0 b0_1 b0_2a b0_2n b1_0 b1_1 b1_2a b1_2n G => u_zm_0 O Kret KN b0_0 b0_1 b0_2a b0_2n b1_0 b1_1 b1_2a b1_2n G

theorem u_zm_0_raw {R : Type} (O : Ora R) (fuel : Nat) (b0_0 b0_1 : Int) (b0_2a : OG) (b0_2n : Nat) (b1_0 b1_1 : Int) (b1_2a : OG) (b1_2n : Nat) (G : GH) (k : KE R) :
  loopD Try.prog O lo32 fuel (nav (Try.f32.body.getD .skip) [1, 0]) 15 (mkE 56 [(2, .loc 0 0), (3, .loc 1 0)]) [[.int .i64 b0_0, .int .i64 b0_1, .slice b0_2a b0_2n], [.int .i64 b1_0, .int .i64 b1_1, .slice b1_2a b1_2n]] G k =
  u_zm_0 O (fun s4 b0_0 b0_1 b0_2a b0_2n b1_0 b1_1 b1_2a b1_2n G => k .ret (mkE 56 [(4, .bool s4)]) [[.int .i64 b0_0, .int .i64 b0_1, .slice b0_2a b0_2n], [.int .i64 b1_0, .int .i64 b1_1, .slice b1_2a b1_2n]] G) (fun b0_0 b0_1 b0_2a b0_2n b1_0 b1_1 b1_2a b1_2n G => k .normal (mkE 56 [(2, .loc 0 0), (3, .loc 1 0)]) [[.int .i64 b0_0, .int .i64 b0_1, .slice b0_2a b0_2n], [.int .i64 b1_0, .int .i64 b1_1, .slice b1_2a b1_2n]] G) b0_0 b0_1 b0_2a b0_2n b1_0 b1_1 b1_2a b1_2n G := by kernel_rfl

theorem l_zm_0_eq {R : Type} (O : Ora R) (fuel : Nat) (k : KE R) : ∀ (b0_0 b0_1 : Int) (b0_2a : OG) (b0_2n : Nat) (b1_0 b1_1 : Int) (b1_2a : OG) (b1_2n : Nat) (G : GH),
  loopD Try.prog O lo32 fuel (nav (Try.f32.body.getD .skip) [1, 0]) 15 (mkE 56 [(2, .loc 0 0), (3, .loc 1 0)]) [[.int .i64 b0_0, .int .i64 b0_1, .slice b0_2a b0_2n], [.int .i64 b1_0, .int .i64 b1_1, .slice b1_2a b1_2n]] G k = l_zm_0 O (fun s4 b0_0 b0_1 b0_2a b0_2n b1_0 b1_1 b1_2a b1_2n G => k .ret (mkE 56 [(4, .bool s4)]) [[.int .i64 b0_0, .int .i64 b0_1, .slice b0_2a b0_2n], [.int .i64 b1_0, .int .i64 b1_1, .slice b1_2a b1_2n]] G) (fun b0_0 b0_1 b0_2a b0_2n b1_0 b1_1 b1_2a b1_2n G => k .normal (mkE 56 [(2, .loc 0 0), (3, .loc 1 0)]) [[.int .i64 b0_0, .int .i64 b0_1, .slice b0_2a b0_2n], [.int .i64 b1_0, .int .i64 b1_1, .slice b1_2a b1_2n]] G) b0_0 b0_1 b0_2a b0_2n b1_0 b1_1 b1_2a b1_2n G := by
  intros
  rw [u_zm_0_raw]
  simp only [l_zm_0]

def u_zm_2 {R : Type} (O : Ora R) (Kret : Bool → Int → Int → OG → Nat → Int → Int → OG → Nat → GH → Option R) (KN : Int → Int → Int → Int → OG → Nat → Int → Int → OG → Nat → GH → Option R) (K2 : Int → Int → Int → OG → Nat → Int → Int → OG → Nat → GH → Option R) (s5 s6 : Int) (b0_0 b0_1 : Int) (b0_2a : OG) (b0_2n : Nat) (b1_0 b1_1 : Int) (b1_2a : OG) (b1_2n : Nat) (G : GH) : Option R :=
  bif (decide (s6 < (3 : Int))) then
  (idx? b0_2a b0_2n s5 3).bind fun a1 =>
  if 0 ≤ s6 ∧ s6 < (3 : Int) then
  (ldFloat G .f64 (GA.add a1 (Int.toNat s6 * 1))).bind fun x2 =>
  O fn_zJ [.float .f64 x2] (gfreeze G) fun v3 _ =>
  (ivInt .u64 v3).bind fun x4 =>
  (idx? b1_2a b1_2n s5 3).bind fun a5 =>
  if 0 ≤ s6 ∧ s6 < (3 : Int) then
  (ldFloat G .f64 (GA.add a5 (Int.toNat s6 * 1))).bind fun x6 =>
  O fn_zJ [.float .f64 x6] (gfreeze G) fun v7 _ =>
  (ivInt .u64 v7).bind fun x8 =>
  bif (x4 != x8) then
  Kret false b0_0 b0_1 b0_2a b0_2n b1_0 b1_1 b1_2a b1_2n G
  else
  KN s5 (IntKind.wrap .i64 (s6 + (1 : Int))) b0_0 b0_1 b0_2a b0_2n b1_0 b1_1 b1_2a b1_2n G
  else none
  else none
  else
  K2 s5 b0_0 b0_1 b0_2a b0_2n b1_0 b1_1 b1_2a b1_2n G

def l_zm_2 {R : Type} (O : Ora R) (Kret : Bool → Int → Int → OG → Nat → Int → Int → OG → Nat → GH → Option R) (K2 : Int → Int → Int → OG → Nat → Int → Int → OG → Nat → GH → Option R) : Nat → Int → Int → Int → Int → OG → Nat → Int → Int → OG → Nat → GH → Option R
  | 0, _, _, _, _, _, _, _, _, _, _, _ => none
  | n + 1, s5, s6, b0_0, b0_1, b0_2a, b0_2n, b1_0, b1_1, b1_2a, b1_2n, G => u_zm_2 O Kret (l_zm_2 O Kret K2 n) K2 s5 s6 b0_0 b0_1 b0_2a b0_2n b1_0 b1_1 b1_2a b1_2n G

theorem u_zm_2_raw {R : Type} (O : Ora R) (fuel : Nat) (s5 s6 : Int) (b0_0 b0_1 : Int) (b0_2a : OG) (b0_2n : Nat) (b1_0 b1_1 : Int) (b1_2a : OG) (b1_2n : Nat) (G : GH) (k : KE R) :
  loopD Try.prog O lo32 fuel (nav (Try.f32.body.getD .skip) [1, 1, 0, 1, 0, 0, 1, 0, 0, 1, 0, 0]) 28 (mkE 56 [(2, .loc 0 0), (3, .loc 1 0), (5, .int .i64 s5), (6, .int .i64 s6)]) [[.int .i64 b0_0, .int .i64 b0_1, .slice b0_2a b0_2n], [.int .i64 b1_0, .int .i64 b1_1, .slice b1_2a b1_2n]] G k =
  u_zm_2 O (fun s4 b0_0 b0_1 b0_2a b0_2n b1_0 b1_1 b1_2a b1_2n G => k .ret (mkE 56 [(4, .bool s4)]) [[.int .i64 b0_0, .int .i64 b0_1, .slice b0_2a b0_2n], [.int .i64 b1_0, .int .i64 b1_1, .slice b1_2a b1_2n]] G) (fun s5 s6 b0_0 b0_1 b0_2a b0_2n b1_0 b1_1 b1_2a b1_2n G => k .normal (mkE 56 [(2, .loc 0 0), (3, .loc 1 0), (5, .int .i64 s5), (6, .int .i64 s6)]) [[.int .i64 b0_0, .int .i64 b0_1, .slice b0_2a b0_2n], [.int .i64 b1_0, .int .i64 b1_1, .slice b1_2a b1_2n]] G) (fun s5 b0_0 b0_1 b0_2a b0_2n b1_0 b1_1 b1_2a b1_2n G => k (.exit 2) (mkE 56 [(2, .loc 0 0), (3, .loc 1 0), (5, .int .i64 s5)]) [[.int .i64 b0_0, .int .i64 b0_1, .slice b0_2a b0_2n], [.int .i64 b1_0, .int .i64 b1_1, .slice b1_2a b1_2n]] G) s5 s6 b0_0 b0_1 b0_2a b0_2n b1_0 b1_1 b1_2a b1_2n G := by kernel_rfl

theorem l_zm_2_eq {R : Type} (O : Ora R) (fuel : Nat) (k : KE R) : ∀ (n : Nat) (s5 s6 : Int) (b0_0 b0_1 : Int) (b0_2a : OG) (b0_2n : Nat) (b1_0 b1_1 : Int) (b1_2a : OG) (b1_2n : Nat) (G : GH),
  loopN (loopD Try.prog O lo32 fuel (nav (Try.f32.body.getD .skip) [1, 1, 0, 1, 0, 0, 1, 0, 0, 1, 0, 0]) 28) n (mkE 56 [(2, .loc 0 0), (3, .loc 1 0), (5, .int .i64 s5), (6, .int .i64 s6)]) [[.int .i64 b0_0, .int .i64 b0_1, .slice b0_2a b0_2n], [.int .i64 b1_0, .int .i64 b1_1, .slice b1_2a b1_2n]] G k = l_zm_2 O (fun s4 b0_0 b0_1 b0_2a b0_2n b1_0 b1_1 b1_2a b1_2n G => k .ret (mkE 56 [(4, .bool s4)]) [[.int .i64 b0_0, .int .i64 b0_1, .slice b0_2a b0_2n], [.int .i64 b1_0, .int .i64 b1_1, .slice b1_2a b1_2n]] G) (fun s5 b0_0 b0_1 b0_2a b0_2n b1_0 b1_1 b1_2a b1_2n G => k (.exit 2) (mkE 56 [(2, .loc 0 0), (3, .loc 1 0), (5, .int .i64 s5)]) [[.int .i64 b0_0, .int .i64 b0_1, .slice b0_2a b0_2n], [.int .i64 b1_0, .int .i64 b1_1, .slice b1_2a b1_2n]] G) n s5 s6 b0_0 b0_1 b0_2a b0_2n b1_0 b1_1 b1_2a b1_2n G := by
  intro n
  induction n with
  | zero => intros; rfl
  | succ n ih =>
    intros
    rw [loopN_succ, u_zm_2_raw]
    simp only [l_zm_2, loopK_normal, loopK_exit, loopK_ret, ih]

def u_zm_1 {R : Type} (O : Ora R) (Kret : Bool → Int → Int → OG → Nat → Int → Int → OG → Nat → GH → Option R) (KN : Int → Int → Int → OG → Nat → Int → Int → OG → Nat → GH → Option R) (K0 : Int → Int → OG → Nat → Int → Int → OG → Nat → GH → Option R) (L2 : Int → Int → Int → Int → OG → Nat → Int → Int → OG → Nat → GH → Option R) (s5 b0_0 b0_1 : Int) (b0_2a : OG) (b0_2n : Nat) (b1_0 b1_1 : Int) (b1_2a : OG) (b1_2n : Nat) (G : GH) : Option R :=
  bif (decide (s5 < (b0_2n : Int))) then
  L2 s5 (0 : Int) b0_0 b0_1 b0_2a b0_2n b1_0 b1_1 b1_2a b1_2n G
  else
  K0 b0_0 b0_1 b0_2a b0_2n b1_0 b1_1 b1_2a b1_2n G

def a_zm_2ret {R : Type} (O : Ora R) (Kret : Bool → Int → Int → OG → Nat → Int → Int → OG → Nat → GH → Option R) (KN : Int → Int → Int → OG → Nat → Int → Int → OG → Nat → GH → Option R) (K0 : Int → Int → OG → Nat → Int → Int → OG → Nat → GH → Option R) (s4 : Bool) (b0_0 b0_1 : Int) (b0_2a : OG) (b0_2n : Nat) (b1_0 b1_1 : Int) (b1_2a : OG) (b1_2n : Nat) (G : GH) : Option R :=
  Kret s4 b0_0 b0_1 b0_2a b0_2n b1_0 b1_1 b1_2a b1_2n G

def a_zm_22 {R : Type} (O : Ora R) (Kret : Bool → Int → Int → OG → Nat → Int → Int → OG → Nat → GH → Option R) (KN : Int → Int → Int → OG → Nat → Int → Int → OG → Nat → GH → Option R) (K0 : Int → Int → OG → Nat → Int → Int → OG → Nat → GH → Option R) (s5 b0_0 b0_1 : Int) (b0_2a : OG) (b0_2n : Nat) (b1_0 b1_1 : Int) (b1_2a : OG) (b1_2n : Nat) (G : GH) : Option R :=
  KN (IntKind.wrap .i64 (s5 + (1 : Int))) b0_0 b0_1 b0_2a b0_2n b1_0 b1_1 b1_2a b1_2n G

def L_zm_2 {R : Type} (O : Ora R) (fuel : Nat) (Kret : Bool → Int → Int → OG → Nat → Int → Int → OG → Nat → GH → Option R) (KN : Int → Int → Int → OG → Nat → Int → Int → OG → Nat → GH → Option R) (K0 : Int → Int → OG → Nat → Int → Int → OG → Nat → GH → Option R) : Int → Int → Int → Int → OG → Nat → Int → Int → OG → Nat → GH → Option R := fun s5 s6 b0_0 b0_1 b0_2a b0_2n b1_0 b1_1 b1_2a b1_2n G =>
  l_zm_2 O (a_zm_2ret O Kret KN K0) (a_zm_22 O Kret KN K0) fuel s5 s6 b0_0 b0_1 b0_2a b0_2n b1_0 b1_1 b1_2a b1_2n G

theorem a_zm_2ret_raw {R : Type} (O : Ora R) (fuel : Nat) (s4 : Bool) (b0_0 b0_1 : Int) (b0_2a : OG) (b0_2n : Nat) (b1_0 b1_1 : Int) (b1_2a : OG) (b1_2n : Nat) (G : GH) (k : KE R) :
  contC Try.prog O lo32 fuel (nav (Try.f32.body.getD .skip) [1, 1, 0, 1, 0, 0]) [1, 0, 0, 1, 0] (kpD lo32 16 2 k) .ret (mkE 56 [(4, .bool s4)]) [[.int .i64 b0_0, .int .i64 b0_1, .slice b0_2a b0_2n], [.int .i64 b1_0, .int .i64 b1_1, .slice b1_2a b1_2n]] G =
  a_zm_2ret O (fun s4 b0_0 b0_1 b0_2a b0_2n b1_0 b1_1 b1_2a b1_2n G => k .ret (mkE 56 [(4, .bool s4)]) [[.int .i64 b0_0, .int .i64 b0_1, .slice b0_2a b0_2n], [.int .i64 b1_0, .int .i64 b1_1, .slice b1_2a b1_2n]] G) (fun s5 b0_0 b0_1 b0_2a b0_2n b1_0 b1_1 b1_2a b1_2n G => k .normal (mkE 56 [(2, .loc 0 0), (3, .loc 1 0), (5, .int .i64 s5)]) [[.int .i64 b0_0, .int .i64 b0_1, .slice b0_2a b0_2n], [.int .i64 b1_0, .int .i64 b1_1, .slice b1_2a b1_2n]] G) (fun b0_0 b0_1 b0_2a b0_2n b1_0 b1_1 b1_2a b1_2n G => k (.exit 0) (mkE 56 []) [[.int .i64 b0_0, .int .i64 b0_1, .slice b0_2a b0_2n], [.int .i64 b1_0, .int .i64 b1_1, .slice b1_2a b1_2n]] G) s4 b0_0 b0_1 b0_2a b0_2n b1_0 b1_1 b1_2a b1_2n G := by kernel_rfl

theorem a_zm_22_raw {R : Type} (O : Ora R) (fuel : Nat) (s5 b0_0 b0_1 : Int) (b0_2a : OG) (b0_2n : Nat) (b1_0 b1_1 : Int) (b1_2a : OG) (b1_2n : Nat) (G : GH) (k : KE R) :
  contC Try.prog O lo32 fuel (nav (Try.f32.body.getD .skip) [1, 1, 0, 1, 0, 0]) [1, 0, 0, 1, 0] (kpD lo32 16 2 k) (.exit 2) (mkE 56 [(2, .loc 0 0), (3, .loc 1 0), (5, .int .i64 s5)]) [[.int .i64 b0_0, .int .i64 b0_1, .slice b0_2a b0_2n], [.int .i64 b1_0, .int .i64 b1_1, .slice b1_2a b1_2n]] G =
  a_zm_22 O (fun s4 b0_0 b0_1 b0_2a b0_2n b1_0 b1_1 b1_2a b1_2n G => k .ret (mkE 56 [(4, .bool s4)]) [[.int .i64 b0_0, .int .i64 b0_1, .slice b0_2a b0_2n], [.int .i64 b1_0, .int .i64 b1_1, .slice b1_2a b1_2n]] G) (fun s5 b0_0 b0_1 b0_2a b0_2n b1_0 b1_1 b1_2a b1_2n G => k .normal (mkE 56 [(2, .loc 0 0), (3, .loc 1 0), (5, .int .i64 s5)]) [[.int .i64 b0_0, .int .i64 b0_1, .slice b0_2a b0_2n], [.int .i64 b1_0, .int .i64 b1_1, .slice b1_2a b1_2n]] G) (fun b0_0 b0_1 b0_2a b0_2n b1_0 b1_1 b1_2a b1_2n G => k (.exit 0) (mkE 56 []) [[.int .i64 b0_0, .int .i64 b0_1, .slice b0_2a b0_2n], [.int .i64 b1_0, .int .i64 b1_1, .slice b1_2a b1_2n]] G) s5 b0_0 b0_1 b0_2a b0_2n b1_0 b1_1 b1_2a b1_2n G := by kernel_rfl

theorem L_zm_2_eq {R : Type} (O : Ora R) (fuel : Nat) (k : KE R) :
  (fun (s5 s6 : Int) (b0_0 b0_1 : Int) (b0_2a : OG) (b0_2n : Nat) (b1_0 b1_1 : Int) (b1_2a : OG) (b1_2n : Nat) (G : GH) => loopN (loopD Try.prog O lo32 fuel (nav (Try.f32.body.getD .skip) [1, 1, 0, 1, 0, 0, 1, 0, 0, 1, 0, 0]) 28) fuel (mkE 56 [(2, .loc 0 0), (3, .loc 1 0), (5, .int .i64 s5), (6, .int .i64 s6)]) [[.int .i64 b0_0, .int .i64 b0_1, .slice b0_2a b0_2n], [.int .i64 b1_0, .int .i64 b1_1, .slice b1_2a b1_2n]] G (contC Try.prog O lo32 fuel (nav (Try.f32.body.getD .skip) [1, 1, 0, 1, 0, 0]) [1, 0, 0, 1, 0] (kpD lo32 16 2 k))) = L_zm_2 O fuel (fun (s4 : Bool) (b0_0 b0_1 : Int) (b0_2a : OG) (b0_2n : Nat) (b1_0 b1_1 : Int) (b1_2a : OG) (b1_2n : Nat) (G : GH) => k .ret (mkE 56 [(4, .bool s4)]) [[.int .i64 b0_0, .int .i64 b0_1, .slice b0_2a b0_2n], [.int .i64 b1_0, .int .i64 b1_1, .slice b1_2a b1_2n]] G) (fun (s5 b0_0 b0_1 : Int) (b0_2a : OG) (b0_2n : Nat) (b1_0 b1_1 : Int) (b1_2a : OG) (b1_2n : Nat) (G : GH) => k .normal (mkE 56 [(2, .loc 0 0), (3, .loc 1 0), (5, .int .i64 s5)]) [[.int .i64 b0_0, .int .i64 b0_1, .slice b0_2a b0_2n], [.int .i64 b1_0, .int .i64 b1_1, .slice b1_2a b1_2n]] G) (fun (b0_0 b0_1 : Int) (b0_2a : OG) (b0_2n : Nat) (b1_0 b1_1 : Int) (b1_2a : OG) (b1_2n : Nat) (G : GH) => k (.exit 0) (mkE 56 []) [[.int .i64 b0_0, .int .i64 b0_1, .slice b0_2a b0_2n], [.int .i64 b1_0, .int .i64 b1_1, .slice b1_2a b1_2n]] G) := by
  funext s5 s6 b0_0 b0_1 b0_2a b0_2n b1_0 b1_1 b1_2a b1_2n G
  simp only [L_zm_2, l_zm_2_eq, a_zm_2ret_raw, a_zm_22_raw]

def l_zm_1 {R : Type} (O : Ora R) (fuel : Nat) (Kret : Bool → Int → Int → OG → Nat → Int → Int → OG → Nat → GH → Option R) (K0 : Int → Int → OG → Nat → Int → Int → OG → Nat → GH → Option R) : Nat → Int → Int → Int → OG → Nat → Int → Int → OG → Nat → GH → Option R
  | 0, _, _, _, _, _, _, _, _, _, _ => none
  | n + 1, s5, b0_0, b0_1, b0_2a, b0_2n, b1_0, b1_1, b1_2a, b1_2n, G => u_zm_1 O Kret (l_zm_1 O fuel Kret K0 n) K0 (L_zm_2 O fuel Kret (l_zm_1 O fuel Kret K0 n) K0) s5 b0_0 b0_1 b0_2a b0_2n b1_0 b1_1 b1_2a b1_2n G

theorem u_zm_1_raw {R : Type} (O : Ora R) (fuel : Nat) (s5 b0_0 b0_1 : Int) (b0_2a : OG) (b0_2n : Nat) (b1_0 b1_1 : Int) (b1_2a : OG) (b1_2n : Nat) (G : GH) (k : KE R) :
  loopD Try.prog O lo32 fuel (nav (Try.f32.body.getD .skip) [1, 1, 0, 1, 0, 0]) 16 (mkE 56 [(2, .loc 0 0), (3, .loc 1 0), (5, .int .i64 s5)]) [[.int .i64 b0_0, .int .i64 b0_1, .slice b0_2a b0_2n], [.int .i64 b1_0, .int .i64 b1_1, .slice b1_2a b1_2n]] G k =
  u_zm_1 O (fun s4 b0_0 b0_1 b0_2a b0_2n b1_0 b1_1 b1_2a b1_2n G => k .ret (mkE 56 [(4, .bool s4)]) [[.int .i64 b0_0, .int .i64 b0_1, .slice b0_2a b0_2n], [.int .i64 b1_0, .int .i64 b1_1, .slice b1_2a b1_2n]] G) (fun s5 b0_0 b0_1 b0_2a b0_2n b1_0 b1_1 b1_2a b1_2n G => k .normal (mkE 56 [(2, .loc 0 0), (3, .loc 1 0), (5, .int .i64 s5)]) [[.int .i64 b0_0, .int .i64 b0_1, .slice b0_2a b0_2n], [.int .i64 b1_0, .int .i64 b1_1, .slice b1_2a b1_2n]] G) (fun b0_0 b0_1 b0_2a b0_2n b1_0 b1_1 b1_2a b1_2n G => k (.exit 0) (mkE 56 []) [[.int .i64 b0_0, .int .i64 b0_1, .slice b0_2a b0_2n], [.int .i64 b1_0, .int .i64 b1_1, .slice b1_2a b1_2n]] G) (fun s5 s6 b0_0 b0_1 b0_2a b0_2n b1_0 b1_1 b1_2a b1_2n G => loopN (loopD Try.prog O lo32 fuel (nav (Try.f32.body.getD .skip) [1, 1, 0, 1, 0, 0, 1, 0, 0, 1, 0, 0]) 28) fuel (mkE 56 [(2, .loc 0 0), (3, .loc 1 0), (5, .int .i64 s5), (6, .int .i64 s6)]) [[.int .i64 b0_0, .int .i64 b0_1, .slice b0_2a b0_2n], [.int .i64 b1_0, .int .i64 b1_1, .slice b1_2a b1_2n]] G (contC Try.prog O lo32 fuel (nav (Try.f32.body.getD .skip) [1, 1, 0, 1, 0, 0]) [1, 0, 0, 1, 0] (kpD lo32 16 2 k))) s5 b0_0 b0_1 b0_2a b0_2n b1_0 b1_1 b1_2a b1_2n G := by kernel_rfl

theorem l_zm_1_eq {R : Type} (O : Ora R) (fuel : Nat) (k : KE R) : ∀ (n : Nat) (s5 b0_0 b0_1 : Int) (b0_2a : OG) (b0_2n : Nat) (b1_0 b1_1 : Int) (b1_2a : OG) (b1_2n : Nat) (G : GH),
  loopN (loopD Try.prog O lo32 fuel (nav (Try.f32.body.getD .skip) [1, 1, 0, 1, 0, 0]) 16) n (mkE 56 [(2, .loc 0 0), (3, .loc 1 0), (5, .int .i64 s5)]) [[.int .i64 b0_0, .int .i64 b0_1, .slice b0_2a b0_2n], [.int .i64 b1_0, .int .i64 b1_1, .slice b1_2a b1_2n]] G k = l_zm_1 O fuel (fun s4 b0_0 b0_1 b0_2a b0_2n b1_0 b1_1 b1_2a b1_2n G => k .ret (mkE 56 [(4, .bool s4)]) [[.int .i64 b0_0, .int .i64 b0_1, .slice b0_2a b0_2n], [.int .i64 b1_0, .int .i64 b1_1, .slice b1_2a b1_2n]] G) (fun b0_0 b0_1 b0_2a b0_2n b1_0 b1_1 b1_2a b1_2n G => k (.exit 0) (mkE 56 []) [[.int .i64 b0_0, .int .i64 b0_1, .slice b0_2a b0_2n], [.int .i64 b1_0, .int .i64 b1_1, .slice b1_2a b1_2n]] G) n s5 b0_0 b0_1 b0_2a b0_2n b1_0 b1_1 b1_2a b1_2n G := by
  intro n
  induction n with
  | zero => intros; rfl
  | succ n ih =>
    intros
    rw [loopN_succ, u_zm_1_raw]
    simp only [l_zm_1, loopK_normal, loopK_exit, loopK_ret, ih, L_zm_2_eq]

def u_zm {R : Type} (O : Ora R) (k : KV R) (L0 : Int → Int → OG → Nat → Int → Int → OG → Nat → GH → Option R) (p0_0 p0_1 : Int) (p0_2a : OG) (p0_2n : Nat) (p1_0 p1_1 : Int) (p1_2a : OG) (p1_2n : Nat) (G : GH) : Option R :=
  L0 p0_0 p0_1 p0_2a p0_2n p1_0 p1_1 p1_2a p1_2n G

def a_zm_0ret {R : Type} (O : Ora R) (k : KV R) (s4 : Bool) (b0_0 b0_1 : Int) (b0_2a : OG) (b0_2n : Nat) (b1_0 b1_1 : Int) (b1_2a : OG) (b1_2n : Nat) (G : GH) : Option R :=
  k (.bool s4) G

def a_zm_0N {R : Type} (O : Ora R) (k : KV R) (L1 : Int → Int → Int → OG → Nat → Int → Int → OG → Nat → GH → Option R) (b0_0 b0_1 : Int) (b0_2a : OG) (b0_2n : Nat) (b1_0 b1_1 : Int) (b1_2a : OG) (b1_2n : Nat) (G : GH) : Option R :=
  L1 (0 : Int) b0_0 b0_1 b0_2a b0_2n b1_0 b1_1 b1_2a b1_2n G

def a_zm_1ret {R : Type} (O : Ora R) (k : KV R) (s4 : Bool) (b0_0 b0_1 : Int) (b0_2a : OG) (b0_2n : Nat) (b1_0 b1_1 : Int) (b1_2a : OG) (b1_2n : Nat) (G : GH) : Option R :=
  k (.bool s4) G

def a_zm_10 {R : Type} (O : Ora R) (k : KV R) (b0_0 b0_1 : Int) (b0_2a : OG) (b0_2n : Nat) (b1_0 b1_1 : Int) (b1_2a : OG) (b1_2n : Nat) (G : GH) : Option R :=
  k (.bool true) G

def L_zm_1 {R : Type} (O : Ora R) (fuel : Nat) (k : KV R) : Int → Int → Int → OG → Nat → Int → Int → OG → Nat → GH → Option R := fun s5 b0_0 b0_1 b0_2a b0_2n b1_0 b1_1 b1_2a b1_2n G =>
  l_zm_1 O fuel (a_zm_1ret O k) (a_zm_10 O k) fuel s5 b0_0 b0_1 b0_2a b0_2n b1_0 b1_1 b1_2a b1_2n G

theorem a_zm_1ret_raw {R : Type} (O : Ora R) (fuel : Nat) (s4 : Bool) (b0_0 b0_1 : Int) (b0_2a : OG) (b0_2n : Nat) (b1_0 b1_1 : Int) (b1_2a : OG) (b1_2n : Nat) (G : GH) (k : KV R) :
  contC Try.prog O lo32 fuel (Try.f32.body.getD .skip) [1, 1, 0, 1, 0] (fun e env F G => match e with | .exit _ => none | _ => resC Try.prog Try.f32 env F G k) .ret (mkE 56 [(4, .bool s4)]) [[.int .i64 b0_0, .int .i64 b0_1, .slice b0_2a b0_2n], [.int .i64 b1_0, .int .i64 b1_1, .slice b1_2a b1_2n]] G =
  a_zm_1ret O k s4 b0_0 b0_1 b0_2a b0_2n b1_0 b1_1 b1_2a b1_2n G := by kernel_rfl

theorem a_zm_10_raw {R : Type} (O : Ora R) (fuel : Nat) (b0_0 b0_1 : Int) (b0_2a : OG) (b0_2n : Nat) (b1_0 b1_1 : Int) (b1_2a : OG) (b1_2n : Nat) (G : GH) (k : KV R) :
  contC Try.prog O lo32 fuel (Try.f32.body.getD .skip) [1, 1, 0, 1, 0] (fun e env F G => match e with | .exit _ => none | _ => resC Try.prog Try.f32 env F G k) (.exit 0) (mkE 56 []) [[.int .i64 b0_0, .int .i64 b0_1, .slice b0_2a b0_2n], [.int .i64 b1_0, .int .i64 b1_1, .slice b1_2a b1_2n]] G =
  a_zm_10 O k b0_0 b0_1 b0_2a b0_2n b1_0 b1_1 b1_2a b1_2n G := by kernel_rfl

theorem L_zm_1_eq {R : Type} (O : Ora R) (fuel : Nat) (k : KV R) :
  (fun (s5 b0_0 b0_1 : Int) (b0_2a : OG) (b0_2n : Nat) (b1_0 b1_1 : Int) (b1_2a : OG) (b1_2n : Nat) (G : GH) => loopN (loopD Try.prog O lo32 fuel (nav (Try.f32.body.getD .skip) [1, 1, 0, 1, 0, 0]) 16) fuel (mkE 56 [(2, .loc 0 0), (3, .loc 1 0), (5, .int .i64 s5)]) [[.int .i64 b0_0, .int .i64 b0_1, .slice b0_2a b0_2n], [.int .i64 b1_0, .int .i64 b1_1, .slice b1_2a b1_2n]] G (contC Try.prog O lo32 fuel (Try.f32.body.getD .skip) [1, 1, 0, 1, 0] (fun e env F G => match e with | .exit _ => none | _ => resC Try.prog Try.f32 env F G k))) = L_zm_1 O fuel k := by
  funext s5 b0_0 b0_1 b0_2a b0_2n b1_0 b1_1 b1_2a b1_2n G
  simp only [L_zm_1, l_zm_1_eq, a_zm_1ret_raw, a_zm_10_raw]

def L_zm_0 {R : Type} (O : Ora R) (fuel : Nat) (k : KV R) : Int → Int → OG → Nat → Int → Int → OG → Nat → GH → Option R := fun b0_0 b0_1 b0_2a b0_2n b1_0 b1_1 b1_2a b1_2n G =>
  stepN fuel (l_zm_0 O (a_zm_0ret O k) (a_zm_0N O k (L_zm_1 O fuel k)) b0_0 b0_1 b0_2a b0_2n b1_0 b1_1 b1_2a b1_2n G)

theorem a_zm_0ret_raw {R : Type} (O : Ora R) (fuel : Nat) (s4 : Bool) (b0_0 b0_1 : Int) (b0_2a : OG) (b0_2n : Nat) (b1_0 b1_1 : Int) (b1_2a : OG) (b1_2n : Nat) (G : GH) (k : KV R) :
  contC Try.prog O lo32 fuel (Try.f32.body.getD .skip) [1, 0] (fun e env F G => match e with | .exit _ => none | _ => resC Try.prog Try.f32 env F G k) .ret (mkE 56 [(4, .bool s4)]) [[.int .i64 b0_0, .int .i64 b0_1, .slice b0_2a b0_2n], [.int .i64 b1_0, .int .i64 b1_1, .slice b1_2a b1_2n]] G =
  a_zm_0ret O k s4 b0_0 b0_1 b0_2a b0_2n b1_0 b1_1 b1_2a b1_2n G := by kernel_rfl

theorem a_zm_0N_raw {R : Type} (O : Ora R) (fuel : Nat) (b0_0 b0_1 : Int) (b0_2a : OG) (b0_2n : Nat) (b1_0 b1_1 : Int) (b1_2a : OG) (b1_2n : Nat) (G : GH) (k : KV R) :
  contC Try.prog O lo32 fuel (Try.f32.body.getD .skip) [1, 0] (fun e env F G => match e with | .exit _ => none | _ => resC Try.prog Try.f32 env F G k) .normal (mkE 56 [(2, .loc 0 0), (3, .loc 1 0)]) [[.int .i64 b0_0, .int .i64 b0_1, .slice b0_2a b0_2n], [.int .i64 b1_0, .int .i64 b1_1, .slice b1_2a b1_2n]] G =
  a_zm_0N O k (fun s5 b0_0 b0_1 b0_2a b0_2n b1_0 b1_1 b1_2a b1_2n G => loopN (loopD Try.prog O lo32 fuel (nav (Try.f32.body.getD .skip) [1, 1, 0, 1, 0, 0]) 16) fuel (mkE 56 [(2, .loc 0 0), (3, .loc 1 0), (5, .int .i64 s5)]) [[.int .i64 b0_0, .int .i64 b0_1, .slice b0_2a b0_2n], [.int .i64 b1_0, .int .i64 b1_1, .slice b1_2a b1_2n]] G (contC Try.prog O lo32 fuel (Try.f32.body.getD .skip) [1, 1, 0, 1, 0] (fun e env F G => match e with | .exit _ => none | _ => resC Try.prog Try.f32 env F G k))) b0_0 b0_1 b0_2a b0_2n b1_0 b1_1 b1_2a b1_2n G := by kernel_rfl

theorem L_zm_0_eq {R : Type} (O : Ora R) (fuel : Nat) (k : KV R) :
  (fun (b0_0 b0_1 : Int) (b0_2a : OG) (b0_2n : Nat) (b1_0 b1_1 : Int) (b1_2a : OG) (b1_2n : Nat) (G : GH) => stepN fuel (loopD Try.prog O lo32 fuel (nav (Try.f32.body.getD .skip) [1, 0]) 15 (mkE 56 [(2, .loc 0 0), (3, .loc 1 0)]) [[.int .i64 b0_0, .int .i64 b0_1, .slice b0_2a b0_2n], [.int .i64 b1_0, .int .i64 b1_1, .slice b1_2a b1_2n]] G (contC Try.prog O lo32 fuel (Try.f32.body.getD .skip) [1, 0] (fun e env F G => match e with | .exit _ => none | _ => resC Try.prog Try.f32 env F G k)))) = L_zm_0 O fuel k := by
  funext b0_0 b0_1 b0_2a b0_2n b1_0 b1_1 b1_2a b1_2n G
  simp only [L_zm_0, l_zm_0_eq, a_zm_0ret_raw, a_zm_0N_raw, L_zm_1_eq]

theorem e_zm_raw {R : Type} (O : Ora R) (fuel : Nat) (p0_0 p0_1 : Int) (p0_2a : OG) (p0_2n : Nat) (p1_0 p1_1 : Int) (p1_2a : OG) (p1_2n : Nat) (G : GH) (k : KV R) :
  bodyC Try.prog O lo32 fuel Try.f32 [.agg [.int .i64 p0_0, .int .i64 p0_1, .slice p0_2a p0_2n], .agg [.int .i64 p1_0, .int .i64 p1_1, .slice p1_2a p1_2n]] G k =
  u_zm O k (fun b0_0 b0_1 b0_2a b0_2n b1_0 b1_1 b1_2a b1_2n G => stepN fuel (loopD Try.prog O lo32 fuel (nav (Try.f32.body.getD .skip) [1, 0]) 15 (mkE 56 [(2, .loc 0 0), (3, .loc 1 0)]) [[.int .i64 b0_0, .int .i64 b0_1, .slice b0_2a b0_2n], [.int .i64 b1_0, .int .i64 b1_1, .slice b1_2a b1_2n]] G (contC Try.prog O lo32 fuel (Try.f32.body.getD .skip) [1, 0] (fun e env F G => match e with | .exit _ => none | _ => resC Try.prog Try.f32 env F G k)))) p0_0 p0_1 p0_2a p0_2n p1_0 p1_1 p1_2a p1_2n G := by kernel_rfl

theorem e_zm {R : Type} (O : Ora R) (fuel : Nat) (p0_0 p0_1 : Int) (p0_2a : OG) (p0_2n : Nat) (p1_0 p1_1 : Int) (p1_2a : OG) (p1_2n : Nat) (G : GH) (k : KV R) :
  bodyC Try.prog O lo32 fuel Try.f32 [.agg [.int .i64 p0_0, .int .i64 p0_1, .slice p0_2a p0_2n], .agg [.int .i64 p1_0, .int .i64 p1_1, .slice p1_2a p1_2n]] G k =
  u_zm O k (L_zm_0 O fuel k) p0_0 p0_1 p0_2a p0_2n p1_0 p1_1 p1_2a p1_2n G := by
  rw [e_zm_raw, L_zm_0_eq]

theorem r_zm {R : Type} (fuel n : Nat) (p0_0 p0_1 : Int) (p0_2a : OG) (p0_2n : Nat) (p1_0 p1_1 : Int) (p1_2a : OG) (p1_2n : Nat) (G : GH) (k : KV R) :
  runC Try.prog lo0 fuel (n + 1) 32 [.agg [.int .i64 p0_0, .int .i64 p0_1, .slice p0_2a p0_2n], .agg [.int .i64 p1_0, .int .i64 p1_1, .slice p1_2a p1_2n]] G k = bodyC Try.prog (runC Try.prog lo0 fuel n) lo32 fuel Try.f32 [.agg [.int .i64 p0_0, .int .i64 p0_1, .slice p0_2a p0_2n], .agg [.int .i64 p1_0, .int .i64 p1_1, .slice p1_2a p1_2n]] G k := run_body Try.func32 rfl rfl

/-! ### lantern/lanternref19.SameReport -/
theorem e_zh1 {R : Type} (O : Ora R) (fuel : Nat) (p0_0 p0_1 : Int) (p0_2 : Nat) (p1_0 p1_1 : Int) (p1_2 : Nat) (G : GH) (k : KV R) :
  bodyC Try.prog O [2, 3, 777777] fuel Try.f33 [.agg [.int .i64 p0_0, .int .i64 p0_1, .float .f64 p0_2], .agg [.int .i64 p1_0, .int .i64 p1_1, .float .f64 p1_2]] G k =
  bif (p0_0 == p1_0) then
  bif (p0_1 == p1_1) then
  O fn_zJ [.float .f64 p0_2] (gfreeze G) fun v1 _ =>
  (ivInt .u64 v1).bind fun x2 =>
  O fn_zJ [.float .f64 p1_2] (gfreeze G) fun v3 _ =>
  (ivInt .u64 v3).bind fun x4 =>
  k (.bool (x2 == x4)) G
  else
  k (.bool false) G
  else
  k (.bool false) G := by kernel_rfl

theorem r_zh1 {R : Type} (fuel n : Nat) (p0_0 p0_1 : Int) (p0_2 : Nat) (p1_0 p1_1 : Int) (p1_2 : Nat) (G : GH) (k : KV R) :
  runC Try.prog lo0 fuel (n + 1) 33 [.agg [.int .i64 p0_0, .int .i64 p0_1, .float .f64 p0_2], .agg [.int .i64 p1_0, .int .i64 p1_1, .float .f64 p1_2]] G k = bodyC Try.prog (runC Try.prog lo0 fuel n) [2, 3, 777777] fuel Try.f33 [.agg [.int .i64 p0_0, .int .i64 p0_1, .float .f64 p0_2], .agg [.int .i64 p1_0, .int .i64 p1_1, .float .f64 p1_2]] G k := run_body Try.func33 rfl rfl

end Go.LI.Film
