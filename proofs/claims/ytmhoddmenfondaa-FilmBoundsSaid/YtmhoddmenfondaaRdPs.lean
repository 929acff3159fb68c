/- What the interpreter gives for means and pictures (written by rnd.py). -/
import Derived.Test.YtmhoddmenfondaaSeatA
namespace Go.LI.Film
open Go.Proofs.Ytmhoddmenfondaa Go Go.Proofs Go.LI
set_option maxRecDepth 100000
set_option linter.unusedVariables false
set_option linter.unusedSimpArgs false
def grdO (G : GH) (b : OG) (n sz : Nat) : Option (List IV) := match b with | some b => grd G b (n * sz) | none => if n = 0 then some [] else none
/-! ### lantern/film.Mean -/
theorem e_zg1 {R : Type} (O : Ora R) (fuel p0_0 : Nat) (p0_1 p0_2 : Nat) (p0_3 p0_4 p0_5 : Nat) (p0_6 p0_7 : Int) (G : GH) (k : KV R) :
  bodyC Try.prog O [1, 2, 3, 777777] fuel Try.f27 [.agg [.float .f64 p0_0, .float .f64 p0_1, .float .f64 p0_2, .float .f64 p0_3, .float .f64 p0_4, .float .f64 p0_5, .int .i64 p0_6, .int .i64 p0_7]] G k =
  bif (decide (p0_6 < (1 : Int))) then
  k (.agg [.float .f64 (0 : Nat), .float .f64 (0 : Nat), .float .f64 (0 : Nat), .float .f64 (0 : Nat), .float .f64 (0 : Nat), .float .f64 (0 : Nat)]) G
  else
  O fn_zH1 [.float .f64 (FloatKind.nearest .f64 p0_6)] G fun v1 G2 =>
  (ivAgg 2 v1).bind fun c3 =>
  (ivFloat .f64 (c3.getD 0 undefI)).bind fun x4 =>
  (ivFloat .f64 (c3.getD 1 undefI)).bind fun x5 =>
  O fn_zn1 [.agg [.float .f64 p0_0, .float .f64 p0_1], .agg [.float .f64 x4, .float .f64 x5]] (gfreeze G2) fun v6 _ =>
  (ivAgg 2 v6).bind fun c7 =>
  (ivFloat .f64 (c7.getD 0 undefI)).bind fun x8 =>
  (ivFloat .f64 (c7.getD 1 undefI)).bind fun x9 =>
  O fn_zn1 [.agg [.float .f64 p0_2, .float .f64 p0_3], .agg [.float .f64 x4, .float .f64 x5]] (gfreeze G2) fun v10 _ =>
  (ivAgg 2 v10).bind fun c11 =>
  (ivFloat .f64 (c11.getD 0 undefI)).bind fun x12 =>
  (ivFloat .f64 (c11.getD 1 undefI)).bind fun x13 =>
  O fn_zn1 [.agg [.float .f64 p0_4, .float .f64 p0_5], .agg [.float .f64 x4, .float .f64 x5]] (gfreeze G2) fun v14 _ =>
  (ivAgg 2 v14).bind fun c15 =>
  (ivFloat .f64 (c15.getD 0 undefI)).bind fun x16 =>
  (ivFloat .f64 (c15.getD 1 undefI)).bind fun x17 =>
  k (.agg [.float .f64 x8, .float .f64 x9, .float .f64 x12, .float .f64 x13, .float .f64 x16, .float .f64 x17]) G2 := by kernel_rfl

theorem r_zg1 {R : Type} (fuel n p0_0 : Nat) (p0_1 p0_2 : Nat) (p0_3 p0_4 p0_5 : Nat) (p0_6 p0_7 : Int) (G : GH) (k : KV R) :
  runC Try.prog lo0 fuel (n + 1) 27 [.agg [.float .f64 p0_0, .float .f64 p0_1, .float .f64 p0_2, .float .f64 p0_3, .float .f64 p0_4, .float .f64 p0_5, .int .i64 p0_6, .int .i64 p0_7]] G k = bodyC Try.prog (runC Try.prog lo0 fuel n) [1, 2, 3, 777777] fuel Try.f27 [.agg [.float .f64 p0_0, .float .f64 p0_1, .float .f64 p0_2, .float .f64 p0_3, .float .f64 p0_4, .float .f64 p0_5, .int .i64 p0_6, .int .i64 p0_7]] G k := run_body Try.func27 rfl rfl

/-! ### lantern/film.off -/
theorem e_zm1 {R : Type} (O : Ora R) (fuel p0_0 : Nat) (p0_1 p1 : Nat) (G : GH) (k : KV R) :
  bodyC Try.prog O [2, 777777] fuel Try.f52 [.agg [.float .f64 p0_0, .float .f64 p0_1], .float .f64 p1] G k =
  O fn_zT [.agg [.float .f64 p0_0, .float .f64 p0_1]] G fun v1 G2 =>
  (ivBool v1).bind fun x3 =>
  bif x3 then
  O fn_zs [.int .i64 (1 : Int)] G2 fun v4 G5 =>
  (ivFloat .f64 v4).bind fun x6 =>
  k (.float .f64 x6) G5
  else
  O fn_zP [.float .f64 p0_1, .float .f64 (Op.negFloat .f64 p1), .bool false] G2 fun v7 G8 =>
  (ivTup 2 v7).bind fun c9 =>
  (ivFloat .f64 (c9.getD 0 undefI)).bind fun x10 =>
  (ivInt .i64 (c9.getD 1 undefI)).bind fun x11 =>
  O fn_zP [.float .f64 p1, .float .f64 (Op.negFloat .f64 p0_0), .bool false] G8 fun v12 G13 =>
  (ivTup 2 v12).bind fun c14 =>
  (ivFloat .f64 (c14.getD 0 undefI)).bind fun x15 =>
  (ivInt .i64 (c14.getD 1 undefI)).bind fun x16 =>
  (fmax .f64 x10 x15).bind fun r17 =>
  k (.float .f64 r17) G13 := by kernel_rfl

theorem r_zm1 {R : Type} (fuel n p0_0 : Nat) (p0_1 p1 : Nat) (G : GH) (k : KV R) :
  runC Try.prog lo0 fuel (n + 1) 52 [.agg [.float .f64 p0_0, .float .f64 p0_1], .float .f64 p1] G k = bodyC Try.prog (runC Try.prog lo0 fuel n) [2, 777777] fuel Try.f52 [.agg [.float .f64 p0_0, .float .f64 p0_1], .float .f64 p1] G k := run_body Try.func52 rfl rfl

/-! ### (*lantern/film.Film).Picture -/
def u_zz_0 {R : Type} (O : Ora R) (KN : OG → Nat → Int → Int → Int → Int → OG → Nat → Int → Int → Nat → Int → Int → Nat → Int → Int → OG → Nat → GH → Option R) (K0 : Int → Int → OG → Nat → Int → Int → Nat → Int → Int → Nat → Int → Int → OG → Nat → GH → Option R) (s34a : OG) (s34n : Nat) (s35 s36 : Int) (b0_0 b0_1 : Int) (b0_2a : OG) (b0_2n : Nat) (b1_0 b1_1 : Int) (b1_2 : Nat) (b2_0 b2_1 : Int) (b2_2 : Nat) (b3_0 b3_1 : Int) (b3_2a : OG) (b3_2n : Nat) (G : GH) : Option R :=
  bif (decide (s36 < s35)) then
  (idx? s34a s34n s36 8).bind fun a1 =>
  (ldFloat G .f64 (GA.add a1 0)).bind fun x2 =>
  (ldFloat G .f64 (GA.add a1 1)).bind fun x3 =>
  (ldFloat G .f64 (GA.add a1 2)).bind fun x4 =>
  (ldFloat G .f64 (GA.add a1 3)).bind fun x5 =>
  (ldFloat G .f64 (GA.add a1 4)).bind fun x6 =>
  (ldFloat G .f64 (GA.add a1 5)).bind fun x7 =>
  (ldInt G .i64 (GA.add a1 6)).bind fun x8 =>
  (ldInt G .i64 (GA.add a1 7)).bind fun x9 =>
  O fn_zg1 [.agg [.float .f64 x2, .float .f64 x3, .float .f64 x4, .float .f64 x5, .float .f64 x6, .float .f64 x7, .int .i64 x8, .int .i64 x9]] G fun v10 G11 =>
  (ivAgg 6 v10).bind fun c12 =>
  (ivFloat .f64 (c12.getD 0 undefI)).bind fun x13 =>
  (ivFloat .f64 (c12.getD 1 undefI)).bind fun x14 =>
  (ivFloat .f64 (c12.getD 2 undefI)).bind fun x15 =>
  (ivFloat .f64 (c12.getD 3 undefI)).bind fun x16 =>
  (ivFloat .f64 (c12.getD 4 undefI)).bind fun x17 =>
  (ivFloat .f64 (c12.getD 5 undefI)).bind fun x18 =>
  O fn_zl1 [.agg [.float .f64 x13, .float .f64 x14]] G11 fun v19 G20 =>
  (ivTup 2 v19).bind fun c21 =>
  (ivFloat .f64 (c21.getD 0 undefI)).bind fun x22 =>
  (ivFloat .f64 (c21.getD 1 undefI)).bind fun x23 =>
  O fn_zV [.float .f64 x22] G20 fun v24 G25 =>
  (ivFloat .f64 v24).bind fun x26 =>
  O fn_zm1 [.agg [.float .f64 x13, .float .f64 x14], .float .f64 x26] (gfreeze G25) fun v27 _ =>
  (ivFloat .f64 v27).bind fun x28 =>
  (fmax .f64 b2_2 x23).bind fun r29 =>
  (fmax .f64 r29 x28).bind fun r30 =>
  O fn_zl1 [.agg [.float .f64 x15, .float .f64 x16]] G25 fun v31 G32 =>
  (ivTup 2 v31).bind fun c33 =>
  (ivFloat .f64 (c33.getD 0 undefI)).bind fun x34 =>
  (ivFloat .f64 (c33.getD 1 undefI)).bind fun x35 =>
  O fn_zV [.float .f64 x34] G32 fun v36 G37 =>
  (ivFloat .f64 v36).bind fun x38 =>
  O fn_zm1 [.agg [.float .f64 x15, .float .f64 x16], .float .f64 x38] (gfreeze G37) fun v39 _ =>
  (ivFloat .f64 v39).bind fun x40 =>
  (fmax .f64 r30 x35).bind fun r41 =>
  (fmax .f64 r41 x40).bind fun r42 =>
  O fn_zl1 [.agg [.float .f64 x17, .float .f64 x18]] G37 fun v43 G44 =>
  (ivTup 2 v43).bind fun c45 =>
  (ivFloat .f64 (c45.getD 0 undefI)).bind fun x46 =>
  (ivFloat .f64 (c45.getD 1 undefI)).bind fun x47 =>
  O fn_zV [.float .f64 x46] G44 fun v48 G49 =>
  (ivFloat .f64 v48).bind fun x50 =>
  O fn_zm1 [.agg [.float .f64 x17, .float .f64 x18], .float .f64 x50] (gfreeze G49) fun v51 _ =>
  (ivFloat .f64 v51).bind fun x52 =>
  (fmax .f64 r42 x47).bind fun r53 =>
  (fmax .f64 r53 x52).bind fun r54 =>
  (grd (gnew G49 [.float .f64 x26, .float .f64 x38, .float .f64 x50] 76) (gaddr G49) (1 * 3)).bind fun x55 =>
  (gappend (gnew G49 [.float .f64 x26, .float .f64 x38, .float .f64 x50] 76) 76 3 24 b3_2a b3_2n x55 1).bind fun r56 =>
  KN s34a s34n s35 (IntKind.wrap .i64 (s36 + (1 : Int))) b0_0 b0_1 b0_2a b0_2n b1_0 b1_1 b1_2 (IntKind.wrap .i64 (b2_0 + x8)) (IntKind.wrap .i64 (b2_1 + x9)) r54 b3_0 b3_1 r56.1 (b3_2n + 1) r56.2
  else
  K0 b0_0 b0_1 b0_2a b0_2n b1_0 b1_1 b1_2 b2_0 b2_1 b2_2 b3_0 b3_1 b3_2a b3_2n G

def l_zz_0 {R : Type} (O : Ora R) (K0 : Int → Int → OG → Nat → Int → Int → Nat → Int → Int → Nat → Int → Int → OG → Nat → GH → Option R) : Nat → OG → Nat → Int → Int → Int → Int → OG → Nat → Int → Int → Nat → Int → Int → Nat → Int → Int → OG → Nat → GH → Option R
  | 0, _, _, _, _, _, _, _, _, _, _, _, _, _, _, _, _, _, _, _ => none
  | n + 1, s34a, s34n, s35, s36, b0_0, b0_1, b0_2a, b0_2n, b1_0, b1_1, b1_2, b2_0, b2_1, b2_2, b3_0, b3_1, b3_2a, b3_2n, G => u_zz_0 O (l_zz_0 O K0 n) K0 s34a s34n s35 s36 b0_0 b0_1 b0_2a b0_2n b1_0 b1_1 b1_2 b2_0 b2_1 b2_2 b3_0 b3_1 b3_2a b3_2n G

theorem u_zz_0_raw {R : Type} (O : Ora R) (fuel : Nat) (s34a : OG) (s34n : Nat) (s35 s36 : Int) (b0_0 b0_1 : Int) (b0_2a : OG) (b0_2n : Nat) (b1_0 b1_1 : Int) (b1_2 : Nat) (b2_0 b2_1 : Int) (b2_2 : Nat) (b3_0 b3_1 : Int) (b3_2a : OG) (b3_2n : Nat) (G : GH) (k : KE R) :
  loopD Try.prog O lo26 (fuel + 4) (nav (Try.f26.body.getD .skip) [1, 1, 1, 1, 1, 0, 1, 0, 0]) 28 (mkE 87 [(2, .loc 0 0), (3, .loc 1 0), (4, .loc 2 0), (7, .loc 3 0), (34, .slice s34a s34n), (35, .int .i64 s35), (36, .int .i64 s36)]) [[.int .i64 b0_0, .int .i64 b0_1, .slice b0_2a b0_2n], [.int .i64 b1_0, .int .i64 b1_1, .float .f64 b1_2], [.int .i64 b2_0, .int .i64 b2_1, .float .f64 b2_2], [.int .i64 b3_0, .int .i64 b3_1, .slice b3_2a b3_2n]] G k =
  u_zz_0 O (fun s34a s34n s35 s36 b0_0 b0_1 b0_2a b0_2n b1_0 b1_1 b1_2 b2_0 b2_1 b2_2 b3_0 b3_1 b3_2a b3_2n G => k .normal (mkE 87 [(2, .loc 0 0), (3, .loc 1 0), (4, .loc 2 0), (7, .loc 3 0), (34, .slice s34a s34n), (35, .int .i64 s35), (36, .int .i64 s36)]) [[.int .i64 b0_0, .int .i64 b0_1, .slice b0_2a b0_2n], [.int .i64 b1_0, .int .i64 b1_1, .float .f64 b1_2], [.int .i64 b2_0, .int .i64 b2_1, .float .f64 b2_2], [.int .i64 b3_0, .int .i64 b3_1, .slice b3_2a b3_2n]] G) (fun b0_0 b0_1 b0_2a b0_2n b1_0 b1_1 b1_2 b2_0 b2_1 b2_2 b3_0 b3_1 b3_2a b3_2n G => k (.exit 0) (mkE 87 [(2, .loc 0 0), (3, .loc 1 0), (4, .loc 2 0), (7, .loc 3 0)]) [[.int .i64 b0_0, .int .i64 b0_1, .slice b0_2a b0_2n], [.int .i64 b1_0, .int .i64 b1_1, .float .f64 b1_2], [.int .i64 b2_0, .int .i64 b2_1, .float .f64 b2_2], [.int .i64 b3_0, .int .i64 b3_1, .slice b3_2a b3_2n]] G) s34a s34n s35 s36 b0_0 b0_1 b0_2a b0_2n b1_0 b1_1 b1_2 b2_0 b2_1 b2_2 b3_0 b3_1 b3_2a b3_2n G := by kernel_rfl

theorem l_zz_0_eq {R : Type} (O : Ora R) (fuel : Nat) (k : KE R) : ∀ (n : Nat) (s34a : OG) (s34n : Nat) (s35 s36 : Int) (b0_0 b0_1 : Int) (b0_2a : OG) (b0_2n : Nat) (b1_0 b1_1 : Int) (b1_2 : Nat) (b2_0 b2_1 : Int) (b2_2 : Nat) (b3_0 b3_1 : Int) (b3_2a : OG) (b3_2n : Nat) (G : GH),
  loopN (loopD Try.prog O lo26 (fuel + 4) (nav (Try.f26.body.getD .skip) [1, 1, 1, 1, 1, 0, 1, 0, 0]) 28) n (mkE 87 [(2, .loc 0 0), (3, .loc 1 0), (4, .loc 2 0), (7, .loc 3 0), (34, .slice s34a s34n), (35, .int .i64 s35), (36, .int .i64 s36)]) [[.int .i64 b0_0, .int .i64 b0_1, .slice b0_2a b0_2n], [.int .i64 b1_0, .int .i64 b1_1, .float .f64 b1_2], [.int .i64 b2_0, .int .i64 b2_1, .float .f64 b2_2], [.int .i64 b3_0, .int .i64 b3_1, .slice b3_2a b3_2n]] G k = l_zz_0 O (fun b0_0 b0_1 b0_2a b0_2n b1_0 b1_1 b1_2 b2_0 b2_1 b2_2 b3_0 b3_1 b3_2a b3_2n G => k (.exit 0) (mkE 87 [(2, .loc 0 0), (3, .loc 1 0), (4, .loc 2 0), (7, .loc 3 0)]) [[.int .i64 b0_0, .int .i64 b0_1, .slice b0_2a b0_2n], [.int .i64 b1_0, .int .i64 b1_1, .float .f64 b1_2], [.int .i64 b2_0, .int .i64 b2_1, .float .f64 b2_2], [.int .i64 b3_0, .int .i64 b3_1, .slice b3_2a b3_2n]] G) n s34a s34n s35 s36 b0_0 b0_1 b0_2a b0_2n b1_0 b1_1 b1_2 b2_0 b2_1 b2_2 b3_0 b3_1 b3_2a b3_2n G := by
  intro n
  induction n with
  | zero => intros; rfl
  | succ n ih =>
    intros
    rw [loopN_succ, u_zz_0_raw]
    simp only [l_zz_0, loopK_normal, loopK_exit, loopK_ret, ih]

def u_zz {R : Type} (O : Ora R) (k : KV R) (L0 : OG → Nat → Int → Int → Int → Int → OG → Nat → Int → Int → Nat → Int → Int → Nat → Int → Int → OG → Nat → GH → Option R) (p0 : GA) (G : GH) : Option R :=
  (ldPtr G (GA.add p0 0)).bind fun x1 =>
  O fn_zj1 [.ptr x1] G fun v2 G3 =>
  (ivTup 2 v2).bind fun c4 =>
  (ivInt .i64 (c4.getD 0 undefI)).bind fun x5 =>
  (ivInt .i64 (c4.getD 1 undefI)).bind fun x6 =>
  (ldPtr G3 (GA.add p0 0)).bind fun x7 =>
  O fn_zG1 [.ptr x7] G3 fun v8 G9 =>
  (ivSlice v8).bind fun x10 =>
  L0 x10.1 x10.2 (x10.2 : Int) (0 : Int) (0 : Int) (0 : Int) none 0 (0 : Int) (0 : Int) (0 : Nat) (0 : Int) (0 : Int) (0 : Nat) x5 x6 none 0 G9

def a_zz_00 {R : Type} (O : Ora R) (k : KV R) (b0_0 b0_1 : Int) (b0_2a : OG) (b0_2n : Nat) (b1_0 b1_1 : Int) (b1_2 : Nat) (b2_0 b2_1 : Int) (b2_2 : Nat) (b3_0 b3_1 : Int) (b3_2a : OG) (b3_2n : Nat) (G : GH) : Option R :=
  k (.tuple [.agg [.int .i64 b3_0, .int .i64 b3_1, .slice b3_2a b3_2n], .agg [.int .i64 b2_0, .int .i64 b2_1, .float .f64 b2_2]]) G

def L_zz_0 {R : Type} (O : Ora R) (fuel : Nat) (k : KV R) : OG → Nat → Int → Int → Int → Int → OG → Nat → Int → Int → Nat → Int → Int → Nat → Int → Int → OG → Nat → GH → Option R := fun s34a s34n s35 s36 b0_0 b0_1 b0_2a b0_2n b1_0 b1_1 b1_2 b2_0 b2_1 b2_2 b3_0 b3_1 b3_2a b3_2n G =>
  l_zz_0 O (a_zz_00 O k) fuel s34a s34n s35 s36 b0_0 b0_1 b0_2a b0_2n b1_0 b1_1 b1_2 b2_0 b2_1 b2_2 b3_0 b3_1 b3_2a b3_2n G

theorem a_zz_00_raw {R : Type} (O : Ora R) (fuel : Nat) (b0_0 b0_1 : Int) (b0_2a : OG) (b0_2n : Nat) (b1_0 b1_1 : Int) (b1_2 : Nat) (b2_0 b2_1 : Int) (b2_2 : Nat) (b3_0 b3_1 : Int) (b3_2a : OG) (b3_2n : Nat) (G : GH) (k : KV R) :
  contC Try.prog O lo26 fuel (Try.f26.body.getD .skip) [1, 1, 1, 1, 1, 0, 1, 0] (fun e env F G => match e with | .exit _ => none | _ => resC Try.prog Try.f26 env F G k) (.exit 0) (mkE 87 [(2, .loc 0 0), (3, .loc 1 0), (4, .loc 2 0), (7, .loc 3 0)]) [[.int .i64 b0_0, .int .i64 b0_1, .slice b0_2a b0_2n], [.int .i64 b1_0, .int .i64 b1_1, .float .f64 b1_2], [.int .i64 b2_0, .int .i64 b2_1, .float .f64 b2_2], [.int .i64 b3_0, .int .i64 b3_1, .slice b3_2a b3_2n]] G =
  a_zz_00 O k b0_0 b0_1 b0_2a b0_2n b1_0 b1_1 b1_2 b2_0 b2_1 b2_2 b3_0 b3_1 b3_2a b3_2n G := by kernel_rfl

theorem L_zz_0_eq {R : Type} (O : Ora R) (fuel : Nat) (k : KV R) :
  (fun (s34a : OG) (s34n : Nat) (s35 s36 : Int) (b0_0 b0_1 : Int) (b0_2a : OG) (b0_2n : Nat) (b1_0 b1_1 : Int) (b1_2 : Nat) (b2_0 b2_1 : Int) (b2_2 : Nat) (b3_0 b3_1 : Int) (b3_2a : OG) (b3_2n : Nat) (G : GH) => loopN (loopD Try.prog O lo26 (fuel + 4) (nav (Try.f26.body.getD .skip) [1, 1, 1, 1, 1, 0, 1, 0, 0]) 28) (fuel + 4) (mkE 87 [(2, .loc 0 0), (3, .loc 1 0), (4, .loc 2 0), (7, .loc 3 0), (34, .slice s34a s34n), (35, .int .i64 s35), (36, .int .i64 s36)]) [[.int .i64 b0_0, .int .i64 b0_1, .slice b0_2a b0_2n], [.int .i64 b1_0, .int .i64 b1_1, .float .f64 b1_2], [.int .i64 b2_0, .int .i64 b2_1, .float .f64 b2_2], [.int .i64 b3_0, .int .i64 b3_1, .slice b3_2a b3_2n]] G (contC Try.prog O lo26 (fuel + 4) (Try.f26.body.getD .skip) [1, 1, 1, 1, 1, 0, 1, 0] (fun e env F G => match e with | .exit _ => none | _ => resC Try.prog Try.f26 env F G k))) = L_zz_0 O (fuel + 4) k := by
  funext s34a s34n s35 s36 b0_0 b0_1 b0_2a b0_2n b1_0 b1_1 b1_2 b2_0 b2_1 b2_2 b3_0 b3_1 b3_2a b3_2n G
  simp only [L_zz_0, l_zz_0_eq, a_zz_00_raw]

theorem e_zz_raw {R : Type} (O : Ora R) (fuel : Nat) (p0 : GA) (G : GH) (k : KV R) :
  bodyC Try.prog O lo26 fuel Try.f26 [.ptr (some p0)] G k =
  u_zz O k (fun s34a s34n s35 s36 b0_0 b0_1 b0_2a b0_2n b1_0 b1_1 b1_2 b2_0 b2_1 b2_2 b3_0 b3_1 b3_2a b3_2n G => loopN (loopD Try.prog O lo26 fuel (nav (Try.f26.body.getD .skip) [1, 1, 1, 1, 1, 0, 1, 0, 0]) 28) fuel (mkE 87 [(2, .loc 0 0), (3, .loc 1 0), (4, .loc 2 0), (7, .loc 3 0), (34, .slice s34a s34n), (35, .int .i64 s35), (36, .int .i64 s36)]) [[.int .i64 b0_0, .int .i64 b0_1, .slice b0_2a b0_2n], [.int .i64 b1_0, .int .i64 b1_1, .float .f64 b1_2], [.int .i64 b2_0, .int .i64 b2_1, .float .f64 b2_2], [.int .i64 b3_0, .int .i64 b3_1, .slice b3_2a b3_2n]] G (contC Try.prog O lo26 fuel (Try.f26.body.getD .skip) [1, 1, 1, 1, 1, 0, 1, 0] (fun e env F G => match e with | .exit _ => none | _ => resC Try.prog Try.f26 env F G k))) p0 G := by kernel_rfl

theorem e_zz {R : Type} (O : Ora R) (fuel : Nat) (p0 : GA) (G : GH) (k : KV R) :
  bodyC Try.prog O lo26 (fuel + 4) Try.f26 [.ptr (some p0)] G k =
  u_zz O k (L_zz_0 O (fuel + 4) k) p0 G := by
  rw [e_zz_raw, L_zz_0_eq]

theorem r_zz {R : Type} (fuel n : Nat) (p0 : GA) (G : GH) (k : KV R) :
  runC Try.prog lo0 fuel (n + 1) 26 [.ptr (some p0)] G k = bodyC Try.prog (runC Try.prog lo0 fuel n) lo26 fuel Try.f26 [.ptr (some p0)] G k := run_body Try.func26 rfl rfl

/-! ### (*lantern/image.Image[lantern/api.Pixel]).Pix -/
theorem e_zG1 {R : Type} (O : Ora R) (fuel : Nat) (p0 : GA) (G : GH) (k : KV R) :
  bodyC Try.prog O [777777] fuel Try.f50 [.ptr (some p0)] G k =
  (ldSlice G (GA.add p0 2)).bind fun x1 =>
  O fn_zM1 [.slice x1.1 x1.2] G fun v2 G3 =>
  (ivSlice v2).bind fun x4 =>
  k (.slice x4.1 x4.2) G3 := by kernel_rfl

theorem r_zG1 {R : Type} (fuel n : Nat) (p0 : GA) (G : GH) (k : KV R) :
  runC Try.prog lo0 fuel (n + 1) 50 [.ptr (some p0)] G k = bodyC Try.prog (runC Try.prog lo0 fuel n) [777777] fuel Try.f50 [.ptr (some p0)] G k := run_body Try.func50 rfl rfl

/-! ### slices.Clone[[]lantern/api.Pixel,lantern/api.Pixel] -/
theorem e_zM1 {R : Type} (O : Ora R) (fuel : Nat) (p0a : OG) (p0n : Nat) (G : GH) (k : KV R) :
  bodyC Try.prog O [777777] fuel Try.f67 [.slice p0a p0n] G k =
  bif p0a.isNone then
  k (.slice none 0) G
  else
  (grdO (gnew G [] 54) p0a p0n 8).bind fun x1 =>
  (gappend (gnew G [] 54) 54 8 64 (some (gaddr G)) 0 x1 p0n).bind fun r2 =>
  k (.slice r2.1 (0 + p0n)) r2.2 := by kernel_rfl

theorem r_zM1 {R : Type} (fuel n : Nat) (p0a : OG) (p0n : Nat) (G : GH) (k : KV R) :
  runC Try.prog lo0 fuel (n + 1) 67 [.slice p0a p0n] G k = bodyC Try.prog (runC Try.prog lo0 fuel n) [777777] fuel Try.f67 [.slice p0a p0n] G k := run_body Try.func67 rfl rfl

/-! ### lantern/lanternref19.Mean -/
theorem e_zv1 {R : Type} (O : Ora R) (fuel p0_0 : Nat) (p0_1 p0_2 : Nat) (p0_3 p0_4 p0_5 : Nat) (p0_6 p0_7 : Int) (G : GH) (k : KV R) :
  bodyC Try.prog O [1, 2, 777777] fuel Try.f30 [.agg [.float .f64 p0_0, .float .f64 p0_1, .float .f64 p0_2, .float .f64 p0_3, .float .f64 p0_4, .float .f64 p0_5, .int .i64 p0_6, .int .i64 p0_7]] G k =
  bif (decide (p0_6 < (1 : Int))) then
  k (.agg [.float .f64 (0 : Nat), .float .f64 (0 : Nat), .float .f64 (0 : Nat), .float .f64 (0 : Nat), .float .f64 (0 : Nat), .float .f64 (0 : Nat)]) G
  else
  O fn_zJ1 [.float .f64 (FloatKind.nearest .f64 p0_6)] (gfreeze G) fun v1 _ =>
  (ivAgg 2 v1).bind fun c2 =>
  (ivFloat .f64 (c2.getD 0 undefI)).bind fun x3 =>
  (ivFloat .f64 (c2.getD 1 undefI)).bind fun x4 =>
  O fn_zI1 [.agg [.float .f64 p0_0, .float .f64 p0_1, .float .f64 p0_2, .float .f64 p0_3, .float .f64 p0_4, .float .f64 p0_5], .agg [.float .f64 x3, .float .f64 x4]] (gfreeze G) fun v5 _ =>
  (ivAgg 6 v5).bind fun c6 =>
  (ivFloat .f64 (c6.getD 0 undefI)).bind fun x7 =>
  (ivFloat .f64 (c6.getD 1 undefI)).bind fun x8 =>
  (ivFloat .f64 (c6.getD 2 undefI)).bind fun x9 =>
  (ivFloat .f64 (c6.getD 3 undefI)).bind fun x10 =>
  (ivFloat .f64 (c6.getD 4 undefI)).bind fun x11 =>
  (ivFloat .f64 (c6.getD 5 undefI)).bind fun x12 =>
  k (.agg [.float .f64 x7, .float .f64 x8, .float .f64 x9, .float .f64 x10, .float .f64 x11, .float .f64 x12]) G := by kernel_rfl

theorem r_zv1 {R : Type} (fuel n p0_0 : Nat) (p0_1 p0_2 : Nat) (p0_3 p0_4 p0_5 : Nat) (p0_6 p0_7 : Int) (G : GH) (k : KV R) :
  runC Try.prog lo0 fuel (n + 1) 30 [.agg [.float .f64 p0_0, .float .f64 p0_1, .float .f64 p0_2, .float .f64 p0_3, .float .f64 p0_4, .float .f64 p0_5, .int .i64 p0_6, .int .i64 p0_7]] G k = bodyC Try.prog (runC Try.prog lo0 fuel n) [1, 2, 777777] fuel Try.f30 [.agg [.float .f64 p0_0, .float .f64 p0_1, .float .f64 p0_2, .float .f64 p0_3, .float .f64 p0_4, .float .f64 p0_5, .int .i64 p0_6, .int .i64 p0_7]] G k := run_body Try.func30 rfl rfl

/-! ### lantern/lanternref19.off -/
theorem e_zq1 {R : Type} (O : Ora R) (fuel p0_0 : Nat) (p0_1 p1 : Nat) (G : GH) (k : KV R) :
  bodyC Try.prog O [2, 777777] fuel Try.f61 [.agg [.float .f64 p0_0, .float .f64 p0_1], .float .f64 p1] G k =
  O fn_zI [.agg [.float .f64 p0_0, .float .f64 p0_1]] G fun v1 G2 =>
  (ivBool v1).bind fun x3 =>
  bif x3 then
  O fn_zK [] G2 fun v4 G5 =>
  (ivFloat .f64 v4).bind fun x6 =>
  k (.float .f64 x6) G5
  else
  O fn_zf [.float .f64 p0_1, .float .f64 (Op.negFloat .f64 p1), .bool false] G2 fun v7 G8 =>
  (ivTup 2 v7).bind fun c9 =>
  (ivFloat .f64 (c9.getD 0 undefI)).bind fun x10 =>
  (ivInt .i64 (c9.getD 1 undefI)).bind fun x11 =>
  O fn_zf [.float .f64 p1, .float .f64 (Op.negFloat .f64 p0_0), .bool false] G8 fun v12 G13 =>
  (ivTup 2 v12).bind fun c14 =>
  (ivFloat .f64 (c14.getD 0 undefI)).bind fun x15 =>
  (ivInt .i64 (c14.getD 1 undefI)).bind fun x16 =>
  O fn_zL [.float .f64 x10, .float .f64 x15] G13 fun v17 G18 =>
  (ivFloat .f64 v17).bind fun x19 =>
  k (.float .f64 x19) G18 := by kernel_rfl

theorem r_zq1 {R : Type} (fuel n p0_0 : Nat) (p0_1 p1 : Nat) (G : GH) (k : KV R) :
  runC Try.prog lo0 fuel (n + 1) 61 [.agg [.float .f64 p0_0, .float .f64 p0_1], .float .f64 p1] G k = bodyC Try.prog (runC Try.prog lo0 fuel n) [2, 777777] fuel Try.f61 [.agg [.float .f64 p0_0, .float .f64 p0_1], .float .f64 p1] G k := run_body Try.func61 rfl rfl

end Go.LI.Film
