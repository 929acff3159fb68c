/- What the interpreter gives for FilmAdds (written by rnd.py). -/
import Derived.Test.YtmhoddmenfondaaSeatA
namespace Go.LI.Film
open Go.Proofs.Ytmhoddmenfondaa Go Go.Proofs Go.LI
set_option maxRecDepth 100000
set_option linter.unusedVariables false
set_option linter.unusedSimpArgs false
/-! ### lantern/lanternlaw19.FilmAdds -/
def u_zx_0 {R : Type} (O : Ora R) (Kret : Bool → GH → Option R) (KN : Int → Int → OG → OG → Nat → Int → Int → GH → Option R) (K0 : Int → Int → OG → OG → Nat → GH → Option R) (s0 s1 : Int) (s7 s8a : OG) (s8n : Nat) (s43 s44 : Int) (G : GH) : Option R :=
  bif (decide (s44 < s43)) then
  bif s0 == 0 then none else
  bif s0 == 0 then none else
  O fn_zW [.ptr s7, .int .i64 (Int.tmod s44 s0), .int .i64 (IntKind.wrap .i64 (Int.tdiv s44 s0))] G fun v1 G2 =>
  (ivTup 2 v1).bind fun c3 =>
  (ivAgg 8 (c3.getD 0 undefI)).bind fun c4 =>
  (ivFloat .f64 (c4.getD 0 undefI)).bind fun x5 =>
  (ivFloat .f64 (c4.getD 1 undefI)).bind fun x6 =>
  (ivFloat .f64 (c4.getD 2 undefI)).bind fun x7 =>
  (ivFloat .f64 (c4.getD 3 undefI)).bind fun x8 =>
  (ivFloat .f64 (c4.getD 4 undefI)).bind fun x9 =>
  (ivFloat .f64 (c4.getD 5 undefI)).bind fun x10 =>
  (ivInt .i64 (c4.getD 6 undefI)).bind fun x11 =>
  (ivInt .i64 (c4.getD 7 undefI)).bind fun x12 =>
  (ivInt .i64 (c3.getD 1 undefI)).bind fun x13 =>
  bif (x13 != (0 : Int)) then
  Kret false G2
  else
  (idx? s8a s8n s44 8).bind fun a14 =>
  (ldFloat G2 .f64 (GA.add a14 0)).bind fun x15 =>
  (ldFloat G2 .f64 (GA.add a14 1)).bind fun x16 =>
  (ldFloat G2 .f64 (GA.add a14 2)).bind fun x17 =>
  (ldFloat G2 .f64 (GA.add a14 3)).bind fun x18 =>
  (ldFloat G2 .f64 (GA.add a14 4)).bind fun x19 =>
  (ldFloat G2 .f64 (GA.add a14 5)).bind fun x20 =>
  (ldInt G2 .i64 (GA.add a14 6)).bind fun x21 =>
  (ldInt G2 .i64 (GA.add a14 7)).bind fun x22 =>
  O fn_zf1 [.agg [.float .f64 x5, .float .f64 x6, .float .f64 x7, .float .f64 x8, .float .f64 x9, .float .f64 x10, .int .i64 x11, .int .i64 x12], .agg [.float .f64 x15, .float .f64 x16, .float .f64 x17, .float .f64 x18, .float .f64 x19, .float .f64 x20, .int .i64 x21, .int .i64 x22]] (gfreeze G2) fun v23 _ =>
  (ivBool v23).bind fun x24 =>
  bif (!x24) then
  Kret false G2
  else
  O fn_zg1 [.agg [.float .f64 x5, .float .f64 x6, .float .f64 x7, .float .f64 x8, .float .f64 x9, .float .f64 x10, .int .i64 x11, .int .i64 x12]] (gfreeze G2) fun v25 _ =>
  (ivAgg 6 v25).bind fun c26 =>
  (ivFloat .f64 (c26.getD 0 undefI)).bind fun x27 =>
  (ivFloat .f64 (c26.getD 1 undefI)).bind fun x28 =>
  (ivFloat .f64 (c26.getD 2 undefI)).bind fun x29 =>
  (ivFloat .f64 (c26.getD 3 undefI)).bind fun x30 =>
  (ivFloat .f64 (c26.getD 4 undefI)).bind fun x31 =>
  (ivFloat .f64 (c26.getD 5 undefI)).bind fun x32 =>
  (idx? s8a s8n s44 8).bind fun a33 =>
  (ldFloat G2 .f64 (GA.add a33 0)).bind fun x34 =>
  (ldFloat G2 .f64 (GA.add a33 1)).bind fun x35 =>
  (ldFloat G2 .f64 (GA.add a33 2)).bind fun x36 =>
  (ldFloat G2 .f64 (GA.add a33 3)).bind fun x37 =>
  (ldFloat G2 .f64 (GA.add a33 4)).bind fun x38 =>
  (ldFloat G2 .f64 (GA.add a33 5)).bind fun x39 =>
  (ldInt G2 .i64 (GA.add a33 6)).bind fun x40 =>
  (ldInt G2 .i64 (GA.add a33 7)).bind fun x41 =>
  O fn_zv1 [.agg [.float .f64 x34, .float .f64 x35, .float .f64 x36, .float .f64 x37, .float .f64 x38, .float .f64 x39, .int .i64 x40, .int .i64 x41]] (gfreeze G2) fun v42 _ =>
  (ivAgg 6 v42).bind fun c43 =>
  (ivFloat .f64 (c43.getD 0 undefI)).bind fun x44 =>
  (ivFloat .f64 (c43.getD 1 undefI)).bind fun x45 =>
  (ivFloat .f64 (c43.getD 2 undefI)).bind fun x46 =>
  (ivFloat .f64 (c43.getD 3 undefI)).bind fun x47 =>
  (ivFloat .f64 (c43.getD 4 undefI)).bind fun x48 =>
  (ivFloat .f64 (c43.getD 5 undefI)).bind fun x49 =>
  O fn_zu1 [.agg [.float .f64 x27, .float .f64 x28, .float .f64 x29, .float .f64 x30, .float .f64 x31, .float .f64 x32], .agg [.float .f64 x44, .float .f64 x45, .float .f64 x46, .float .f64 x47, .float .f64 x48, .float .f64 x49]] (gfreeze G2) fun v50 _ =>
  (ivBool v50).bind fun x51 =>
  bif (!x51) then
  Kret false G2
  else
  KN s0 s1 s7 s8a s8n s43 (IntKind.wrap .i64 (s44 + (1 : Int))) G2
  else
  K0 s0 s1 s7 s8a s8n G

def l_zx_0 {R : Type} (O : Ora R) (Kret : Bool → GH → Option R) (K0 : Int → Int → OG → OG → Nat → GH → Option R) : Nat → Int → Int → OG → OG → Nat → Int → Int → GH → Option R
  | 0, _, _, _, _, _, _, _, _ => none
  | n + 1, s0, s1, s7, s8a, s8n, s43, s44, G => u_zx_0 O Kret (l_zx_0 O Kret K0 n) K0 s0 s1 s7 s8a s8n s43 s44 G

theorem u_zx_0_raw {R : Type} (O : Ora R) (fuel : Nat) (s0 s1 : Int) (s7 s8a : OG) (s8n : Nat) (s43 s44 : Int) (G : GH) (k : KE R) :
  loopD Try.prog O lo8 fuel (nav (Try.f8.body.getD .skip) [1, 1, 1, 1, 1, 1, 0, 1, 0, 0]) 40 (mkE 101 [(0, .int .i64 s0), (1, .int .i64 s1), (7, .ptr s7), (8, .slice s8a s8n), (43, .int .i64 s43), (44, .int .i64 s44)]) [] G k =
  u_zx_0 O (fun s6 G => k .ret (mkE 101 [(6, .bool s6)]) [] G) (fun s0 s1 s7 s8a s8n s43 s44 G => k .normal (mkE 101 [(0, .int .i64 s0), (1, .int .i64 s1), (7, .ptr s7), (8, .slice s8a s8n), (43, .int .i64 s43), (44, .int .i64 s44)]) [] G) (fun s0 s1 s7 s8a s8n G => k (.exit 0) (mkE 101 [(0, .int .i64 s0), (1, .int .i64 s1), (7, .ptr s7), (8, .slice s8a s8n)]) [] G) s0 s1 s7 s8a s8n s43 s44 G := by kernel_rfl

theorem l_zx_0_eq {R : Type} (O : Ora R) (fuel : Nat) (k : KE R) : ∀ (n : Nat) (s0 s1 : Int) (s7 s8a : OG) (s8n : Nat) (s43 s44 : Int) (G : GH),
  loopN (loopD Try.prog O lo8 fuel (nav (Try.f8.body.getD .skip) [1, 1, 1, 1, 1, 1, 0, 1, 0, 0]) 40) n (mkE 101 [(0, .int .i64 s0), (1, .int .i64 s1), (7, .ptr s7), (8, .slice s8a s8n), (43, .int .i64 s43), (44, .int .i64 s44)]) [] G k = l_zx_0 O (fun s6 G => k .ret (mkE 101 [(6, .bool s6)]) [] G) (fun s0 s1 s7 s8a s8n G => k (.exit 0) (mkE 101 [(0, .int .i64 s0), (1, .int .i64 s1), (7, .ptr s7), (8, .slice s8a s8n)]) [] G) n s0 s1 s7 s8a s8n s43 s44 G := by
  intro n
  induction n with
  | zero => intros; simp only [loopN, l_zx_0]
  | succ n ih =>
    intros
    rw [loopN_succ, u_zx_0_raw]
    simp only [l_zx_0, loopK_normal, loopK_exit, loopK_ret, ih]

def u_zx {R : Type} (O : Ora R) (k : KV R) (L0 : Int → Int → OG → OG → Nat → Int → Int → GH → Option R) (p0 p1 : Int) (p2a : OG) (p2n : Nat) (G : GH) : Option R :=
  O fn_ze1 [] G fun v1 G2 =>
  (ivBool v1).bind fun x3 =>
  bif (!x3) then
  k (.bool false) G2
  else
  O fn_zu [.slice p2a p2n] G2 fun v4 G5 =>
  (ivBool v4).bind fun x6 =>
  bif (!x6) then
  k (.bool true) G5
  else
  O fn_zg [.int .i64 (IntKind.wrap .i64 ((1 : Int) + (IntKind.wrap .i64 (Int.tmod (IntKind.wrap .u64 p0) (6 : Int))))), .int .i64 (IntKind.wrap .i64 ((1 : Int) + (IntKind.wrap .i64 (Int.tmod (IntKind.wrap .u64 p1) (6 : Int))))), .slice p2a p2n] G5 fun v7 G8 =>
  (ivTup 3 v7).bind fun c9 =>
  (ivPtr (c9.getD 0 undefI)).bind fun x10 =>
  (ivSlice (c9.getD 1 undefI)).bind fun x11 =>
  (ivBool (c9.getD 2 undefI)).bind fun x12 =>
  bif (!x12) then
  k (.bool false) G8
  else
  L0 (IntKind.wrap .i64 ((1 : Int) + (IntKind.wrap .i64 (Int.tmod (IntKind.wrap .u64 p0) (6 : Int))))) (IntKind.wrap .i64 ((1 : Int) + (IntKind.wrap .i64 (Int.tmod (IntKind.wrap .u64 p1) (6 : Int))))) x10 x11.1 x11.2 (x11.2 : Int) (0 : Int) G8

def a_zx_0ret {R : Type} (O : Ora R) (k : KV R) (s6 : Bool) (G : GH) : Option R :=
  k (.bool s6) G

def a_zx_00 {R : Type} (O : Ora R) (k : KV R) (s0 s1 : Int) (s7 s8a : OG) (s8n : Nat) (G : GH) : Option R :=
  O fn_zz [.ptr s7] G fun v1 G2 =>
  (ivTup 2 v1).bind fun c3 =>
  (ivAgg 3 (c3.getD 0 undefI)).bind fun c4 =>
  (ivInt .i64 (c4.getD 0 undefI)).bind fun x5 =>
  (ivInt .i64 (c4.getD 1 undefI)).bind fun x6 =>
  (ivSlice (c4.getD 2 undefI)).bind fun x7 =>
  (ivAgg 3 (c3.getD 1 undefI)).bind fun c8 =>
  (ivInt .i64 (c8.getD 0 undefI)).bind fun x9 =>
  (ivInt .i64 (c8.getD 1 undefI)).bind fun x10 =>
  (ivFloat .f64 (c8.getD 2 undefI)).bind fun x11 =>
  O fn_zC [.int .i64 s0, .int .i64 s1, .slice s8a s8n] G2 fun v12 G13 =>
  (ivTup 2 v12).bind fun c14 =>
  (ivAgg 3 (c14.getD 0 undefI)).bind fun c15 =>
  (ivInt .i64 (c15.getD 0 undefI)).bind fun x16 =>
  (ivInt .i64 (c15.getD 1 undefI)).bind fun x17 =>
  (ivSlice (c15.getD 2 undefI)).bind fun x18 =>
  (ivAgg 3 (c14.getD 1 undefI)).bind fun c19 =>
  (ivInt .i64 (c19.getD 0 undefI)).bind fun x20 =>
  (ivInt .i64 (c19.getD 1 undefI)).bind fun x21 =>
  (ivFloat .f64 (c19.getD 2 undefI)).bind fun x22 =>
  O fn_zm [.agg [.int .i64 x5, .int .i64 x6, .slice x7.1 x7.2], .agg [.int .i64 x16, .int .i64 x17, .slice x18.1 x18.2]] G13 fun v23 G24 =>
  (ivBool v23).bind fun x25 =>
  bif x25 then
  O fn_zh1 [.agg [.int .i64 x9, .int .i64 x10, .float .f64 x11], .agg [.int .i64 x20, .int .i64 x21, .float .f64 x22]] G24 fun v26 G27 =>
  (ivBool v26).bind fun x28 =>
  k (.bool x28) G27
  else
  k (.bool false) G24

def L_zx_0 {R : Type} (O : Ora R) (fuel : Nat) (k : KV R) : Int → Int → OG → OG → Nat → Int → Int → GH → Option R := fun s0 s1 s7 s8a s8n s43 s44 G =>
  l_zx_0 O (a_zx_0ret O k) (a_zx_00 O k) fuel s0 s1 s7 s8a s8n s43 s44 G

theorem a_zx_0ret_raw {R : Type} (O : Ora R) (fuel : Nat) (s6 : Bool) (G : GH) (k : KV R) :
  contC Try.prog O lo8 fuel (Try.f8.body.getD .skip) [1, 1, 1, 1, 1, 1, 0, 1, 0] (fun e env F G => match e with | .exit _ => none | _ => resC Try.prog Try.f8 env F G k) .ret (mkE 101 [(6, .bool s6)]) [] G =
  a_zx_0ret O k s6 G := by kernel_rfl

theorem a_zx_00_raw {R : Type} (O : Ora R) (fuel : Nat) (s0 s1 : Int) (s7 s8a : OG) (s8n : Nat) (G : GH) (k : KV R) :
  contC Try.prog O lo8 fuel (Try.f8.body.getD .skip) [1, 1, 1, 1, 1, 1, 0, 1, 0] (fun e env F G => match e with | .exit _ => none | _ => resC Try.prog Try.f8 env F G k) (.exit 0) (mkE 101 [(0, .int .i64 s0), (1, .int .i64 s1), (7, .ptr s7), (8, .slice s8a s8n)]) [] G =
  a_zx_00 O k s0 s1 s7 s8a s8n G := by kernel_rfl

theorem L_zx_0_eq {R : Type} (O : Ora R) (fuel : Nat) (k : KV R) :
  (fun (s0 s1 : Int) (s7 s8a : OG) (s8n : Nat) (s43 s44 : Int) (G : GH) => loopN (loopD Try.prog O lo8 fuel (nav (Try.f8.body.getD .skip) [1, 1, 1, 1, 1, 1, 0, 1, 0, 0]) 40) fuel (mkE 101 [(0, .int .i64 s0), (1, .int .i64 s1), (7, .ptr s7), (8, .slice s8a s8n), (43, .int .i64 s43), (44, .int .i64 s44)]) [] G (contC Try.prog O lo8 fuel (Try.f8.body.getD .skip) [1, 1, 1, 1, 1, 1, 0, 1, 0] (fun e env F G => match e with | .exit _ => none | _ => resC Try.prog Try.f8 env F G k))) = L_zx_0 O fuel k := by
  funext s0 s1 s7 s8a s8n s43 s44 G
  simp only [L_zx_0, l_zx_0_eq, a_zx_0ret_raw, a_zx_00_raw]

theorem e_zx_raw {R : Type} (O : Ora R) (fuel : Nat) (p0 p1 : Int) (p2a : OG) (p2n : Nat) (G : GH) (k : KV R) :
  bodyC Try.prog O lo8 fuel Try.f8 [.int .i64 p0, .int .i64 p1, .slice p2a p2n] G k =
  u_zx O k (fun s0 s1 s7 s8a s8n s43 s44 G => loopN (loopD Try.prog O lo8 fuel (nav (Try.f8.body.getD .skip) [1, 1, 1, 1, 1, 1, 0, 1, 0, 0]) 40) fuel (mkE 101 [(0, .int .i64 s0), (1, .int .i64 s1), (7, .ptr s7), (8, .slice s8a s8n), (43, .int .i64 s43), (44, .int .i64 s44)]) [] G (contC Try.prog O lo8 fuel (Try.f8.body.getD .skip) [1, 1, 1, 1, 1, 1, 0, 1, 0] (fun e env F G => match e with | .exit _ => none | _ => resC Try.prog Try.f8 env F G k))) p0 p1 p2a p2n G := by kernel_rfl

theorem e_zx {R : Type} (O : Ora R) (fuel : Nat) (p0 p1 : Int) (p2a : OG) (p2n : Nat) (G : GH) (k : KV R) :
  bodyC Try.prog O lo8 fuel Try.f8 [.int .i64 p0, .int .i64 p1, .slice p2a p2n] G k =
  u_zx O k (L_zx_0 O fuel k) p0 p1 p2a p2n G := by
  rw [e_zx_raw, L_zx_0_eq]

theorem r_zx {R : Type} (fuel n : Nat) (p0 p1 : Int) (p2a : OG) (p2n : Nat) (G : GH) (k : KV R) :
  runC Try.prog lo0 fuel (n + 1) 8 [.int .i64 p0, .int .i64 p1, .slice p2a p2n] G k = bodyC Try.prog (runC Try.prog lo0 fuel n) lo8 fuel Try.f8 [.int .i64 p0, .int .i64 p1, .slice p2a p2n] G k := run_body Try.func8 rfl rfl

end Go.LI.Film
