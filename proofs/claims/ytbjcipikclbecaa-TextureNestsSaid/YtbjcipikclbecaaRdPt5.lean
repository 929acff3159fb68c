/- What the interpreter gives for textures: Nests (written by tex.py). -/
import Derived.Test.YtbjcipikclbecaaRdPt4
namespace Go.LI.Film
open Go.Proofs.Ytbjcipikclbecaa Go Go.Proofs Go.LI
set_option maxRecDepth 100000
set_option linter.unusedVariables false
set_option linter.unusedSimpArgs false
/-! ### lantern/lanternlaw02.inner -/
def u_zs_0 {R : Type} (O : Ora R) (KN : Nat → Bool → Nat → Nat → GH → Option R) (s1 b0_0 b0_1 : Nat) (G : GH) : Option R :=
  O fn_zH [.agg [.float .f64 b0_0, .float .f64 b0_1]] G fun v1 G2 =>
  (ivBool v1).bind fun x3 =>
  bif x3 then
  KN s1 true b0_0 b0_1 G2
  else
  bif (fge .f64 s1 (0 : Nat)) then
  KN s1 (!(fle .f64 s1 (4607182418800017408 : Nat))) b0_0 b0_1 G2
  else
  KN s1 true b0_0 b0_1 G2

def l_zs_0 {R : Type} (O : Ora R) (KN : Nat → Bool → Nat → Nat → GH → Option R) : Nat → Nat → Nat → GH → Option R := fun s1 b0_0 b0_1 G => u_zs_0 O KN s1 b0_0 b0_1 G

theorem u_zs_0_raw {R : Type} (O : Ora R) (fuel s1 : Nat) (b0_0 b0_1 : Nat) (G : GH) (k : KE R) :
  loopD Try.prog O lo29 fuel (nav (Try.f29.body.getD .skip) [1, 0, 0]) 11 (mkE 40 [(1, .float .f64 s1), (2, .loc 0 0)]) [[.float .f64 b0_0, .float .f64 b0_1]] G k =
  u_zs_0 O (fun s1 s16 b0_0 b0_1 G => k .normal (mkE 40 [(1, .float .f64 s1), (2, .loc 0 0), (16, .bool s16)]) [[.float .f64 b0_0, .float .f64 b0_1]] G) s1 b0_0 b0_1 G := by kernel_rfl

theorem l_zs_0_eq {R : Type} (O : Ora R) (fuel : Nat) (k : KE R) : ∀ (s1 b0_0 b0_1 : Nat) (G : GH),
  loopD Try.prog O lo29 fuel (nav (Try.f29.body.getD .skip) [1, 0, 0]) 11 (mkE 40 [(1, .float .f64 s1), (2, .loc 0 0)]) [[.float .f64 b0_0, .float .f64 b0_1]] G k = l_zs_0 O (fun s1 s16 b0_0 b0_1 G => k .normal (mkE 40 [(1, .float .f64 s1), (2, .loc 0 0), (16, .bool s16)]) [[.float .f64 b0_0, .float .f64 b0_1]] G) s1 b0_0 b0_1 G := by
  intros
  rw [u_zs_0_raw]
  simp only [l_zs_0]

def u_zs {R : Type} (O : Ora R) (k : KV R) (L0 : Nat → Nat → Nat → GH → Option R) (p0_0 p0_1 p1 : Nat) (G : GH) : Option R :=
  L0 p1 p0_0 p0_1 G

def a_zs_0N {R : Type} (O : Ora R) (k : KV R) (s1 : Nat) (s16 : Bool) (b0_0 b0_1 : Nat) (G : GH) : Option R :=
  bif s16 then
  O fn_zM [.float .f64 (4607182418800017408 : Nat), .float .f64 b0_1] (gfreeze G) fun v1 _ =>
  (ivFloat .f64 v1).bind fun x2 =>
  O fn_zA [.float .f64 x2, .float .f64 b0_0] (gfreeze G) fun v3 _ =>
  (ivFloat .f64 v3).bind fun x4 =>
  k (.float .f64 x4) G
  else
  ((FloatKind.format .f64).sub b0_1 b0_0).bind fun r5 =>
  match (FloatKind.format .f64).mul r5 s1 with
  | some r6 =>
  ((FloatKind.format .f64).add b0_0 r6).bind fun r7 =>
  O fn_zA [.float .f64 r7, .float .f64 b0_0] (gfreeze G) fun v8 _ =>
  (ivFloat .f64 v8).bind fun x9 =>
  O fn_zM [.float .f64 x9, .float .f64 b0_1] (gfreeze G) fun v10 _ =>
  (ivFloat .f64 v10).bind fun x11 =>
  k (.float .f64 x11) G
  | none =>
  O fn_zA [.fo .f64 none, .float .f64 b0_0] (gfreeze G) fun v8 _ =>
  (ivFloat .f64 v8).bind fun x9 =>
  O fn_zM [.float .f64 x9, .float .f64 b0_1] (gfreeze G) fun v10 _ =>
  (ivFloat .f64 v10).bind fun x11 =>
  k (.float .f64 x11) G

def L_zs_0 {R : Type} (O : Ora R) (fuel : Nat) (k : KV R) : Nat → Nat → Nat → GH → Option R := fun s1 b0_0 b0_1 G =>
  stepN fuel (l_zs_0 O (a_zs_0N O k) s1 b0_0 b0_1 G)

theorem a_zs_0N_raw {R : Type} (O : Ora R) (fuel s1 : Nat) (s16 : Bool) (b0_0 b0_1 : Nat) (G : GH) (k : KV R) :
  contC Try.prog O lo29 fuel (Try.f29.body.getD .skip) [1, 0, 0] (fun e env F G => match e with | .exit _ => none | _ => resC Try.prog Try.f29 env F G k) .normal (mkE 40 [(1, .float .f64 s1), (2, .loc 0 0), (16, .bool s16)]) [[.float .f64 b0_0, .float .f64 b0_1]] G =
  a_zs_0N O k s1 s16 b0_0 b0_1 G := by kernel_rfl

theorem L_zs_0_eq {R : Type} (O : Ora R) (fuel : Nat) (k : KV R) :
  (fun (s1 b0_0 b0_1 : Nat) (G : GH) => stepN fuel (loopD Try.prog O lo29 fuel (nav (Try.f29.body.getD .skip) [1, 0, 0]) 11 (mkE 40 [(1, .float .f64 s1), (2, .loc 0 0)]) [[.float .f64 b0_0, .float .f64 b0_1]] G (contC Try.prog O lo29 fuel (Try.f29.body.getD .skip) [1, 0, 0] (fun e env F G => match e with | .exit _ => none | _ => resC Try.prog Try.f29 env F G k)))) = L_zs_0 O fuel k := by
  funext s1 b0_0 b0_1 G
  simp only [L_zs_0, l_zs_0_eq, a_zs_0N_raw]

theorem e_zs_raw {R : Type} (O : Ora R) (fuel p0_0 : Nat) (p0_1 p1 : Nat) (G : GH) (k : KV R) :
  bodyC Try.prog O lo29 fuel Try.f29 [.agg [.float .f64 p0_0, .float .f64 p0_1], .float .f64 p1] G k =
  u_zs O k (fun s1 b0_0 b0_1 G => stepN fuel (loopD Try.prog O lo29 fuel (nav (Try.f29.body.getD .skip) [1, 0, 0]) 11 (mkE 40 [(1, .float .f64 s1), (2, .loc 0 0)]) [[.float .f64 b0_0, .float .f64 b0_1]] G (contC Try.prog O lo29 fuel (Try.f29.body.getD .skip) [1, 0, 0] (fun e env F G => match e with | .exit _ => none | _ => resC Try.prog Try.f29 env F G k)))) p0_0 p0_1 p1 G := by kernel_rfl

theorem e_zs {R : Type} (O : Ora R) (fuel p0_0 : Nat) (p0_1 p1 : Nat) (G : GH) (k : KV R) :
  bodyC Try.prog O lo29 fuel Try.f29 [.agg [.float .f64 p0_0, .float .f64 p0_1], .float .f64 p1] G k =
  u_zs O k (L_zs_0 O fuel k) p0_0 p0_1 p1 G := by
  rw [e_zs_raw, L_zs_0_eq]

theorem r_zs {R : Type} (fuel n p0_0 : Nat) (p0_1 p1 : Nat) (G : GH) (k : KV R) :
  runC Try.prog lo0 fuel (n + 1) 29 [.agg [.float .f64 p0_0, .float .f64 p0_1], .float .f64 p1] G k = bodyC Try.prog (runC Try.prog lo0 fuel n) lo29 fuel Try.f29 [.agg [.float .f64 p0_0, .float .f64 p0_1], .float .f64 p1] G k := run_body Try.func29 rfl rfl

/-! ### lantern/lanternlaw02.Inner -/
theorem e_zo1 {R : Type} (O : Ora R) (fuel p0_0 : Nat) (p0_1 p1 p2 : Nat) (G : GH) (k : KV R) :
  bodyC Try.prog O [3, 6, 777777] fuel Try.f15 [.agg [.float .f64 p0_0, .float .f64 p0_1], .float .f64 p1, .float .f64 p2] G k =
  O fn_zs [.agg [.float .f64 p0_0, .float .f64 p0_1], .float .f64 p1] (gfreeze G) fun v1 _ =>
  (ivFloat .f64 v1).bind fun x2 =>
  O fn_zs [.agg [.float .f64 p0_0, .float .f64 p0_1], .float .f64 p2] (gfreeze G) fun v3 _ =>
  (ivFloat .f64 v3).bind fun x4 =>
  O fn_zM [.float .f64 x2, .float .f64 x4] G fun v5 G6 =>
  (ivFloat .f64 v5).bind fun x7 =>
  ((FloatKind.format .f64).add x7 (0 : Nat)).bind fun r8 =>
  O fn_zA [.float .f64 x2, .float .f64 x4] G6 fun v9 G10 =>
  (ivFloat .f64 v9).bind fun x11 =>
  ((FloatKind.format .f64).add x11 (0 : Nat)).bind fun r12 =>
  k (.agg [.float .f64 r8, .float .f64 r12]) G10 := by kernel_rfl

theorem r_zo1 {R : Type} (fuel n p0_0 : Nat) (p0_1 p1 p2 : Nat) (G : GH) (k : KV R) :
  runC Try.prog lo0 fuel (n + 1) 15 [.agg [.float .f64 p0_0, .float .f64 p0_1], .float .f64 p1, .float .f64 p2] G k = bodyC Try.prog (runC Try.prog lo0 fuel n) [3, 6, 777777] fuel Try.f15 [.agg [.float .f64 p0_0, .float .f64 p0_1], .float .f64 p1, .float .f64 p2] G k := run_body Try.func15 rfl rfl

/-! ### lantern/lanternref02.Least -/
theorem e_zM {R : Type} (O : Ora R) (fuel p0 p1 : Nat) (G : GH) (k : KV R) :
  bodyC Try.prog O [777777] fuel Try.f30 [.float .f64 p0, .float .f64 p1] G k =
  bif (flt .f64 p0 p1) then
  k (.float .f64 p0) G
  else
  k (.float .f64 p1) G := by kernel_rfl

theorem r_zM {R : Type} (fuel n p0 p1 : Nat) (G : GH) (k : KV R) :
  runC Try.prog lo0 fuel (n + 1) 30 [.float .f64 p0, .float .f64 p1] G k = bodyC Try.prog (runC Try.prog lo0 fuel n) [777777] fuel Try.f30 [.float .f64 p0, .float .f64 p1] G k := run_body Try.func30 rfl rfl

/-! ### lantern/lanternref02.Greatest -/
theorem e_zA {R : Type} (O : Ora R) (fuel p0 p1 : Nat) (G : GH) (k : KV R) :
  bodyC Try.prog O [888889, 777777] fuel Try.f31 [.float .f64 p0, .float .f64 p1] G k =
  bif (fgt .f64 p0 p1) then
  k (.float .f64 p0) G
  else
  k (.float .f64 p1) G := by kernel_rfl

theorem r_zA {R : Type} (fuel n p0 p1 : Nat) (G : GH) (k : KV R) :
  runC Try.prog lo0 fuel (n + 1) 31 [.float .f64 p0, .float .f64 p1] G k = bodyC Try.prog (runC Try.prog lo0 fuel n) [888889, 777777] fuel Try.f31 [.float .f64 p0, .float .f64 p1] G k := run_body Try.func31 rfl rfl

/-! ### lantern/lanternref02.Wide -/
theorem e_zH {R : Type} (O : Ora R) (fuel p0_0 p0_1 : Nat) (G : GH) (k : KV R) :
  bodyC Try.prog O [1, 777777] fuel Try.f34 [.agg [.float .f64 p0_0, .float .f64 p0_1]] G k =
  O fn_zD [.float .f64 p0_0] G fun v1 G2 =>
  (ivBool v1).bind fun x3 =>
  bif (!x3) then
  k (.bool true) G2
  else
  O fn_zD [.float .f64 p0_1] G2 fun v4 G5 =>
  (ivBool v4).bind fun x6 =>
  k (.bool (!x6)) G5 := by kernel_rfl

theorem r_zH {R : Type} (fuel n p0_0 p0_1 : Nat) (G : GH) (k : KV R) :
  runC Try.prog lo0 fuel (n + 1) 34 [.agg [.float .f64 p0_0, .float .f64 p0_1]] G k = bodyC Try.prog (runC Try.prog lo0 fuel n) [1, 777777] fuel Try.f34 [.agg [.float .f64 p0_0, .float .f64 p0_1]] G k := run_body Try.func34 rfl rfl

/-! ### lantern/lanternref03.Wide -/
/-! ### lantern/lanternlaw09.TextureNests -/
def u_zt_0 {R : Type} (O : Ora R) (Kret : Bool → OG → Nat → OG → Nat → Int → Nat → Nat → Nat → Nat → Nat → Nat → Nat → Nat → GH → Option R) (KN : OG → Nat → OG → Nat → Int → Nat → Nat → Nat → Nat → Nat → Nat → Nat → Nat → GH → Option R) (b0_0a : OG) (b0_0n : Nat) (b0_1a : OG) (b0_1n : Nat) (b0_2 : Int) (b0_3 b0_4 : Nat) (b0_5 b0_6 : Nat) (b1_0 b1_1 : Nat) (b1_2 b1_3 : Nat) (G : GH) : Option R :=
  O fn_zj [.slice b0_0a b0_0n, .slice b0_1a b0_1n] G fun v1 G2 =>
  (ivBool v1).bind fun x3 =>
  bif x3 then
  Kret true b0_0a b0_0n b0_1a b0_1n b0_2 b0_3 b0_4 b0_5 b0_6 b1_0 b1_1 b1_2 b1_3 G2
  else
  O fn_zy [.agg [.float .f64 b0_3, .float .f64 b0_4]] G2 fun v4 G5 =>
  (ivBool v4).bind fun x6 =>
  bif (!x6) then
  Kret true b0_0a b0_0n b0_1a b0_1n b0_2 b0_3 b0_4 b0_5 b0_6 b1_0 b1_1 b1_2 b1_3 G5
  else
  O fn_zy [.agg [.float .f64 b0_5, .float .f64 b0_6]] G5 fun v7 G8 =>
  (ivBool v7).bind fun x9 =>
  bif (!x9) then
  Kret true b0_0a b0_0n b0_1a b0_1n b0_2 b0_3 b0_4 b0_5 b0_6 b1_0 b1_1 b1_2 b1_3 G8
  else
  KN b0_0a b0_0n b0_1a b0_1n b0_2 b0_3 b0_4 b0_5 b0_6 b1_0 b1_1 b1_2 b1_3 G8

def l_zt_0 {R : Type} (O : Ora R) (Kret : Bool → OG → Nat → OG → Nat → Int → Nat → Nat → Nat → Nat → Nat → Nat → Nat → Nat → GH → Option R) (KN : OG → Nat → OG → Nat → Int → Nat → Nat → Nat → Nat → Nat → Nat → Nat → Nat → GH → Option R) : OG → Nat → OG → Nat → Int → Nat → Nat → Nat → Nat → Nat → Nat → Nat → Nat → GH → Option R := fun b0_0a b0_0n b0_1a b0_1n b0_2 b0_3 b0_4 b0_5 b0_6 b1_0 b1_1 b1_2 b1_3 G => u_zt_0 O Kret KN b0_0a b0_0n b0_1a b0_1n b0_2 b0_3 b0_4 b0_5 b0_6 b1_0 b1_1 b1_2 b1_3 G

theorem u_zt_0_raw {R : Type} (O : Ora R) (fuel : Nat) (b0_0a : OG) (b0_0n : Nat) (b0_1a : OG) (b0_1n : Nat) (b0_2 : Int) (b0_3 b0_4 : Nat) (b0_5 b0_6 : Nat) (b1_0 b1_1 : Nat) (b1_2 b1_3 : Nat) (G : GH) (k : KE R) :
  loopD Try.prog O lo4 fuel (nav (Try.f4.body.getD .skip) [1, 1, 0]) 23 (mkE 94 [(2, .loc 0 0), (3, .loc 1 0)]) [[.slice b0_0a b0_0n, .slice b0_1a b0_1n, .int .i64 b0_2, .float .f64 b0_3, .float .f64 b0_4, .float .f64 b0_5, .float .f64 b0_6], [.float .f64 b1_0, .float .f64 b1_1, .float .f64 b1_2, .float .f64 b1_3]] G k =
  u_zt_0 O (fun s4 b0_0a b0_0n b0_1a b0_1n b0_2 b0_3 b0_4 b0_5 b0_6 b1_0 b1_1 b1_2 b1_3 G => k .ret (mkE 94 [(4, .bool s4)]) [[.slice b0_0a b0_0n, .slice b0_1a b0_1n, .int .i64 b0_2, .float .f64 b0_3, .float .f64 b0_4, .float .f64 b0_5, .float .f64 b0_6], [.float .f64 b1_0, .float .f64 b1_1, .float .f64 b1_2, .float .f64 b1_3]] G) (fun b0_0a b0_0n b0_1a b0_1n b0_2 b0_3 b0_4 b0_5 b0_6 b1_0 b1_1 b1_2 b1_3 G => k .normal (mkE 94 [(2, .loc 0 0), (3, .loc 1 0)]) [[.slice b0_0a b0_0n, .slice b0_1a b0_1n, .int .i64 b0_2, .float .f64 b0_3, .float .f64 b0_4, .float .f64 b0_5, .float .f64 b0_6], [.float .f64 b1_0, .float .f64 b1_1, .float .f64 b1_2, .float .f64 b1_3]] G) b0_0a b0_0n b0_1a b0_1n b0_2 b0_3 b0_4 b0_5 b0_6 b1_0 b1_1 b1_2 b1_3 G := by kernel_rfl

theorem l_zt_0_eq {R : Type} (O : Ora R) (fuel : Nat) (k : KE R) : ∀ (b0_0a : OG) (b0_0n : Nat) (b0_1a : OG) (b0_1n : Nat) (b0_2 : Int) (b0_3 b0_4 : Nat) (b0_5 b0_6 : Nat) (b1_0 b1_1 : Nat) (b1_2 b1_3 : Nat) (G : GH),
  loopD Try.prog O lo4 fuel (nav (Try.f4.body.getD .skip) [1, 1, 0]) 23 (mkE 94 [(2, .loc 0 0), (3, .loc 1 0)]) [[.slice b0_0a b0_0n, .slice b0_1a b0_1n, .int .i64 b0_2, .float .f64 b0_3, .float .f64 b0_4, .float .f64 b0_5, .float .f64 b0_6], [.float .f64 b1_0, .float .f64 b1_1, .float .f64 b1_2, .float .f64 b1_3]] G k = l_zt_0 O (fun s4 b0_0a b0_0n b0_1a b0_1n b0_2 b0_3 b0_4 b0_5 b0_6 b1_0 b1_1 b1_2 b1_3 G => k .ret (mkE 94 [(4, .bool s4)]) [[.slice b0_0a b0_0n, .slice b0_1a b0_1n, .int .i64 b0_2, .float .f64 b0_3, .float .f64 b0_4, .float .f64 b0_5, .float .f64 b0_6], [.float .f64 b1_0, .float .f64 b1_1, .float .f64 b1_2, .float .f64 b1_3]] G) (fun b0_0a b0_0n b0_1a b0_1n b0_2 b0_3 b0_4 b0_5 b0_6 b1_0 b1_1 b1_2 b1_3 G => k .normal (mkE 94 [(2, .loc 0 0), (3, .loc 1 0)]) [[.slice b0_0a b0_0n, .slice b0_1a b0_1n, .int .i64 b0_2, .float .f64 b0_3, .float .f64 b0_4, .float .f64 b0_5, .float .f64 b0_6], [.float .f64 b1_0, .float .f64 b1_1, .float .f64 b1_2, .float .f64 b1_3]] G) b0_0a b0_0n b0_1a b0_1n b0_2 b0_3 b0_4 b0_5 b0_6 b1_0 b1_1 b1_2 b1_3 G := by
  intros
  rw [u_zt_0_raw]
  simp only [l_zt_0]

def u_zt {R : Type} (O : Ora R) (k : KV R) (L0 : OG → Nat → OG → Nat → Int → Nat → Nat → Nat → Nat → Nat → Nat → Nat → Nat → GH → Option R) (p0_0a : OG) (p0_0n : Nat) (p0_1a : OG) (p0_1n : Nat) (p0_2 : Int) (p0_3 p0_4 : Nat) (p0_5 p0_6 : Nat) (p1_0 p1_1 : Nat) (p1_2 p1_3 : Nat) (G : GH) : Option R :=
  O fn_zE1 [] G fun v1 G2 =>
  (ivBool v1).bind fun x3 =>
  bif (!x3) then
  k (.bool false) G2
  else
  L0 p0_0a p0_0n p0_1a p0_1n p0_2 p0_3 p0_4 p0_5 p0_6 p1_0 p1_1 p1_2 p1_3 G2

def a_zt_0ret {R : Type} (O : Ora R) (k : KV R) (s4 : Bool) (b0_0a : OG) (b0_0n : Nat) (b0_1a : OG) (b0_1n : Nat) (b0_2 : Int) (b0_3 b0_4 : Nat) (b0_5 b0_6 : Nat) (b1_0 b1_1 : Nat) (b1_2 b1_3 : Nat) (G : GH) : Option R :=
  k (.bool s4) G

def a_zt_0N {R : Type} (O : Ora R) (k : KV R) (b0_0a : OG) (b0_0n : Nat) (b0_1a : OG) (b0_1n : Nat) (b0_2 : Int) (b0_3 b0_4 : Nat) (b0_5 b0_6 : Nat) (b1_0 b1_1 : Nat) (b1_2 b1_3 : Nat) (G : GH) : Option R :=
  (grdO (gnew G [] 52) b0_0a b0_0n 8).bind fun x1 =>
  (gappend (gnew G [] 52) 52 8 64 (some (gaddr G)) 0 x1 b0_0n).bind fun r2 =>
  O fn_zk [.slice b0_1a b0_1n] r2.2 fun v3 G4 =>
  (ivSlice v3).bind fun x5 =>
  O fn_zf [.slice r2.1 (0 + b0_0n), .slice x5.1 x5.2, .int .i64 b0_2, .agg [.float .f64 b0_3, .float .f64 b0_4], .agg [.float .f64 b0_5, .float .f64 b0_6]] G4 fun v6 G7 =>
  (ivTup 3 v6).bind fun c8 =>
  (ivAgg 6 (c8.getD 0 undefI)).bind fun c9 =>
  (ivFloat .f64 (c9.getD 0 undefI)).bind fun x10 =>
  (ivFloat .f64 (c9.getD 1 undefI)).bind fun x11 =>
  (ivFloat .f64 (c9.getD 2 undefI)).bind fun x12 =>
  (ivFloat .f64 (c9.getD 3 undefI)).bind fun x13 =>
  (ivFloat .f64 (c9.getD 4 undefI)).bind fun x14 =>
  (ivFloat .f64 (c9.getD 5 undefI)).bind fun x15 =>
  (ivInt .i64 (c8.getD 1 undefI)).bind fun x16 =>
  (ivInt .i64 (c8.getD 2 undefI)).bind fun x17 =>
  (grdO (gnew G7 [] 52) b0_0a b0_0n 8).bind fun x18 =>
  (gappend (gnew G7 [] 52) 52 8 64 (some (gaddr G7)) 0 x18 b0_0n).bind fun r19 =>
  O fn_zk [.slice b0_1a b0_1n] r19.2 fun v20 G21 =>
  (ivSlice v20).bind fun x22 =>
  O fn_zo1 [.agg [.float .f64 b0_3, .float .f64 b0_4], .float .f64 b1_0, .float .f64 b1_1] G21 fun v23 G24 =>
  (ivAgg 2 v23).bind fun c25 =>
  (ivFloat .f64 (c25.getD 0 undefI)).bind fun x26 =>
  (ivFloat .f64 (c25.getD 1 undefI)).bind fun x27 =>
  O fn_zo1 [.agg [.float .f64 b0_5, .float .f64 b0_6], .float .f64 b1_2, .float .f64 b1_3] G24 fun v28 G29 =>
  (ivAgg 2 v28).bind fun c30 =>
  (ivFloat .f64 (c30.getD 0 undefI)).bind fun x31 =>
  (ivFloat .f64 (c30.getD 1 undefI)).bind fun x32 =>
  O fn_zf [.slice r19.1 (0 + b0_0n), .slice x22.1 x22.2, .int .i64 b0_2, .agg [.float .f64 x26, .float .f64 x27], .agg [.float .f64 x31, .float .f64 x32]] G29 fun v33 G34 =>
  (ivTup 3 v33).bind fun c35 =>
  (ivAgg 6 (c35.getD 0 undefI)).bind fun c36 =>
  (ivFloat .f64 (c36.getD 0 undefI)).bind fun x37 =>
  (ivFloat .f64 (c36.getD 1 undefI)).bind fun x38 =>
  (ivFloat .f64 (c36.getD 2 undefI)).bind fun x39 =>
  (ivFloat .f64 (c36.getD 3 undefI)).bind fun x40 =>
  (ivFloat .f64 (c36.getD 4 undefI)).bind fun x41 =>
  (ivFloat .f64 (c36.getD 5 undefI)).bind fun x42 =>
  (ivInt .i64 (c35.getD 1 undefI)).bind fun x43 =>
  (ivInt .i64 (c35.getD 2 undefI)).bind fun x44 =>
  bif (x17 != x44) then
  k (.bool false) G34
  else
  bif (x17 != (0 : Int)) then
  k (.bool true) G34
  else
  bif (x16 != (1 : Int)) then
  k (.bool true) G34
  else
  bif (x43 == (1 : Int)) then
  O fn_zp1 [.agg [.float .f64 x37, .float .f64 x38, .float .f64 x39, .float .f64 x40, .float .f64 x41, .float .f64 x42], .agg [.float .f64 x10, .float .f64 x11, .float .f64 x12, .float .f64 x13, .float .f64 x14, .float .f64 x15]] G34 fun v45 G46 =>
  (ivBool v45).bind fun x47 =>
  k (.bool x47) G46
  else
  k (.bool false) G34

def L_zt_0 {R : Type} (O : Ora R) (fuel : Nat) (k : KV R) : OG → Nat → OG → Nat → Int → Nat → Nat → Nat → Nat → Nat → Nat → Nat → Nat → GH → Option R := fun b0_0a b0_0n b0_1a b0_1n b0_2 b0_3 b0_4 b0_5 b0_6 b1_0 b1_1 b1_2 b1_3 G =>
  stepN fuel (l_zt_0 O (a_zt_0ret O k) (a_zt_0N O k) b0_0a b0_0n b0_1a b0_1n b0_2 b0_3 b0_4 b0_5 b0_6 b1_0 b1_1 b1_2 b1_3 G)

theorem a_zt_0ret_raw {R : Type} (O : Ora R) (fuel : Nat) (s4 : Bool) (b0_0a : OG) (b0_0n : Nat) (b0_1a : OG) (b0_1n : Nat) (b0_2 : Int) (b0_3 b0_4 : Nat) (b0_5 b0_6 : Nat) (b1_0 b1_1 : Nat) (b1_2 b1_3 : Nat) (G : GH) (k : KV R) :
  contC Try.prog O lo4 fuel (Try.f4.body.getD .skip) [1, 1, 0] (fun e env F G => match e with | .exit _ => none | _ => resC Try.prog Try.f4 env F G k) .ret (mkE 94 [(4, .bool s4)]) [[.slice b0_0a b0_0n, .slice b0_1a b0_1n, .int .i64 b0_2, .float .f64 b0_3, .float .f64 b0_4, .float .f64 b0_5, .float .f64 b0_6], [.float .f64 b1_0, .float .f64 b1_1, .float .f64 b1_2, .float .f64 b1_3]] G =
  a_zt_0ret O k s4 b0_0a b0_0n b0_1a b0_1n b0_2 b0_3 b0_4 b0_5 b0_6 b1_0 b1_1 b1_2 b1_3 G := by kernel_rfl

theorem a_zt_0N_raw {R : Type} (O : Ora R) (fuel : Nat) (b0_0a : OG) (b0_0n : Nat) (b0_1a : OG) (b0_1n : Nat) (b0_2 : Int) (b0_3 b0_4 : Nat) (b0_5 b0_6 : Nat) (b1_0 b1_1 : Nat) (b1_2 b1_3 : Nat) (G : GH) (k : KV R) :
  contC Try.prog O lo4 fuel (Try.f4.body.getD .skip) [1, 1, 0] (fun e env F G => match e with | .exit _ => none | _ => resC Try.prog Try.f4 env F G k) .normal (mkE 94 [(2, .loc 0 0), (3, .loc 1 0)]) [[.slice b0_0a b0_0n, .slice b0_1a b0_1n, .int .i64 b0_2, .float .f64 b0_3, .float .f64 b0_4, .float .f64 b0_5, .float .f64 b0_6], [.float .f64 b1_0, .float .f64 b1_1, .float .f64 b1_2, .float .f64 b1_3]] G =
  a_zt_0N O k b0_0a b0_0n b0_1a b0_1n b0_2 b0_3 b0_4 b0_5 b0_6 b1_0 b1_1 b1_2 b1_3 G := by kernel_rfl

theorem L_zt_0_eq {R : Type} (O : Ora R) (fuel : Nat) (k : KV R) :
  (fun (b0_0a : OG) (b0_0n : Nat) (b0_1a : OG) (b0_1n : Nat) (b0_2 : Int) (b0_3 b0_4 : Nat) (b0_5 b0_6 : Nat) (b1_0 b1_1 : Nat) (b1_2 b1_3 : Nat) (G : GH) => stepN fuel (loopD Try.prog O lo4 fuel (nav (Try.f4.body.getD .skip) [1, 1, 0]) 23 (mkE 94 [(2, .loc 0 0), (3, .loc 1 0)]) [[.slice b0_0a b0_0n, .slice b0_1a b0_1n, .int .i64 b0_2, .float .f64 b0_3, .float .f64 b0_4, .float .f64 b0_5, .float .f64 b0_6], [.float .f64 b1_0, .float .f64 b1_1, .float .f64 b1_2, .float .f64 b1_3]] G (contC Try.prog O lo4 fuel (Try.f4.body.getD .skip) [1, 1, 0] (fun e env F G => match e with | .exit _ => none | _ => resC Try.prog Try.f4 env F G k)))) = L_zt_0 O fuel k := by
  funext b0_0a b0_0n b0_1a b0_1n b0_2 b0_3 b0_4 b0_5 b0_6 b1_0 b1_1 b1_2 b1_3 G
  refine congrArg (stepN fuel) ?_
  refine (l_zt_0_eq O fuel _ b0_0a b0_0n b0_1a b0_1n b0_2 b0_3 b0_4 b0_5 b0_6 b1_0 b1_1 b1_2 b1_3 G).trans ?_
  refine congrFun (congrFun (congrFun (congrFun (congrFun (congrFun (congrFun (congrFun (congrFun (congrFun (congrFun (congrFun (congrFun (congrFun ?_ _) _) _) _) _) _) _) _) _) _) _) _) _) _
  refine congr (congrArg (l_zt_0 O) ?_) ?_
  · funext s4 b0_0a b0_0n b0_1a b0_1n b0_2 b0_3 b0_4 b0_5 b0_6 b1_0 b1_1 b1_2 b1_3 G
    exact a_zt_0ret_raw O fuel s4 b0_0a b0_0n b0_1a b0_1n b0_2 b0_3 b0_4 b0_5 b0_6 b1_0 b1_1 b1_2 b1_3 G k
  · funext b0_0a b0_0n b0_1a b0_1n b0_2 b0_3 b0_4 b0_5 b0_6 b1_0 b1_1 b1_2 b1_3 G
    exact a_zt_0N_raw O fuel b0_0a b0_0n b0_1a b0_1n b0_2 b0_3 b0_4 b0_5 b0_6 b1_0 b1_1 b1_2 b1_3 G k

theorem e_zt_raw {R : Type} (O : Ora R) (fuel : Nat) (p0_0a : OG) (p0_0n : Nat) (p0_1a : OG) (p0_1n : Nat) (p0_2 : Int) (p0_3 p0_4 : Nat) (p0_5 p0_6 : Nat) (p1_0 p1_1 : Nat) (p1_2 p1_3 : Nat) (G : GH) (k : KV R) :
  bodyC Try.prog O lo4 fuel Try.f4 [.agg [.slice p0_0a p0_0n, .slice p0_1a p0_1n, .int .i64 p0_2, .float .f64 p0_3, .float .f64 p0_4, .float .f64 p0_5, .float .f64 p0_6], .agg [.float .f64 p1_0, .float .f64 p1_1, .float .f64 p1_2, .float .f64 p1_3]] G k =
  u_zt O k (fun b0_0a b0_0n b0_1a b0_1n b0_2 b0_3 b0_4 b0_5 b0_6 b1_0 b1_1 b1_2 b1_3 G => stepN fuel (loopD Try.prog O lo4 fuel (nav (Try.f4.body.getD .skip) [1, 1, 0]) 23 (mkE 94 [(2, .loc 0 0), (3, .loc 1 0)]) [[.slice b0_0a b0_0n, .slice b0_1a b0_1n, .int .i64 b0_2, .float .f64 b0_3, .float .f64 b0_4, .float .f64 b0_5, .float .f64 b0_6], [.float .f64 b1_0, .float .f64 b1_1, .float .f64 b1_2, .float .f64 b1_3]] G (contC Try.prog O lo4 fuel (Try.f4.body.getD .skip) [1, 1, 0] (fun e env F G => match e with | .exit _ => none | _ => resC Try.prog Try.f4 env F G k)))) p0_0a p0_0n p0_1a p0_1n p0_2 p0_3 p0_4 p0_5 p0_6 p1_0 p1_1 p1_2 p1_3 G := by kernel_rfl

theorem e_zt {R : Type} (O : Ora R) (fuel : Nat) (p0_0a : OG) (p0_0n : Nat) (p0_1a : OG) (p0_1n : Nat) (p0_2 : Int) (p0_3 p0_4 : Nat) (p0_5 p0_6 : Nat) (p1_0 p1_1 : Nat) (p1_2 p1_3 : Nat) (G : GH) (k : KV R) :
  bodyC Try.prog O lo4 fuel Try.f4 [.agg [.slice p0_0a p0_0n, .slice p0_1a p0_1n, .int .i64 p0_2, .float .f64 p0_3, .float .f64 p0_4, .float .f64 p0_5, .float .f64 p0_6], .agg [.float .f64 p1_0, .float .f64 p1_1, .float .f64 p1_2, .float .f64 p1_3]] G k =
  u_zt O k (L_zt_0 O fuel k) p0_0a p0_0n p0_1a p0_1n p0_2 p0_3 p0_4 p0_5 p0_6 p1_0 p1_1 p1_2 p1_3 G := by
  rw [e_zt_raw, L_zt_0_eq]

theorem r_zt {R : Type} (fuel n : Nat) (p0_0a : OG) (p0_0n : Nat) (p0_1a : OG) (p0_1n : Nat) (p0_2 : Int) (p0_3 p0_4 : Nat) (p0_5 p0_6 : Nat) (p1_0 p1_1 : Nat) (p1_2 p1_3 : Nat) (G : GH) (k : KV R) :
  runC Try.prog lo0 fuel (n + 1) 4 [.agg [.slice p0_0a p0_0n, .slice p0_1a p0_1n, .int .i64 p0_2, .float .f64 p0_3, .float .f64 p0_4, .float .f64 p0_5, .float .f64 p0_6], .agg [.float .f64 p1_0, .float .f64 p1_1, .float .f64 p1_2, .float .f64 p1_3]] G k = bodyC Try.prog (runC Try.prog lo0 fuel n) lo4 fuel Try.f4 [.agg [.slice p0_0a p0_0n, .slice p0_1a p0_1n, .int .i64 p0_2, .float .f64 p0_3, .float .f64 p0_4, .float .f64 p0_5, .float .f64 p0_6], .agg [.float .f64 p1_0, .float .f64 p1_1, .float .f64 p1_2, .float .f64 p1_3]] G k := run_body Try.func4 rfl rfl

theorem eN_ref02_Greatest {R : Type} (O : Ora R) (fuel p1 : Nat) (G : GH) (k : KV R) :
  bodyC Try.prog O [888889, 777777] fuel Try.f31 [.fo .f64 none, .float .f64 p1] G k = k (.float .f64 p1) G := by kernel_rfl
theorem rN_ref02_Greatest {R : Type} (fuel n p1 : Nat) (G : GH) (k : KV R) :
  runC Try.prog lo0 fuel (n + 1) 31 [.fo .f64 none, .float .f64 p1] G k = bodyC Try.prog (runC Try.prog lo0 fuel n) [888889, 777777] fuel Try.f31 [.fo .f64 none, .float .f64 p1] G k := run_body Try.func31 rfl rfl
end Go.LI.Film
