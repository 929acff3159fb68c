/- What the interpreter gives for textures: laws (written by tex.py). -/
import Derived.Test.YtbjcipikclbecaaSeatA
namespace Go.LI.Film
open Go.Proofs.Ytbjcipikclbecaa Go Go.Proofs Go.LI
set_option maxRecDepth 100000
set_option linter.unusedVariables false
set_option linter.unusedSimpArgs false
/-! ### lantern/lanternlaw09.TextureSingle -/
def u_law09_TextureSingle_0 {R : Type} (O : Ora R) (Kret : Bool → Nat → Nat → Nat → Nat → Nat → Nat → Nat → GH → Option R) (KN : Nat → Nat → Nat → Nat → Nat → Nat → Nat → Nat → GH → Option R) (s1 b0_0 : Nat) (b0_1 b0_2 : Nat) (b1_0 b1_1 : Nat) (b2_0 b2_1 : Nat) (G : GH) : Option R :=
  O fn_ref03_Numbers [.agg [.float .f64 b0_0, .float .f64 b0_1, .float .f64 b0_2]] G fun v1 G2 =>
  (ivBool v1).bind fun x3 =>
  bif (!x3) then
  Kret true b0_0 b0_1 b0_2 b1_0 b1_1 b2_0 b2_1 G2
  else
  bif (match (FloatKind.format .f64).sub s1 s1 with | some r => !feq .f64 r 0 | none => true) then
  Kret true b0_0 b0_1 b0_2 b1_0 b1_1 b2_0 b2_1 G2
  else
  O fn_ref02_Valid [.agg [.float .f64 b1_0, .float .f64 b1_1]] G2 fun v5 G6 =>
  (ivBool v5).bind fun x7 =>
  bif (!x7) then
  Kret true b0_0 b0_1 b0_2 b1_0 b1_1 b2_0 b2_1 G6
  else
  O fn_ref02_Valid [.agg [.float .f64 b2_0, .float .f64 b2_1]] G6 fun v8 G9 =>
  (ivBool v8).bind fun x10 =>
  bif (!x10) then
  Kret true b0_0 b0_1 b0_2 b1_0 b1_1 b2_0 b2_1 G9
  else
  KN s1 b0_0 b0_1 b0_2 b1_0 b1_1 b2_0 b2_1 G9

def l_law09_TextureSingle_0 {R : Type} (O : Ora R) (Kret : Bool → Nat → Nat → Nat → Nat → Nat → Nat → Nat → GH → Option R) (KN : Nat → Nat → Nat → Nat → Nat → Nat → Nat → Nat → GH → Option R) : Nat → Nat → Nat → Nat → Nat → Nat → Nat → Nat → GH → Option R := fun s1 b0_0 b0_1 b0_2 b1_0 b1_1 b2_0 b2_1 G => u_law09_TextureSingle_0 O Kret KN s1 b0_0 b0_1 b0_2 b1_0 b1_1 b2_0 b2_1 G

theorem u_law09_TextureSingle_0_raw {R : Type} (O : Ora R) (fuel s1 : Nat) (b0_0 b0_1 : Nat) (b0_2 b1_0 : Nat) (b1_1 b2_0 b2_1 : Nat) (G : GH) (k : KE R) :
  loopD Try.prog O lo7 fuel (nav (Try.f7.body.getD .skip) [1, 1, 0]) 23 (mkE 55 [(1, .float .f64 s1), (4, .loc 0 0), (6, .loc 1 0), (7, .loc 2 0)]) [[.float .f64 b0_0, .float .f64 b0_1, .float .f64 b0_2], [.float .f64 b1_0, .float .f64 b1_1], [.float .f64 b2_0, .float .f64 b2_1]] G k =
  u_law09_TextureSingle_0 O (fun s8 b0_0 b0_1 b0_2 b1_0 b1_1 b2_0 b2_1 G => k .ret (mkE 55 [(8, .bool s8)]) [[.float .f64 b0_0, .float .f64 b0_1, .float .f64 b0_2], [.float .f64 b1_0, .float .f64 b1_1], [.float .f64 b2_0, .float .f64 b2_1]] G) (fun s1 b0_0 b0_1 b0_2 b1_0 b1_1 b2_0 b2_1 G => k .normal (mkE 55 [(1, .float .f64 s1), (4, .loc 0 0), (6, .loc 1 0), (7, .loc 2 0)]) [[.float .f64 b0_0, .float .f64 b0_1, .float .f64 b0_2], [.float .f64 b1_0, .float .f64 b1_1], [.float .f64 b2_0, .float .f64 b2_1]] G) s1 b0_0 b0_1 b0_2 b1_0 b1_1 b2_0 b2_1 G := by kernel_rfl

theorem l_law09_TextureSingle_0_eq {R : Type} (O : Ora R) (fuel : Nat) (k : KE R) : ∀ (s1 b0_0 : Nat) (b0_1 b0_2 : Nat) (b1_0 b1_1 : Nat) (b2_0 b2_1 : Nat) (G : GH),
  loopD Try.prog O lo7 fuel (nav (Try.f7.body.getD .skip) [1, 1, 0]) 23 (mkE 55 [(1, .float .f64 s1), (4, .loc 0 0), (6, .loc 1 0), (7, .loc 2 0)]) [[.float .f64 b0_0, .float .f64 b0_1, .float .f64 b0_2], [.float .f64 b1_0, .float .f64 b1_1], [.float .f64 b2_0, .float .f64 b2_1]] G k = l_law09_TextureSingle_0 O (fun s8 b0_0 b0_1 b0_2 b1_0 b1_1 b2_0 b2_1 G => k .ret (mkE 55 [(8, .bool s8)]) [[.float .f64 b0_0, .float .f64 b0_1, .float .f64 b0_2], [.float .f64 b1_0, .float .f64 b1_1], [.float .f64 b2_0, .float .f64 b2_1]] G) (fun s1 b0_0 b0_1 b0_2 b1_0 b1_1 b2_0 b2_1 G => k .normal (mkE 55 [(1, .float .f64 s1), (4, .loc 0 0), (6, .loc 1 0), (7, .loc 2 0)]) [[.float .f64 b0_0, .float .f64 b0_1, .float .f64 b0_2], [.float .f64 b1_0, .float .f64 b1_1], [.float .f64 b2_0, .float .f64 b2_1]] G) s1 b0_0 b0_1 b0_2 b1_0 b1_1 b2_0 b2_1 G := by
  intros
  rw [u_law09_TextureSingle_0_raw]
  simp only [l_law09_TextureSingle_0]

def u_law09_TextureSingle {R : Type} (O : Ora R) (k : KV R) (L0 : Nat → Nat → Nat → Nat → Nat → Nat → Nat → Nat → GH → Option R) (p0_0 p0_1 : Nat) (p0_2 p1 : Nat) (p2_0 p2_1 : Nat) (p3_0 p3_1 : Nat) (G : GH) : Option R :=
  O fn_law09_Awake [] G fun v1 G2 =>
  (ivBool v1).bind fun x3 =>
  bif (!x3) then
  k (.bool false) G2
  else
  L0 p1 p0_0 p0_1 p0_2 p2_0 p2_1 p3_0 p3_1 G2

def a_law09_TextureSingle_0ret {R : Type} (O : Ora R) (k : KV R) (s8 : Bool) (b0_0 b0_1 : Nat) (b0_2 b1_0 : Nat) (b1_1 b2_0 b2_1 : Nat) (G : GH) : Option R :=
  k (.bool s8) G

def a_law09_TextureSingle_0N {R : Type} (O : Ora R) (k : KV R) (s1 b0_0 : Nat) (b0_1 b0_2 : Nat) (b1_0 b1_1 : Nat) (b2_0 b2_1 : Nat) (G : GH) : Option R :=
  O fn_texture_Eval [.slice (some (gaddr G)) 1, .slice (some (gaddr (gnew (gnew G [.int .i64 (4 : Int), .float .f64 (0 : Nat), .float .f64 (0 : Nat), .float .f64 (0 : Nat), .int .i64 (0 : Int), .int .i64 (0 : Int), .float .f64 s1, .int .i64 (0 : Int)] 52) [.float .f64 b0_0, .float .f64 b0_1, .float .f64 b0_2] 48))) 1, .int .i64 (0 : Int), .agg [.float .f64 b1_0, .float .f64 b1_1], .agg [.float .f64 b2_0, .float .f64 b2_1]] (gnew (gnew (gnew G [.int .i64 (4 : Int), .float .f64 (0 : Nat), .float .f64 (0 : Nat), .float .f64 (0 : Nat), .int .i64 (0 : Int), .int .i64 (0 : Int), .float .f64 s1, .int .i64 (0 : Int)] 52) [.float .f64 b0_0, .float .f64 b0_1, .float .f64 b0_2] 48) [.int .i64 (1 : Int), .int .i64 (1 : Int), .slice (some (gaddr (gnew G [.int .i64 (4 : Int), .float .f64 (0 : Nat), .float .f64 (0 : Nat), .float .f64 (0 : Nat), .int .i64 (0 : Int), .int .i64 (0 : Int), .float .f64 s1, .int .i64 (0 : Int)] 52))) 1] 59) fun v1 G2 =>
  (ivTup 3 v1).bind fun c3 =>
  (ivAgg 6 (c3.getD 0 undefI)).bind fun c4 =>
  (ivFloat .f64 (c4.getD 0 undefI)).bind fun x5 =>
  (ivFloat .f64 (c4.getD 1 undefI)).bind fun x6 =>
  (ivFloat .f64 (c4.getD 2 undefI)).bind fun x7 =>
  (ivFloat .f64 (c4.getD 3 undefI)).bind fun x8 =>
  (ivFloat .f64 (c4.getD 4 undefI)).bind fun x9 =>
  (ivFloat .f64 (c4.getD 5 undefI)).bind fun x10 =>
  (ivInt .i64 (c3.getD 1 undefI)).bind fun x11 =>
  (ivInt .i64 (c3.getD 2 undefI)).bind fun x12 =>
  bif (x12 == (0 : Int)) then
  O fn_ref03_Of [.agg [.float .f64 b0_0, .float .f64 b0_1, .float .f64 b0_2]] (gfreeze G2) fun v13 _ =>
  (ivAgg 6 v13).bind fun c14 =>
  (ivFloat .f64 (c14.getD 0 undefI)).bind fun x15 =>
  (ivFloat .f64 (c14.getD 1 undefI)).bind fun x16 =>
  (ivFloat .f64 (c14.getD 2 undefI)).bind fun x17 =>
  (ivFloat .f64 (c14.getD 3 undefI)).bind fun x18 =>
  (ivFloat .f64 (c14.getD 4 undefI)).bind fun x19 =>
  (ivFloat .f64 (c14.getD 5 undefI)).bind fun x20 =>
  O fn_ref03_Same [.agg [.float .f64 x5, .float .f64 x6, .float .f64 x7, .float .f64 x8, .float .f64 x9, .float .f64 x10], .agg [.float .f64 x15, .float .f64 x16, .float .f64 x17, .float .f64 x18, .float .f64 x19, .float .f64 x20]] (gfreeze G2) fun v21 _ =>
  (ivBool v21).bind fun x22 =>
  k (.bool x22) G2
  else
  k (.bool false) G2

def L_law09_TextureSingle_0 {R : Type} (O : Ora R) (fuel : Nat) (k : KV R) : Nat → Nat → Nat → Nat → Nat → Nat → Nat → Nat → GH → Option R := fun s1 b0_0 b0_1 b0_2 b1_0 b1_1 b2_0 b2_1 G =>
  stepN fuel (l_law09_TextureSingle_0 O (a_law09_TextureSingle_0ret O k) (a_law09_TextureSingle_0N O k) s1 b0_0 b0_1 b0_2 b1_0 b1_1 b2_0 b2_1 G)

theorem a_law09_TextureSingle_0ret_raw {R : Type} (O : Ora R) (fuel : Nat) (s8 : Bool) (b0_0 b0_1 : Nat) (b0_2 b1_0 : Nat) (b1_1 b2_0 b2_1 : Nat) (G : GH) (k : KV R) :
  contC Try.prog O lo7 fuel (Try.f7.body.getD .skip) [1, 1, 0] (fun e env F G => match e with | .exit _ => none | _ => resC Try.prog Try.f7 env F G k) .ret (mkE 55 [(8, .bool s8)]) [[.float .f64 b0_0, .float .f64 b0_1, .float .f64 b0_2], [.float .f64 b1_0, .float .f64 b1_1], [.float .f64 b2_0, .float .f64 b2_1]] G =
  a_law09_TextureSingle_0ret O k s8 b0_0 b0_1 b0_2 b1_0 b1_1 b2_0 b2_1 G := by kernel_rfl

theorem a_law09_TextureSingle_0N_raw {R : Type} (O : Ora R) (fuel s1 : Nat) (b0_0 b0_1 : Nat) (b0_2 b1_0 : Nat) (b1_1 b2_0 b2_1 : Nat) (G : GH) (k : KV R) :
  contC Try.prog O lo7 fuel (Try.f7.body.getD .skip) [1, 1, 0] (fun e env F G => match e with | .exit _ => none | _ => resC Try.prog Try.f7 env F G k) .normal (mkE 55 [(1, .float .f64 s1), (4, .loc 0 0), (6, .loc 1 0), (7, .loc 2 0)]) [[.float .f64 b0_0, .float .f64 b0_1, .float .f64 b0_2], [.float .f64 b1_0, .float .f64 b1_1], [.float .f64 b2_0, .float .f64 b2_1]] G =
  a_law09_TextureSingle_0N O k s1 b0_0 b0_1 b0_2 b1_0 b1_1 b2_0 b2_1 G := by kernel_rfl

theorem L_law09_TextureSingle_0_eq {R : Type} (O : Ora R) (fuel : Nat) (k : KV R) :
  (fun (s1 b0_0 : Nat) (b0_1 b0_2 : Nat) (b1_0 b1_1 : Nat) (b2_0 b2_1 : Nat) (G : GH) => stepN fuel (loopD Try.prog O lo7 fuel (nav (Try.f7.body.getD .skip) [1, 1, 0]) 23 (mkE 55 [(1, .float .f64 s1), (4, .loc 0 0), (6, .loc 1 0), (7, .loc 2 0)]) [[.float .f64 b0_0, .float .f64 b0_1, .float .f64 b0_2], [.float .f64 b1_0, .float .f64 b1_1], [.float .f64 b2_0, .float .f64 b2_1]] G (contC Try.prog O lo7 fuel (Try.f7.body.getD .skip) [1, 1, 0] (fun e env F G => match e with | .exit _ => none | _ => resC Try.prog Try.f7 env F G k)))) = L_law09_TextureSingle_0 O fuel k := by
  funext s1 b0_0 b0_1 b0_2 b1_0 b1_1 b2_0 b2_1 G
  simp only [L_law09_TextureSingle_0, l_law09_TextureSingle_0_eq, a_law09_TextureSingle_0ret_raw, a_law09_TextureSingle_0N_raw]

theorem e_law09_TextureSingle_raw {R : Type} (O : Ora R) (fuel p0_0 : Nat) (p0_1 p0_2 : Nat) (p1 p2_0 : Nat) (p2_1 p3_0 p3_1 : Nat) (G : GH) (k : KV R) :
  bodyC Try.prog O lo7 fuel Try.f7 [.agg [.float .f64 p0_0, .float .f64 p0_1, .float .f64 p0_2], .float .f64 p1, .agg [.float .f64 p2_0, .float .f64 p2_1], .agg [.float .f64 p3_0, .float .f64 p3_1]] G k =
  u_law09_TextureSingle O k (fun s1 b0_0 b0_1 b0_2 b1_0 b1_1 b2_0 b2_1 G => stepN fuel (loopD Try.prog O lo7 fuel (nav (Try.f7.body.getD .skip) [1, 1, 0]) 23 (mkE 55 [(1, .float .f64 s1), (4, .loc 0 0), (6, .loc 1 0), (7, .loc 2 0)]) [[.float .f64 b0_0, .float .f64 b0_1, .float .f64 b0_2], [.float .f64 b1_0, .float .f64 b1_1], [.float .f64 b2_0, .float .f64 b2_1]] G (contC Try.prog O lo7 fuel (Try.f7.body.getD .skip) [1, 1, 0] (fun e env F G => match e with | .exit _ => none | _ => resC Try.prog Try.f7 env F G k)))) p0_0 p0_1 p0_2 p1 p2_0 p2_1 p3_0 p3_1 G := by kernel_rfl

theorem e_law09_TextureSingle {R : Type} (O : Ora R) (fuel p0_0 : Nat) (p0_1 p0_2 : Nat) (p1 p2_0 : Nat) (p2_1 p3_0 p3_1 : Nat) (G : GH) (k : KV R) :
  bodyC Try.prog O lo7 fuel Try.f7 [.agg [.float .f64 p0_0, .float .f64 p0_1, .float .f64 p0_2], .float .f64 p1, .agg [.float .f64 p2_0, .float .f64 p2_1], .agg [.float .f64 p3_0, .float .f64 p3_1]] G k =
  u_law09_TextureSingle O k (L_law09_TextureSingle_0 O fuel k) p0_0 p0_1 p0_2 p1 p2_0 p2_1 p3_0 p3_1 G := by
  rw [e_law09_TextureSingle_raw, L_law09_TextureSingle_0_eq]

theorem r_law09_TextureSingle {R : Type} (fuel n p0_0 : Nat) (p0_1 p0_2 : Nat) (p1 p2_0 : Nat) (p2_1 p3_0 p3_1 : Nat) (G : GH) (k : KV R) :
  runC Try.prog lo0 fuel (n + 1) 7 [.agg [.float .f64 p0_0, .float .f64 p0_1, .float .f64 p0_2], .float .f64 p1, .agg [.float .f64 p2_0, .float .f64 p2_1], .agg [.float .f64 p3_0, .float .f64 p3_1]] G k = bodyC Try.prog (runC Try.prog lo0 fuel n) lo7 fuel Try.f7 [.agg [.float .f64 p0_0, .float .f64 p0_1, .float .f64 p0_2], .float .f64 p1, .agg [.float .f64 p2_0, .float .f64 p2_1], .agg [.float .f64 p3_0, .float .f64 p3_1]] G k := run_body Try.func7 rfl rfl

/-! ### lantern/lanternlaw09.TextureMixes -/
end Go.LI.Film
