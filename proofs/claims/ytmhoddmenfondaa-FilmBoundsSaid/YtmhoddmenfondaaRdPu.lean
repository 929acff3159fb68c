/- What the interpreter gives for FilmBounds (written by rnd.py). -/
import Derived.Test.YtmhoddmenfondaaSeatA
namespace Go.LI.Film
open Go.Proofs.Ytmhoddmenfondaa Go Go.Proofs Go.LI
set_option maxRecDepth 100000
set_option linter.unusedVariables false
set_option linter.unusedSimpArgs false
/-! ### lantern/lanternlaw19.FilmBounds -/
def u_zv_0 {R : Type} (O : Ora R) (Kret : Bool → Int → Int → OG → Nat → Int → Int → Nat → GH → Option R) (KN : Int → Int → OG → Int → Int → Int → Int → Int → OG → Nat → Int → Int → Nat → GH → Option R) (K0 : Int → Int → Int → Int → OG → Nat → Int → Int → Nat → GH → Option R) (s0 s1 : Int) (s7 : OG) (s12 s13 : Int) (s14 b0_0 b0_1 : Int) (b0_2a : OG) (b0_2n : Nat) (b1_0 b1_1 : Int) (b1_2 : Nat) (G : GH) : Option R :=
  bif (decide (s14 < (IntKind.wrap .i64 (s0 * s1)))) then
  bif s0 == 0 then none else
  bif s0 == 0 then none else
  O fn_zW [.ptr s7, .int .i64 (Int.tmod s14 s0), .int .i64 (IntKind.wrap .i64 (Int.tdiv s14 s0))] G fun v1 G2 =>
  (ivTup 2 v1).bind fun c3 =>
  (ivAgg 8 (c3.getD 0 undefI)).bind fun c4 =>
  (ivFloat .f64 (c4.getD 0 undefI)).bind fun x5 =>
  (ivFloat .f64 (c4.getD 1 undefI)).bind fun x6 =>
  (ivFloat .f64 (c4.getD 2 undefI)).bind fun x7 =>
  (ivFloat .f64 (c4.getD 3 undefI)).bind fun x8 =>
  (ivFloat .f64 (c4.getD 4 undefI)).bind fun x9 =>
  (ivFloat .f64 (c4.getD 5 undefI)).bind fun x10 =>
  (ivInt .i64 (c4.getD 6 undefI)).bind fun x11 =>
  (ivInt .i64 (c4.getD 7 undefI)).bind fun x12 =>
  (ivInt .i64 (c3.getD 1 undefI)).bind fun x13 =>
  O fn_zg1 [.agg [.float .f64 x5, .float .f64 x6, .float .f64 x7, .float .f64 x8, .float .f64 x9, .float .f64 x10, .int .i64 x11, .int .i64 x12]] G2 fun v14 G15 =>
  (ivAgg 6 v14).bind fun c16 =>
  (ivFloat .f64 (c16.getD 0 undefI)).bind fun x17 =>
  (ivFloat .f64 (c16.getD 1 undefI)).bind fun x18 =>
  (ivFloat .f64 (c16.getD 2 undefI)).bind fun x19 =>
  (ivFloat .f64 (c16.getD 3 undefI)).bind fun x20 =>
  (ivFloat .f64 (c16.getD 4 undefI)).bind fun x21 =>
  (ivFloat .f64 (c16.getD 5 undefI)).bind fun x22 =>
  (idx? b0_2a b0_2n s14 3).bind fun a23 =>
  (ldFloat G15 .f64 (GA.add a23 0)).bind fun x24 =>
  O fn_zI [.agg [.float .f64 x17, .float .f64 x18]] G15 fun v25 G26 =>
  (ivBool v25).bind fun x27 =>
  bif x27 then
  O fn_zs [.int .i64 (1 : Int)] (gfreeze G26) fun v28 _ =>
  (ivFloat .f64 v28).bind fun x29 =>
  bif (!feq .f64 b1_2 x29) then
  Kret false b0_0 b0_1 b0_2a b0_2n b1_0 b1_1 b1_2 G26
  else
  (idx? b0_2a b0_2n s14 3).bind fun a30 =>
  (ldFloat G26 .f64 (GA.add a30 1)).bind fun x31 =>
  O fn_zI [.agg [.float .f64 x19, .float .f64 x20]] G26 fun v32 G33 =>
  (ivBool v32).bind fun x34 =>
  bif x34 then
  O fn_zs [.int .i64 (1 : Int)] (gfreeze G33) fun v35 _ =>
  (ivFloat .f64 v35).bind fun x36 =>
  bif (!feq .f64 b1_2 x36) then
  Kret false b0_0 b0_1 b0_2a b0_2n b1_0 b1_1 b1_2 G33
  else
  (idx? b0_2a b0_2n s14 3).bind fun a37 =>
  (ldFloat G33 .f64 (GA.add a37 2)).bind fun x38 =>
  O fn_zI [.agg [.float .f64 x21, .float .f64 x22]] G33 fun v39 G40 =>
  (ivBool v39).bind fun x41 =>
  bif x41 then
  O fn_zs [.int .i64 (1 : Int)] (gfreeze G40) fun v42 _ =>
  (ivFloat .f64 v42).bind fun x43 =>
  bif (!feq .f64 b1_2 x43) then
  Kret false b0_0 b0_1 b0_2a b0_2n b1_0 b1_1 b1_2 G40
  else
  KN s0 s1 s7 (IntKind.wrap .i64 (s12 + x11)) (IntKind.wrap .i64 (s13 + x12)) (IntKind.wrap .i64 (s14 + (1 : Int))) b0_0 b0_1 b0_2a b0_2n b1_0 b1_1 b1_2 G40
  else
  ((FloatKind.format .f64).sub x22 x38).bind fun r44 =>
  bif (fgt .f64 r44 b1_2) then
  Kret false b0_0 b0_1 b0_2a b0_2n b1_0 b1_1 b1_2 G40
  else
  ((FloatKind.format .f64).sub x38 x21).bind fun r45 =>
  bif (fgt .f64 r45 b1_2) then
  Kret false b0_0 b0_1 b0_2a b0_2n b1_0 b1_1 b1_2 G40
  else
  KN s0 s1 s7 (IntKind.wrap .i64 (s12 + x11)) (IntKind.wrap .i64 (s13 + x12)) (IntKind.wrap .i64 (s14 + (1 : Int))) b0_0 b0_1 b0_2a b0_2n b1_0 b1_1 b1_2 G40
  else
  ((FloatKind.format .f64).sub x20 x31).bind fun r46 =>
  bif (fgt .f64 r46 b1_2) then
  Kret false b0_0 b0_1 b0_2a b0_2n b1_0 b1_1 b1_2 G33
  else
  ((FloatKind.format .f64).sub x31 x19).bind fun r47 =>
  bif (fgt .f64 r47 b1_2) then
  Kret false b0_0 b0_1 b0_2a b0_2n b1_0 b1_1 b1_2 G33
  else
  (idx? b0_2a b0_2n s14 3).bind fun a48 =>
  (ldFloat G33 .f64 (GA.add a48 2)).bind fun x49 =>
  O fn_zI [.agg [.float .f64 x21, .float .f64 x22]] G33 fun v50 G51 =>
  (ivBool v50).bind fun x52 =>
  bif x52 then
  O fn_zs [.int .i64 (1 : Int)] (gfreeze G51) fun v53 _ =>
  (ivFloat .f64 v53).bind fun x54 =>
  bif (!feq .f64 b1_2 x54) then
  Kret false b0_0 b0_1 b0_2a b0_2n b1_0 b1_1 b1_2 G51
  else
  KN s0 s1 s7 (IntKind.wrap .i64 (s12 + x11)) (IntKind.wrap .i64 (s13 + x12)) (IntKind.wrap .i64 (s14 + (1 : Int))) b0_0 b0_1 b0_2a b0_2n b1_0 b1_1 b1_2 G51
  else
  ((FloatKind.format .f64).sub x22 x49).bind fun r55 =>
  bif (fgt .f64 r55 b1_2) then
  Kret false b0_0 b0_1 b0_2a b0_2n b1_0 b1_1 b1_2 G51
  else
  ((FloatKind.format .f64).sub x49 x21).bind fun r56 =>
  bif (fgt .f64 r56 b1_2) then
  Kret false b0_0 b0_1 b0_2a b0_2n b1_0 b1_1 b1_2 G51
  else
  KN s0 s1 s7 (IntKind.wrap .i64 (s12 + x11)) (IntKind.wrap .i64 (s13 + x12)) (IntKind.wrap .i64 (s14 + (1 : Int))) b0_0 b0_1 b0_2a b0_2n b1_0 b1_1 b1_2 G51
  else
  ((FloatKind.format .f64).sub x18 x24).bind fun r57 =>
  bif (fgt .f64 r57 b1_2) then
  Kret false b0_0 b0_1 b0_2a b0_2n b1_0 b1_1 b1_2 G26
  else
  ((FloatKind.format .f64).sub x24 x17).bind fun r58 =>
  bif (fgt .f64 r58 b1_2) then
  Kret false b0_0 b0_1 b0_2a b0_2n b1_0 b1_1 b1_2 G26
  else
  (idx? b0_2a b0_2n s14 3).bind fun a59 =>
  (ldFloat G26 .f64 (GA.add a59 1)).bind fun x60 =>
  O fn_zI [.agg [.float .f64 x19, .float .f64 x20]] G26 fun v61 G62 =>
  (ivBool v61).bind fun x63 =>
  bif x63 then
  O fn_zs [.int .i64 (1 : Int)] (gfreeze G62) fun v64 _ =>
  (ivFloat .f64 v64).bind fun x65 =>
  bif (!feq .f64 b1_2 x65) then
  Kret false b0_0 b0_1 b0_2a b0_2n b1_0 b1_1 b1_2 G62
  else
  (idx? b0_2a b0_2n s14 3).bind fun a66 =>
  (ldFloat G62 .f64 (GA.add a66 2)).bind fun x67 =>
  O fn_zI [.agg [.float .f64 x21, .float .f64 x22]] G62 fun v68 G69 =>
  (ivBool v68).bind fun x70 =>
  bif x70 then
  O fn_zs [.int .i64 (1 : Int)] (gfreeze G69) fun v71 _ =>
  (ivFloat .f64 v71).bind fun x72 =>
  bif (!feq .f64 b1_2 x72) then
  Kret false b0_0 b0_1 b0_2a b0_2n b1_0 b1_1 b1_2 G69
  else
  KN s0 s1 s7 (IntKind.wrap .i64 (s12 + x11)) (IntKind.wrap .i64 (s13 + x12)) (IntKind.wrap .i64 (s14 + (1 : Int))) b0_0 b0_1 b0_2a b0_2n b1_0 b1_1 b1_2 G69
  else
  ((FloatKind.format .f64).sub x22 x67).bind fun r73 =>
  bif (fgt .f64 r73 b1_2) then
  Kret false b0_0 b0_1 b0_2a b0_2n b1_0 b1_1 b1_2 G69
  else
  ((FloatKind.format .f64).sub x67 x21).bind fun r74 =>
  bif (fgt .f64 r74 b1_2) then
  Kret false b0_0 b0_1 b0_2a b0_2n b1_0 b1_1 b1_2 G69
  else
  KN s0 s1 s7 (IntKind.wrap .i64 (s12 + x11)) (IntKind.wrap .i64 (s13 + x12)) (IntKind.wrap .i64 (s14 + (1 : Int))) b0_0 b0_1 b0_2a b0_2n b1_0 b1_1 b1_2 G69
  else
  ((FloatKind.format .f64).sub x20 x60).bind fun r75 =>
  bif (fgt .f64 r75 b1_2) then
  Kret false b0_0 b0_1 b0_2a b0_2n b1_0 b1_1 b1_2 G62
  else
  ((FloatKind.format .f64).sub x60 x19).bind fun r76 =>
  bif (fgt .f64 r76 b1_2) then
  Kret false b0_0 b0_1 b0_2a b0_2n b1_0 b1_1 b1_2 G62
  else
  (idx? b0_2a b0_2n s14 3).bind fun a77 =>
  (ldFloat G62 .f64 (GA.add a77 2)).bind fun x78 =>
  O fn_zI [.agg [.float .f64 x21, .float .f64 x22]] G62 fun v79 G80 =>
  (ivBool v79).bind fun x81 =>
  bif x81 then
  O fn_zs [.int .i64 (1 : Int)] (gfreeze G80) fun v82 _ =>
  (ivFloat .f64 v82).bind fun x83 =>
  bif (!feq .f64 b1_2 x83) then
  Kret false b0_0 b0_1 b0_2a b0_2n b1_0 b1_1 b1_2 G80
  else
  KN s0 s1 s7 (IntKind.wrap .i64 (s12 + x11)) (IntKind.wrap .i64 (s13 + x12)) (IntKind.wrap .i64 (s14 + (1 : Int))) b0_0 b0_1 b0_2a b0_2n b1_0 b1_1 b1_2 G80
  else
  ((FloatKind.format .f64).sub x22 x78).bind fun r84 =>
  bif (fgt .f64 r84 b1_2) then
  Kret false b0_0 b0_1 b0_2a b0_2n b1_0 b1_1 b1_2 G80
  else
  ((FloatKind.format .f64).sub x78 x21).bind fun r85 =>
  bif (fgt .f64 r85 b1_2) then
  Kret false b0_0 b0_1 b0_2a b0_2n b1_0 b1_1 b1_2 G80
  else
  KN s0 s1 s7 (IntKind.wrap .i64 (s12 + x11)) (IntKind.wrap .i64 (s13 + x12)) (IntKind.wrap .i64 (s14 + (1 : Int))) b0_0 b0_1 b0_2a b0_2n b1_0 b1_1 b1_2 G80
  else
  K0 s12 s13 b0_0 b0_1 b0_2a b0_2n b1_0 b1_1 b1_2 G

def l_zv_0 {R : Type} (O : Ora R) (Kret : Bool → Int → Int → OG → Nat → Int → Int → Nat → GH → Option R) (K0 : Int → Int → Int → Int → OG → Nat → Int → Int → Nat → GH → Option R) : Nat → Int → Int → OG → Int → Int → Int → Int → Int → OG → Nat → Int → Int → Nat → GH → Option R
  | 0, _, _, _, _, _, _, _, _, _, _, _, _, _, _ => none
  | n + 1, s0, s1, s7, s12, s13, s14, b0_0, b0_1, b0_2a, b0_2n, b1_0, b1_1, b1_2, G => u_zv_0 O Kret (l_zv_0 O Kret K0 n) K0 s0 s1 s7 s12 s13 s14 b0_0 b0_1 b0_2a b0_2n b1_0 b1_1 b1_2 G

theorem u_zv_0_raw {R : Type} (O : Ora R) (fuel : Nat) (s0 s1 : Int) (s7 : OG) (s12 s13 : Int) (s14 b0_0 b0_1 : Int) (b0_2a : OG) (b0_2n : Nat) (b1_0 b1_1 : Int) (b1_2 : Nat) (G : GH) (k : KE R) :
  loopD Try.prog O lo7 (fuel + 4) (nav (Try.f7.body.getD .skip) [1, 1, 1, 1, 1, 1, 1, 1, 0, 1, 0, 0]) 48 (mkE 132 [(0, .int .i64 s0), (1, .int .i64 s1), (7, .ptr s7), (10, .loc 0 0), (11, .loc 1 0), (12, .int .i64 s12), (13, .int .i64 s13), (14, .int .i64 s14)]) [[.int .i64 b0_0, .int .i64 b0_1, .slice b0_2a b0_2n], [.int .i64 b1_0, .int .i64 b1_1, .float .f64 b1_2]] G k =
  u_zv_0 O (fun s6 b0_0 b0_1 b0_2a b0_2n b1_0 b1_1 b1_2 G => k .ret (mkE 132 [(6, .bool s6)]) [[.int .i64 b0_0, .int .i64 b0_1, .slice b0_2a b0_2n], [.int .i64 b1_0, .int .i64 b1_1, .float .f64 b1_2]] G) (fun s0 s1 s7 s12 s13 s14 b0_0 b0_1 b0_2a b0_2n b1_0 b1_1 b1_2 G => k .normal (mkE 132 [(0, .int .i64 s0), (1, .int .i64 s1), (7, .ptr s7), (10, .loc 0 0), (11, .loc 1 0), (12, .int .i64 s12), (13, .int .i64 s13), (14, .int .i64 s14)]) [[.int .i64 b0_0, .int .i64 b0_1, .slice b0_2a b0_2n], [.int .i64 b1_0, .int .i64 b1_1, .float .f64 b1_2]] G) (fun s12 s13 b0_0 b0_1 b0_2a b0_2n b1_0 b1_1 b1_2 G => k (.exit 0) (mkE 132 [(11, .loc 1 0), (12, .int .i64 s12), (13, .int .i64 s13)]) [[.int .i64 b0_0, .int .i64 b0_1, .slice b0_2a b0_2n], [.int .i64 b1_0, .int .i64 b1_1, .float .f64 b1_2]] G) s0 s1 s7 s12 s13 s14 b0_0 b0_1 b0_2a b0_2n b1_0 b1_1 b1_2 G := by kernel_rfl

theorem l_zv_0_eq {R : Type} (O : Ora R) (fuel : Nat) (k : KE R) : ∀ (n : Nat) (s0 s1 : Int) (s7 : OG) (s12 s13 : Int) (s14 b0_0 b0_1 : Int) (b0_2a : OG) (b0_2n : Nat) (b1_0 b1_1 : Int) (b1_2 : Nat) (G : GH),
  loopN (loopD Try.prog O lo7 (fuel + 4) (nav (Try.f7.body.getD .skip) [1, 1, 1, 1, 1, 1, 1, 1, 0, 1, 0, 0]) 48) n (mkE 132 [(0, .int .i64 s0), (1, .int .i64 s1), (7, .ptr s7), (10, .loc 0 0), (11, .loc 1 0), (12, .int .i64 s12), (13, .int .i64 s13), (14, .int .i64 s14)]) [[.int .i64 b0_0, .int .i64 b0_1, .slice b0_2a b0_2n], [.int .i64 b1_0, .int .i64 b1_1, .float .f64 b1_2]] G k = l_zv_0 O (fun s6 b0_0 b0_1 b0_2a b0_2n b1_0 b1_1 b1_2 G => k .ret (mkE 132 [(6, .bool s6)]) [[.int .i64 b0_0, .int .i64 b0_1, .slice b0_2a b0_2n], [.int .i64 b1_0, .int .i64 b1_1, .float .f64 b1_2]] G) (fun s12 s13 b0_0 b0_1 b0_2a b0_2n b1_0 b1_1 b1_2 G => k (.exit 0) (mkE 132 [(11, .loc 1 0), (12, .int .i64 s12), (13, .int .i64 s13)]) [[.int .i64 b0_0, .int .i64 b0_1, .slice b0_2a b0_2n], [.int .i64 b1_0, .int .i64 b1_1, .float .f64 b1_2]] G) n s0 s1 s7 s12 s13 s14 b0_0 b0_1 b0_2a b0_2n b1_0 b1_1 b1_2 G := by
  intro n
  induction n with
  | zero => intros; simp only [loopN, l_zv_0]
  | succ n ih =>
    intros
    rw [loopN_succ, u_zv_0_raw]
    simp only [l_zv_0, loopK_normal, loopK_exit, loopK_ret, ih]

def u_zv {R : Type} (O : Ora R) (k : KV R) (L0 : Int → Int → OG → Int → Int → Int → Int → Int → OG → Nat → Int → Int → Nat → GH → Option R) (p0 p1 : Int) (p2a : OG) (p2n : Nat) (G : GH) : Option R :=
  O fn_ze1 [] G fun v1 G2 =>
  (ivBool v1).bind fun x3 =>
  bif (!x3) then
  k (.bool false) G2
  else
  O fn_zu [.slice p2a p2n] G2 fun v4 G5 =>
  (ivBool v4).bind fun x6 =>
  bif (!x6) then
  k (.bool true) G5
  else
  O fn_zg [.int .i64 (IntKind.wrap .i64 ((1 : Int) + (IntKind.wrap .i64 (Int.tmod (IntKind.wrap .u64 p0) (6 : Int))))), .int .i64 (IntKind.wrap .i64 ((1 : Int) + (IntKind.wrap .i64 (Int.tmod (IntKind.wrap .u64 p1) (6 : Int))))), .slice p2a p2n] G5 fun v7 G8 =>
  (ivTup 3 v7).bind fun c9 =>
  (ivPtr (c9.getD 0 undefI)).bind fun x10 =>
  (ivSlice (c9.getD 1 undefI)).bind fun x11 =>
  (ivBool (c9.getD 2 undefI)).bind fun x12 =>
  bif (!x12) then
  k (.bool false) G8
  else
  O fn_zz [.ptr x10] G8 fun v13 G14 =>
  (ivTup 2 v13).bind fun c15 =>
  (ivAgg 3 (c15.getD 0 undefI)).bind fun c16 =>
  (ivInt .i64 (c16.getD 0 undefI)).bind fun x17 =>
  (ivInt .i64 (c16.getD 1 undefI)).bind fun x18 =>
  (ivSlice (c16.getD 2 undefI)).bind fun x19 =>
  (ivAgg 3 (c15.getD 1 undefI)).bind fun c20 =>
  (ivInt .i64 (c20.getD 0 undefI)).bind fun x21 =>
  (ivInt .i64 (c20.getD 1 undefI)).bind fun x22 =>
  (ivFloat .f64 (c20.getD 2 undefI)).bind fun x23 =>
  L0 (IntKind.wrap .i64 ((1 : Int) + (IntKind.wrap .i64 (Int.tmod (IntKind.wrap .u64 p0) (6 : Int))))) (IntKind.wrap .i64 ((1 : Int) + (IntKind.wrap .i64 (Int.tmod (IntKind.wrap .u64 p1) (6 : Int))))) x10 (0 : Int) (0 : Int) (0 : Int) x17 x18 x19.1 x19.2 x21 x22 x23 G14

def a_zv_0ret {R : Type} (O : Ora R) (k : KV R) (s6 : Bool) (b0_0 b0_1 : Int) (b0_2a : OG) (b0_2n : Nat) (b1_0 b1_1 : Int) (b1_2 : Nat) (G : GH) : Option R :=
  k (.bool s6) G

def a_zv_00 {R : Type} (O : Ora R) (k : KV R) (s12 s13 : Int) (b0_0 b0_1 : Int) (b0_2a : OG) (b0_2n : Nat) (b1_0 b1_1 : Int) (b1_2 : Nat) (G : GH) : Option R :=
  bif (b1_0 == s12) then
  bif (b1_1 == s13) then
  k (.bool (fge .f64 b1_2 (0 : Nat))) G
  else
  k (.bool false) G
  else
  k (.bool false) G

def L_zv_0 {R : Type} (O : Ora R) (fuel : Nat) (k : KV R) : Int → Int → OG → Int → Int → Int → Int → Int → OG → Nat → Int → Int → Nat → GH → Option R := fun s0 s1 s7 s12 s13 s14 b0_0 b0_1 b0_2a b0_2n b1_0 b1_1 b1_2 G =>
  l_zv_0 O (a_zv_0ret O k) (a_zv_00 O k) fuel s0 s1 s7 s12 s13 s14 b0_0 b0_1 b0_2a b0_2n b1_0 b1_1 b1_2 G

theorem a_zv_0ret_raw {R : Type} (O : Ora R) (fuel : Nat) (s6 : Bool) (b0_0 b0_1 : Int) (b0_2a : OG) (b0_2n : Nat) (b1_0 b1_1 : Int) (b1_2 : Nat) (G : GH) (k : KV R) :
  contC Try.prog O lo7 fuel (Try.f7.body.getD .skip) [1, 1, 1, 1, 1, 1, 1, 1, 0, 1, 0] (fun e env F G => match e with | .exit _ => none | _ => resC Try.prog Try.f7 env F G k) .ret (mkE 132 [(6, .bool s6)]) [[.int .i64 b0_0, .int .i64 b0_1, .slice b0_2a b0_2n], [.int .i64 b1_0, .int .i64 b1_1, .float .f64 b1_2]] G =
  a_zv_0ret O k s6 b0_0 b0_1 b0_2a b0_2n b1_0 b1_1 b1_2 G := by kernel_rfl

theorem a_zv_00_raw {R : Type} (O : Ora R) (fuel : Nat) (s12 s13 : Int) (b0_0 b0_1 : Int) (b0_2a : OG) (b0_2n : Nat) (b1_0 b1_1 : Int) (b1_2 : Nat) (G : GH) (k : KV R) :
  contC Try.prog O lo7 fuel (Try.f7.body.getD .skip) [1, 1, 1, 1, 1, 1, 1, 1, 0, 1, 0] (fun e env F G => match e with | .exit _ => none | _ => resC Try.prog Try.f7 env F G k) (.exit 0) (mkE 132 [(11, .loc 1 0), (12, .int .i64 s12), (13, .int .i64 s13)]) [[.int .i64 b0_0, .int .i64 b0_1, .slice b0_2a b0_2n], [.int .i64 b1_0, .int .i64 b1_1, .float .f64 b1_2]] G =
  a_zv_00 O k s12 s13 b0_0 b0_1 b0_2a b0_2n b1_0 b1_1 b1_2 G := by kernel_rfl

theorem L_zv_0_eq {R : Type} (O : Ora R) (fuel : Nat) (k : KV R) :
  (fun (s0 s1 : Int) (s7 : OG) (s12 s13 : Int) (s14 b0_0 b0_1 : Int) (b0_2a : OG) (b0_2n : Nat) (b1_0 b1_1 : Int) (b1_2 : Nat) (G : GH) => loopN (loopD Try.prog O lo7 (fuel + 4) (nav (Try.f7.body.getD .skip) [1, 1, 1, 1, 1, 1, 1, 1, 0, 1, 0, 0]) 48) (fuel + 4) (mkE 132 [(0, .int .i64 s0), (1, .int .i64 s1), (7, .ptr s7), (10, .loc 0 0), (11, .loc 1 0), (12, .int .i64 s12), (13, .int .i64 s13), (14, .int .i64 s14)]) [[.int .i64 b0_0, .int .i64 b0_1, .slice b0_2a b0_2n], [.int .i64 b1_0, .int .i64 b1_1, .float .f64 b1_2]] G (contC Try.prog O lo7 (fuel + 4) (Try.f7.body.getD .skip) [1, 1, 1, 1, 1, 1, 1, 1, 0, 1, 0] (fun e env F G => match e with | .exit _ => none | _ => resC Try.prog Try.f7 env F G k))) = L_zv_0 O (fuel + 4) k := by
  funext s0 s1 s7 s12 s13 s14 b0_0 b0_1 b0_2a b0_2n b1_0 b1_1 b1_2 G
  simp only [L_zv_0, l_zv_0_eq, a_zv_0ret_raw, a_zv_00_raw]

theorem e_zv_raw {R : Type} (O : Ora R) (fuel : Nat) (p0 p1 : Int) (p2a : OG) (p2n : Nat) (G : GH) (k : KV R) :
  bodyC Try.prog O lo7 fuel Try.f7 [.int .i64 p0, .int .i64 p1, .slice p2a p2n] G k =
  u_zv O k (fun s0 s1 s7 s12 s13 s14 b0_0 b0_1 b0_2a b0_2n b1_0 b1_1 b1_2 G => loopN (loopD Try.prog O lo7 fuel (nav (Try.f7.body.getD .skip) [1, 1, 1, 1, 1, 1, 1, 1, 0, 1, 0, 0]) 48) fuel (mkE 132 [(0, .int .i64 s0), (1, .int .i64 s1), (7, .ptr s7), (10, .loc 0 0), (11, .loc 1 0), (12, .int .i64 s12), (13, .int .i64 s13), (14, .int .i64 s14)]) [[.int .i64 b0_0, .int .i64 b0_1, .slice b0_2a b0_2n], [.int .i64 b1_0, .int .i64 b1_1, .float .f64 b1_2]] G (contC Try.prog O lo7 fuel (Try.f7.body.getD .skip) [1, 1, 1, 1, 1, 1, 1, 1, 0, 1, 0] (fun e env F G => match e with | .exit _ => none | _ => resC Try.prog Try.f7 env F G k))) p0 p1 p2a p2n G := by kernel_rfl

theorem e_zv {R : Type} (O : Ora R) (fuel : Nat) (p0 p1 : Int) (p2a : OG) (p2n : Nat) (G : GH) (k : KV R) :
  bodyC Try.prog O lo7 (fuel + 4) Try.f7 [.int .i64 p0, .int .i64 p1, .slice p2a p2n] G k =
  u_zv O k (L_zv_0 O (fuel + 4) k) p0 p1 p2a p2n G := by
  rw [e_zv_raw, L_zv_0_eq]

theorem r_zv {R : Type} (fuel n : Nat) (p0 p1 : Int) (p2a : OG) (p2n : Nat) (G : GH) (k : KV R) :
  runC Try.prog lo0 fuel (n + 1) 7 [.int .i64 p0, .int .i64 p1, .slice p2a p2n] G k = bodyC Try.prog (runC Try.prog lo0 fuel n) lo7 fuel Try.f7 [.int .i64 p0, .int .i64 p1, .slice p2a p2n] G k := run_body Try.func7 rfl rfl

end Go.LI.Film
