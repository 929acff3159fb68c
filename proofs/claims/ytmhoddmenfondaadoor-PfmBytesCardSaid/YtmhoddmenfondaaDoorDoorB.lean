/- What the interpreter gives for PfmSizes and what it calls (written by door.py). -/
import Derived.Test.YtmhoddmenfondaaDoorDoorA
namespace Go.LI.Door
open Go.Proofs.YtmhoddmenfondaaDoor Go Go.Proofs Go.LI
set_option maxRecDepth 100000
set_option linter.unusedVariables false
set_option linter.unusedSimpArgs false
/-! ### lantern/pfm.fits -/
theorem e_pfm_fits {R : Type} (O : Ora R) (fuel : Nat) (p0 p1 : Int) (G : GH) (k : IV → GH → Option R) :
  bodyC Tryd.prog O [777777] fuel Tryd.f38 [.int .i64 p0, .int .i64 p1] G k =
  bif (decide (p0 ≥ (1 : Int))) then
  bif (decide (p1 ≥ (1 : Int))) then
  bif (decide (p0 ≤ (1024 : Int))) then
  bif (decide (p1 ≤ (1024 : Int))) then
  k (.bool (decide ((IntKind.wrap .i64 (p0 * p1)) ≤ (65536 : Int)))) G
  else
  k (.bool false) G
  else
  k (.bool false) G
  else
  k (.bool false) G
  else
  k (.bool false) G := by kernel_rfl

theorem r_pfm_fits {R : Type} (fuel n : Nat) (p0 p1 : Int) (G : GH) (k : IV → GH → Option R) :
  runC Tryd.prog lo0 fuel (n + 1) 38 [.int .i64 p0, .int .i64 p1] G k = bodyC Tryd.prog (runC Tryd.prog lo0 fuel n) [777777] fuel Tryd.f38 [.int .i64 p0, .int .i64 p1] G k := run_body Tryd.func38 rfl rfl

/-! ### lantern/pfm.check -/
theorem e_pfm_check {R : Type} (O : Ora R) (fuel : Nat) (p0_0 p0_1 : Int) (p0_2a : Option GA) (p0_2n : Nat) (G : GH) (k : IV → GH → Option R) :
  bodyC Tryd.prog O [1, 777777] fuel Tryd.f24 [.agg [.int .i64 p0_0, .int .i64 p0_1, .slice p0_2a p0_2n]] G k =
  O fn_pfm_fits [.int .i64 p0_0, .int .i64 p0_1] G fun v1 G2 =>
  (ivBool v1).bind fun x3 =>
  bif (!x3) then
  k (.int .i64 (70 : Int)) G2
  else
  bif ((p0_2n : Int) != (IntKind.wrap .i64 (p0_0 * p0_1))) then
  k (.int .i64 (70 : Int)) G2
  else
  k (.int .i64 (0 : Int)) G2 := by kernel_rfl

theorem r_pfm_check {R : Type} (fuel n : Nat) (p0_0 p0_1 : Int) (p0_2a : Option GA) (p0_2n : Nat) (G : GH) (k : IV → GH → Option R) :
  runC Tryd.prog lo0 fuel (n + 1) 24 [.agg [.int .i64 p0_0, .int .i64 p0_1, .slice p0_2a p0_2n]] G k = bodyC Tryd.prog (runC Tryd.prog lo0 fuel n) [1, 777777] fuel Tryd.f24 [.agg [.int .i64 p0_0, .int .i64 p0_1, .slice p0_2a p0_2n]] G k := run_body Tryd.func24 rfl rfl

/-! ### lantern/pfm.head -/
theorem e_pfm_head {R : Type} (O : Ora R) (fuel : Nat) (p0 : List UInt8) (p1_0 p1_1 : Int) (p1_2a : Option GA) (p1_2n : Nat) (p2 : List UInt8) (G : GH) (k : IV → GH → Option R) :
  bodyC Tryd.prog O [4, 777777] fuel Tryd.f25 [.str p0, .agg [.int .i64 p1_0, .int .i64 p1_1, .slice p1_2a p1_2n], .str p2] G k =
  bif decide (p0.length + ([10] : List UInt8).length ≤ roomS) then
  O fn_strconv_Itoa [.int .i64 p1_0] G fun v1 G2 =>
  (ivStr v1).bind fun x3 =>
  bif decide ((p0 ++ ([10] : List UInt8)).length + x3.length ≤ roomS) then
  bif decide (((p0 ++ ([10] : List UInt8)) ++ x3).length + ([32] : List UInt8).length ≤ roomS) then
  O fn_strconv_Itoa [.int .i64 p1_1] G2 fun v4 G5 =>
  (ivStr v4).bind fun x6 =>
  bif decide ((((p0 ++ ([10] : List UInt8)) ++ x3) ++ ([32] : List UInt8)).length + x6.length ≤ roomS) then
  bif decide (((((p0 ++ ([10] : List UInt8)) ++ x3) ++ ([32] : List UInt8)) ++ x6).length + ([10] : List UInt8).length ≤ roomS) then
  bif decide ((((((p0 ++ ([10] : List UInt8)) ++ x3) ++ ([32] : List UInt8)) ++ x6) ++ ([10] : List UInt8)).length + p2.length ≤ roomS) then
  bif decide (((((((p0 ++ ([10] : List UInt8)) ++ x3) ++ ([32] : List UInt8)) ++ x6) ++ ([10] : List UInt8)) ++ p2).length + ([10] : List UInt8).length ≤ roomS) then
  k (.slice (some (gaddr G5)) ((((((((p0 ++ ([10] : List UInt8)) ++ x3) ++ ([32] : List UInt8)) ++ x6) ++ ([10] : List UInt8)) ++ p2) ++ ([10] : List UInt8)).length)) (gnew G5 (bytesI (((((((p0 ++ ([10] : List UInt8)) ++ x3) ++ ([32] : List UInt8)) ++ x6) ++ ([10] : List UInt8)) ++ p2) ++ ([10] : List UInt8))) 5)
  else none
  else none
  else none
  else none
  else none
  else none
  else none := by kernel_rfl

theorem r_pfm_head {R : Type} (fuel n : Nat) (p0 : List UInt8) (p1_0 p1_1 : Int) (p1_2a : Option GA) (p1_2n : Nat) (p2 : List UInt8) (G : GH) (k : IV → GH → Option R) :
  runC Tryd.prog lo0 fuel (n + 1) 25 [.str p0, .agg [.int .i64 p1_0, .int .i64 p1_1, .slice p1_2a p1_2n], .str p2] G k = bodyC Tryd.prog (runC Tryd.prog lo0 fuel n) [4, 777777] fuel Tryd.f25 [.str p0, .agg [.int .i64 p1_0, .int .i64 p1_1, .slice p1_2a p1_2n], .str p2] G k := run_body Tryd.func25 rfl rfl

/-! ### lantern/pfm.Byte -/
theorem e_pfm_Byte {R : Type} (O : Ora R) (fuel p0 : Nat) (G : GH) (k : IV → GH → Option R) :
  bodyC Tryd.prog O [777777] fuel Tryd.f15 [.float .f64 p0] G k =
  bif (!(fgt .f64 p0 (0 : Nat))) then
  k (.int .u8 (0 : Int)) G
  else
  bif (fge .f64 p0 (4607182418800017408 : Nat)) then
  k (.int .u8 (255 : Int)) G
  else
  ((FloatKind.format .f64).mul p0 (4643176031446892544 : Nat)).bind fun r1 =>
  ((FloatKind.format .f64).add r1 (4602678819172646912 : Nat)).bind fun r2 =>
  (f2i .f64 r2 .u8).bind fun x3 =>
  k (.int .u8 x3) G := by kernel_rfl

theorem r_pfm_Byte {R : Type} (fuel n p0 : Nat) (G : GH) (k : IV → GH → Option R) :
  runC Tryd.prog lo0 fuel (n + 1) 15 [.float .f64 p0] G k = bodyC Tryd.prog (runC Tryd.prog lo0 fuel n) [777777] fuel Tryd.f15 [.float .f64 p0] G k := run_body Tryd.func15 rfl rfl

/-! ### lantern/pfm.Write -/
def u_pfm_Write_1 {R : Type} (O : Ora R) (Kret : Option GA → Nat → Int → Int → Int → Option GA → Nat → GH → Option R) (KN : Option GA → Nat → Int → Option GA → Nat → Int → Int → Int → Int → Option GA → Nat → GH → Option R) (K2 : Option GA → Nat → Int → Int → Int → Option GA → Nat → GH → Option R) (s5a : Option GA) (s5n : Nat) (s6 : Int) (s38a : Option GA) (s38n : Nat) (s39 s40 : Int) (b0_0 b0_1 : Int) (b0_2a : Option GA) (b0_2n : Nat) (G : GH) : Option R :=
  bif (decide (s40 < s39)) then
  (idx? s38a s38n s40 3).bind fun a1 =>
  (ldFloat G .f64 (GA.add a1 0)).bind fun x2 =>
  (ldFloat G .f64 (GA.add a1 1)).bind fun x3 =>
  (ldFloat G .f64 (GA.add a1 2)).bind fun x4 =>
  (f2f .f64 x2 .f32).bind fun x5 =>
  ((FloatKind.format .f32).add x5 (0 : Nat)).bind fun r6 =>
  (f2f .f32 r6 .f64).bind fun x7 =>
  O fn_math_IsNaN [.float .f64 x7] G fun v8 G9 =>
  (ivBool v8).bind fun x10 =>
  bif x10 then
  Kret none 0 (82 : Int) b0_0 b0_1 b0_2a b0_2n G9
  else
  (f2f .f32 r6 .f64).bind fun x11 =>
  O fn_math_IsInf [.float .f64 x11, .int .i64 (0 : Int)] G9 fun v12 G13 =>
  (ivBool v12).bind fun x14 =>
  bif x14 then
  Kret none 0 (82 : Int) b0_0 b0_1 b0_2a b0_2n G13
  else
  O fn_math_Float32bits [.float .f32 r6] G13 fun v15 G16 =>
  (ivInt .u32 v15).bind fun x17 =>
  (grd (gnew G16 [.int .u8 (IntKind.wrap .u8 x17), .int .u8 (IntKind.wrap .u8 (shrI .u32 x17 (8 : Int))), .int .u8 (IntKind.wrap .u8 (shrI .u32 x17 (16 : Int))), .int .u8 (IntKind.wrap .u8 (shrI .u32 x17 (24 : Int)))] 5) (gaddr G16) (4 * 1)).bind fun x18 =>
  (gappend (gnew G16 [.int .u8 (IntKind.wrap .u8 x17), .int .u8 (IntKind.wrap .u8 (shrI .u32 x17 (8 : Int))), .int .u8 (IntKind.wrap .u8 (shrI .u32 x17 (16 : Int))), .int .u8 (IntKind.wrap .u8 (shrI .u32 x17 (24 : Int)))] 5) 5 1 1 s5a s5n x18 4).bind fun r19 =>
  (f2f .f64 x3 .f32).bind fun x20 =>
  ((FloatKind.format .f32).add x20 (0 : Nat)).bind fun r21 =>
  (f2f .f32 r21 .f64).bind fun x22 =>
  O fn_math_IsNaN [.float .f64 x22] r19.2 fun v23 G24 =>
  (ivBool v23).bind fun x25 =>
  bif x25 then
  Kret none 0 (82 : Int) b0_0 b0_1 b0_2a b0_2n G24
  else
  (f2f .f32 r21 .f64).bind fun x26 =>
  O fn_math_IsInf [.float .f64 x26, .int .i64 (0 : Int)] G24 fun v27 G28 =>
  (ivBool v27).bind fun x29 =>
  bif x29 then
  Kret none 0 (82 : Int) b0_0 b0_1 b0_2a b0_2n G28
  else
  O fn_math_Float32bits [.float .f32 r21] G28 fun v30 G31 =>
  (ivInt .u32 v30).bind fun x32 =>
  (grd (gnew G31 [.int .u8 (IntKind.wrap .u8 x32), .int .u8 (IntKind.wrap .u8 (shrI .u32 x32 (8 : Int))), .int .u8 (IntKind.wrap .u8 (shrI .u32 x32 (16 : Int))), .int .u8 (IntKind.wrap .u8 (shrI .u32 x32 (24 : Int)))] 5) (gaddr G31) (4 * 1)).bind fun x33 =>
  (gappend (gnew G31 [.int .u8 (IntKind.wrap .u8 x32), .int .u8 (IntKind.wrap .u8 (shrI .u32 x32 (8 : Int))), .int .u8 (IntKind.wrap .u8 (shrI .u32 x32 (16 : Int))), .int .u8 (IntKind.wrap .u8 (shrI .u32 x32 (24 : Int)))] 5) 5 1 1 r19.1 (s5n + 4) x33 4).bind fun r34 =>
  (f2f .f64 x4 .f32).bind fun x35 =>
  ((FloatKind.format .f32).add x35 (0 : Nat)).bind fun r36 =>
  (f2f .f32 r36 .f64).bind fun x37 =>
  O fn_math_IsNaN [.float .f64 x37] r34.2 fun v38 G39 =>
  (ivBool v38).bind fun x40 =>
  bif x40 then
  Kret none 0 (82 : Int) b0_0 b0_1 b0_2a b0_2n G39
  else
  (f2f .f32 r36 .f64).bind fun x41 =>
  O fn_math_IsInf [.float .f64 x41, .int .i64 (0 : Int)] G39 fun v42 G43 =>
  (ivBool v42).bind fun x44 =>
  bif x44 then
  Kret none 0 (82 : Int) b0_0 b0_1 b0_2a b0_2n G43
  else
  O fn_math_Float32bits [.float .f32 r36] G43 fun v45 G46 =>
  (ivInt .u32 v45).bind fun x47 =>
  (grd (gnew G46 [.int .u8 (IntKind.wrap .u8 x47), .int .u8 (IntKind.wrap .u8 (shrI .u32 x47 (8 : Int))), .int .u8 (IntKind.wrap .u8 (shrI .u32 x47 (16 : Int))), .int .u8 (IntKind.wrap .u8 (shrI .u32 x47 (24 : Int)))] 5) (gaddr G46) (4 * 1)).bind fun x48 =>
  (gappend (gnew G46 [.int .u8 (IntKind.wrap .u8 x47), .int .u8 (IntKind.wrap .u8 (shrI .u32 x47 (8 : Int))), .int .u8 (IntKind.wrap .u8 (shrI .u32 x47 (16 : Int))), .int .u8 (IntKind.wrap .u8 (shrI .u32 x47 (24 : Int)))] 5) 5 1 1 r34.1 ((s5n + 4) + 4) x48 4).bind fun r49 =>
  KN r49.1 (((s5n + 4) + 4) + 4) s6 s38a s38n s39 (IntKind.wrap .i64 (s40 + (1 : Int))) b0_0 b0_1 b0_2a b0_2n r49.2
  else
  K2 s5a s5n s6 b0_0 b0_1 b0_2a b0_2n G

def l_pfm_Write_1 {R : Type} (O : Ora R) (Kret K2 : Option GA → Nat → Int → Int → Int → Option GA → Nat → GH → Option R) : Nat → Option GA → Nat → Int → Option GA → Nat → Int → Int → Int → Int → Option GA → Nat → GH → Option R
  | 0, _, _, _, _, _, _, _, _, _, _, _, _ => none
  | n + 1, s5a, s5n, s6, s38a, s38n, s39, s40, b0_0, b0_1, b0_2a, b0_2n, G => u_pfm_Write_1 O Kret (l_pfm_Write_1 O Kret K2 n) K2 s5a s5n s6 s38a s38n s39 s40 b0_0 b0_1 b0_2a b0_2n G

theorem u_pfm_Write_1_raw {R : Type} (O : Ora R) (fuel : Nat) (s5a : Option GA) (s5n : Nat) (s6 : Int) (s38a : Option GA) (s38n : Nat) (s39 s40 : Int) (b0_0 b0_1 : Int) (b0_2a : Option GA) (b0_2n : Nat) (G : GH) (k : Ex → List IV → List (List IV) → GH → Option R) :
  loopD Tryd.prog O lo10 (fuel + 4) (nav (Tryd.f10.body.getD .skip) [1, 1, 1, 0, 1, 0, 0, 1, 0, 0, 1, 0, 0]) 36 (mkE 78 [(1, .loc 0 0), (5, .slice s5a s5n), (6, .int .i64 s6), (38, .slice s38a s38n), (39, .int .i64 s39), (40, .int .i64 s40)]) [[.int .i64 b0_0, .int .i64 b0_1, .slice b0_2a b0_2n]] G k =
  u_pfm_Write_1 O (fun s2a s2n s3 b0_0 b0_1 b0_2a b0_2n G => k .ret (mkE 78 [(2, .slice s2a s2n), (3, .int .i64 s3)]) [[.int .i64 b0_0, .int .i64 b0_1, .slice b0_2a b0_2n]] G) (fun s5a s5n s6 s38a s38n s39 s40 b0_0 b0_1 b0_2a b0_2n G => k .normal (mkE 78 [(1, .loc 0 0), (5, .slice s5a s5n), (6, .int .i64 s6), (38, .slice s38a s38n), (39, .int .i64 s39), (40, .int .i64 s40)]) [[.int .i64 b0_0, .int .i64 b0_1, .slice b0_2a b0_2n]] G) (fun s5a s5n s6 b0_0 b0_1 b0_2a b0_2n G => k (.exit 2) (mkE 78 [(1, .loc 0 0), (5, .slice s5a s5n), (6, .int .i64 s6)]) [[.int .i64 b0_0, .int .i64 b0_1, .slice b0_2a b0_2n]] G) s5a s5n s6 s38a s38n s39 s40 b0_0 b0_1 b0_2a b0_2n G := by kernel_rfl

theorem l_pfm_Write_1_eq {R : Type} (O : Ora R) (fuel : Nat) (k : Ex → List IV → List (List IV) → GH → Option R) : ∀ (n : Nat) (s5a : Option GA) (s5n : Nat) (s6 : Int) (s38a : Option GA) (s38n : Nat) (s39 s40 : Int) (b0_0 b0_1 : Int) (b0_2a : Option GA) (b0_2n : Nat) (G : GH),
  loopN (loopD Tryd.prog O lo10 (fuel + 4) (nav (Tryd.f10.body.getD .skip) [1, 1, 1, 0, 1, 0, 0, 1, 0, 0, 1, 0, 0]) 36) n (mkE 78 [(1, .loc 0 0), (5, .slice s5a s5n), (6, .int .i64 s6), (38, .slice s38a s38n), (39, .int .i64 s39), (40, .int .i64 s40)]) [[.int .i64 b0_0, .int .i64 b0_1, .slice b0_2a b0_2n]] G k = l_pfm_Write_1 O (fun s2a s2n s3 b0_0 b0_1 b0_2a b0_2n G => k .ret (mkE 78 [(2, .slice s2a s2n), (3, .int .i64 s3)]) [[.int .i64 b0_0, .int .i64 b0_1, .slice b0_2a b0_2n]] G) (fun s5a s5n s6 b0_0 b0_1 b0_2a b0_2n G => k (.exit 2) (mkE 78 [(1, .loc 0 0), (5, .slice s5a s5n), (6, .int .i64 s6)]) [[.int .i64 b0_0, .int .i64 b0_1, .slice b0_2a b0_2n]] G) n s5a s5n s6 s38a s38n s39 s40 b0_0 b0_1 b0_2a b0_2n G := by
  intro n
  induction n with
  | zero => intros; rfl
  | succ n ih =>
    intros
    rw [loopN_succ, u_pfm_Write_1_raw]
    simp only [l_pfm_Write_1, loopK_normal, loopK_exit, loopK_ret, ih]

def u_pfm_Write_0 {R : Type} (O : Ora R) (Kret KN : Option GA → Nat → Int → Int → Int → Option GA → Nat → GH → Option R) (K0 : Option GA → Nat → Int → Int → Option GA → Nat → GH → Option R) (L1 : Option GA → Nat → Int → Option GA → Nat → Int → Int → Int → Int → Option GA → Nat → GH → Option R) (s5a : Option GA) (s5n : Nat) (s6 b0_0 b0_1 : Int) (b0_2a : Option GA) (b0_2n : Nat) (G : GH) : Option R :=
  bif (decide (s6 ≥ (0 : Int))) then
  bif decide (0 ≤ (IntKind.wrap .i64 (s6 * b0_0)) ∧ (IntKind.wrap .i64 (s6 * b0_0)) ≤ (IntKind.wrap .i64 ((IntKind.wrap .i64 (s6 + (1 : Int))) * b0_0)) ∧ (IntKind.wrap .i64 ((IntKind.wrap .i64 (s6 + (1 : Int))) * b0_0)) ≤ (b0_2n : Int)) && gcut G b0_2a 39 then
  L1 s5a s5n s6 (cutA b0_2a (Int.toNat (IntKind.wrap .i64 (s6 * b0_0)) * 3)) (Int.toNat (IntKind.wrap .i64 ((IntKind.wrap .i64 (s6 + (1 : Int))) * b0_0)) - Int.toNat (IntKind.wrap .i64 (s6 * b0_0))) (((Int.toNat (IntKind.wrap .i64 ((IntKind.wrap .i64 (s6 + (1 : Int))) * b0_0)) - Int.toNat (IntKind.wrap .i64 (s6 * b0_0))) : Nat) : Int) (0 : Int) b0_0 b0_1 b0_2a b0_2n G
  else none
  else
  K0 s5a s5n b0_0 b0_1 b0_2a b0_2n G

def a_pfm_Write_1ret {R : Type} (O : Ora R) (Kret KN : Option GA → Nat → Int → Int → Int → Option GA → Nat → GH → Option R) (K0 : Option GA → Nat → Int → Int → Option GA → Nat → GH → Option R) (s2a : Option GA) (s2n : Nat) (s3 b0_0 b0_1 : Int) (b0_2a : Option GA) (b0_2n : Nat) (G : GH) : Option R :=
  Kret s2a s2n s3 b0_0 b0_1 b0_2a b0_2n G

def a_pfm_Write_12 {R : Type} (O : Ora R) (Kret KN : Option GA → Nat → Int → Int → Int → Option GA → Nat → GH → Option R) (K0 : Option GA → Nat → Int → Int → Option GA → Nat → GH → Option R) (s5a : Option GA) (s5n : Nat) (s6 b0_0 b0_1 : Int) (b0_2a : Option GA) (b0_2n : Nat) (G : GH) : Option R :=
  KN s5a s5n (IntKind.wrap .i64 (s6 - (1 : Int))) b0_0 b0_1 b0_2a b0_2n G

def L_pfm_Write_1 {R : Type} (O : Ora R) (fuel : Nat) (Kret KN : Option GA → Nat → Int → Int → Int → Option GA → Nat → GH → Option R) (K0 : Option GA → Nat → Int → Int → Option GA → Nat → GH → Option R) : Option GA → Nat → Int → Option GA → Nat → Int → Int → Int → Int → Option GA → Nat → GH → Option R := fun s5a s5n s6 s38a s38n s39 s40 b0_0 b0_1 b0_2a b0_2n G =>
  l_pfm_Write_1 O (a_pfm_Write_1ret O Kret KN K0) (a_pfm_Write_12 O Kret KN K0) fuel s5a s5n s6 s38a s38n s39 s40 b0_0 b0_1 b0_2a b0_2n G

theorem a_pfm_Write_1ret_raw {R : Type} (O : Ora R) (fuel : Nat) (s2a : Option GA) (s2n : Nat) (s3 b0_0 b0_1 : Int) (b0_2a : Option GA) (b0_2n : Nat) (G : GH) (k : Ex → List IV → List (List IV) → GH → Option R) :
  contC Tryd.prog O lo10 fuel (nav (Tryd.f10.body.getD .skip) [1, 1, 1, 0, 1, 0, 0]) [1, 0, 0, 1, 0] (kpD lo10 24 1 k) .ret (mkE 78 [(2, .slice s2a s2n), (3, .int .i64 s3)]) [[.int .i64 b0_0, .int .i64 b0_1, .slice b0_2a b0_2n]] G =
  a_pfm_Write_1ret O (fun s2a s2n s3 b0_0 b0_1 b0_2a b0_2n G => k .ret (mkE 78 [(2, .slice s2a s2n), (3, .int .i64 s3)]) [[.int .i64 b0_0, .int .i64 b0_1, .slice b0_2a b0_2n]] G) (fun s5a s5n s6 b0_0 b0_1 b0_2a b0_2n G => k .normal (mkE 78 [(1, .loc 0 0), (5, .slice s5a s5n), (6, .int .i64 s6)]) [[.int .i64 b0_0, .int .i64 b0_1, .slice b0_2a b0_2n]] G) (fun s5a s5n b0_0 b0_1 b0_2a b0_2n G => k (.exit 0) (mkE 78 [(5, .slice s5a s5n)]) [[.int .i64 b0_0, .int .i64 b0_1, .slice b0_2a b0_2n]] G) s2a s2n s3 b0_0 b0_1 b0_2a b0_2n G := by kernel_rfl

theorem a_pfm_Write_12_raw {R : Type} (O : Ora R) (fuel : Nat) (s5a : Option GA) (s5n : Nat) (s6 b0_0 b0_1 : Int) (b0_2a : Option GA) (b0_2n : Nat) (G : GH) (k : Ex → List IV → List (List IV) → GH → Option R) :
  contC Tryd.prog O lo10 fuel (nav (Tryd.f10.body.getD .skip) [1, 1, 1, 0, 1, 0, 0]) [1, 0, 0, 1, 0] (kpD lo10 24 1 k) (.exit 2) (mkE 78 [(1, .loc 0 0), (5, .slice s5a s5n), (6, .int .i64 s6)]) [[.int .i64 b0_0, .int .i64 b0_1, .slice b0_2a b0_2n]] G =
  a_pfm_Write_12 O (fun s2a s2n s3 b0_0 b0_1 b0_2a b0_2n G => k .ret (mkE 78 [(2, .slice s2a s2n), (3, .int .i64 s3)]) [[.int .i64 b0_0, .int .i64 b0_1, .slice b0_2a b0_2n]] G) (fun s5a s5n s6 b0_0 b0_1 b0_2a b0_2n G => k .normal (mkE 78 [(1, .loc 0 0), (5, .slice s5a s5n), (6, .int .i64 s6)]) [[.int .i64 b0_0, .int .i64 b0_1, .slice b0_2a b0_2n]] G) (fun s5a s5n b0_0 b0_1 b0_2a b0_2n G => k (.exit 0) (mkE 78 [(5, .slice s5a s5n)]) [[.int .i64 b0_0, .int .i64 b0_1, .slice b0_2a b0_2n]] G) s5a s5n s6 b0_0 b0_1 b0_2a b0_2n G := by kernel_rfl

theorem L_pfm_Write_1_eq {R : Type} (O : Ora R) (fuel : Nat) (k : Ex → List IV → List (List IV) → GH → Option R) :
  (fun (s5a : Option GA) (s5n : Nat) (s6 : Int) (s38a : Option GA) (s38n : Nat) (s39 s40 : Int) (b0_0 b0_1 : Int) (b0_2a : Option GA) (b0_2n : Nat) (G : GH) => loopN (loopD Tryd.prog O lo10 (fuel + 4) (nav (Tryd.f10.body.getD .skip) [1, 1, 1, 0, 1, 0, 0, 1, 0, 0, 1, 0, 0]) 36) (fuel + 4) (mkE 78 [(1, .loc 0 0), (5, .slice s5a s5n), (6, .int .i64 s6), (38, .slice s38a s38n), (39, .int .i64 s39), (40, .int .i64 s40)]) [[.int .i64 b0_0, .int .i64 b0_1, .slice b0_2a b0_2n]] G (contC Tryd.prog O lo10 (fuel + 4) (nav (Tryd.f10.body.getD .skip) [1, 1, 1, 0, 1, 0, 0]) [1, 0, 0, 1, 0] (kpD lo10 24 1 k))) = L_pfm_Write_1 O (fuel + 4) (fun (s2a : Option GA) (s2n : Nat) (s3 b0_0 b0_1 : Int) (b0_2a : Option GA) (b0_2n : Nat) (G : GH) => k .ret (mkE 78 [(2, .slice s2a s2n), (3, .int .i64 s3)]) [[.int .i64 b0_0, .int .i64 b0_1, .slice b0_2a b0_2n]] G) (fun (s5a : Option GA) (s5n : Nat) (s6 b0_0 b0_1 : Int) (b0_2a : Option GA) (b0_2n : Nat) (G : GH) => k .normal (mkE 78 [(1, .loc 0 0), (5, .slice s5a s5n), (6, .int .i64 s6)]) [[.int .i64 b0_0, .int .i64 b0_1, .slice b0_2a b0_2n]] G) (fun (s5a : Option GA) (s5n : Nat) (b0_0 b0_1 : Int) (b0_2a : Option GA) (b0_2n : Nat) (G : GH) => k (.exit 0) (mkE 78 [(5, .slice s5a s5n)]) [[.int .i64 b0_0, .int .i64 b0_1, .slice b0_2a b0_2n]] G) := by
  funext s5a s5n s6 s38a s38n s39 s40 b0_0 b0_1 b0_2a b0_2n G
  simp only [L_pfm_Write_1, l_pfm_Write_1_eq, a_pfm_Write_1ret_raw, a_pfm_Write_12_raw]

def l_pfm_Write_0 {R : Type} (O : Ora R) (fuel : Nat) (Kret : Option GA → Nat → Int → Int → Int → Option GA → Nat → GH → Option R) (K0 : Option GA → Nat → Int → Int → Option GA → Nat → GH → Option R) : Nat → Option GA → Nat → Int → Int → Int → Option GA → Nat → GH → Option R
  | 0, _, _, _, _, _, _, _, _ => none
  | n + 1, s5a, s5n, s6, b0_0, b0_1, b0_2a, b0_2n, G => u_pfm_Write_0 O Kret (l_pfm_Write_0 O fuel Kret K0 n) K0 (L_pfm_Write_1 O fuel Kret (l_pfm_Write_0 O fuel Kret K0 n) K0) s5a s5n s6 b0_0 b0_1 b0_2a b0_2n G

theorem u_pfm_Write_0_raw {R : Type} (O : Ora R) (fuel : Nat) (s5a : Option GA) (s5n : Nat) (s6 b0_0 b0_1 : Int) (b0_2a : Option GA) (b0_2n : Nat) (G : GH) (k : Ex → List IV → List (List IV) → GH → Option R) :
  loopD Tryd.prog O lo10 fuel (nav (Tryd.f10.body.getD .skip) [1, 1, 1, 0, 1, 0, 0]) 24 (mkE 78 [(1, .loc 0 0), (5, .slice s5a s5n), (6, .int .i64 s6)]) [[.int .i64 b0_0, .int .i64 b0_1, .slice b0_2a b0_2n]] G k =
  u_pfm_Write_0 O (fun s2a s2n s3 b0_0 b0_1 b0_2a b0_2n G => k .ret (mkE 78 [(2, .slice s2a s2n), (3, .int .i64 s3)]) [[.int .i64 b0_0, .int .i64 b0_1, .slice b0_2a b0_2n]] G) (fun s5a s5n s6 b0_0 b0_1 b0_2a b0_2n G => k .normal (mkE 78 [(1, .loc 0 0), (5, .slice s5a s5n), (6, .int .i64 s6)]) [[.int .i64 b0_0, .int .i64 b0_1, .slice b0_2a b0_2n]] G) (fun s5a s5n b0_0 b0_1 b0_2a b0_2n G => k (.exit 0) (mkE 78 [(5, .slice s5a s5n)]) [[.int .i64 b0_0, .int .i64 b0_1, .slice b0_2a b0_2n]] G) (fun s5a s5n s6 s38a s38n s39 s40 b0_0 b0_1 b0_2a b0_2n G => loopN (loopD Tryd.prog O lo10 fuel (nav (Tryd.f10.body.getD .skip) [1, 1, 1, 0, 1, 0, 0, 1, 0, 0, 1, 0, 0]) 36) fuel (mkE 78 [(1, .loc 0 0), (5, .slice s5a s5n), (6, .int .i64 s6), (38, .slice s38a s38n), (39, .int .i64 s39), (40, .int .i64 s40)]) [[.int .i64 b0_0, .int .i64 b0_1, .slice b0_2a b0_2n]] G (contC Tryd.prog O lo10 fuel (nav (Tryd.f10.body.getD .skip) [1, 1, 1, 0, 1, 0, 0]) [1, 0, 0, 1, 0] (kpD lo10 24 1 k))) s5a s5n s6 b0_0 b0_1 b0_2a b0_2n G := by kernel_rfl

theorem l_pfm_Write_0_eq {R : Type} (O : Ora R) (fuel : Nat) (k : Ex → List IV → List (List IV) → GH → Option R) : ∀ (n : Nat) (s5a : Option GA) (s5n : Nat) (s6 b0_0 b0_1 : Int) (b0_2a : Option GA) (b0_2n : Nat) (G : GH),
  loopN (loopD Tryd.prog O lo10 (fuel + 4) (nav (Tryd.f10.body.getD .skip) [1, 1, 1, 0, 1, 0, 0]) 24) n (mkE 78 [(1, .loc 0 0), (5, .slice s5a s5n), (6, .int .i64 s6)]) [[.int .i64 b0_0, .int .i64 b0_1, .slice b0_2a b0_2n]] G k = l_pfm_Write_0 O (fuel + 4) (fun s2a s2n s3 b0_0 b0_1 b0_2a b0_2n G => k .ret (mkE 78 [(2, .slice s2a s2n), (3, .int .i64 s3)]) [[.int .i64 b0_0, .int .i64 b0_1, .slice b0_2a b0_2n]] G) (fun s5a s5n b0_0 b0_1 b0_2a b0_2n G => k (.exit 0) (mkE 78 [(5, .slice s5a s5n)]) [[.int .i64 b0_0, .int .i64 b0_1, .slice b0_2a b0_2n]] G) n s5a s5n s6 b0_0 b0_1 b0_2a b0_2n G := by
  intro n
  induction n with
  | zero => intros; rfl
  | succ n ih =>
    intros
    rw [loopN_succ, u_pfm_Write_0_raw]
    simp only [l_pfm_Write_0, loopK_normal, loopK_exit, loopK_ret, ih, L_pfm_Write_1_eq]

def u_pfm_Write {R : Type} (O : Ora R) (k : IV → GH → Option R) (L0 : Option GA → Nat → Int → Int → Int → Option GA → Nat → GH → Option R) (p0_0 p0_1 : Int) (p0_2a : Option GA) (p0_2n : Nat) (G : GH) : Option R :=
  O fn_pfm_check [.agg [.int .i64 p0_0, .int .i64 p0_1, .slice p0_2a p0_2n]] G fun v1 G2 =>
  (ivInt .i64 v1).bind fun x3 =>
  bif (x3 != (0 : Int)) then
  k (.tuple [.slice none 0, .int .i64 x3]) G2
  else
  O fn_pfm_head [.str ([80, 70] : List UInt8), .agg [.int .i64 p0_0, .int .i64 p0_1, .slice p0_2a p0_2n], .str ([45, 49, 46, 48] : List UInt8)] G2 fun v4 G5 =>
  (ivSlice v4).bind fun x6 =>
  L0 x6.1 x6.2 (IntKind.wrap .i64 (p0_1 - (1 : Int))) p0_0 p0_1 p0_2a p0_2n G5

def a_pfm_Write_0ret {R : Type} (O : Ora R) (k : IV → GH → Option R) (s2a : Option GA) (s2n : Nat) (s3 b0_0 b0_1 : Int) (b0_2a : Option GA) (b0_2n : Nat) (G : GH) : Option R :=
  k (.tuple [.slice s2a s2n, .int .i64 s3]) G

def a_pfm_Write_00 {R : Type} (O : Ora R) (k : IV → GH → Option R) (s5a : Option GA) (s5n : Nat) (b0_0 b0_1 : Int) (b0_2a : Option GA) (b0_2n : Nat) (G : GH) : Option R :=
  k (.tuple [.slice s5a s5n, .int .i64 (0 : Int)]) G

def L_pfm_Write_0 {R : Type} (O : Ora R) (fuel : Nat) (k : IV → GH → Option R) : Option GA → Nat → Int → Int → Int → Option GA → Nat → GH → Option R := fun s5a s5n s6 b0_0 b0_1 b0_2a b0_2n G =>
  l_pfm_Write_0 O fuel (a_pfm_Write_0ret O k) (a_pfm_Write_00 O k) fuel s5a s5n s6 b0_0 b0_1 b0_2a b0_2n G

theorem a_pfm_Write_0ret_raw {R : Type} (O : Ora R) (fuel : Nat) (s2a : Option GA) (s2n : Nat) (s3 b0_0 b0_1 : Int) (b0_2a : Option GA) (b0_2n : Nat) (G : GH) (k : IV → GH → Option R) :
  contC Tryd.prog O lo10 fuel (Tryd.f10.body.getD .skip) [1, 1, 1, 0, 1, 0] (fun e env F G => match e with | .exit _ => none | _ => resC Tryd.prog Tryd.f10 env F G k) .ret (mkE 78 [(2, .slice s2a s2n), (3, .int .i64 s3)]) [[.int .i64 b0_0, .int .i64 b0_1, .slice b0_2a b0_2n]] G =
  a_pfm_Write_0ret O k s2a s2n s3 b0_0 b0_1 b0_2a b0_2n G := by kernel_rfl

theorem a_pfm_Write_00_raw {R : Type} (O : Ora R) (fuel : Nat) (s5a : Option GA) (s5n : Nat) (b0_0 b0_1 : Int) (b0_2a : Option GA) (b0_2n : Nat) (G : GH) (k : IV → GH → Option R) :
  contC Tryd.prog O lo10 fuel (Tryd.f10.body.getD .skip) [1, 1, 1, 0, 1, 0] (fun e env F G => match e with | .exit _ => none | _ => resC Tryd.prog Tryd.f10 env F G k) (.exit 0) (mkE 78 [(5, .slice s5a s5n)]) [[.int .i64 b0_0, .int .i64 b0_1, .slice b0_2a b0_2n]] G =
  a_pfm_Write_00 O k s5a s5n b0_0 b0_1 b0_2a b0_2n G := by kernel_rfl

theorem L_pfm_Write_0_eq {R : Type} (O : Ora R) (fuel : Nat) (k : IV → GH → Option R) :
  (fun (s5a : Option GA) (s5n : Nat) (s6 b0_0 b0_1 : Int) (b0_2a : Option GA) (b0_2n : Nat) (G : GH) => loopN (loopD Tryd.prog O lo10 (fuel + 4) (nav (Tryd.f10.body.getD .skip) [1, 1, 1, 0, 1, 0, 0]) 24) (fuel + 4) (mkE 78 [(1, .loc 0 0), (5, .slice s5a s5n), (6, .int .i64 s6)]) [[.int .i64 b0_0, .int .i64 b0_1, .slice b0_2a b0_2n]] G (contC Tryd.prog O lo10 (fuel + 4) (Tryd.f10.body.getD .skip) [1, 1, 1, 0, 1, 0] (fun e env F G => match e with | .exit _ => none | _ => resC Tryd.prog Tryd.f10 env F G k))) = L_pfm_Write_0 O (fuel + 4) k := by
  funext s5a s5n s6 b0_0 b0_1 b0_2a b0_2n G
  simp only [L_pfm_Write_0, l_pfm_Write_0_eq, a_pfm_Write_0ret_raw, a_pfm_Write_00_raw]

theorem e_pfm_Write_raw {R : Type} (O : Ora R) (fuel : Nat) (p0_0 p0_1 : Int) (p0_2a : Option GA) (p0_2n : Nat) (G : GH) (k : IV → GH → Option R) :
  bodyC Tryd.prog O lo10 fuel Tryd.f10 [.agg [.int .i64 p0_0, .int .i64 p0_1, .slice p0_2a p0_2n]] G k =
  u_pfm_Write O k (fun s5a s5n s6 b0_0 b0_1 b0_2a b0_2n G => loopN (loopD Tryd.prog O lo10 fuel (nav (Tryd.f10.body.getD .skip) [1, 1, 1, 0, 1, 0, 0]) 24) fuel (mkE 78 [(1, .loc 0 0), (5, .slice s5a s5n), (6, .int .i64 s6)]) [[.int .i64 b0_0, .int .i64 b0_1, .slice b0_2a b0_2n]] G (contC Tryd.prog O lo10 fuel (Tryd.f10.body.getD .skip) [1, 1, 1, 0, 1, 0] (fun e env F G => match e with | .exit _ => none | _ => resC Tryd.prog Tryd.f10 env F G k))) p0_0 p0_1 p0_2a p0_2n G := by kernel_rfl

theorem e_pfm_Write {R : Type} (O : Ora R) (fuel : Nat) (p0_0 p0_1 : Int) (p0_2a : Option GA) (p0_2n : Nat) (G : GH) (k : IV → GH → Option R) :
  bodyC Tryd.prog O lo10 (fuel + 4) Tryd.f10 [.agg [.int .i64 p0_0, .int .i64 p0_1, .slice p0_2a p0_2n]] G k =
  u_pfm_Write O k (L_pfm_Write_0 O (fuel + 4) k) p0_0 p0_1 p0_2a p0_2n G := by
  rw [e_pfm_Write_raw, L_pfm_Write_0_eq]

theorem r_pfm_Write {R : Type} (fuel n : Nat) (p0_0 p0_1 : Int) (p0_2a : Option GA) (p0_2n : Nat) (G : GH) (k : IV → GH → Option R) :
  runC Tryd.prog lo0 fuel (n + 1) 10 [.agg [.int .i64 p0_0, .int .i64 p0_1, .slice p0_2a p0_2n]] G k = bodyC Tryd.prog (runC Tryd.prog lo0 fuel n) lo10 fuel Tryd.f10 [.agg [.int .i64 p0_0, .int .i64 p0_1, .slice p0_2a p0_2n]] G k := run_body Tryd.func10 rfl rfl

/-! ### lantern/pfm.WritePPM -/
def u_pfm_WritePPM_0 {R : Type} (O : Ora R) (KN : Option GA → Nat → Option GA → Nat → Int → Int → Int → Int → Option GA → Nat → GH → Option R) (K0 : Option GA → Nat → Int → Int → Option GA → Nat → GH → Option R) (s5a : Option GA) (s5n : Nat) (s16a : Option GA) (s16n : Nat) (s17 s18 : Int) (b0_0 b0_1 : Int) (b0_2a : Option GA) (b0_2n : Nat) (G : GH) : Option R :=
  bif (decide (s18 < s17)) then
  (idx? s16a s16n s18 3).bind fun a1 =>
  (ldFloat G .f64 (GA.add a1 0)).bind fun x2 =>
  (ldFloat G .f64 (GA.add a1 1)).bind fun x3 =>
  (ldFloat G .f64 (GA.add a1 2)).bind fun x4 =>
  O fn_pfm_Byte [.float .f64 x2] G fun v5 G6 =>
  (ivInt .u8 v5).bind fun x7 =>
  O fn_pfm_Byte [.float .f64 x3] G6 fun v8 G9 =>
  (ivInt .u8 v8).bind fun x10 =>
  O fn_pfm_Byte [.float .f64 x4] G9 fun v11 G12 =>
  (ivInt .u8 v11).bind fun x13 =>
  (grd (gnew G12 [.int .u8 x7, .int .u8 x10, .int .u8 x13] 5) (gaddr G12) (3 * 1)).bind fun x14 =>
  (gappend (gnew G12 [.int .u8 x7, .int .u8 x10, .int .u8 x13] 5) 5 1 1 s5a s5n x14 3).bind fun r15 =>
  KN r15.1 (s5n + 3) s16a s16n s17 (IntKind.wrap .i64 (s18 + (1 : Int))) b0_0 b0_1 b0_2a b0_2n r15.2
  else
  K0 s5a s5n b0_0 b0_1 b0_2a b0_2n G

def l_pfm_WritePPM_0 {R : Type} (O : Ora R) (K0 : Option GA → Nat → Int → Int → Option GA → Nat → GH → Option R) : Nat → Option GA → Nat → Option GA → Nat → Int → Int → Int → Int → Option GA → Nat → GH → Option R
  | 0, _, _, _, _, _, _, _, _, _, _, _ => none
  | n + 1, s5a, s5n, s16a, s16n, s17, s18, b0_0, b0_1, b0_2a, b0_2n, G => u_pfm_WritePPM_0 O (l_pfm_WritePPM_0 O K0 n) K0 s5a s5n s16a s16n s17 s18 b0_0 b0_1 b0_2a b0_2n G

theorem u_pfm_WritePPM_0_raw {R : Type} (O : Ora R) (fuel : Nat) (s5a : Option GA) (s5n : Nat) (s16a : Option GA) (s16n : Nat) (s17 s18 : Int) (b0_0 b0_1 : Int) (b0_2a : Option GA) (b0_2n : Nat) (G : GH) (k : Ex → List IV → List (List IV) → GH → Option R) :
  loopD Tryd.prog O lo13 fuel (nav (Tryd.f13.body.getD .skip) [1, 1, 1, 0, 1, 0, 0]) 24 (mkE 36 [(5, .slice s5a s5n), (16, .slice s16a s16n), (17, .int .i64 s17), (18, .int .i64 s18)]) [[.int .i64 b0_0, .int .i64 b0_1, .slice b0_2a b0_2n]] G k =
  u_pfm_WritePPM_0 O (fun s5a s5n s16a s16n s17 s18 b0_0 b0_1 b0_2a b0_2n G => k .normal (mkE 36 [(5, .slice s5a s5n), (16, .slice s16a s16n), (17, .int .i64 s17), (18, .int .i64 s18)]) [[.int .i64 b0_0, .int .i64 b0_1, .slice b0_2a b0_2n]] G) (fun s5a s5n b0_0 b0_1 b0_2a b0_2n G => k (.exit 0) (mkE 36 [(5, .slice s5a s5n)]) [[.int .i64 b0_0, .int .i64 b0_1, .slice b0_2a b0_2n]] G) s5a s5n s16a s16n s17 s18 b0_0 b0_1 b0_2a b0_2n G := by kernel_rfl

theorem l_pfm_WritePPM_0_eq {R : Type} (O : Ora R) (fuel : Nat) (k : Ex → List IV → List (List IV) → GH → Option R) : ∀ (n : Nat) (s5a : Option GA) (s5n : Nat) (s16a : Option GA) (s16n : Nat) (s17 s18 : Int) (b0_0 b0_1 : Int) (b0_2a : Option GA) (b0_2n : Nat) (G : GH),
  loopN (loopD Tryd.prog O lo13 fuel (nav (Tryd.f13.body.getD .skip) [1, 1, 1, 0, 1, 0, 0]) 24) n (mkE 36 [(5, .slice s5a s5n), (16, .slice s16a s16n), (17, .int .i64 s17), (18, .int .i64 s18)]) [[.int .i64 b0_0, .int .i64 b0_1, .slice b0_2a b0_2n]] G k = l_pfm_WritePPM_0 O (fun s5a s5n b0_0 b0_1 b0_2a b0_2n G => k (.exit 0) (mkE 36 [(5, .slice s5a s5n)]) [[.int .i64 b0_0, .int .i64 b0_1, .slice b0_2a b0_2n]] G) n s5a s5n s16a s16n s17 s18 b0_0 b0_1 b0_2a b0_2n G := by
  intro n
  induction n with
  | zero => intros; rfl
  | succ n ih =>
    intros
    rw [loopN_succ, u_pfm_WritePPM_0_raw]
    simp only [l_pfm_WritePPM_0, loopK_normal, loopK_exit, loopK_ret, ih]

def u_pfm_WritePPM {R : Type} (O : Ora R) (k : IV → GH → Option R) (L0 : Option GA → Nat → Option GA → Nat → Int → Int → Int → Int → Option GA → Nat → GH → Option R) (p0_0 p0_1 : Int) (p0_2a : Option GA) (p0_2n : Nat) (G : GH) : Option R :=
  O fn_pfm_check [.agg [.int .i64 p0_0, .int .i64 p0_1, .slice p0_2a p0_2n]] G fun v1 G2 =>
  (ivInt .i64 v1).bind fun x3 =>
  bif (x3 != (0 : Int)) then
  k (.tuple [.slice none 0, .int .i64 x3]) G2
  else
  O fn_pfm_head [.str ([80, 54] : List UInt8), .agg [.int .i64 p0_0, .int .i64 p0_1, .slice p0_2a p0_2n], .str ([50, 53, 53] : List UInt8)] G2 fun v4 G5 =>
  (ivSlice v4).bind fun x6 =>
  L0 x6.1 x6.2 p0_2a p0_2n (p0_2n : Int) (0 : Int) p0_0 p0_1 p0_2a p0_2n G5

def a_pfm_WritePPM_00 {R : Type} (O : Ora R) (k : IV → GH → Option R) (s5a : Option GA) (s5n : Nat) (b0_0 b0_1 : Int) (b0_2a : Option GA) (b0_2n : Nat) (G : GH) : Option R :=
  k (.tuple [.slice s5a s5n, .int .i64 (0 : Int)]) G

def L_pfm_WritePPM_0 {R : Type} (O : Ora R) (fuel : Nat) (k : IV → GH → Option R) : Option GA → Nat → Option GA → Nat → Int → Int → Int → Int → Option GA → Nat → GH → Option R := fun s5a s5n s16a s16n s17 s18 b0_0 b0_1 b0_2a b0_2n G =>
  l_pfm_WritePPM_0 O (a_pfm_WritePPM_00 O k) fuel s5a s5n s16a s16n s17 s18 b0_0 b0_1 b0_2a b0_2n G

theorem a_pfm_WritePPM_00_raw {R : Type} (O : Ora R) (fuel : Nat) (s5a : Option GA) (s5n : Nat) (b0_0 b0_1 : Int) (b0_2a : Option GA) (b0_2n : Nat) (G : GH) (k : IV → GH → Option R) :
  contC Tryd.prog O lo13 fuel (Tryd.f13.body.getD .skip) [1, 1, 1, 0, 1, 0] (fun e env F G => match e with | .exit _ => none | _ => resC Tryd.prog Tryd.f13 env F G k) (.exit 0) (mkE 36 [(5, .slice s5a s5n)]) [[.int .i64 b0_0, .int .i64 b0_1, .slice b0_2a b0_2n]] G =
  a_pfm_WritePPM_00 O k s5a s5n b0_0 b0_1 b0_2a b0_2n G := by kernel_rfl

theorem L_pfm_WritePPM_0_eq {R : Type} (O : Ora R) (fuel : Nat) (k : IV → GH → Option R) :
  (fun (s5a : Option GA) (s5n : Nat) (s16a : Option GA) (s16n : Nat) (s17 s18 : Int) (b0_0 b0_1 : Int) (b0_2a : Option GA) (b0_2n : Nat) (G : GH) => loopN (loopD Tryd.prog O lo13 fuel (nav (Tryd.f13.body.getD .skip) [1, 1, 1, 0, 1, 0, 0]) 24) fuel (mkE 36 [(5, .slice s5a s5n), (16, .slice s16a s16n), (17, .int .i64 s17), (18, .int .i64 s18)]) [[.int .i64 b0_0, .int .i64 b0_1, .slice b0_2a b0_2n]] G (contC Tryd.prog O lo13 fuel (Tryd.f13.body.getD .skip) [1, 1, 1, 0, 1, 0] (fun e env F G => match e with | .exit _ => none | _ => resC Tryd.prog Tryd.f13 env F G k))) = L_pfm_WritePPM_0 O fuel k := by
  funext s5a s5n s16a s16n s17 s18 b0_0 b0_1 b0_2a b0_2n G
  simp only [L_pfm_WritePPM_0, l_pfm_WritePPM_0_eq, a_pfm_WritePPM_00_raw]

theorem e_pfm_WritePPM_raw {R : Type} (O : Ora R) (fuel : Nat) (p0_0 p0_1 : Int) (p0_2a : Option GA) (p0_2n : Nat) (G : GH) (k : IV → GH → Option R) :
  bodyC Tryd.prog O lo13 fuel Tryd.f13 [.agg [.int .i64 p0_0, .int .i64 p0_1, .slice p0_2a p0_2n]] G k =
  u_pfm_WritePPM O k (fun s5a s5n s16a s16n s17 s18 b0_0 b0_1 b0_2a b0_2n G => loopN (loopD Tryd.prog O lo13 fuel (nav (Tryd.f13.body.getD .skip) [1, 1, 1, 0, 1, 0, 0]) 24) fuel (mkE 36 [(5, .slice s5a s5n), (16, .slice s16a s16n), (17, .int .i64 s17), (18, .int .i64 s18)]) [[.int .i64 b0_0, .int .i64 b0_1, .slice b0_2a b0_2n]] G (contC Tryd.prog O lo13 fuel (Tryd.f13.body.getD .skip) [1, 1, 1, 0, 1, 0] (fun e env F G => match e with | .exit _ => none | _ => resC Tryd.prog Tryd.f13 env F G k))) p0_0 p0_1 p0_2a p0_2n G := by kernel_rfl

theorem e_pfm_WritePPM {R : Type} (O : Ora R) (fuel : Nat) (p0_0 p0_1 : Int) (p0_2a : Option GA) (p0_2n : Nat) (G : GH) (k : IV → GH → Option R) :
  bodyC Tryd.prog O lo13 fuel Tryd.f13 [.agg [.int .i64 p0_0, .int .i64 p0_1, .slice p0_2a p0_2n]] G k =
  u_pfm_WritePPM O k (L_pfm_WritePPM_0 O fuel k) p0_0 p0_1 p0_2a p0_2n G := by
  rw [e_pfm_WritePPM_raw, L_pfm_WritePPM_0_eq]

theorem r_pfm_WritePPM {R : Type} (fuel n : Nat) (p0_0 p0_1 : Int) (p0_2a : Option GA) (p0_2n : Nat) (G : GH) (k : IV → GH → Option R) :
  runC Tryd.prog lo0 fuel (n + 1) 13 [.agg [.int .i64 p0_0, .int .i64 p0_1, .slice p0_2a p0_2n]] G k = bodyC Tryd.prog (runC Tryd.prog lo0 fuel n) lo13 fuel Tryd.f13 [.agg [.int .i64 p0_0, .int .i64 p0_1, .slice p0_2a p0_2n]] G k := run_body Tryd.func13 rfl rfl

/-! ### lantern/lanternlaw08.PfmSizes -/
def u_law08_PfmSizes_0 {R : Type} (O : Ora R) (KN : Int → Int → Option GA → Nat → Int → Option GA → Nat → Int → Int → Int → Int → Option GA → Nat → GH → Option R) (s0 s1 : Int) (s6a : Option GA) (s6n : Nat) (s7 : Int) (s8a : Option GA) (s8n : Nat) (s9 s10 : Int) (b0_0 b0_1 : Int) (b0_2a : Option GA) (b0_2n : Nat) (G : GH) : Option R :=
  bif (decide (s0 > (9 : Int))) then
  KN s0 s1 s6a s6n s7 s8a s8n s9 (IntKind.wrap .i64 (s10 + (1 : Int))) b0_0 b0_1 b0_2a b0_2n G
  else
  KN s0 s1 s6a s6n s7 s8a s8n s9 s10 b0_0 b0_1 b0_2a b0_2n G

def l_law08_PfmSizes_0 {R : Type} (O : Ora R) (KN : Int → Int → Option GA → Nat → Int → Option GA → Nat → Int → Int → Int → Int → Option GA → Nat → GH → Option R) : Int → Int → Option GA → Nat → Int → Option GA → Nat → Int → Int → Int → Int → Option GA → Nat → GH → Option R := fun s0 s1 s6a s6n s7 s8a s8n s9 s10 b0_0 b0_1 b0_2a b0_2n G => u_law08_PfmSizes_0 O KN s0 s1 s6a s6n s7 s8a s8n s9 s10 b0_0 b0_1 b0_2a b0_2n G

theorem u_law08_PfmSizes_0_raw {R : Type} (O : Ora R) (fuel : Nat) (s0 s1 : Int) (s6a : Option GA) (s6n : Nat) (s7 : Int) (s8a : Option GA) (s8n : Nat) (s9 s10 : Int) (b0_0 b0_1 : Int) (b0_2a : Option GA) (b0_2n : Nat) (G : GH) (k : Ex → List IV → List (List IV) → GH → Option R) :
  loopD Tryd.prog O lo4 fuel (nav (Tryd.f4.body.getD .skip) [1, 1, 1, 1, 1, 1, 1, 0]) 43 (mkE 78 [(0, .int .i64 s0), (1, .int .i64 s1), (6, .slice s6a s6n), (7, .int .i64 s7), (8, .slice s8a s8n), (9, .int .i64 s9), (10, .int .i64 s10)]) [[.int .i64 b0_0, .int .i64 b0_1, .slice b0_2a b0_2n]] G k =
  u_law08_PfmSizes_0 O (fun s0 s1 s6a s6n s7 s8a s8n s9 s10 b0_0 b0_1 b0_2a b0_2n G => k .normal (mkE 78 [(0, .int .i64 s0), (1, .int .i64 s1), (6, .slice s6a s6n), (7, .int .i64 s7), (8, .slice s8a s8n), (9, .int .i64 s9), (10, .int .i64 s10)]) [[.int .i64 b0_0, .int .i64 b0_1, .slice b0_2a b0_2n]] G) s0 s1 s6a s6n s7 s8a s8n s9 s10 b0_0 b0_1 b0_2a b0_2n G := by kernel_rfl

theorem l_law08_PfmSizes_0_eq {R : Type} (O : Ora R) (fuel : Nat) (k : Ex → List IV → List (List IV) → GH → Option R) : ∀ (s0 s1 : Int) (s6a : Option GA) (s6n : Nat) (s7 : Int) (s8a : Option GA) (s8n : Nat) (s9 s10 : Int) (b0_0 b0_1 : Int) (b0_2a : Option GA) (b0_2n : Nat) (G : GH),
  loopD Tryd.prog O lo4 fuel (nav (Tryd.f4.body.getD .skip) [1, 1, 1, 1, 1, 1, 1, 0]) 43 (mkE 78 [(0, .int .i64 s0), (1, .int .i64 s1), (6, .slice s6a s6n), (7, .int .i64 s7), (8, .slice s8a s8n), (9, .int .i64 s9), (10, .int .i64 s10)]) [[.int .i64 b0_0, .int .i64 b0_1, .slice b0_2a b0_2n]] G k = l_law08_PfmSizes_0 O (fun s0 s1 s6a s6n s7 s8a s8n s9 s10 b0_0 b0_1 b0_2a b0_2n G => k .normal (mkE 78 [(0, .int .i64 s0), (1, .int .i64 s1), (6, .slice s6a s6n), (7, .int .i64 s7), (8, .slice s8a s8n), (9, .int .i64 s9), (10, .int .i64 s10)]) [[.int .i64 b0_0, .int .i64 b0_1, .slice b0_2a b0_2n]] G) s0 s1 s6a s6n s7 s8a s8n s9 s10 b0_0 b0_1 b0_2a b0_2n G := by
  intros
  rw [u_law08_PfmSizes_0_raw]
  simp only [l_law08_PfmSizes_0]

def u_law08_PfmSizes_1 {R : Type} (O : Ora R) (KN : Int → Int → Option GA → Nat → Int → Option GA → Nat → Int → Int → Int → Int → Option GA → Nat → GH → Option R) (s0 s1 : Int) (s6a : Option GA) (s6n : Nat) (s7 : Int) (s8a : Option GA) (s8n : Nat) (s9 s10 : Int) (b0_0 b0_1 : Int) (b0_2a : Option GA) (b0_2n : Nat) (G : GH) : Option R :=
  bif (decide (s1 > (9 : Int))) then
  KN s0 s1 s6a s6n s7 s8a s8n s9 (IntKind.wrap .i64 (s10 + (1 : Int))) b0_0 b0_1 b0_2a b0_2n G
  else
  KN s0 s1 s6a s6n s7 s8a s8n s9 s10 b0_0 b0_1 b0_2a b0_2n G

def l_law08_PfmSizes_1 {R : Type} (O : Ora R) (KN : Int → Int → Option GA → Nat → Int → Option GA → Nat → Int → Int → Int → Int → Option GA → Nat → GH → Option R) : Int → Int → Option GA → Nat → Int → Option GA → Nat → Int → Int → Int → Int → Option GA → Nat → GH → Option R := fun s0 s1 s6a s6n s7 s8a s8n s9 s10 b0_0 b0_1 b0_2a b0_2n G => u_law08_PfmSizes_1 O KN s0 s1 s6a s6n s7 s8a s8n s9 s10 b0_0 b0_1 b0_2a b0_2n G

theorem u_law08_PfmSizes_1_raw {R : Type} (O : Ora R) (fuel : Nat) (s0 s1 : Int) (s6a : Option GA) (s6n : Nat) (s7 : Int) (s8a : Option GA) (s8n : Nat) (s9 s10 : Int) (b0_0 b0_1 : Int) (b0_2a : Option GA) (b0_2n : Nat) (G : GH) (k : Ex → List IV → List (List IV) → GH → Option R) :
  loopD Tryd.prog O lo4 fuel (nav (Tryd.f4.body.getD .skip) [1, 1, 1, 1, 1, 1, 1, 1, 0]) 51 (mkE 78 [(0, .int .i64 s0), (1, .int .i64 s1), (6, .slice s6a s6n), (7, .int .i64 s7), (8, .slice s8a s8n), (9, .int .i64 s9), (10, .int .i64 s10)]) [[.int .i64 b0_0, .int .i64 b0_1, .slice b0_2a b0_2n]] G k =
  u_law08_PfmSizes_1 O (fun s0 s1 s6a s6n s7 s8a s8n s9 s10 b0_0 b0_1 b0_2a b0_2n G => k .normal (mkE 78 [(0, .int .i64 s0), (1, .int .i64 s1), (6, .slice s6a s6n), (7, .int .i64 s7), (8, .slice s8a s8n), (9, .int .i64 s9), (10, .int .i64 s10)]) [[.int .i64 b0_0, .int .i64 b0_1, .slice b0_2a b0_2n]] G) s0 s1 s6a s6n s7 s8a s8n s9 s10 b0_0 b0_1 b0_2a b0_2n G := by kernel_rfl

theorem l_law08_PfmSizes_1_eq {R : Type} (O : Ora R) (fuel : Nat) (k : Ex → List IV → List (List IV) → GH → Option R) : ∀ (s0 s1 : Int) (s6a : Option GA) (s6n : Nat) (s7 : Int) (s8a : Option GA) (s8n : Nat) (s9 s10 : Int) (b0_0 b0_1 : Int) (b0_2a : Option GA) (b0_2n : Nat) (G : GH),
  loopD Tryd.prog O lo4 fuel (nav (Tryd.f4.body.getD .skip) [1, 1, 1, 1, 1, 1, 1, 1, 0]) 51 (mkE 78 [(0, .int .i64 s0), (1, .int .i64 s1), (6, .slice s6a s6n), (7, .int .i64 s7), (8, .slice s8a s8n), (9, .int .i64 s9), (10, .int .i64 s10)]) [[.int .i64 b0_0, .int .i64 b0_1, .slice b0_2a b0_2n]] G k = l_law08_PfmSizes_1 O (fun s0 s1 s6a s6n s7 s8a s8n s9 s10 b0_0 b0_1 b0_2a b0_2n G => k .normal (mkE 78 [(0, .int .i64 s0), (1, .int .i64 s1), (6, .slice s6a s6n), (7, .int .i64 s7), (8, .slice s8a s8n), (9, .int .i64 s9), (10, .int .i64 s10)]) [[.int .i64 b0_0, .int .i64 b0_1, .slice b0_2a b0_2n]] G) s0 s1 s6a s6n s7 s8a s8n s9 s10 b0_0 b0_1 b0_2a b0_2n G := by
  intros
  rw [u_law08_PfmSizes_1_raw]
  simp only [l_law08_PfmSizes_1]

def u_law08_PfmSizes {R : Type} (O : Ora R) (k : IV → GH → Option R) (L0 : Int → Int → Option GA → Nat → Int → Option GA → Nat → Int → Int → Int → Int → Option GA → Nat → GH → Option R) (p0 p1 : Int) (G : GH) : Option R :=
  O fn_law08_Awake [] G fun v1 G2 =>
  (ivBool v1).bind fun x3 =>
  bif (!x3) then
  k (.bool false) G2
  else
  bif (decide (0 ≤ (IntKind.wrap .i64 ((IntKind.wrap .i64 ((1 : Int) + (IntKind.wrap .i64 (Int.tmod (IntKind.wrap .u64 p0) (30 : Int))))) * (IntKind.wrap .i64 ((1 : Int) + (IntKind.wrap .i64 (Int.tmod (IntKind.wrap .u64 p1) (30 : Int))))))) ∧ (IntKind.wrap .i64 ((IntKind.wrap .i64 ((1 : Int) + (IntKind.wrap .i64 (Int.tmod (IntKind.wrap .u64 p0) (30 : Int))))) * (IntKind.wrap .i64 ((1 : Int) + (IntKind.wrap .i64 (Int.tmod (IntKind.wrap .u64 p1) (30 : Int))))))) ≤ (IntKind.wrap .i64 ((IntKind.wrap .i64 ((1 : Int) + (IntKind.wrap .i64 (Int.tmod (IntKind.wrap .u64 p0) (30 : Int))))) * (IntKind.wrap .i64 ((1 : Int) + (IntKind.wrap .i64 (Int.tmod (IntKind.wrap .u64 p1) (30 : Int))))))) ∧ (IntKind.wrap .i64 ((IntKind.wrap .i64 ((1 : Int) + (IntKind.wrap .i64 (Int.tmod (IntKind.wrap .u64 p0) (30 : Int))))) * (IntKind.wrap .i64 ((1 : Int) + (IntKind.wrap .i64 (Int.tmod (IntKind.wrap .u64 p1) (30 : Int))))))) * 24 ≤ roomI ∧ (IntKind.wrap .i64 ((IntKind.wrap .i64 ((1 : Int) + (IntKind.wrap .i64 (Int.tmod (IntKind.wrap .u64 p0) (30 : Int))))) * (IntKind.wrap .i64 ((1 : Int) + (IntKind.wrap .i64 (Int.tmod (IntKind.wrap .u64 p1) (30 : Int))))))) ≤ roomI) && true && true) then
  O fn_pfm_Write [.agg [.int .i64 (IntKind.wrap .i64 ((1 : Int) + (IntKind.wrap .i64 (Int.tmod (IntKind.wrap .u64 p0) (30 : Int))))), .int .i64 (IntKind.wrap .i64 ((1 : Int) + (IntKind.wrap .i64 (Int.tmod (IntKind.wrap .u64 p1) (30 : Int))))), .slice (some (gaddr G2)) (Int.toNat (IntKind.wrap .i64 ((IntKind.wrap .i64 ((1 : Int) + (IntKind.wrap .i64 (Int.tmod (IntKind.wrap .u64 p0) (30 : Int))))) * (IntKind.wrap .i64 ((1 : Int) + (IntKind.wrap .i64 (Int.tmod (IntKind.wrap .u64 p1) (30 : Int))))))))]] (gnew G2 (List.replicate (Int.toNat (IntKind.wrap .i64 ((IntKind.wrap .i64 ((1 : Int) + (IntKind.wrap .i64 (Int.tmod (IntKind.wrap .u64 p0) (30 : Int))))) * (IntKind.wrap .i64 ((1 : Int) + (IntKind.wrap .i64 (Int.tmod (IntKind.wrap .u64 p1) (30 : Int)))))))) [.float .f64 (0 : Nat), .float .f64 (0 : Nat), .float .f64 (0 : Nat)]).flatten 39) fun v4 G5 =>
  (ivTup 2 v4).bind fun c6 =>
  (ivSlice (c6.getD 0 undefI)).bind fun x7 =>
  (ivInt .i64 (c6.getD 1 undefI)).bind fun x8 =>
  O fn_pfm_WritePPM [.agg [.int .i64 (IntKind.wrap .i64 ((1 : Int) + (IntKind.wrap .i64 (Int.tmod (IntKind.wrap .u64 p0) (30 : Int))))), .int .i64 (IntKind.wrap .i64 ((1 : Int) + (IntKind.wrap .i64 (Int.tmod (IntKind.wrap .u64 p1) (30 : Int))))), .slice (some (gaddr G2)) (Int.toNat (IntKind.wrap .i64 ((IntKind.wrap .i64 ((1 : Int) + (IntKind.wrap .i64 (Int.tmod (IntKind.wrap .u64 p0) (30 : Int))))) * (IntKind.wrap .i64 ((1 : Int) + (IntKind.wrap .i64 (Int.tmod (IntKind.wrap .u64 p1) (30 : Int))))))))]] G5 fun v9 G10 =>
  (ivTup 2 v9).bind fun c11 =>
  (ivSlice (c11.getD 0 undefI)).bind fun x12 =>
  (ivInt .i64 (c11.getD 1 undefI)).bind fun x13 =>
  L0 (IntKind.wrap .i64 ((1 : Int) + (IntKind.wrap .i64 (Int.tmod (IntKind.wrap .u64 p0) (30 : Int))))) (IntKind.wrap .i64 ((1 : Int) + (IntKind.wrap .i64 (Int.tmod (IntKind.wrap .u64 p1) (30 : Int))))) x7.1 x7.2 x8 x12.1 x12.2 x13 (10 : Int) (IntKind.wrap .i64 ((1 : Int) + (IntKind.wrap .i64 (Int.tmod (IntKind.wrap .u64 p0) (30 : Int))))) (IntKind.wrap .i64 ((1 : Int) + (IntKind.wrap .i64 (Int.tmod (IntKind.wrap .u64 p1) (30 : Int))))) (some (gaddr G2)) (Int.toNat (IntKind.wrap .i64 ((IntKind.wrap .i64 ((1 : Int) + (IntKind.wrap .i64 (Int.tmod (IntKind.wrap .u64 p0) (30 : Int))))) * (IntKind.wrap .i64 ((1 : Int) + (IntKind.wrap .i64 (Int.tmod (IntKind.wrap .u64 p1) (30 : Int)))))))) G10
  else none

def a_law08_PfmSizes_0N {R : Type} (O : Ora R) (k : IV → GH → Option R) (L1 : Int → Int → Option GA → Nat → Int → Option GA → Nat → Int → Int → Int → Int → Option GA → Nat → GH → Option R) (s0 s1 : Int) (s6a : Option GA) (s6n : Nat) (s7 : Int) (s8a : Option GA) (s8n : Nat) (s9 s10 : Int) (b0_0 b0_1 : Int) (b0_2a : Option GA) (b0_2n : Nat) (G : GH) : Option R :=
  L1 s0 s1 s6a s6n s7 s8a s8n s9 s10 b0_0 b0_1 b0_2a b0_2n G

def a_law08_PfmSizes_1N {R : Type} (O : Ora R) (k : IV → GH → Option R) (s0 s1 : Int) (s6a : Option GA) (s6n : Nat) (s7 : Int) (s8a : Option GA) (s8n : Nat) (s9 s10 : Int) (b0_0 b0_1 : Int) (b0_2a : Option GA) (b0_2n : Nat) (G : GH) : Option R :=
  bif (s7 == (0 : Int)) then
  bif (s9 == (0 : Int)) then
  bif ((s6n : Int) == (IntKind.wrap .i64 ((IntKind.wrap .i64 (s10 + (2 : Int))) + (IntKind.wrap .i64 ((IntKind.wrap .i64 ((12 : Int) * s0)) * s1))))) then
  k (.bool ((s8n : Int) == (IntKind.wrap .i64 ((IntKind.wrap .i64 (s10 + (1 : Int))) + (IntKind.wrap .i64 ((IntKind.wrap .i64 ((3 : Int) * s0)) * s1)))))) G
  else
  k (.bool false) G
  else
  k (.bool false) G
  else
  k (.bool false) G

def L_law08_PfmSizes_1 {R : Type} (O : Ora R) (fuel : Nat) (k : IV → GH → Option R) : Int → Int → Option GA → Nat → Int → Option GA → Nat → Int → Int → Int → Int → Option GA → Nat → GH → Option R := fun s0 s1 s6a s6n s7 s8a s8n s9 s10 b0_0 b0_1 b0_2a b0_2n G =>
  stepN fuel (l_law08_PfmSizes_1 O (a_law08_PfmSizes_1N O k) s0 s1 s6a s6n s7 s8a s8n s9 s10 b0_0 b0_1 b0_2a b0_2n G)

theorem a_law08_PfmSizes_1N_raw {R : Type} (O : Ora R) (fuel : Nat) (s0 s1 : Int) (s6a : Option GA) (s6n : Nat) (s7 : Int) (s8a : Option GA) (s8n : Nat) (s9 s10 : Int) (b0_0 b0_1 : Int) (b0_2a : Option GA) (b0_2n : Nat) (G : GH) (k : IV → GH → Option R) :
  contC Tryd.prog O lo4 fuel (Tryd.f4.body.getD .skip) [1, 1, 1, 1, 1, 1, 1, 1, 0] (fun e env F G => match e with | .exit _ => none | _ => resC Tryd.prog Tryd.f4 env F G k) .normal (mkE 78 [(0, .int .i64 s0), (1, .int .i64 s1), (6, .slice s6a s6n), (7, .int .i64 s7), (8, .slice s8a s8n), (9, .int .i64 s9), (10, .int .i64 s10)]) [[.int .i64 b0_0, .int .i64 b0_1, .slice b0_2a b0_2n]] G =
  a_law08_PfmSizes_1N O k s0 s1 s6a s6n s7 s8a s8n s9 s10 b0_0 b0_1 b0_2a b0_2n G := by kernel_rfl

theorem L_law08_PfmSizes_1_eq {R : Type} (O : Ora R) (fuel : Nat) (k : IV → GH → Option R) :
  (fun (s0 s1 : Int) (s6a : Option GA) (s6n : Nat) (s7 : Int) (s8a : Option GA) (s8n : Nat) (s9 s10 : Int) (b0_0 b0_1 : Int) (b0_2a : Option GA) (b0_2n : Nat) (G : GH) => stepN fuel (loopD Tryd.prog O lo4 fuel (nav (Tryd.f4.body.getD .skip) [1, 1, 1, 1, 1, 1, 1, 1, 0]) 51 (mkE 78 [(0, .int .i64 s0), (1, .int .i64 s1), (6, .slice s6a s6n), (7, .int .i64 s7), (8, .slice s8a s8n), (9, .int .i64 s9), (10, .int .i64 s10)]) [[.int .i64 b0_0, .int .i64 b0_1, .slice b0_2a b0_2n]] G (contC Tryd.prog O lo4 fuel (Tryd.f4.body.getD .skip) [1, 1, 1, 1, 1, 1, 1, 1, 0] (fun e env F G => match e with | .exit _ => none | _ => resC Tryd.prog Tryd.f4 env F G k)))) = L_law08_PfmSizes_1 O fuel k := by
  funext s0 s1 s6a s6n s7 s8a s8n s9 s10 b0_0 b0_1 b0_2a b0_2n G
  simp only [L_law08_PfmSizes_1, l_law08_PfmSizes_1_eq, a_law08_PfmSizes_1N_raw]

def L_law08_PfmSizes_0 {R : Type} (O : Ora R) (fuel : Nat) (k : IV → GH → Option R) : Int → Int → Option GA → Nat → Int → Option GA → Nat → Int → Int → Int → Int → Option GA → Nat → GH → Option R := fun s0 s1 s6a s6n s7 s8a s8n s9 s10 b0_0 b0_1 b0_2a b0_2n G =>
  stepN fuel (l_law08_PfmSizes_0 O (a_law08_PfmSizes_0N O k (L_law08_PfmSizes_1 O fuel k)) s0 s1 s6a s6n s7 s8a s8n s9 s10 b0_0 b0_1 b0_2a b0_2n G)

theorem a_law08_PfmSizes_0N_raw {R : Type} (O : Ora R) (fuel : Nat) (s0 s1 : Int) (s6a : Option GA) (s6n : Nat) (s7 : Int) (s8a : Option GA) (s8n : Nat) (s9 s10 : Int) (b0_0 b0_1 : Int) (b0_2a : Option GA) (b0_2n : Nat) (G : GH) (k : IV → GH → Option R) :
  contC Tryd.prog O lo4 fuel (Tryd.f4.body.getD .skip) [1, 1, 1, 1, 1, 1, 1, 0] (fun e env F G => match e with | .exit _ => none | _ => resC Tryd.prog Tryd.f4 env F G k) .normal (mkE 78 [(0, .int .i64 s0), (1, .int .i64 s1), (6, .slice s6a s6n), (7, .int .i64 s7), (8, .slice s8a s8n), (9, .int .i64 s9), (10, .int .i64 s10)]) [[.int .i64 b0_0, .int .i64 b0_1, .slice b0_2a b0_2n]] G =
  a_law08_PfmSizes_0N O k (fun s0 s1 s6a s6n s7 s8a s8n s9 s10 b0_0 b0_1 b0_2a b0_2n G => stepN fuel (loopD Tryd.prog O lo4 fuel (nav (Tryd.f4.body.getD .skip) [1, 1, 1, 1, 1, 1, 1, 1, 0]) 51 (mkE 78 [(0, .int .i64 s0), (1, .int .i64 s1), (6, .slice s6a s6n), (7, .int .i64 s7), (8, .slice s8a s8n), (9, .int .i64 s9), (10, .int .i64 s10)]) [[.int .i64 b0_0, .int .i64 b0_1, .slice b0_2a b0_2n]] G (contC Tryd.prog O lo4 fuel (Tryd.f4.body.getD .skip) [1, 1, 1, 1, 1, 1, 1, 1, 0] (fun e env F G => match e with | .exit _ => none | _ => resC Tryd.prog Tryd.f4 env F G k)))) s0 s1 s6a s6n s7 s8a s8n s9 s10 b0_0 b0_1 b0_2a b0_2n G := by kernel_rfl

theorem L_law08_PfmSizes_0_eq {R : Type} (O : Ora R) (fuel : Nat) (k : IV → GH → Option R) :
  (fun (s0 s1 : Int) (s6a : Option GA) (s6n : Nat) (s7 : Int) (s8a : Option GA) (s8n : Nat) (s9 s10 : Int) (b0_0 b0_1 : Int) (b0_2a : Option GA) (b0_2n : Nat) (G : GH) => stepN fuel (loopD Tryd.prog O lo4 fuel (nav (Tryd.f4.body.getD .skip) [1, 1, 1, 1, 1, 1, 1, 0]) 43 (mkE 78 [(0, .int .i64 s0), (1, .int .i64 s1), (6, .slice s6a s6n), (7, .int .i64 s7), (8, .slice s8a s8n), (9, .int .i64 s9), (10, .int .i64 s10)]) [[.int .i64 b0_0, .int .i64 b0_1, .slice b0_2a b0_2n]] G (contC Tryd.prog O lo4 fuel (Tryd.f4.body.getD .skip) [1, 1, 1, 1, 1, 1, 1, 0] (fun e env F G => match e with | .exit _ => none | _ => resC Tryd.prog Tryd.f4 env F G k)))) = L_law08_PfmSizes_0 O fuel k := by
  funext s0 s1 s6a s6n s7 s8a s8n s9 s10 b0_0 b0_1 b0_2a b0_2n G
  simp only [L_law08_PfmSizes_0, l_law08_PfmSizes_0_eq, a_law08_PfmSizes_0N_raw, L_law08_PfmSizes_1_eq]

theorem e_law08_PfmSizes_raw {R : Type} (O : Ora R) (fuel : Nat) (p0 p1 : Int) (G : GH) (k : IV → GH → Option R) :
  bodyC Tryd.prog O lo4 fuel Tryd.f4 [.int .i64 p0, .int .i64 p1] G k =
  u_law08_PfmSizes O k (fun s0 s1 s6a s6n s7 s8a s8n s9 s10 b0_0 b0_1 b0_2a b0_2n G => stepN fuel (loopD Tryd.prog O lo4 fuel (nav (Tryd.f4.body.getD .skip) [1, 1, 1, 1, 1, 1, 1, 0]) 43 (mkE 78 [(0, .int .i64 s0), (1, .int .i64 s1), (6, .slice s6a s6n), (7, .int .i64 s7), (8, .slice s8a s8n), (9, .int .i64 s9), (10, .int .i64 s10)]) [[.int .i64 b0_0, .int .i64 b0_1, .slice b0_2a b0_2n]] G (contC Tryd.prog O lo4 fuel (Tryd.f4.body.getD .skip) [1, 1, 1, 1, 1, 1, 1, 0] (fun e env F G => match e with | .exit _ => none | _ => resC Tryd.prog Tryd.f4 env F G k)))) p0 p1 G := by kernel_rfl

theorem e_law08_PfmSizes {R : Type} (O : Ora R) (fuel : Nat) (p0 p1 : Int) (G : GH) (k : IV → GH → Option R) :
  bodyC Tryd.prog O lo4 fuel Tryd.f4 [.int .i64 p0, .int .i64 p1] G k =
  u_law08_PfmSizes O k (L_law08_PfmSizes_0 O fuel k) p0 p1 G := by
  rw [e_law08_PfmSizes_raw, L_law08_PfmSizes_0_eq]

theorem r_law08_PfmSizes {R : Type} (fuel n : Nat) (p0 p1 : Int) (G : GH) (k : IV → GH → Option R) :
  runC Tryd.prog lo0 fuel (n + 1) 4 [.int .i64 p0, .int .i64 p1] G k = bodyC Tryd.prog (runC Tryd.prog lo0 fuel n) lo4 fuel Tryd.f4 [.int .i64 p0, .int .i64 p1] G k := run_body Tryd.func4 rfl rfl

end Go.LI.Door
