/- What the interpreter gives for textures (written by texz.py). -/
import Derived.Test.YtbjcipikclbecaaGreatSeatA
import Derived.Test.YtbjcipikclbecaaGreatRdPc
set_option maxRecDepth 100000
set_option linter.unusedVariables false
set_option linter.unusedSimpArgs false
namespace Go.LI.Film
open Go.Proofs.YtbjcipikclbecaaGreat Go Go.Proofs Go.LI
section
variable {R : Type} (O : Ora R)
theorem zyV (fuel p0 p1 : Nat) (p2 : Bool) (G : GH) (k : KV R) :
  zf Tryz.prog O [8, 9, 777777] fuel Tryz.f61 [fL p0, fL p1, .bool p2] G k =
  O zlN [fL p0, fL p1] G fun v1 G2 =>
  (zl v1).bind fun x3 =>
  bif (!x3) then
  k (.tuple [fL (0 : Nat), iL (10 : Int)]) G2
  else
  O zbN [fL p0] G2 fun v4 G5 =>
  (zr 5 v4).bind fun c6 =>
  (zl (c6.getD 0 za)).bind fun x7 =>
  (zk .u64 (c6.getD 1 za)).bind fun x8 =>
  (zk .u64 (c6.getD 2 za)).bind fun x9 =>
  (zk .i64 (c6.getD 3 za)).bind fun x10 =>
  (zl (c6.getD 4 za)).bind fun x11 =>
  O zbN [fL p1] G5 fun v12 G13 =>
  (zr 5 v12).bind fun c14 =>
  (zl (c14.getD 0 za)).bind fun x15 =>
  (zk .u64 (c14.getD 1 za)).bind fun x16 =>
  (zk .u64 (c14.getD 2 za)).bind fun x17 =>
  (zk .i64 (c14.getD 3 za)).bind fun x18 =>
  (zl (c14.getD 4 za)).bind fun x19 =>
  O zpI [uL x9, uL x17] G13 fun v20 G21 =>
  (zY 2 v20).bind fun c22 =>
  (zk .u64 (c22.getD 0 za)).bind fun x23 =>
  (zk .u64 (c22.getD 1 za)).bind fun x24 =>
  O zeX [.agg [.bool (!(x7 == x15)), uL x23, uL x24, iL (IntKind.wrap .i64 (x10 + x18)), .bool false], .bool p2] G21 fun v25 G26 =>
  (zc .f64 v25).bind fun x27 =>
  k (.tuple [fL x27, iL (0 : Int)]) G26 := by kernel_rfl
theorem zyA {R : Type} (fuel n p0 p1 : Nat) (p2 : Bool) (G : GH) (k : KV R) :
  runC Tryz.prog lo0 fuel (n + 1) 61 [fL p0, fL p1, .bool p2] G k = zf Tryz.prog (runC Tryz.prog lo0 fuel n) [8, 9, 777777] fuel Tryz.f61 [fL p0, fL p1, .bool p2] G k := zh Tryz.func61 rfl rfl
theorem zxh (fuel : Nat) (p0 p1 : Int) (G : GH) (k : KV R) :
  zf Tryz.prog O [777777] fuel Tryz.f79 [uL p0, uL p1] G k =
  k (.tuple [uL (IntKind.wrap .u64 ((IntKind.wrap .u64 ((IntKind.wrap .u64 ((zeg .u64 p0 (32 : Int)) * (zeg .u64 p1 (32 : Int)))) + (zeg .u64 (IntKind.wrap .u64 ((IntKind.wrap .u64 ((zeg .u64 p0 (32 : Int)) * (ziI .u64 p1 (4294967295 : Int)))) + (zeg .u64 (IntKind.wrap .u64 ((ziI .u64 p0 (4294967295 : Int)) * (ziI .u64 p1 (4294967295 : Int)))) (32 : Int)))) (32 : Int)))) + (zeg .u64 (IntKind.wrap .u64 ((ziI .u64 (IntKind.wrap .u64 ((IntKind.wrap .u64 ((zeg .u64 p0 (32 : Int)) * (ziI .u64 p1 (4294967295 : Int)))) + (zeg .u64 (IntKind.wrap .u64 ((ziI .u64 p0 (4294967295 : Int)) * (ziI .u64 p1 (4294967295 : Int)))) (32 : Int)))) (4294967295 : Int)) + (IntKind.wrap .u64 ((ziI .u64 p0 (4294967295 : Int)) * (zeg .u64 p1 (32 : Int)))))) (32 : Int)))), uL (IntKind.wrap .u64 (p0 * p1))]) G := by kernel_rfl
theorem zwG {R : Type} (fuel n : Nat) (p0 p1 : Int) (G : GH) (k : KV R) :
  runC Tryz.prog lo0 fuel (n + 1) 79 [uL p0, uL p1] G k = zf Tryz.prog (runC Tryz.prog lo0 fuel n) [777777] fuel Tryz.f79 [uL p0, uL p1] G k := zh Tryz.func79 rfl rfl
theorem zvT (fuel p0 : Nat) (G : GH) (k : KV R) :
  zf Tryz.prog O [777777] fuel Tryz.f58 [fL p0] G k =
  O zaa [fL p0] G fun v1 G2 =>
  (zl v1).bind fun x3 =>
  bif (!x3) then
  k (.tuple [fL (0 : Nat), iL (10 : Int)]) G2
  else
  O zqf [fL p0] G2 fun v4 G5 =>
  (zc .f64 v4).bind fun x6 =>
  O ziR [fL x6] G5 fun v7 G8 =>
  (zc .f64 v7).bind fun x9 =>
  k (.tuple [fL x9, iL (0 : Int)]) G8 := by kernel_rfl
theorem zvL {R : Type} (fuel n p0 : Nat) (G : GH) (k : KV R) :
  runC Tryz.prog lo0 fuel (n + 1) 58 [fL p0] G k = zf Tryz.prog (runC Tryz.prog lo0 fuel n) [777777] fuel Tryz.f58 [fL p0] G k := zh Tryz.func58 rfl rfl
theorem zxI (fuel p0 : Nat) (G : GH) (k : KV R) :
  zf Tryz.prog O [777777] fuel Tryz.f76 [fL p0] G k =
  O zjf [fL p0] G fun v1 G2 =>
  (zc .f64 v1).bind fun x3 =>
  k (fL x3) G2 := by kernel_rfl
theorem zx5 {R : Type} (fuel n p0 : Nat) (G : GH) (k : KV R) :
  runC Tryz.prog lo0 fuel (n + 1) 76 [fL p0] G k = zf Tryz.prog (runC Tryz.prog lo0 fuel n) [777777] fuel Tryz.f76 [fL p0] G k := zh Tryz.func76 rfl rfl
theorem zBt (fuel p0 : Nat) (p1 : Int) (G : GH) (k : KV R) :
  zf Tryz.prog O [777777] fuel Tryz.f81 [fL p0, iL p1] G k =
  bif (p1 != (0 : Int)) then
  O zbc [iL ((-1 : Int))] G fun v1 G2 =>
  (zc .f64 v1).bind fun x3 =>
  k (fL x3) G2
  else
  k (fL p0) G := by kernel_rfl
theorem zBm {R : Type} (fuel n p0 : Nat) (p1 : Int) (G : GH) (k : KV R) :
  runC Tryz.prog lo0 fuel (n + 1) 81 [fL p0, iL p1] G k = zf Tryz.prog (runC Tryz.prog lo0 fuel n) [777777] fuel Tryz.f81 [fL p0, iL p1] G k := zh Tryz.func81 rfl rfl
theorem zzc (fuel p0 : Nat) (p1 : Int) (G : GH) (k : KV R) :
  zf Tryz.prog O [777777] fuel Tryz.f83 [fL p0, iL p1] G k =
  bif (p1 != (0 : Int)) then
  O zbc [iL (1 : Int)] G fun v1 G2 =>
  (zc .f64 v1).bind fun x3 =>
  k (fL x3) G2
  else
  k (fL p0) G := by kernel_rfl
theorem zy7 {R : Type} (fuel n p0 : Nat) (p1 : Int) (G : GH) (k : KV R) :
  runC Tryz.prog lo0 fuel (n + 1) 83 [fL p0, iL p1] G k = zf Tryz.prog (runC Tryz.prog lo0 fuel n) [777777] fuel Tryz.f83 [fL p0, iL p1] G k := zh Tryz.func83 rfl rfl
theorem zAO (fuel av : Nat) (aw bu bw : Nat) (G : GH) (k : KV R) :
  zf Tryz.prog O [2, 3, 4, 777777] fuel Tryz.f62 [.agg [fL av, fL aw], .agg [fL bu, fL bw]] G k =
  O zlU [fL av, fL bu, .bool true] (zj G) fun v1 _ =>
  (zY 2 v1).bind fun c2 =>
  (zc .f64 (c2.getD 0 za)).bind fun x3 =>
  (zk .i64 (c2.getD 1 za)).bind fun x4 =>
  O zoc [fL x3, iL x4] (zj G) fun v5 _ =>
  (zc .f64 v5).bind fun x6 =>
  O zlU [fL aw, fL bw, .bool false] (zj G) fun v7 _ =>
  (zY 2 v7).bind fun c8 =>
  (zc .f64 (c8.getD 0 za)).bind fun x9 =>
  (zk .i64 (c8.getD 1 za)).bind fun x10 =>
  O zlM [fL x9, iL x10] (zj G) fun v11 _ =>
  (zc .f64 v11).bind fun x12 =>
  k (.agg [fL x6, fL x12]) G := by kernel_rfl
theorem zA5 {R : Type} (fuel n av : Nat) (aw bu bw : Nat) (G : GH) (k : KV R) :
  runC Tryz.prog lo0 fuel (n + 1) 62 [.agg [fL av, fL aw], .agg [fL bu, fL bw]] G k = zf Tryz.prog (runC Tryz.prog lo0 fuel n) [2, 3, 4, 777777] fuel Tryz.f62 [.agg [fL av, fL aw], .agg [fL bu, fL bw]] G k := zh Tryz.func62 rfl rfl
theorem zBL (fuel av : Nat) (aw bf : Nat) (bh bx : Nat) (cd bu : Nat) (bw cz : Nat) (da dt eh : Nat) (G : GH) (k : KV R) :
  zf Tryz.prog O [2, 3, 4, 777777] fuel Tryz.f39 [.agg [fL av, fL aw, fL bf, fL bh, fL bx, fL cd], .agg [fL bu, fL bw, fL cz, fL da, fL dt, fL eh]] G k =
  O zhc [.agg [fL av, fL aw, fL bf, fL bh, fL bx, fL cd], .agg [fL bu, fL bw, fL cz, fL da, fL dt, fL eh], .func 62 []] G fun v1 G2 =>
  (zr 6 v1).bind fun c3 =>
  (zc .f64 (c3.getD 0 za)).bind fun x4 =>
  (zc .f64 (c3.getD 1 za)).bind fun x5 =>
  (zc .f64 (c3.getD 2 za)).bind fun x6 =>
  (zc .f64 (c3.getD 3 za)).bind fun x7 =>
  (zc .f64 (c3.getD 4 za)).bind fun x8 =>
  (zc .f64 (c3.getD 5 za)).bind fun x9 =>
  k (.agg [fL x4, fL x5, fL x6, fL x7, fL x8, fL x9]) G2 := by kernel_rfl
theorem zBM {R : Type} (fuel n av : Nat) (aw bf : Nat) (bh bx : Nat) (cd bu : Nat) (bw cz : Nat) (da dt eh : Nat) (G : GH) (k : KV R) :
  runC Tryz.prog lo0 fuel (n + 1) 39 [.agg [fL av, fL aw, fL bf, fL bh, fL bx, fL cd], .agg [fL bu, fL bw, fL cz, fL da, fL dt, fL eh]] G k = zf Tryz.prog (runC Tryz.prog lo0 fuel n) [2, 3, 4, 777777] fuel Tryz.f39 [.agg [fL av, fL aw, fL bf, fL bh, fL bx, fL cd], .agg [fL bu, fL bw, fL cz, fL da, fL dt, fL eh]] G k := zh Tryz.func39 rfl rfl
theorem zCN (fuel p0 : Nat) (G : GH) (k : KV R) :
  zf Tryz.prog O [2, 777777] fuel Tryz.f34 [fL p0] G k =
  O zaa [fL p0] G fun v1 G2 =>
  (zl v1).bind fun x3 =>
  bif (!x3) then
  O zhA [] G2 fun v4 G5 =>
  (zr 2 v4).bind fun c6 =>
  (zc .f64 (c6.getD 0 za)).bind fun x7 =>
  (zc .f64 (c6.getD 1 za)).bind fun x8 =>
  k (.agg [fL x7, fL x8]) G5
  else
  ((FloatKind.format .f64).add p0 (0 : Nat)).bind fun r9 =>
  ((FloatKind.format .f64).add p0 (0 : Nat)).bind fun r10 =>
  k (.agg [fL r9, fL r10]) G2 := by kernel_rfl
theorem zB6 {R : Type} (fuel n p0 : Nat) (G : GH) (k : KV R) :
  runC Tryz.prog lo0 fuel (n + 1) 34 [fL p0] G k = zf Tryz.prog (runC Tryz.prog lo0 fuel n) [2, 777777] fuel Tryz.f34 [fL p0] G k := zh Tryz.func34 rfl rfl
theorem zAM (fuel : Nat)  (G : GH) (k : KV R) :
  zf Tryz.prog O [0, 777777] fuel Tryz.f57 [] G k =
  O zbc [iL ((-1 : Int))] G fun v1 G2 =>
  (zc .f64 v1).bind fun x3 =>
  O zbc [iL (1 : Int)] G2 fun v4 G5 =>
  (zc .f64 v4).bind fun x6 =>
  k (.agg [fL x3, fL x6]) G5 := by kernel_rfl
theorem zAT {R : Type} (fuel n : Nat)  (G : GH) (k : KV R) :
  runC Tryz.prog lo0 fuel (n + 1) 57 [] G k = zf Tryz.prog (runC Tryz.prog lo0 fuel n) [0, 777777] fuel Tryz.f57 [] G k := zh Tryz.func57 rfl rfl
theorem zyQ (fuel av aw : Nat) (G : GH) (k : KV R) :
  zf Tryz.prog O [1, 777777] fuel Tryz.f59 [.agg [fL av, fL aw]] G k =
  O zcF [fL av, iL (0 : Int)] G fun v1 G2 =>
  (zl v1).bind fun x3 =>
  bif x3 then
  k (.bool true) G2
  else
  O zcF [fL aw, iL (0 : Int)] G2 fun v4 G5 =>
  (zl v4).bind fun x6 =>
  k (.bool x6) G5 := by kernel_rfl
theorem zyD {R : Type} (fuel n av aw : Nat) (G : GH) (k : KV R) :
  runC Tryz.prog lo0 fuel (n + 1) 59 [.agg [fL av, fL aw]] G k = zf Tryz.prog (runC Tryz.prog lo0 fuel n) [1, 777777] fuel Tryz.f59 [.agg [fL av, fL aw]] G k := zh Tryz.func59 rfl rfl
theorem zBq (fuel av aw : Nat) (G : GH) (k : KV R) :
  zf Tryz.prog O [1, 2, 777777] fuel Tryz.f63 [.agg [fL av, fL aw]] G k =
  ((FloatKind.format .f64).sub (0 : Nat) aw).bind fun r1 =>
  ((FloatKind.format .f64).sub (0 : Nat) av).bind fun r2 =>
  k (.agg [fL r1, fL r2]) G := by kernel_rfl
theorem zBb {R : Type} (fuel n av aw : Nat) (G : GH) (k : KV R) :
  runC Tryz.prog lo0 fuel (n + 1) 63 [.agg [fL av, fL aw]] G k = zf Tryz.prog (runC Tryz.prog lo0 fuel n) [1, 2, 777777] fuel Tryz.f63 [.agg [fL av, fL aw]] G k := zh Tryz.func63 rfl rfl
theorem zAZ (fuel av : Nat) (aw bu bw : Nat) (G : GH) (k : KV R) :
  zf Tryz.prog O [2, 3, 4, 777777] fuel Tryz.f38 [.agg [fL av, fL aw], .agg [fL bu, fL bw]] G k =
  O ztZ [.agg [fL bu, fL bw]] (zj G) fun v1 _ =>
  (zr 2 v1).bind fun c2 =>
  (zc .f64 (c2.getD 0 za)).bind fun x3 =>
  (zc .f64 (c2.getD 1 za)).bind fun x4 =>
  O zeW [.agg [fL av, fL aw], .agg [fL x3, fL x4]] (zj G) fun v5 _ =>
  (zr 2 v5).bind fun c6 =>
  (zc .f64 (c6.getD 0 za)).bind fun x7 =>
  (zc .f64 (c6.getD 1 za)).bind fun x8 =>
  k (.agg [fL x7, fL x8]) G := by kernel_rfl
theorem zBi {R : Type} (fuel n av : Nat) (aw bu bw : Nat) (G : GH) (k : KV R) :
  runC Tryz.prog lo0 fuel (n + 1) 38 [.agg [fL av, fL aw], .agg [fL bu, fL bw]] G k = zf Tryz.prog (runC Tryz.prog lo0 fuel n) [2, 3, 4, 777777] fuel Tryz.f38 [.agg [fL av, fL aw], .agg [fL bu, fL bw]] G k := zh Tryz.func38 rfl rfl
theorem zA6 (fuel av : Nat) (aw bu bw : Nat) (G : GH) (k : KV R) :
  zf Tryz.prog O [2, 3, 4, 5, 777777] (fuel + 4) Tryz.f36 [.agg [fL av, fL aw], .agg [fL bu, fL bw]] G k =
  bif ((feq .f64 av (0 : Nat)) && ((feq .f64 aw (0 : Nat)) && true)) then
  k (.agg [fL (0 : Nat), fL (0 : Nat)]) G
  else
  bif ((feq .f64 bu (0 : Nat)) && ((feq .f64 bw (0 : Nat)) && true)) then
  k (.agg [fL (0 : Nat), fL (0 : Nat)]) G
  else
  O zmc [.agg [fL av, fL aw]] G fun v1 G2 =>
  (zl v1).bind fun x3 =>
  bif x3 then
  O zhA [] G2 fun v4 G5 =>
  (zr 2 v4).bind fun c6 =>
  (zc .f64 (c6.getD 0 za)).bind fun x7 =>
  (zc .f64 (c6.getD 1 za)).bind fun x8 =>
  k (.agg [fL x7, fL x8]) G5
  else
  O zmc [.agg [fL bu, fL bw]] G2 fun v9 G10 =>
  (zl v9).bind fun x11 =>
  bif x11 then
  O zhA [] G10 fun v12 G13 =>
  (zr 2 v12).bind fun c14 =>
  (zc .f64 (c14.getD 0 za)).bind fun x15 =>
  (zc .f64 (c14.getD 1 za)).bind fun x16 =>
  k (.agg [fL x15, fL x16]) G13
  else
  O zbc [iL (1 : Int)] G10 fun v17 G18 =>
  (zc .f64 v17).bind fun x19 =>
  O zbc [iL ((-1 : Int))] G18 fun v20 G21 =>
  (zc .f64 v20).bind fun x22 =>
  O zaH [fL av, fL bu, .bool true] G21 fun v23 G24 =>
  (zY 2 v23).bind fun c25 =>
  (zc .f64 (c25.getD 0 za)).bind fun x26 =>
  (zk .i64 (c25.getD 1 za)).bind fun x27 =>
  O zaH [fL av, fL bu, .bool false] G24 fun v28 G29 =>
  (zY 2 v28).bind fun c30 =>
  (zc .f64 (c30.getD 0 za)).bind fun x31 =>
  (zk .i64 (c30.getD 1 za)).bind fun x32 =>
  (zDL .f64 x19 x26).bind fun r33 =>
  (zDJ .f64 x22 x31).bind fun r34 =>
  O zaH [fL av, fL bw, .bool true] G29 fun v35 G36 =>
  (zY 2 v35).bind fun c37 =>
  (zc .f64 (c37.getD 0 za)).bind fun x38 =>
  (zk .i64 (c37.getD 1 za)).bind fun x39 =>
  O zaH [fL av, fL bw, .bool false] G36 fun v40 G41 =>
  (zY 2 v40).bind fun c42 =>
  (zc .f64 (c42.getD 0 za)).bind fun x43 =>
  (zk .i64 (c42.getD 1 za)).bind fun x44 =>
  (zDL .f64 r33 x38).bind fun r45 =>
  (zDJ .f64 r34 x43).bind fun r46 =>
  O zaH [fL aw, fL bu, .bool true] G41 fun v47 G48 =>
  (zY 2 v47).bind fun c49 =>
  (zc .f64 (c49.getD 0 za)).bind fun x50 =>
  (zk .i64 (c49.getD 1 za)).bind fun x51 =>
  O zaH [fL aw, fL bu, .bool false] G48 fun v52 G53 =>
  (zY 2 v52).bind fun c54 =>
  (zc .f64 (c54.getD 0 za)).bind fun x55 =>
  (zk .i64 (c54.getD 1 za)).bind fun x56 =>
  (zDL .f64 r45 x50).bind fun r57 =>
  (zDJ .f64 r46 x55).bind fun r58 =>
  O zaH [fL aw, fL bw, .bool true] G53 fun v59 G60 =>
  (zY 2 v59).bind fun c61 =>
  (zc .f64 (c61.getD 0 za)).bind fun x62 =>
  (zk .i64 (c61.getD 1 za)).bind fun x63 =>
  O zaH [fL aw, fL bw, .bool false] G60 fun v64 G65 =>
  (zY 2 v64).bind fun c66 =>
  (zc .f64 (c66.getD 0 za)).bind fun x67 =>
  (zk .i64 (c66.getD 1 za)).bind fun x68 =>
  (zDL .f64 r57 x62).bind fun r69 =>
  (zDJ .f64 r58 x67).bind fun r70 =>
  k (.agg [fL r69, fL r70]) G65 := by kernel_rfl
theorem zBj {R : Type} (fuel n av : Nat) (aw bu bw : Nat) (G : GH) (k : KV R) :
  runC Tryz.prog lo0 fuel (n + 1) 36 [.agg [fL av, fL aw], .agg [fL bu, fL bw]] G k = zf Tryz.prog (runC Tryz.prog lo0 fuel n) [2, 3, 4, 5, 777777] fuel Tryz.f36 [.agg [fL av, fL aw], .agg [fL bu, fL bw]] G k := zh Tryz.func36 rfl rfl
def ziW {R : Type} (O : Ora R) (KN : zHR R) (s4 : Nat) (s5 : Int) (s6 : Nat) (s7 : Int) (aa ac : Nat) (G : GH) : Option R :=
  bif (s5 != (0 : Int)) then
  KN s4 true aa ac G
  else
  bif (s7 != (0 : Int)) then
  KN s4 true aa ac G
  else
  bif (!feq .f64 s4 s6) then
  KN s4 true aa ac G
  else
  bif (flt .f64 s4 (14069245235905429504 : Nat)) then
  KN s4 true aa ac G
  else
  KN s4 (fgt .f64 s4 (4845873199050653696 : Nat)) aa ac G
def zfr {R : Type} (O : Ora R) (KN : zHR R) : Nat → Int → Nat → Int → Nat → Nat → GH → Option R := fun s4 s5 s6 s7 aa ac G => ziW O KN s4 s5 s6 s7 aa ac G
theorem zp4 (fuel s4 : Nat) (s5 : Int) (s6 : Nat) (s7 : Int) (aa ac : Nat) (G : GH) (k : KE R) :
  zd Tryz.prog O zCR fuel (nav bd35 [1, 1, 1, 0, 0]) 19 (mkE 41 [(4, fL s4), (5, iL s5), (6, fL s6), (7, iL s7)]) [[fL aa, fL ac]] G k =
  ziW O (fun s4 gj aa ac G => k .normal (mkE 41 [(4, fL s4), (38, .bool gj)]) [[fL aa, fL ac]] G) s4 s5 s6 s7 aa ac G := by kernel_rfl
theorem zrO (fuel : Nat) (k : KE R) : ∀ (s4 : Nat) (s5 : Int) (s6 : Nat) (s7 : Int) (aa ac : Nat) (G : GH),
  zd Tryz.prog O zCR fuel (nav bd35 [1, 1, 1, 0, 0]) 19 (mkE 41 [(4, fL s4), (5, iL s5), (6, fL s6), (7, iL s7)]) [[fL aa, fL ac]] G k = zfr O (fun s4 gj aa ac G => k .normal (mkE 41 [(4, fL s4), (38, .bool gj)]) [[fL aa, fL ac]] G) s4 s5 s6 s7 aa ac G := by
  intros
  rw [zp4]
  simp only [zfr]
def zle {R : Type} (O : Ora R) (k : KV R) (L0 : zIZ R) (av aw : Nat) (G : GH) : Option R :=
  O zir [fL av] G fun v1 G2 =>
  (zY 2 v1).bind fun c3 =>
  (zc .f64 (c3.getD 0 za)).bind fun x4 =>
  (zk .i64 (c3.getD 1 za)).bind fun x5 =>
  O zir [fL aw] G2 fun v6 G7 =>
  (zY 2 v6).bind fun c8 =>
  (zc .f64 (c8.getD 0 za)).bind fun x9 =>
  (zk .i64 (c8.getD 1 za)).bind fun x10 =>
  L0 x4 x5 x9 x10 av aw G7
def zhe {R : Type} (O : Ora R) (k : KV R) (s4 : Nat) (gj : Bool) (aa ac : Nat) (G : GH) : Option R :=
  bif gj then
  k (.tuple [iL (0 : Int), iL (2 : Int)]) G
  else
  (f2i .f64 s4 .i64).bind fun x1 =>
  k (.tuple [iL x1, iL (1 : Int)]) G
def zfO {R : Type} (O : Ora R) (fuel : Nat) (k : KV R) : Nat → Int → Nat → Int → Nat → Nat → GH → Option R := fun s4 s5 s6 s7 aa ac G =>
  zi fuel (zfr O (zhe O k) s4 s5 s6 s7 aa ac G)
theorem znD (fuel s4 : Nat) (gj : Bool) (aa ac : Nat) (G : GH) (k : KV R) :
  ze Tryz.prog O zCR fuel bd35 [1, 1, 1, 0, 0] (rcK Tryz.f35 k) .normal (mkE 41 [(4, fL s4), (38, .bool gj)]) [[fL aa, fL ac]] G =
  zhe O k s4 gj aa ac G := by kernel_rfl
theorem zrd (fuel : Nat) (k : KV R) :
  (fun (s4 : Nat) (s5 : Int) (s6 : Nat) (s7 : Int) (aa ac : Nat) (G : GH) => zi fuel (zd Tryz.prog O zCR fuel (nav bd35 [1, 1, 1, 0, 0]) 19 (mkE 41 [(4, fL s4), (5, iL s5), (6, fL s6), (7, iL s7)]) [[fL aa, fL ac]] G (ze Tryz.prog O zCR fuel bd35 [1, 1, 1, 0, 0] (rcK Tryz.f35 k)))) = zfO O fuel k := by
  funext s4 s5 s6 s7 aa ac G
  simp only [zfO, zrO, znD]
theorem ztf (fuel av aw : Nat) (G : GH) (k : KV R) :
  zf Tryz.prog O zCR fuel Tryz.f35 [.agg [fL av, fL aw]] G k =
  zle O k (fun s4 s5 s6 s7 aa ac G => zi fuel (zd Tryz.prog O zCR fuel (nav bd35 [1, 1, 1, 0, 0]) 19 (mkE 41 [(4, fL s4), (5, iL s5), (6, fL s6), (7, iL s7)]) [[fL aa, fL ac]] G (ze Tryz.prog O zCR fuel bd35 [1, 1, 1, 0, 0] (rcK Tryz.f35 k)))) av aw G := by kernel_rfl
theorem zx2 (fuel av aw : Nat) (G : GH) (k : KV R) :
  zf Tryz.prog O zCR fuel Tryz.f35 [.agg [fL av, fL aw]] G k =
  zle O k (zfO O fuel k) av aw G := by
  rw [ztf, zrd]
theorem zxx {R : Type} (fuel n av aw : Nat) (G : GH) (k : KV R) :
  runC Tryz.prog lo0 fuel (n + 1) 35 [.agg [fL av, fL aw]] G k = zf Tryz.prog (runC Tryz.prog lo0 fuel n) zCR fuel Tryz.f35 [.agg [fL av, fL aw]] G k := zh Tryz.func35 rfl rfl
theorem zDN (fuel av : Nat) (aw bf : Nat) (G : GH) (k : KV R) :
  zf Tryz.prog O [1, 2, 777777] fuel Tryz.f43 [.agg [fL av, fL aw, fL bf]] G k =
  O zdJ [fL av] (zj G) fun v1 _ =>
  (zr 2 v1).bind fun c2 =>
  (zc .f64 (c2.getD 0 za)).bind fun x3 =>
  (zc .f64 (c2.getD 1 za)).bind fun x4 =>
  O zdJ [fL aw] (zj G) fun v5 _ =>
  (zr 2 v5).bind fun c6 =>
  (zc .f64 (c6.getD 0 za)).bind fun x7 =>
  (zc .f64 (c6.getD 1 za)).bind fun x8 =>
  O zdJ [fL bf] (zj G) fun v9 _ =>
  (zr 2 v9).bind fun c10 =>
  (zc .f64 (c10.getD 0 za)).bind fun x11 =>
  (zc .f64 (c10.getD 1 za)).bind fun x12 =>
  k (.agg [fL x3, fL x4, fL x7, fL x8, fL x11, fL x12]) G := by kernel_rfl
theorem zEq {R : Type} (fuel n av : Nat) (aw bf : Nat) (G : GH) (k : KV R) :
  runC Tryz.prog lo0 fuel (n + 1) 43 [.agg [fL av, fL aw, fL bf]] G k = zf Tryz.prog (runC Tryz.prog lo0 fuel n) [1, 2, 777777] fuel Tryz.f43 [.agg [fL av, fL aw, fL bf]] G k := zh Tryz.func43 rfl rfl
theorem zy4 (fuel av : Nat) (aw bf : Nat) (bh bx : Nat) (cd bu : Nat) (bw cz : Nat) (da dt eh : Nat) (G : GH) (k : KV R) :
  zf Tryz.prog O [2, 3, 4, 777777] fuel Tryz.f42 [.agg [fL av, fL aw, fL bf, fL bh, fL bx, fL cd], .agg [fL bu, fL bw, fL cz, fL da, fL dt, fL eh]] G k =
  O zhc [.agg [fL av, fL aw, fL bf, fL bh, fL bx, fL cd], .agg [fL bu, fL bw, fL cz, fL da, fL dt, fL eh], .func 36 []] G fun v1 G2 =>
  (zr 6 v1).bind fun c3 =>
  (zc .f64 (c3.getD 0 za)).bind fun x4 =>
  (zc .f64 (c3.getD 1 za)).bind fun x5 =>
  (zc .f64 (c3.getD 2 za)).bind fun x6 =>
  (zc .f64 (c3.getD 3 za)).bind fun x7 =>
  (zc .f64 (c3.getD 4 za)).bind fun x8 =>
  (zc .f64 (c3.getD 5 za)).bind fun x9 =>
  k (.agg [fL x4, fL x5, fL x6, fL x7, fL x8, fL x9]) G2 := by kernel_rfl
theorem zy5 {R : Type} (fuel n av : Nat) (aw bf : Nat) (bh bx : Nat) (cd bu : Nat) (bw cz : Nat) (da dt eh : Nat) (G : GH) (k : KV R) :
  runC Tryz.prog lo0 fuel (n + 1) 42 [.agg [fL av, fL aw, fL bf, fL bh, fL bx, fL cd], .agg [fL bu, fL bw, fL cz, fL da, fL dt, fL eh]] G k = zf Tryz.prog (runC Tryz.prog lo0 fuel n) [2, 3, 4, 777777] fuel Tryz.f42 [.agg [fL av, fL aw, fL bf, fL bh, fL bx, fL cd], .agg [fL bu, fL bw, fL cz, fL da, fL dt, fL eh]] G k := zh Tryz.func42 rfl rfl
theorem zzj (fuel av : Nat) (aw bf : Nat) (bh bx : Nat) (cd bu bw : Nat) (G : GH) (k : KV R) :
  zf Tryz.prog O [2, 3, 4, 777777] fuel Tryz.f40 [.agg [fL av, fL aw, fL bf, fL bh, fL bx, fL cd], .agg [fL bu, fL bw]] G k =
  O zlq [.agg [fL av, fL aw, fL bf, fL bh, fL bx, fL cd], .agg [fL bu, fL bw, fL bu, fL bw, fL bu, fL bw]] G fun v1 G2 =>
  (zr 6 v1).bind fun c3 =>
  (zc .f64 (c3.getD 0 za)).bind fun x4 =>
  (zc .f64 (c3.getD 1 za)).bind fun x5 =>
  (zc .f64 (c3.getD 2 za)).bind fun x6 =>
  (zc .f64 (c3.getD 3 za)).bind fun x7 =>
  (zc .f64 (c3.getD 4 za)).bind fun x8 =>
  (zc .f64 (c3.getD 5 za)).bind fun x9 =>
  k (.agg [fL x4, fL x5, fL x6, fL x7, fL x8, fL x9]) G2 := by kernel_rfl
theorem zzq {R : Type} (fuel n av : Nat) (aw bf : Nat) (bh bx : Nat) (cd bu bw : Nat) (G : GH) (k : KV R) :
  runC Tryz.prog lo0 fuel (n + 1) 40 [.agg [fL av, fL aw, fL bf, fL bh, fL bx, fL cd], .agg [fL bu, fL bw]] G k = zf Tryz.prog (runC Tryz.prog lo0 fuel n) [2, 3, 4, 777777] fuel Tryz.f40 [.agg [fL av, fL aw, fL bf, fL bh, fL bx, fL cd], .agg [fL bu, fL bw]] G k := zh Tryz.func40 rfl rfl
theorem zd0 (fuel av aw : Nat) (G : GH) (k : KV R) :
  zf Tryz.prog O [1, 777777] fuel Tryz.f6 [.agg [fL av, fL aw]] G k =
  bif (fle .f64 av aw) then
  O zaf [] (zj G) fun v1 _ =>
  (zc .f64 v1).bind fun x2 =>
  bif (!feq .f64 av x2) then
  O zaf [] (zj G) fun v3 _ =>
  (zc .f64 v3).bind fun x4 =>
  bif (!feq .f64 aw (Op.negFloat .f64 x4)) then
  O zfT [fL av] (zj G) fun v5 _ =>
  (zl v5).bind fun x6 =>
  bif (!x6) then
  O zfT [fL aw] (zj G) fun v7 _ =>
  (zl v7).bind fun x8 =>
  k (.bool (!x8)) G
  else
  k (.bool false) G
  else
  k (.bool false) G
  else
  k (.bool false) G
  else
  k (.bool false) G := by kernel_rfl
theorem zvG {R : Type} (fuel n av aw : Nat) (G : GH) (k : KV R) :
  runC Tryz.prog lo0 fuel (n + 1) 6 [.agg [fL av, fL aw]] G k = zf Tryz.prog (runC Tryz.prog lo0 fuel n) [1, 777777] fuel Tryz.f6 [.agg [fL av, fL aw]] G k := zh Tryz.func6 rfl rfl
theorem zqj (fuel p0 : Nat) (G : GH) (k : KV R) :
  zf Tryz.prog O [777777] fuel Tryz.f14 [fL p0] G k =
  bif (feq .f64 p0 (0 : Nat)) then
  O zC [fL p0] G fun v1 G2 =>
  (zk .u64 v1).bind fun x3 =>
  k (.bool (x3 != (0 : Int))) G2
  else
  k (.bool false) G := by kernel_rfl
theorem zp6 {R : Type} (fuel n p0 : Nat) (G : GH) (k : KV R) :
  runC Tryz.prog lo0 fuel (n + 1) 14 [fL p0] G k = zf Tryz.prog (runC Tryz.prog lo0 fuel n) [777777] fuel Tryz.f14 [fL p0] G k := zh Tryz.func14 rfl rfl
theorem zA4 (fuel p0 : Nat) (G : GH) (k : KV R) :
  zf Tryz.prog O [2, 777777] fuel Tryz.f11 [fL p0] G k =
  O zt [fL p0] G fun v1 G2 =>
  (zl v1).bind fun x3 =>
  bif (!x3) then
  O zh1 [] G2 fun v4 G5 =>
  (zr 2 v4).bind fun c6 =>
  (zc .f64 (c6.getD 0 za)).bind fun x7 =>
  (zc .f64 (c6.getD 1 za)).bind fun x8 =>
  k (.agg [fL x7, fL x8]) G5
  else
  O zar [fL p0] G2 fun v9 G10 =>
  (zc .f64 v9).bind fun x11 =>
  O zar [fL p0] G10 fun v12 G13 =>
  (zc .f64 v12).bind fun x14 =>
  k (.agg [fL x11, fL x14]) G13 := by kernel_rfl
theorem zBp {R : Type} (fuel n p0 : Nat) (G : GH) (k : KV R) :
  runC Tryz.prog lo0 fuel (n + 1) 11 [fL p0] G k = zf Tryz.prog (runC Tryz.prog lo0 fuel n) [2, 777777] fuel Tryz.f11 [fL p0] G k := zh Tryz.func11 rfl rfl
theorem zyP (fuel : Nat)  (G : GH) (k : KV R) :
  zf Tryz.prog O [0, 777777] fuel Tryz.f29 [] G k =
  O zaf [] G fun v1 G2 =>
  (zc .f64 v1).bind fun x3 =>
  O zaf [] G2 fun v4 G5 =>
  (zc .f64 v4).bind fun x6 =>
  k (.agg [fL (Op.negFloat .f64 x3), fL x6]) G5 := by kernel_rfl
theorem zzl {R : Type} (fuel n : Nat)  (G : GH) (k : KV R) :
  runC Tryz.prog lo0 fuel (n + 1) 29 [] G k = zf Tryz.prog (runC Tryz.prog lo0 fuel n) [0, 777777] fuel Tryz.f29 [] G k := zh Tryz.func29 rfl rfl
theorem zxo (fuel av : Nat) (aw bu bw : Nat) (G : GH) (k : KV R) :
  zf Tryz.prog O [2, 3, 777777] fuel Tryz.f27 [.agg [fL av, fL aw], .agg [fL bu, fL bw]] G k =
  O zC [fL av] (zj G) fun v1 _ =>
  (zk .u64 v1).bind fun x2 =>
  O zC [fL bu] (zj G) fun v3 _ =>
  (zk .u64 v3).bind fun x4 =>
  bif (x2 == x4) then
  O zC [fL aw] (zj G) fun v5 _ =>
  (zk .u64 v5).bind fun x6 =>
  O zC [fL bw] (zj G) fun v7 _ =>
  (zk .u64 v7).bind fun x8 =>
  k (.bool (x6 == x8)) G
  else
  k (.bool false) G := by kernel_rfl
theorem zyc {R : Type} (fuel n av : Nat) (aw bu bw : Nat) (G : GH) (k : KV R) :
  runC Tryz.prog lo0 fuel (n + 1) 27 [.agg [fL av, fL aw], .agg [fL bu, fL bw]] G k = zf Tryz.prog (runC Tryz.prog lo0 fuel n) [2, 3, 777777] fuel Tryz.f27 [.agg [fL av, fL aw], .agg [fL bu, fL bw]] G k := zh Tryz.func27 rfl rfl
theorem zAI (fuel av : Nat) (aw bf : Nat) (G : GH) (k : KV R) :
  zf Tryz.prog O [1, 2, 777777] fuel Tryz.f12 [.agg [fL av, fL aw, fL bf]] G k =
  O zbw [fL av] (zj G) fun v1 _ =>
  (zr 2 v1).bind fun c2 =>
  (zc .f64 (c2.getD 0 za)).bind fun x3 =>
  (zc .f64 (c2.getD 1 za)).bind fun x4 =>
  O zbw [fL aw] (zj G) fun v5 _ =>
  (zr 2 v5).bind fun c6 =>
  (zc .f64 (c6.getD 0 za)).bind fun x7 =>
  (zc .f64 (c6.getD 1 za)).bind fun x8 =>
  O zbw [fL bf] (zj G) fun v9 _ =>
  (zr 2 v9).bind fun c10 =>
  (zc .f64 (c10.getD 0 za)).bind fun x11 =>
  (zc .f64 (c10.getD 1 za)).bind fun x12 =>
  k (.agg [fL x3, fL x4, fL x7, fL x8, fL x11, fL x12]) G := by kernel_rfl
theorem zBz {R : Type} (fuel n av : Nat) (aw bf : Nat) (G : GH) (k : KV R) :
  runC Tryz.prog lo0 fuel (n + 1) 12 [.agg [fL av, fL aw, fL bf]] G k = zf Tryz.prog (runC Tryz.prog lo0 fuel n) [1, 2, 777777] fuel Tryz.f12 [.agg [fL av, fL aw, fL bf]] G k := zh Tryz.func12 rfl rfl
theorem zwT (fuel av : Nat) (aw bf : Nat) (bh bx : Nat) (cd bu : Nat) (bw cz : Nat) (da dt eh : Nat) (G : GH) (k : KV R) :
  zf Tryz.prog O [2, 3, 777777] fuel Tryz.f10 [.agg [fL av, fL aw, fL bf, fL bh, fL bx, fL cd], .agg [fL bu, fL bw, fL cz, fL da, fL dt, fL eh]] G k =
  O zdQ [.agg [fL av, fL aw], .agg [fL bu, fL bw]] G fun v1 G2 =>
  (zl v1).bind fun x3 =>
  bif x3 then
  O zdQ [.agg [fL bf, fL bh], .agg [fL cz, fL da]] G2 fun v4 G5 =>
  (zl v4).bind fun x6 =>
  bif x6 then
  O zdQ [.agg [fL bx, fL cd], .agg [fL dt, fL eh]] G5 fun v7 G8 =>
  (zl v7).bind fun x9 =>
  k (.bool x9) G8
  else
  k (.bool false) G5
  else
  k (.bool false) G2 := by kernel_rfl
theorem zxl {R : Type} (fuel n av : Nat) (aw bf : Nat) (bh bx : Nat) (cd bu : Nat) (bw cz : Nat) (da dt eh : Nat) (G : GH) (k : KV R) :
  runC Tryz.prog lo0 fuel (n + 1) 10 [.agg [fL av, fL aw, fL bf, fL bh, fL bx, fL cd], .agg [fL bu, fL bw, fL cz, fL da, fL dt, fL eh]] G k = zf Tryz.prog (runC Tryz.prog lo0 fuel n) [2, 3, 777777] fuel Tryz.f10 [.agg [fL av, fL aw, fL bf, fL bh, fL bx, fL cd], .agg [fL bu, fL bw, fL cz, fL da, fL dt, fL eh]] G k := zh Tryz.func10 rfl rfl
end
end Go.LI.Film
