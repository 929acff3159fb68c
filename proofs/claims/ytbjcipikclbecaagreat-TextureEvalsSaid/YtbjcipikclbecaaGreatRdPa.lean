/- What the interpreter gives for round (written by texz.py). -/
import Derived.Test.YtbjcipikclbecaaGreatSeatA
set_option maxRecDepth 100000
set_option linter.unusedVariables false
set_option linter.unusedSimpArgs false
namespace Go.LI.Film
open Go.Proofs.YtbjcipikclbecaaGreat Go Go.Proofs Go.LI
section
variable {R : Type} (O : Ora R)
theorem zuN (fuel p0 : Nat) (G : GH) (k : KV R) :
  zf Tryz.prog O [777777] fuel Tryz.f56 [fL p0] G k =
  O zkx [fL p0] G fun v1 G2 =>
  (zl v1).bind fun x3 =>
  bif (!x3) then
  O zcF [fL p0, iL (0 : Int)] G2 fun v4 G5 =>
  (zl v4).bind fun x6 =>
  k (.bool (!x6)) G5
  else
  k (.bool false) G2 := by kernel_rfl
theorem zuO {R : Type} (fuel n p0 : Nat) (G : GH) (k : KV R) :
  runC Tryz.prog lo0 fuel (n + 1) 56 [fL p0] G k = zf Tryz.prog (runC Tryz.prog lo0 fuel n) [777777] fuel Tryz.f56 [fL p0] G k := zh Tryz.func56 rfl rfl
theorem zvB (fuel p0 : Nat) (G : GH) (k : KV R) :
  zf Tryz.prog O [777777] fuel Tryz.f75 [fL p0] G k =
  ((FloatKind.format .f64).add p0 (0 : Nat)).bind fun r1 =>
  k (fL r1) G := by kernel_rfl
theorem zvN {R : Type} (fuel n p0 : Nat) (G : GH) (k : KV R) :
  runC Tryz.prog lo0 fuel (n + 1) 75 [fL p0] G k = zf Tryz.prog (runC Tryz.prog lo0 fuel n) [777777] fuel Tryz.f75 [fL p0] G k := zh Tryz.func75 rfl rfl
theorem zzt (fuel p0 p1 : Nat) (G : GH) (k : KV R) :
  zf Tryz.prog O [777777] fuel Tryz.f77 [fL p0, fL p1] G k =
  O zaa [fL p0] G fun v1 G2 =>
  (zl v1).bind fun x3 =>
  bif x3 then
  O zaa [fL p1] G2 fun v4 G5 =>
  (zl v4).bind fun x6 =>
  k (.bool x6) G5
  else
  k (.bool false) G2 := by kernel_rfl
theorem zzf {R : Type} (fuel n p0 p1 : Nat) (G : GH) (k : KV R) :
  runC Tryz.prog lo0 fuel (n + 1) 77 [fL p0, fL p1] G k = zf Tryz.prog (runC Tryz.prog lo0 fuel n) [777777] fuel Tryz.f77 [fL p0, fL p1] G k := zh Tryz.func77 rfl rfl
theorem zwe (fuel p0 : Nat) (G : GH) (k : KV R) :
  zf Tryz.prog O [2, 777777] fuel Tryz.f78 [fL p0] G k =
  O zC [fL p0] G fun v1 G2 =>
  (zk .u64 v1).bind fun x3 =>
  bif ((IntKind.wrap .i64 (ziI .u64 (zeg .u64 x3 (52 : Int)) (2047 : Int))) == (0 : Int)) then
  k (.agg [.bool ((zeg .u64 x3 (63 : Int)) != (0 : Int)), uL (0 : Int), uL (ziI .u64 x3 (4503599627370495 : Int)), iL ((-1074 : Int)), .bool false]) G2
  else
  k (.agg [.bool ((zeg .u64 x3 (63 : Int)) != (0 : Int)), uL (0 : Int), uL (orI .u64 (ziI .u64 x3 (4503599627370495 : Int)) (4503599627370496 : Int)), iL (IntKind.wrap .i64 ((IntKind.wrap .i64 (ziI .u64 (zeg .u64 x3 (52 : Int)) (2047 : Int))) - (1075 : Int))), .bool false]) G2 := by kernel_rfl
theorem zvZ {R : Type} (fuel n p0 : Nat) (G : GH) (k : KV R) :
  runC Tryz.prog lo0 fuel (n + 1) 78 [fL p0] G k = zf Tryz.prog (runC Tryz.prog lo0 fuel n) [2, 777777] fuel Tryz.f78 [fL p0] G k := zh Tryz.func78 rfl rfl
theorem zqd (fuel : Nat) (av : Bool) (aw bf bh : Int) (bx : Bool) (G : GH) (k : KV R) :
  zf Tryz.prog O [1, 777777] fuel Tryz.f104 [.agg [.bool av, uL aw, uL bf, iL bh, .bool bx]] G k =
  bif (aw == (0 : Int)) then
  k (.bool (bf == (0 : Int))) G
  else
  k (.bool false) G := by kernel_rfl
theorem zpf {R : Type} (fuel n : Nat) (av : Bool) (aw bf bh : Int) (bx : Bool) (G : GH) (k : KV R) :
  runC Tryz.prog lo0 fuel (n + 1) 104 [.agg [.bool av, uL aw, uL bf, iL bh, .bool bx]] G k = zf Tryz.prog (runC Tryz.prog lo0 fuel n) [1, 777777] fuel Tryz.f104 [.agg [.bool av, uL aw, uL bf, iL bh, .bool bx]] G k := zh Tryz.func104 rfl rfl
theorem zmH (fuel : Nat) (av : Bool) (aw bf bh : Int) (bx : Bool) (G : GH) (k : KV R) :
  zf Tryz.prog O [1, 777777] fuel Tryz.f96 [.agg [.bool av, uL aw, uL bf, iL bh, .bool bx]] G k =
  bif (aw != (0 : Int)) then
  O zjQ [uL aw] G fun v1 G2 =>
  (zk .i64 v1).bind fun x3 =>
  k (iL (IntKind.wrap .i64 ((64 : Int) + x3))) G2
  else
  O zjQ [uL bf] G fun v4 G5 =>
  (zk .i64 v4).bind fun x6 =>
  k (iL x6) G5 := by kernel_rfl
theorem zm0 {R : Type} (fuel n : Nat) (av : Bool) (aw bf bh : Int) (bx : Bool) (G : GH) (k : KV R) :
  runC Tryz.prog lo0 fuel (n + 1) 96 [.agg [.bool av, uL aw, uL bf, iL bh, .bool bx]] G k = zf Tryz.prog (runC Tryz.prog lo0 fuel n) [1, 777777] fuel Tryz.f96 [.agg [.bool av, uL aw, uL bf, iL bh, .bool bx]] G k := zh Tryz.func96 rfl rfl
def zc0 {R : Type} (O : Ora R) (KN : tY4 R) (s1 : Int) (aa : Bool) (ac af ag : Int) (aj ai : Bool) (ah ap am : Int) (bg : Bool) (G : GH) : Option R :=
  bif (decide (s1 ≥ (64 : Int))) then
  bif decide ((IntKind.wrap .i64 (s1 - (64 : Int))) < 0) then none else
  KN s1 aa (zvg .u64 af (IntKind.wrap .i64 (s1 - (64 : Int)))) (0 : Int) ag aj ai ah ap am bg G
  else
  bif (decide (s1 > (0 : Int))) then
  bif decide (s1 < 0) then none else
  bif decide ((IntKind.wrap .i64 ((64 : Int) - s1)) < 0) then none else
  bif decide (s1 < 0) then none else
  KN s1 aa (orI .u64 (zvg .u64 ac s1) (zeg .u64 af (IntKind.wrap .i64 ((64 : Int) - s1)))) (zvg .u64 af s1) ag aj ai ah ap am bg G
  else
  KN s1 aa ac af ag aj ai ah ap am bg G
def zbl {R : Type} (O : Ora R) (KN : tY4 R) : Int → Bool → Int → Int → Int → Bool → Bool → Int → Int → Int → Bool → GH → Option R := fun s1 aa ac af ag aj ai ah ap am bg G => zc0 O KN s1 aa ac af ag aj ai ah ap am bg G
theorem zi8 (fuel : Nat) (s1 : Int) (aa : Bool) (ac af ag : Int) (aj ai : Bool) (ah ap am : Int) (bg : Bool) (G : GH) (k : KE R) :
  zd Tryz.prog O ztM fuel (nav bd107 [1, 0]) 23 (mkE 40 [(1, iL s1), (2, .loc 0 0), (4, .loc 1 0)]) [[.bool aa, uL ac, uL af, iL ag, .bool aj], [.bool ai, uL ah, uL ap, iL am, .bool bg]] G k =
  zc0 O (fun s1 aa ac af ag aj ai ah ap am bg G => k .normal (mkE 40 [(1, iL s1), (2, .loc 0 0), (4, .loc 1 0)]) [[.bool aa, uL ac, uL af, iL ag, .bool aj], [.bool ai, uL ah, uL ap, iL am, .bool bg]] G) s1 aa ac af ag aj ai ah ap am bg G := by kernel_rfl
theorem zj8 (fuel : Nat) (k : KE R) : ∀ (s1 : Int) (aa : Bool) (ac af ag : Int) (aj ai : Bool) (ah ap am : Int) (bg : Bool) (G : GH),
  zd Tryz.prog O ztM fuel (nav bd107 [1, 0]) 23 (mkE 40 [(1, iL s1), (2, .loc 0 0), (4, .loc 1 0)]) [[.bool aa, uL ac, uL af, iL ag, .bool aj], [.bool ai, uL ah, uL ap, iL am, .bool bg]] G k = zbl O (fun s1 aa ac af ag aj ai ah ap am bg G => k .normal (mkE 40 [(1, iL s1), (2, .loc 0 0), (4, .loc 1 0)]) [[.bool aa, uL ac, uL af, iL ag, .bool aj], [.bool ai, uL ah, uL ap, iL am, .bool bg]] G) s1 aa ac af ag aj ai ah ap am bg G := by
  intros
  rw [zi8]
  simp only [zbl]
def zeo {R : Type} (O : Ora R) (k : KV R) (L0 : tY4 R) (av : Bool) (aw bf bh : Int) (bx : Bool) (p1 : Int) (G : GH) : Option R :=
  L0 p1 av aw bf bh bx false (0 : Int) (0 : Int) (0 : Int) false G
def zcf {R : Type} (O : Ora R) (k : KV R) (s1 : Int) (aa : Bool) (ac af ag : Int) (aj ai : Bool) (ah ap am : Int) (bg : Bool) (G : GH) : Option R :=
  k (.agg [.bool aa, uL ac, uL af, iL (IntKind.wrap .i64 (ag - s1)), .bool aj]) G
def zbm {R : Type} (O : Ora R) (fuel : Nat) (k : KV R) : Int → Bool → Int → Int → Int → Bool → Bool → Int → Int → Int → Bool → GH → Option R := fun s1 aa ac af ag aj ai ah ap am bg G =>
  zi fuel (zbl O (zcf O k) s1 aa ac af ag aj ai ah ap am bg G)
theorem ziQ (fuel : Nat) (s1 : Int) (aa : Bool) (ac af ag : Int) (aj ai : Bool) (ah ap am : Int) (bg : Bool) (G : GH) (k : KV R) :
  ze Tryz.prog O ztM fuel bd107 [1, 0] (rcK Tryz.f107 k) .normal (mkE 40 [(1, iL s1), (2, .loc 0 0), (4, .loc 1 0)]) [[.bool aa, uL ac, uL af, iL ag, .bool aj], [.bool ai, uL ah, uL ap, iL am, .bool bg]] G =
  zcf O k s1 aa ac af ag aj ai ah ap am bg G := by kernel_rfl
theorem zkf (fuel : Nat) (k : KV R) :
  (fun (s1 : Int) (aa : Bool) (ac af ag : Int) (aj ai : Bool) (ah ap am : Int) (bg : Bool) (G : GH) => zi fuel (zd Tryz.prog O ztM fuel (nav bd107 [1, 0]) 23 (mkE 40 [(1, iL s1), (2, .loc 0 0), (4, .loc 1 0)]) [[.bool aa, uL ac, uL af, iL ag, .bool aj], [.bool ai, uL ah, uL ap, iL am, .bool bg]] G (ze Tryz.prog O ztM fuel bd107 [1, 0] (rcK Tryz.f107 k)))) = zbm O fuel k := by
  funext s1 aa ac af ag aj ai ah ap am bg G
  simp only [zbm, zj8, ziQ]
theorem zk3 (fuel : Nat) (av : Bool) (aw bf bh : Int) (bx : Bool) (p1 : Int) (G : GH) (k : KV R) :
  zf Tryz.prog O ztM fuel Tryz.f107 [.agg [.bool av, uL aw, uL bf, iL bh, .bool bx], iL p1] G k =
  zeo O k (fun s1 aa ac af ag aj ai ah ap am bg G => zi fuel (zd Tryz.prog O ztM fuel (nav bd107 [1, 0]) 23 (mkE 40 [(1, iL s1), (2, .loc 0 0), (4, .loc 1 0)]) [[.bool aa, uL ac, uL af, iL ag, .bool aj], [.bool ai, uL ah, uL ap, iL am, .bool bg]] G (ze Tryz.prog O ztM fuel bd107 [1, 0] (rcK Tryz.f107 k)))) av aw bf bh bx p1 G := by kernel_rfl
theorem zpM (fuel : Nat) (av : Bool) (aw bf bh : Int) (bx : Bool) (p1 : Int) (G : GH) (k : KV R) :
  zf Tryz.prog O ztM fuel Tryz.f107 [.agg [.bool av, uL aw, uL bf, iL bh, .bool bx], iL p1] G k =
  zeo O k (zbm O fuel k) av aw bf bh bx p1 G := by
  rw [zk3, zkf]
theorem zox {R : Type} (fuel n : Nat) (av : Bool) (aw bf bh : Int) (bx : Bool) (p1 : Int) (G : GH) (k : KV R) :
  runC Tryz.prog lo0 fuel (n + 1) 107 [.agg [.bool av, uL aw, uL bf, iL bh, .bool bx], iL p1] G k = zf Tryz.prog (runC Tryz.prog lo0 fuel n) ztM fuel Tryz.f107 [.agg [.bool av, uL aw, uL bf, iL bh, .bool bx], iL p1] G k := zh Tryz.func107 rfl rfl
def zcd {R : Type} (O : Ora R) (KN : tY5 R) (aa : Bool) (ac af ag : Int) (aj ai : Bool) (ah ap am : Int) (bg : Bool) (G : GH) : Option R :=
  bif aj then
  KN aa ac af ag true ai ah ap am bg G
  else
  O zL [.agg [.bool aa, uL ac, uL af, iL ag, .bool aj]] G fun v1 G2 =>
  (zl v1).bind fun x3 =>
  KN aa ac af ag (!x3) ai ah ap am bg G2
def zaY {R : Type} (O : Ora R) (KN : tY5 R) : Bool → Int → Int → Int → Bool → Bool → Int → Int → Int → Bool → GH → Option R := fun aa ac af ag aj ai ah ap am bg G => zcd O KN aa ac af ag aj ai ah ap am bg G
theorem zii (fuel : Nat) (aa : Bool) (ac af ag : Int) (aj ai : Bool) (ah ap am : Int) (bg : Bool) (G : GH) (k : KE R) :
  zd Tryz.prog O zs7 fuel (nav bd97 [1, 1, 0, 0, 1, 1, 1, 0, 0]) 39 (mkE 90 [(2, .loc 0 0), (4, .loc 1 0)]) [[.bool aa, uL ac, uL af, iL ag, .bool aj], [.bool ai, uL ah, uL ap, iL am, .bool bg]] G k =
  zcd O (fun aa ac af ag aj ai ah ap am bg G => k .normal (mkE 90 [(2, .loc 0 0), (4, .loc 1 0)]) [[.bool aa, uL ac, uL af, iL ag, .bool aj], [.bool ai, uL ah, uL ap, iL am, .bool bg]] G) aa ac af ag aj ai ah ap am bg G := by kernel_rfl
theorem zjg (fuel : Nat) (k : KE R) : ∀ (aa : Bool) (ac af ag : Int) (aj ai : Bool) (ah ap am : Int) (bg : Bool) (G : GH),
  zd Tryz.prog O zs7 fuel (nav bd97 [1, 1, 0, 0, 1, 1, 1, 0, 0]) 39 (mkE 90 [(2, .loc 0 0), (4, .loc 1 0)]) [[.bool aa, uL ac, uL af, iL ag, .bool aj], [.bool ai, uL ah, uL ap, iL am, .bool bg]] G k = zaY O (fun aa ac af ag aj ai ah ap am bg G => k .normal (mkE 90 [(2, .loc 0 0), (4, .loc 1 0)]) [[.bool aa, uL ac, uL af, iL ag, .bool aj], [.bool ai, uL ah, uL ap, iL am, .bool bg]] G) aa ac af ag aj ai ah ap am bg G := by
  intros
  rw [zii]
  simp only [zaY]
def zcp {R : Type} (O : Ora R) (KN : tY4 R) (s1 : Int) (aa : Bool) (ac af ag : Int) (aj ai : Bool) (ah ap am : Int) (bg : Bool) (G : GH) : Option R :=
  bif aj then
  KN s1 aa ac af ag true ai ah ap am bg G
  else
  bif (af != (0 : Int)) then
  KN s1 aa ac af ag true ai ah ap am bg G
  else
  bif decide ((IntKind.wrap .i64 ((128 : Int) - s1)) < 0) then none else
  bif ((zvg .u64 ac (IntKind.wrap .i64 ((128 : Int) - s1))) != (0 : Int)) then
  KN s1 aa ac af ag (decide (s1 > (64 : Int))) ai ah ap am bg G
  else
  KN s1 aa ac af ag false ai ah ap am bg G
def zaW {R : Type} (O : Ora R) (KN : tY4 R) : Int → Bool → Int → Int → Int → Bool → Bool → Int → Int → Int → Bool → GH → Option R := fun s1 aa ac af ag aj ai ah ap am bg G => zcp O KN s1 aa ac af ag aj ai ah ap am bg G
theorem zid (fuel : Nat) (s1 : Int) (aa : Bool) (ac af ag : Int) (aj ai : Bool) (ah ap am : Int) (bg : Bool) (G : GH) (k : KE R) :
  zd Tryz.prog O zs7 fuel (nav bd97 [1, 1, 0, 0, 1, 1, 1, 1, 1, 0, 0]) 51 (mkE 90 [(1, iL s1), (2, .loc 0 0), (4, .loc 1 0)]) [[.bool aa, uL ac, uL af, iL ag, .bool aj], [.bool ai, uL ah, uL ap, iL am, .bool bg]] G k =
  zcp O (fun s1 aa ac af ag aj ai ah ap am bg G => k .normal (mkE 90 [(1, iL s1), (2, .loc 0 0), (4, .loc 1 0)]) [[.bool aa, uL ac, uL af, iL ag, .bool aj], [.bool ai, uL ah, uL ap, iL am, .bool bg]] G) s1 aa ac af ag aj ai ah ap am bg G := by kernel_rfl
theorem zjv (fuel : Nat) (k : KE R) : ∀ (s1 : Int) (aa : Bool) (ac af ag : Int) (aj ai : Bool) (ah ap am : Int) (bg : Bool) (G : GH),
  zd Tryz.prog O zs7 fuel (nav bd97 [1, 1, 0, 0, 1, 1, 1, 1, 1, 0, 0]) 51 (mkE 90 [(1, iL s1), (2, .loc 0 0), (4, .loc 1 0)]) [[.bool aa, uL ac, uL af, iL ag, .bool aj], [.bool ai, uL ah, uL ap, iL am, .bool bg]] G k = zaW O (fun s1 aa ac af ag aj ai ah ap am bg G => k .normal (mkE 90 [(1, iL s1), (2, .loc 0 0), (4, .loc 1 0)]) [[.bool aa, uL ac, uL af, iL ag, .bool aj], [.bool ai, uL ah, uL ap, iL am, .bool bg]] G) s1 aa ac af ag aj ai ah ap am bg G := by
  intros
  rw [zid]
  simp only [zaW]
def zcl {R : Type} (O : Ora R) (KN : tY4 R) (s1 : Int) (aa : Bool) (ac af ag : Int) (aj ai : Bool) (ah ap am : Int) (bg : Bool) (G : GH) : Option R :=
  bif aj then
  KN s1 aa ac af ag true ai ah ap am bg G
  else
  bif decide ((IntKind.wrap .i64 ((64 : Int) - s1)) < 0) then none else
  KN s1 aa ac af ag ((zvg .u64 af (IntKind.wrap .i64 ((64 : Int) - s1))) != (0 : Int)) ai ah ap am bg G
def za6 {R : Type} (O : Ora R) (KN : tY4 R) : Int → Bool → Int → Int → Int → Bool → Bool → Int → Int → Int → Bool → GH → Option R := fun s1 aa ac af ag aj ai ah ap am bg G => zcl O KN s1 aa ac af ag aj ai ah ap am bg G
theorem zij (fuel : Nat) (s1 : Int) (aa : Bool) (ac af ag : Int) (aj ai : Bool) (ah ap am : Int) (bg : Bool) (G : GH) (k : KE R) :
  zd Tryz.prog O zs7 fuel (nav bd97 [1, 1, 0, 0, 1, 1, 1, 1, 1, 1, 0]) 15 (mkE 90 [(1, iL s1), (2, .loc 0 0), (4, .loc 1 0)]) [[.bool aa, uL ac, uL af, iL ag, .bool aj], [.bool ai, uL ah, uL ap, iL am, .bool bg]] G k =
  zcl O (fun s1 aa ac af ag aj ai ah ap am bg G => k .normal (mkE 90 [(1, iL s1), (2, .loc 0 0), (4, .loc 1 0)]) [[.bool aa, uL ac, uL af, iL ag, .bool aj], [.bool ai, uL ah, uL ap, iL am, .bool bg]] G) s1 aa ac af ag aj ai ah ap am bg G := by kernel_rfl
theorem zjq (fuel : Nat) (k : KE R) : ∀ (s1 : Int) (aa : Bool) (ac af ag : Int) (aj ai : Bool) (ah ap am : Int) (bg : Bool) (G : GH),
  zd Tryz.prog O zs7 fuel (nav bd97 [1, 1, 0, 0, 1, 1, 1, 1, 1, 1, 0]) 15 (mkE 90 [(1, iL s1), (2, .loc 0 0), (4, .loc 1 0)]) [[.bool aa, uL ac, uL af, iL ag, .bool aj], [.bool ai, uL ah, uL ap, iL am, .bool bg]] G k = za6 O (fun s1 aa ac af ag aj ai ah ap am bg G => k .normal (mkE 90 [(1, iL s1), (2, .loc 0 0), (4, .loc 1 0)]) [[.bool aa, uL ac, uL af, iL ag, .bool aj], [.bool ai, uL ah, uL ap, iL am, .bool bg]] G) s1 aa ac af ag aj ai ah ap am bg G := by
  intros
  rw [zij]
  simp only [za6]
def zdz {R : Type} (O : Ora R) (k : KV R) (L0 : tY5 R) (L1 L2 : tY4 R) (av : Bool) (aw bf bh : Int) (bx : Bool) (p1 : Int) (G : GH) : Option R :=
  bif (decide (p1 ≤ (0 : Int))) then
  k (.agg [.bool av, uL aw, uL bf, iL (IntKind.wrap .i64 ((IntKind.wrap .i64 (bh + p1)) - p1)), .bool bx]) G
  else
  bif (decide (p1 ≥ (128 : Int))) then
  L0 av aw bf (IntKind.wrap .i64 (bh + p1)) bx false (0 : Int) (0 : Int) (0 : Int) false G
  else
  bif (decide (p1 ≥ (64 : Int))) then
  L1 p1 av aw bf (IntKind.wrap .i64 (bh + p1)) bx false (0 : Int) (0 : Int) (0 : Int) false G
  else
  L2 p1 av aw bf (IntKind.wrap .i64 (bh + p1)) bx false (0 : Int) (0 : Int) (0 : Int) false G
def zbT {R : Type} (O : Ora R) (k : KV R) (aa : Bool) (ac af ag : Int) (aj ai : Bool) (ah ap am : Int) (bg : Bool) (G : GH) : Option R :=
  k (.agg [.bool aa, uL (0 : Int), uL (0 : Int), iL ag, .bool aj]) G
def zbW {R : Type} (O : Ora R) (k : KV R) (s1 : Int) (aa : Bool) (ac af ag : Int) (aj ai : Bool) (ah ap am : Int) (bg : Bool) (G : GH) : Option R :=
  bif decide ((IntKind.wrap .i64 (s1 - (64 : Int))) < 0) then none else
  k (.agg [.bool aa, uL (0 : Int), uL (zeg .u64 ac (IntKind.wrap .i64 (s1 - (64 : Int)))), iL ag, .bool aj]) G
def zbY {R : Type} (O : Ora R) (k : KV R) (s1 : Int) (aa : Bool) (ac af ag : Int) (aj ai : Bool) (ah ap am : Int) (bg : Bool) (G : GH) : Option R :=
  bif decide (s1 < 0) then none else
  bif decide (s1 < 0) then none else
  bif decide ((IntKind.wrap .i64 ((64 : Int) - s1)) < 0) then none else
  k (.agg [.bool aa, uL (zeg .u64 ac s1), uL (orI .u64 (zeg .u64 af s1) (zvg .u64 ac (IntKind.wrap .i64 ((64 : Int) - s1)))), iL ag, .bool aj]) G
def zba {R : Type} (O : Ora R) (fuel : Nat) (k : KV R) : Int → Bool → Int → Int → Int → Bool → Bool → Int → Int → Int → Bool → GH → Option R := fun s1 aa ac af ag aj ai ah ap am bg G =>
  zi fuel (za6 O (zbY O k) s1 aa ac af ag aj ai ah ap am bg G)
theorem zhQ (fuel : Nat) (s1 : Int) (aa : Bool) (ac af ag : Int) (aj ai : Bool) (ah ap am : Int) (bg : Bool) (G : GH) (k : KV R) :
  ze Tryz.prog O zs7 fuel bd97 [1, 1, 0, 0, 1, 1, 1, 1, 1, 1, 0] (rcK Tryz.f97 k) .normal (mkE 90 [(1, iL s1), (2, .loc 0 0), (4, .loc 1 0)]) [[.bool aa, uL ac, uL af, iL ag, .bool aj], [.bool ai, uL ah, uL ap, iL am, .bool bg]] G =
  zbY O k s1 aa ac af ag aj ai ah ap am bg G := by kernel_rfl
theorem zje (fuel : Nat) (k : KV R) :
  (fun (s1 : Int) (aa : Bool) (ac af ag : Int) (aj ai : Bool) (ah ap am : Int) (bg : Bool) (G : GH) => zi fuel (zd Tryz.prog O zs7 fuel (nav bd97 [1, 1, 0, 0, 1, 1, 1, 1, 1, 1, 0]) 15 (mkE 90 [(1, iL s1), (2, .loc 0 0), (4, .loc 1 0)]) [[.bool aa, uL ac, uL af, iL ag, .bool aj], [.bool ai, uL ah, uL ap, iL am, .bool bg]] G (ze Tryz.prog O zs7 fuel bd97 [1, 1, 0, 0, 1, 1, 1, 1, 1, 1, 0] (rcK Tryz.f97 k)))) = zba O fuel k := by
  funext s1 aa ac af ag aj ai ah ap am bg G
  simp only [zba, zjq, zhQ]
def za1 {R : Type} (O : Ora R) (fuel : Nat) (k : KV R) : Int → Bool → Int → Int → Int → Bool → Bool → Int → Int → Int → Bool → GH → Option R := fun s1 aa ac af ag aj ai ah ap am bg G =>
  zi fuel (zaW O (zbW O k) s1 aa ac af ag aj ai ah ap am bg G)
theorem zhR (fuel : Nat) (s1 : Int) (aa : Bool) (ac af ag : Int) (aj ai : Bool) (ah ap am : Int) (bg : Bool) (G : GH) (k : KV R) :
  ze Tryz.prog O zs7 fuel bd97 [1, 1, 0, 0, 1, 1, 1, 1, 1, 0, 0] (rcK Tryz.f97 k) .normal (mkE 90 [(1, iL s1), (2, .loc 0 0), (4, .loc 1 0)]) [[.bool aa, uL ac, uL af, iL ag, .bool aj], [.bool ai, uL ah, uL ap, iL am, .bool bg]] G =
  zbW O k s1 aa ac af ag aj ai ah ap am bg G := by kernel_rfl
theorem zjn (fuel : Nat) (k : KV R) :
  (fun (s1 : Int) (aa : Bool) (ac af ag : Int) (aj ai : Bool) (ah ap am : Int) (bg : Bool) (G : GH) => zi fuel (zd Tryz.prog O zs7 fuel (nav bd97 [1, 1, 0, 0, 1, 1, 1, 1, 1, 0, 0]) 51 (mkE 90 [(1, iL s1), (2, .loc 0 0), (4, .loc 1 0)]) [[.bool aa, uL ac, uL af, iL ag, .bool aj], [.bool ai, uL ah, uL ap, iL am, .bool bg]] G (ze Tryz.prog O zs7 fuel bd97 [1, 1, 0, 0, 1, 1, 1, 1, 1, 0, 0] (rcK Tryz.f97 k)))) = za1 O fuel k := by
  funext s1 aa ac af ag aj ai ah ap am bg G
  simp only [za1, zjv, zhR]
def za5 {R : Type} (O : Ora R) (fuel : Nat) (k : KV R) : Bool → Int → Int → Int → Bool → Bool → Int → Int → Int → Bool → GH → Option R := fun aa ac af ag aj ai ah ap am bg G =>
  zi fuel (zaY O (zbT O k) aa ac af ag aj ai ah ap am bg G)
theorem zhT (fuel : Nat) (aa : Bool) (ac af ag : Int) (aj ai : Bool) (ah ap am : Int) (bg : Bool) (G : GH) (k : KV R) :
  ze Tryz.prog O zs7 fuel bd97 [1, 1, 0, 0, 1, 1, 1, 0, 0] (rcK Tryz.f97 k) .normal (mkE 90 [(2, .loc 0 0), (4, .loc 1 0)]) [[.bool aa, uL ac, uL af, iL ag, .bool aj], [.bool ai, uL ah, uL ap, iL am, .bool bg]] G =
  zbT O k aa ac af ag aj ai ah ap am bg G := by kernel_rfl
theorem zjb (fuel : Nat) (k : KV R) :
  (fun (aa : Bool) (ac af ag : Int) (aj ai : Bool) (ah ap am : Int) (bg : Bool) (G : GH) => zi fuel (zd Tryz.prog O zs7 fuel (nav bd97 [1, 1, 0, 0, 1, 1, 1, 0, 0]) 39 (mkE 90 [(2, .loc 0 0), (4, .loc 1 0)]) [[.bool aa, uL ac, uL af, iL ag, .bool aj], [.bool ai, uL ah, uL ap, iL am, .bool bg]] G (ze Tryz.prog O zs7 fuel bd97 [1, 1, 0, 0, 1, 1, 1, 0, 0] (rcK Tryz.f97 k)))) = za5 O fuel k := by
  funext aa ac af ag aj ai ah ap am bg G
  simp only [za5, zjg, zhT]
theorem zj6 (fuel : Nat) (av : Bool) (aw bf bh : Int) (bx : Bool) (p1 : Int) (G : GH) (k : KV R) :
  zf Tryz.prog O zs7 fuel Tryz.f97 [.agg [.bool av, uL aw, uL bf, iL bh, .bool bx], iL p1] G k =
  zdz O k (fun aa ac af ag aj ai ah ap am bg G => zi fuel (zd Tryz.prog O zs7 fuel (nav bd97 [1, 1, 0, 0, 1, 1, 1, 0, 0]) 39 (mkE 90 [(2, .loc 0 0), (4, .loc 1 0)]) [[.bool aa, uL ac, uL af, iL ag, .bool aj], [.bool ai, uL ah, uL ap, iL am, .bool bg]] G (ze Tryz.prog O zs7 fuel bd97 [1, 1, 0, 0, 1, 1, 1, 0, 0] (rcK Tryz.f97 k)))) (fun s1 aa ac af ag aj ai ah ap am bg G => zi fuel (zd Tryz.prog O zs7 fuel (nav bd97 [1, 1, 0, 0, 1, 1, 1, 1, 1, 0, 0]) 51 (mkE 90 [(1, iL s1), (2, .loc 0 0), (4, .loc 1 0)]) [[.bool aa, uL ac, uL af, iL ag, .bool aj], [.bool ai, uL ah, uL ap, iL am, .bool bg]] G (ze Tryz.prog O zs7 fuel bd97 [1, 1, 0, 0, 1, 1, 1, 1, 1, 0, 0] (rcK Tryz.f97 k)))) (fun s1 aa ac af ag aj ai ah ap am bg G => zi fuel (zd Tryz.prog O zs7 fuel (nav bd97 [1, 1, 0, 0, 1, 1, 1, 1, 1, 1, 0]) 15 (mkE 90 [(1, iL s1), (2, .loc 0 0), (4, .loc 1 0)]) [[.bool aa, uL ac, uL af, iL ag, .bool aj], [.bool ai, uL ah, uL ap, iL am, .bool bg]] G (ze Tryz.prog O zs7 fuel bd97 [1, 1, 0, 0, 1, 1, 1, 1, 1, 1, 0] (rcK Tryz.f97 k)))) av aw bf bh bx p1 G := by kernel_rfl
theorem znR (fuel : Nat) (av : Bool) (aw bf bh : Int) (bx : Bool) (p1 : Int) (G : GH) (k : KV R) :
  zf Tryz.prog O zs7 fuel Tryz.f97 [.agg [.bool av, uL aw, uL bf, iL bh, .bool bx], iL p1] G k =
  zdz O k (za5 O fuel k) (za1 O fuel k) (zba O fuel k) av aw bf bh bx p1 G := by
  rw [zj6, zjb, zjn, zje]
theorem zog {R : Type} (fuel n : Nat) (av : Bool) (aw bf bh : Int) (bx : Bool) (p1 : Int) (G : GH) (k : KV R) :
  runC Tryz.prog lo0 fuel (n + 1) 97 [.agg [.bool av, uL aw, uL bf, iL bh, .bool bx], iL p1] G k = zf Tryz.prog (runC Tryz.prog lo0 fuel n) zs7 fuel Tryz.f97 [.agg [.bool av, uL aw, uL bf, iL bh, .bool bx], iL p1] G k := zh Tryz.func97 rfl rfl
def zen {R : Type} (O : Ora R) (KN : tY6 R) (s5 : Bool) (s6 : Int) (aa : Bool) (ac af ag : Int) (aj : Bool) (G : GH) : Option R :=
  bif (decide (s6 > (0 : Int))) then
  O zbk [.agg [.bool aa, uL ac, uL af, iL ag, .bool aj], iL s6] G fun v1 G2 =>
  (zr 5 v1).bind fun c3 =>
  (zl (c3.getD 0 za)).bind fun x4 =>
  (zk .u64 (c3.getD 1 za)).bind fun x5 =>
  (zk .u64 (c3.getD 2 za)).bind fun x6 =>
  (zk .i64 (c3.getD 3 za)).bind fun x7 =>
  (zl (c3.getD 4 za)).bind fun x8 =>
  KN s5 x4 x5 x6 x7 x8 G2
  else
  KN s5 aa ac af ag aj G
def zb2 {R : Type} (O : Ora R) (KN : tY6 R) : Bool → Int → Bool → Int → Int → Int → Bool → GH → Option R := fun s5 s6 aa ac af ag aj G => zen O KN s5 s6 aa ac af ag aj G
theorem zla (fuel : Nat) (s5 : Bool) (s6 : Int) (aa : Bool) (ac af ag : Int) (aj : Bool) (G : GH) (k : KE R) :
  zd Tryz.prog O ziX fuel (nav bd80 [1, 1, 1, 0]) 23 (mkE 51 [(2, .loc 0 0), (5, .bool s5), (6, iL s6)]) [[.bool aa, uL ac, uL af, iL ag, .bool aj]] G k =
  zen O (fun s5 aa ac af ag aj G => k .normal (mkE 51 [(2, .loc 0 0), (5, .bool s5)]) [[.bool aa, uL ac, uL af, iL ag, .bool aj]] G) s5 s6 aa ac af ag aj G := by kernel_rfl
theorem zlp (fuel : Nat) (k : KE R) : ∀ (s5 : Bool) (s6 : Int) (aa : Bool) (ac af ag : Int) (aj : Bool) (G : GH),
  zd Tryz.prog O ziX fuel (nav bd80 [1, 1, 1, 0]) 23 (mkE 51 [(2, .loc 0 0), (5, .bool s5), (6, iL s6)]) [[.bool aa, uL ac, uL af, iL ag, .bool aj]] G k = zb2 O (fun s5 aa ac af ag aj G => k .normal (mkE 51 [(2, .loc 0 0), (5, .bool s5)]) [[.bool aa, uL ac, uL af, iL ag, .bool aj]] G) s5 s6 aa ac af ag aj G := by
  intros
  rw [zla]
  simp only [zb2]
def zdT {R : Type} (O : Ora R) (KN : tY7 R) (s5 : Bool) (s7 : Int) (aa : Bool) (ac af ag : Int) (aj : Bool) (G : GH) : Option R :=
  bif aj then
  KN s5 s7 s5 aa ac af ag aj G
  else
  KN s5 s7 false aa ac af ag aj G
def zb1 {R : Type} (O : Ora R) (KN : tY7 R) : Bool → Int → Bool → Int → Int → Int → Bool → GH → Option R := fun s5 s7 aa ac af ag aj G => zdT O KN s5 s7 aa ac af ag aj G
theorem zkQ (fuel : Nat) (s5 : Bool) (s7 : Int) (aa : Bool) (ac af ag : Int) (aj : Bool) (G : GH) (k : KE R) :
  zd Tryz.prog O ziX fuel (nav bd80 [1, 1, 1, 1, 1, 0, 0]) 31 (mkE 51 [(2, .loc 0 0), (5, .bool s5), (7, uL s7)]) [[.bool aa, uL ac, uL af, iL ag, .bool aj]] G k =
  zdT O (fun s5 s7 gx aa ac af ag aj G => k .normal (mkE 51 [(2, .loc 0 0), (5, .bool s5), (7, uL s7), (31, .bool gx)]) [[.bool aa, uL ac, uL af, iL ag, .bool aj]] G) s5 s7 aa ac af ag aj G := by kernel_rfl
theorem zlJ (fuel : Nat) (k : KE R) : ∀ (s5 : Bool) (s7 : Int) (aa : Bool) (ac af ag : Int) (aj : Bool) (G : GH),
  zd Tryz.prog O ziX fuel (nav bd80 [1, 1, 1, 1, 1, 0, 0]) 31 (mkE 51 [(2, .loc 0 0), (5, .bool s5), (7, uL s7)]) [[.bool aa, uL ac, uL af, iL ag, .bool aj]] G k = zb1 O (fun s5 s7 gx aa ac af ag aj G => k .normal (mkE 51 [(2, .loc 0 0), (5, .bool s5), (7, uL s7), (31, .bool gx)]) [[.bool aa, uL ac, uL af, iL ag, .bool aj]] G) s5 s7 aa ac af ag aj G := by
  intros
  rw [zkQ]
  simp only [zb1]
def zev {R : Type} (O : Ora R) (KN L2 : tY8 R) (s5 : Bool) (s7 : Int) (aa : Bool) (ac af ag : Int) (aj : Bool) (G : GH) : Option R :=
  L2 s5 s7 aa ac af ag aj G
def zbx {R : Type} (O : Ora R) (KN : tY8 R) (s5 : Bool) (s7 : Int) (gx aa : Bool) (ac af ag : Int) (aj : Bool) (G : GH) : Option R :=
  bif gx then
  KN s5 (IntKind.wrap .u64 (s7 + (1 : Int))) aa ac af ag aj G
  else
  KN s5 s7 aa ac af ag aj G
def zcb {R : Type} (O : Ora R) (fuel : Nat) (KN : tY8 R) : Bool → Int → Bool → Int → Int → Int → Bool → GH → Option R := fun s5 s7 aa ac af ag aj G =>
  zi fuel (zb1 O (zbx O KN) s5 s7 aa ac af ag aj G)
theorem zj4 (fuel : Nat) (s5 : Bool) (s7 : Int) (gx aa : Bool) (ac af ag : Int) (aj : Bool) (G : GH) (k : KE R) :
  ze Tryz.prog O ziX fuel (nav bd80 [1, 1, 1, 1, 1, 0]) [0] (kpD ziX 35 1 k) .normal (mkE 51 [(2, .loc 0 0), (5, .bool s5), (7, uL s7), (31, .bool gx)]) [[.bool aa, uL ac, uL af, iL ag, .bool aj]] G =
  zbx O (fun s5 s7 aa ac af ag aj G => k .normal (mkE 51 [(2, .loc 0 0), (5, .bool s5), (7, uL s7)]) [[.bool aa, uL ac, uL af, iL ag, .bool aj]] G) s5 s7 gx aa ac af ag aj G := by kernel_rfl
theorem zl4 (fuel : Nat) (k : KE R) :
  (fun (s5 : Bool) (s7 : Int) (aa : Bool) (ac af ag : Int) (aj : Bool) (G : GH) => zi fuel (zd Tryz.prog O ziX fuel (nav bd80 [1, 1, 1, 1, 1, 0, 0]) 31 (mkE 51 [(2, .loc 0 0), (5, .bool s5), (7, uL s7)]) [[.bool aa, uL ac, uL af, iL ag, .bool aj]] G (ze Tryz.prog O ziX fuel (nav bd80 [1, 1, 1, 1, 1, 0]) [0] (kpD ziX 35 1 k)))) = zcb O fuel (fun (s5 : Bool) (s7 : Int) (aa : Bool) (ac af ag : Int) (aj : Bool) (G : GH) => k .normal (mkE 51 [(2, .loc 0 0), (5, .bool s5), (7, uL s7)]) [[.bool aa, uL ac, uL af, iL ag, .bool aj]] G) := by
  funext s5 s7 aa ac af ag aj G
  simp only [zcb, zlJ, zj4]
def zb3 {R : Type} (O : Ora R) (fuel : Nat) (KN : tY8 R) : Bool → Int → Bool → Int → Int → Int → Bool → GH → Option R := fun s5 s7 aa ac af ag aj G => zev O KN (zcb O fuel KN) s5 s7 aa ac af ag aj G
theorem zk2 (fuel : Nat) (s5 : Bool) (s7 : Int) (aa : Bool) (ac af ag : Int) (aj : Bool) (G : GH) (k : KE R) :
  zd Tryz.prog O ziX fuel (nav bd80 [1, 1, 1, 1, 1, 0]) 35 (mkE 51 [(2, .loc 0 0), (5, .bool s5), (7, uL s7)]) [[.bool aa, uL ac, uL af, iL ag, .bool aj]] G k =
  zev O (fun s5 s7 aa ac af ag aj G => k .normal (mkE 51 [(2, .loc 0 0), (5, .bool s5), (7, uL s7)]) [[.bool aa, uL ac, uL af, iL ag, .bool aj]] G) (fun s5 s7 aa ac af ag aj G => zi fuel (zd Tryz.prog O ziX fuel (nav bd80 [1, 1, 1, 1, 1, 0, 0]) 31 (mkE 51 [(2, .loc 0 0), (5, .bool s5), (7, uL s7)]) [[.bool aa, uL ac, uL af, iL ag, .bool aj]] G (ze Tryz.prog O ziX fuel (nav bd80 [1, 1, 1, 1, 1, 0]) [0] (kpD ziX 35 1 k)))) s5 s7 aa ac af ag aj G := by kernel_rfl
theorem zl5 (fuel : Nat) (k : KE R) : ∀ (s5 : Bool) (s7 : Int) (aa : Bool) (ac af ag : Int) (aj : Bool) (G : GH),
  zd Tryz.prog O ziX fuel (nav bd80 [1, 1, 1, 1, 1, 0]) 35 (mkE 51 [(2, .loc 0 0), (5, .bool s5), (7, uL s7)]) [[.bool aa, uL ac, uL af, iL ag, .bool aj]] G k = zb3 O fuel (fun s5 s7 aa ac af ag aj G => k .normal (mkE 51 [(2, .loc 0 0), (5, .bool s5), (7, uL s7)]) [[.bool aa, uL ac, uL af, iL ag, .bool aj]] G) s5 s7 aa ac af ag aj G := by
  intros
  rw [zk2]
  simp only [zb3, zl4]
def zd9 {R : Type} (O : Ora R) (KN : tY9 R) (s5 : Bool) (s8 : Nat) (aa : Bool) (ac af ag : Int) (aj : Bool) (G : GH) : Option R :=
  O zcF [fL s8, iL (0 : Int)] G fun v1 G2 =>
  (zl v1).bind fun x3 =>
  bif x3 then
  bif (!s5) then
  KN (9218868437227405311 : Nat) aa ac af ag aj G2
  else
  KN s8 aa ac af ag aj G2
  else
  KN s8 aa ac af ag aj G2
def zca {R : Type} (O : Ora R) (KN : tY9 R) : Bool → Nat → Bool → Int → Int → Int → Bool → GH → Option R := fun s5 s8 aa ac af ag aj G => zd9 O KN s5 s8 aa ac af ag aj G
theorem zkX (fuel : Nat) (s5 : Bool) (s8 : Nat) (aa : Bool) (ac af ag : Int) (aj : Bool) (G : GH) (k : KE R) :
  zd Tryz.prog O ziX fuel (nav bd80 [1, 1, 1, 1, 1, 1, 1, 0]) 47 (mkE 51 [(2, .loc 0 0), (5, .bool s5), (8, fL s8)]) [[.bool aa, uL ac, uL af, iL ag, .bool aj]] G k =
  zd9 O (fun s8 aa ac af ag aj G => k .normal (mkE 51 [(2, .loc 0 0), (8, fL s8)]) [[.bool aa, uL ac, uL af, iL ag, .bool aj]] G) s5 s8 aa ac af ag aj G := by kernel_rfl
theorem zlD (fuel : Nat) (k : KE R) : ∀ (s5 : Bool) (s8 : Nat) (aa : Bool) (ac af ag : Int) (aj : Bool) (G : GH),
  zd Tryz.prog O ziX fuel (nav bd80 [1, 1, 1, 1, 1, 1, 1, 0]) 47 (mkE 51 [(2, .loc 0 0), (5, .bool s5), (8, fL s8)]) [[.bool aa, uL ac, uL af, iL ag, .bool aj]] G k = zca O (fun s8 aa ac af ag aj G => k .normal (mkE 51 [(2, .loc 0 0), (8, fL s8)]) [[.bool aa, uL ac, uL af, iL ag, .bool aj]] G) s5 s8 aa ac af ag aj G := by
  intros
  rw [zkX]
  simp only [zca]
def zes {R : Type} (O : Ora R) (KN : tY9 R) (s8 : Nat) (aa : Bool) (ac af ag : Int) (aj : Bool) (G : GH) : Option R :=
  bif aa then
  KN (Op.negFloat .f64 s8) aa ac af ag aj G
  else
  KN s8 aa ac af ag aj G
def zb6 {R : Type} (O : Ora R) (KN : tY9 R) : Nat → Bool → Int → Int → Int → Bool → GH → Option R := fun s8 aa ac af ag aj G => zes O KN s8 aa ac af ag aj G
theorem zk7 (fuel s8 : Nat) (aa : Bool) (ac af ag : Int) (aj : Bool) (G : GH) (k : KE R) :
  zd Tryz.prog O ziX fuel (nav bd80 [1, 1, 1, 1, 1, 1, 1, 1, 0]) 55 (mkE 51 [(2, .loc 0 0), (8, fL s8)]) [[.bool aa, uL ac, uL af, iL ag, .bool aj]] G k =
  zes O (fun s8 aa ac af ag aj G => k .normal (mkE 51 [(8, fL s8)]) [[.bool aa, uL ac, uL af, iL ag, .bool aj]] G) s8 aa ac af ag aj G := by kernel_rfl
theorem zmj (fuel : Nat) (k : KE R) : ∀ (s8 : Nat) (aa : Bool) (ac af ag : Int) (aj : Bool) (G : GH),
  zd Tryz.prog O ziX fuel (nav bd80 [1, 1, 1, 1, 1, 1, 1, 1, 0]) 55 (mkE 51 [(2, .loc 0 0), (8, fL s8)]) [[.bool aa, uL ac, uL af, iL ag, .bool aj]] G k = zb6 O (fun s8 aa ac af ag aj G => k .normal (mkE 51 [(8, fL s8)]) [[.bool aa, uL ac, uL af, iL ag, .bool aj]] G) s8 aa ac af ag aj G := by
  intros
  rw [zk7]
  simp only [zb6]
def zdo {R : Type} (O : Ora R) (k : KV R) (L0 : tY8 R) (av : Bool) (aw bf bh : Int) (bx p1 : Bool) (G : GH) : Option R :=
  O zG [.agg [.bool av, uL aw, uL bf, iL bh, .bool bx]] (zj G) fun v1 _ =>
  (zk .i64 v1).bind fun x2 =>
  L0 (av == p1) (if (IntKind.wrap .i64 (((-1074 : Int)) - bh)) > (IntKind.wrap .i64 (x2 - (53 : Int))) then (IntKind.wrap .i64 (((-1074 : Int)) - bh)) else (IntKind.wrap .i64 (x2 - (53 : Int)))) av aw bf bh bx G
def zbu {R : Type} (O : Ora R) (k : KV R) (L1 : tY8 R) (s5 aa : Bool) (ac af ag : Int) (aj : Bool) (G : GH) : Option R :=
  L1 s5 af aa ac af ag aj G
def zaP {R : Type} (O : Ora R) (k : KV R) (L3 : zJQ R) (s5 : Bool) (s7 : Int) (aa : Bool) (ac af ag : Int) (aj : Bool) (G : GH) : Option R :=
  O zpe [fL (FloatKind.nearest .f64 s7), iL ag] G fun v1 G2 =>
  (zc .f64 v1).bind fun x3 =>
  L3 s5 x3 aa ac af ag aj G2
def zbA {R : Type} (O : Ora R) (k : KV R) (L4 : tY9 R) (s8 : Nat) (aa : Bool) (ac af ag : Int) (aj : Bool) (G : GH) : Option R :=
  L4 s8 aa ac af ag aj G
def zdI {R : Type} (O : Ora R) (k : KV R) (s8 : Nat) (aa : Bool) (ac af ag : Int) (aj : Bool) (G : GH) : Option R :=
  O ziR [fL s8] G fun v1 G2 =>
  (zc .f64 v1).bind fun x3 =>
  k (fL x3) G2
def za0 {R : Type} (O : Ora R) (fuel : Nat) (k : KV R) : Nat → Bool → Int → Int → Int → Bool → GH → Option R := fun s8 aa ac af ag aj G =>
  zi fuel (zb6 O (zdI O k) s8 aa ac af ag aj G)
theorem zjJ (fuel s8 : Nat) (aa : Bool) (ac af ag : Int) (aj : Bool) (G : GH) (k : KV R) :
  ze Tryz.prog O ziX fuel bd80 [1, 1, 1, 1, 1, 1, 1, 1, 0] (rcK Tryz.f80 k) .normal (mkE 51 [(8, fL s8)]) [[.bool aa, uL ac, uL af, iL ag, .bool aj]] G =
  zdI O k s8 aa ac af ag aj G := by kernel_rfl
theorem zlY (fuel : Nat) (k : KV R) :
  (fun (s8 : Nat) (aa : Bool) (ac af ag : Int) (aj : Bool) (G : GH) => zi fuel (zd Tryz.prog O ziX fuel (nav bd80 [1, 1, 1, 1, 1, 1, 1, 1, 0]) 55 (mkE 51 [(2, .loc 0 0), (8, fL s8)]) [[.bool aa, uL ac, uL af, iL ag, .bool aj]] G (ze Tryz.prog O ziX fuel bd80 [1, 1, 1, 1, 1, 1, 1, 1, 0] (rcK Tryz.f80 k)))) = za0 O fuel k := by
  funext s8 aa ac af ag aj G
  simp only [za0, zmj, zjJ]
def zX {R : Type} (O : Ora R) (fuel : Nat) (k : KV R) : Bool → Nat → Bool → Int → Int → Int → Bool → GH → Option R := fun s5 s8 aa ac af ag aj G =>
  zi fuel (zca O (zbA O k (za0 O fuel k)) s5 s8 aa ac af ag aj G)
theorem zjM (fuel s8 : Nat) (aa : Bool) (ac af ag : Int) (aj : Bool) (G : GH) (k : KV R) :
  ze Tryz.prog O ziX fuel bd80 [1, 1, 1, 1, 1, 1, 1, 0] (rcK Tryz.f80 k) .normal (mkE 51 [(2, .loc 0 0), (8, fL s8)]) [[.bool aa, uL ac, uL af, iL ag, .bool aj]] G =
  zbA O k (fun s8 aa ac af ag aj G => zi fuel (zd Tryz.prog O ziX fuel (nav bd80 [1, 1, 1, 1, 1, 1, 1, 1, 0]) 55 (mkE 51 [(2, .loc 0 0), (8, fL s8)]) [[.bool aa, uL ac, uL af, iL ag, .bool aj]] G (ze Tryz.prog O ziX fuel bd80 [1, 1, 1, 1, 1, 1, 1, 1, 0] (rcK Tryz.f80 k)))) s8 aa ac af ag aj G := by kernel_rfl
theorem zlv (fuel : Nat) (k : KV R) :
  (fun (s5 : Bool) (s8 : Nat) (aa : Bool) (ac af ag : Int) (aj : Bool) (G : GH) => zi fuel (zd Tryz.prog O ziX fuel (nav bd80 [1, 1, 1, 1, 1, 1, 1, 0]) 47 (mkE 51 [(2, .loc 0 0), (5, .bool s5), (8, fL s8)]) [[.bool aa, uL ac, uL af, iL ag, .bool aj]] G (ze Tryz.prog O ziX fuel bd80 [1, 1, 1, 1, 1, 1, 1, 0] (rcK Tryz.f80 k)))) = zX O fuel k := by
  funext s5 s8 aa ac af ag aj G
  simp only [zX, zlD, zjM, zlY]
def zaX {R : Type} (O : Ora R) (fuel : Nat) (k : KV R) : Bool → Int → Bool → Int → Int → Int → Bool → GH → Option R := fun s5 s7 aa ac af ag aj G =>
  zi fuel (zb3 O fuel (zaP O k (zX O fuel k)) s5 s7 aa ac af ag aj G)
theorem zjI (fuel : Nat) (s5 : Bool) (s7 : Int) (aa : Bool) (ac af ag : Int) (aj : Bool) (G : GH) (k : KV R) :
  ze Tryz.prog O ziX fuel bd80 [1, 1, 1, 1, 1, 0] (rcK Tryz.f80 k) .normal (mkE 51 [(2, .loc 0 0), (5, .bool s5), (7, uL s7)]) [[.bool aa, uL ac, uL af, iL ag, .bool aj]] G =
  zaP O k (fun s5 s8 aa ac af ag aj G => zi fuel (zd Tryz.prog O ziX fuel (nav bd80 [1, 1, 1, 1, 1, 1, 1, 0]) 47 (mkE 51 [(2, .loc 0 0), (5, .bool s5), (8, fL s8)]) [[.bool aa, uL ac, uL af, iL ag, .bool aj]] G (ze Tryz.prog O ziX fuel bd80 [1, 1, 1, 1, 1, 1, 1, 0] (rcK Tryz.f80 k)))) s5 s7 aa ac af ag aj G := by kernel_rfl
theorem zlf (fuel : Nat) (k : KV R) :
  (fun (s5 : Bool) (s7 : Int) (aa : Bool) (ac af ag : Int) (aj : Bool) (G : GH) => zi fuel (zd Tryz.prog O ziX fuel (nav bd80 [1, 1, 1, 1, 1, 0]) 35 (mkE 51 [(2, .loc 0 0), (5, .bool s5), (7, uL s7)]) [[.bool aa, uL ac, uL af, iL ag, .bool aj]] G (ze Tryz.prog O ziX fuel bd80 [1, 1, 1, 1, 1, 0] (rcK Tryz.f80 k)))) = zaX O fuel k := by
  funext s5 s7 aa ac af ag aj G
  simp only [zaX, zl5, zjI, zlv]
def zaZ {R : Type} (O : Ora R) (fuel : Nat) (k : KV R) : Bool → Int → Bool → Int → Int → Int → Bool → GH → Option R := fun s5 s6 aa ac af ag aj G =>
  zi fuel (zb2 O (zbu O k (zaX O fuel k)) s5 s6 aa ac af ag aj G)
theorem zjF (fuel : Nat) (s5 aa : Bool) (ac af ag : Int) (aj : Bool) (G : GH) (k : KV R) :
  ze Tryz.prog O ziX fuel bd80 [1, 1, 1, 0] (rcK Tryz.f80 k) .normal (mkE 51 [(2, .loc 0 0), (5, .bool s5)]) [[.bool aa, uL ac, uL af, iL ag, .bool aj]] G =
  zbu O k (fun s5 s7 aa ac af ag aj G => zi fuel (zd Tryz.prog O ziX fuel (nav bd80 [1, 1, 1, 1, 1, 0]) 35 (mkE 51 [(2, .loc 0 0), (5, .bool s5), (7, uL s7)]) [[.bool aa, uL ac, uL af, iL ag, .bool aj]] G (ze Tryz.prog O ziX fuel bd80 [1, 1, 1, 1, 1, 0] (rcK Tryz.f80 k)))) s5 aa ac af ag aj G := by kernel_rfl
theorem zli (fuel : Nat) (k : KV R) :
  (fun (s5 : Bool) (s6 : Int) (aa : Bool) (ac af ag : Int) (aj : Bool) (G : GH) => zi fuel (zd Tryz.prog O ziX fuel (nav bd80 [1, 1, 1, 0]) 23 (mkE 51 [(2, .loc 0 0), (5, .bool s5), (6, iL s6)]) [[.bool aa, uL ac, uL af, iL ag, .bool aj]] G (ze Tryz.prog O ziX fuel bd80 [1, 1, 1, 0] (rcK Tryz.f80 k)))) = zaZ O fuel k := by
  funext s5 s6 aa ac af ag aj G
  simp only [zaZ, zlp, zjF, zlf]
theorem zmF (fuel : Nat) (av : Bool) (aw bf bh : Int) (bx p1 : Bool) (G : GH) (k : KV R) :
  zf Tryz.prog O ziX fuel Tryz.f80 [.agg [.bool av, uL aw, uL bf, iL bh, .bool bx], .bool p1] G k =
  zdo O k (fun s5 s6 aa ac af ag aj G => zi fuel (zd Tryz.prog O ziX fuel (nav bd80 [1, 1, 1, 0]) 23 (mkE 51 [(2, .loc 0 0), (5, .bool s5), (6, iL s6)]) [[.bool aa, uL ac, uL af, iL ag, .bool aj]] G (ze Tryz.prog O ziX fuel bd80 [1, 1, 1, 0] (rcK Tryz.f80 k)))) av aw bf bh bx p1 G := by kernel_rfl
theorem zth (fuel : Nat) (av : Bool) (aw bf bh : Int) (bx p1 : Bool) (G : GH) (k : KV R) :
  zf Tryz.prog O ziX fuel Tryz.f80 [.agg [.bool av, uL aw, uL bf, iL bh, .bool bx], .bool p1] G k =
  zdo O k (zaZ O fuel k) av aw bf bh bx p1 G := by
  rw [zmF, zli]
theorem zsY {R : Type} (fuel n : Nat) (av : Bool) (aw bf bh : Int) (bx p1 : Bool) (G : GH) (k : KV R) :
  runC Tryz.prog lo0 fuel (n + 1) 80 [.agg [.bool av, uL aw, uL bf, iL bh, .bool bx], .bool p1] G k = zf Tryz.prog (runC Tryz.prog lo0 fuel n) ziX fuel Tryz.f80 [.agg [.bool av, uL aw, uL bf, iL bh, .bool bx], .bool p1] G k := zh Tryz.func80 rfl rfl
def zkD {R : Type} (O : Ora R) (KN : zIJ R) (aa : Bool) (ac af ag : Int) (aj ai : Bool) (ah ap am : Int) (bg ak : Bool) (al ax ay : Int) (bd : Bool) (G : GH) : Option R :=
  O zL [.agg [.bool aa, uL ac, uL af, iL ag, .bool aj]] (zj G) fun v1 _ =>
  (zl v1).bind fun x2 =>
  bif x2 then
  KN true aa ac af ag aj ai ah ap am bg ak al ax ay bd G
  else
  O zL [.agg [.bool ai, uL ah, uL ap, iL am, .bool bg]] (zj G) fun v3 _ =>
  (zl v3).bind fun x4 =>
  bif (!x4) then
  O zG [.agg [.bool aa, uL ac, uL af, iL ag, .bool aj]] (zj G) fun v5 _ =>
  (zk .i64 v5).bind fun x6 =>
  O zG [.agg [.bool ai, uL ah, uL ap, iL am, .bool bg]] (zj G) fun v7 _ =>
  (zk .i64 v7).bind fun x8 =>
  KN (decide ((IntKind.wrap .i64 (ag + x6)) < (IntKind.wrap .i64 (am + x8)))) aa ac af ag aj ai ah ap am bg ak al ax ay bd G
  else
  KN false aa ac af ag aj ai ah ap am bg ak al ax ay bd G
def zgv {R : Type} (O : Ora R) (KN : zIJ R) : Bool → Int → Int → Int → Bool → Bool → Int → Int → Int → Bool → Bool → Int → Int → Int → Bool → GH → Option R := fun aa ac af ag aj ai ah ap am bg ak al ax ay bd G => zkD O KN aa ac af ag aj ai ah ap am bg ak al ax ay bd G
theorem zrM (fuel : Nat) (aa : Bool) (ac af ag : Int) (aj ai : Bool) (ah ap am : Int) (bg ak : Bool) (al ax ay : Int) (bd : Bool) (G : GH) (k : KE R) :
  zd Tryz.prog O zlL fuel (nav bd99 [1, 0, 0]) 11 (mkE 131 [(2, .loc 0 0), (3, .loc 1 0), (4, .loc 2 0)]) [[.bool aa, uL ac, uL af, iL ag, .bool aj], [.bool ai, uL ah, uL ap, iL am, .bool bg], [.bool ak, uL al, uL ax, iL ay, .bool bd]] G k =
  zkD O (fun fz aa ac af ag aj ai ah ap am bg ak al ax ay bd G => k .normal (mkE 131 [(2, .loc 0 0), (3, .loc 1 0), (4, .loc 2 0), (26, .bool fz)]) [[.bool aa, uL ac, uL af, iL ag, .bool aj], [.bool ai, uL ah, uL ap, iL am, .bool bg], [.bool ak, uL al, uL ax, iL ay, .bool bd]] G) aa ac af ag aj ai ah ap am bg ak al ax ay bd G := by kernel_rfl
theorem zsq (fuel : Nat) (k : KE R) : ∀ (aa : Bool) (ac af ag : Int) (aj ai : Bool) (ah ap am : Int) (bg ak : Bool) (al ax ay : Int) (bd : Bool) (G : GH),
  zd Tryz.prog O zlL fuel (nav bd99 [1, 0, 0]) 11 (mkE 131 [(2, .loc 0 0), (3, .loc 1 0), (4, .loc 2 0)]) [[.bool aa, uL ac, uL af, iL ag, .bool aj], [.bool ai, uL ah, uL ap, iL am, .bool bg], [.bool ak, uL al, uL ax, iL ay, .bool bd]] G k = zgv O (fun fz aa ac af ag aj ai ah ap am bg ak al ax ay bd G => k .normal (mkE 131 [(2, .loc 0 0), (3, .loc 1 0), (4, .loc 2 0), (26, .bool fz)]) [[.bool aa, uL ac, uL af, iL ag, .bool aj], [.bool ai, uL ah, uL ap, iL am, .bool bg], [.bool ak, uL al, uL ax, iL ay, .bool bd]] G) aa ac af ag aj ai ah ap am bg ak al ax ay bd G := by
  intros
  rw [zrM]
  simp only [zgv]
def zka {R : Type} (O : Ora R) (KN L1 : zFg R) (aa : Bool) (ac af ag : Int) (aj ai : Bool) (ah ap am : Int) (bg ak : Bool) (al ax ay : Int) (bd : Bool) (G : GH) : Option R :=
  L1 aa ac af ag aj ai ah ap am bg ak al ax ay bd G
def zc9 {R : Type} (O : Ora R) (KN : zFg R) (fz aa : Bool) (ac af ag : Int) (aj ai : Bool) (ah ap am : Int) (bg ak : Bool) (al ax ay : Int) (bd : Bool) (G : GH) : Option R :=
  bif fz then
  KN ai ah ap am bg aa ac af ag aj ak al ax ay bd G
  else
  KN aa ac af ag aj ai ah ap am bg ak al ax ay bd G
def zg5 {R : Type} (O : Ora R) (fuel : Nat) (KN : zFg R) : Bool → Int → Int → Int → Bool → Bool → Int → Int → Int → Bool → Bool → Int → Int → Int → Bool → GH → Option R := fun aa ac af ag aj ai ah ap am bg ak al ax ay bd G =>
  zi fuel (zgv O (zc9 O KN) aa ac af ag aj ai ah ap am bg ak al ax ay bd G)
theorem zpJ (fuel : Nat) (fz aa : Bool) (ac af ag : Int) (aj ai : Bool) (ah ap am : Int) (bg ak : Bool) (al ax ay : Int) (bd : Bool) (G : GH) (k : KE R) :
  ze Tryz.prog O zlL fuel (nav bd99 [1, 0]) [0] (kpD zlL 15 3 k) .normal (mkE 131 [(2, .loc 0 0), (3, .loc 1 0), (4, .loc 2 0), (26, .bool fz)]) [[.bool aa, uL ac, uL af, iL ag, .bool aj], [.bool ai, uL ah, uL ap, iL am, .bool bg], [.bool ak, uL al, uL ax, iL ay, .bool bd]] G =
  zc9 O (fun aa ac af ag aj ai ah ap am bg ak al ax ay bd G => k .normal (mkE 131 [(2, .loc 0 0), (3, .loc 1 0), (4, .loc 2 0)]) [[.bool aa, uL ac, uL af, iL ag, .bool aj], [.bool ai, uL ah, uL ap, iL am, .bool bg], [.bool ak, uL al, uL ax, iL ay, .bool bd]] G) fz aa ac af ag aj ai ah ap am bg ak al ax ay bd G := by kernel_rfl
theorem zsL (fuel : Nat) (k : KE R) :
  (fun (aa : Bool) (ac af ag : Int) (aj ai : Bool) (ah ap am : Int) (bg ak : Bool) (al ax ay : Int) (bd : Bool) (G : GH) => zi fuel (zd Tryz.prog O zlL fuel (nav bd99 [1, 0, 0]) 11 (mkE 131 [(2, .loc 0 0), (3, .loc 1 0), (4, .loc 2 0)]) [[.bool aa, uL ac, uL af, iL ag, .bool aj], [.bool ai, uL ah, uL ap, iL am, .bool bg], [.bool ak, uL al, uL ax, iL ay, .bool bd]] G (ze Tryz.prog O zlL fuel (nav bd99 [1, 0]) [0] (kpD zlL 15 3 k)))) = zg5 O fuel (fun (aa : Bool) (ac af ag : Int) (aj ai : Bool) (ah ap am : Int) (bg ak : Bool) (al ax ay : Int) (bd : Bool) (G : GH) => k .normal (mkE 131 [(2, .loc 0 0), (3, .loc 1 0), (4, .loc 2 0)]) [[.bool aa, uL ac, uL af, iL ag, .bool aj], [.bool ai, uL ah, uL ap, iL am, .bool bg], [.bool ak, uL al, uL ax, iL ay, .bool bd]] G) := by
  funext aa ac af ag aj ai ah ap am bg ak al ax ay bd G
  simp only [zg5, zsq, zpJ]
def zgC {R : Type} (O : Ora R) (fuel : Nat) (KN : zFg R) : Bool → Int → Int → Int → Bool → Bool → Int → Int → Int → Bool → Bool → Int → Int → Int → Bool → GH → Option R := fun aa ac af ag aj ai ah ap am bg ak al ax ay bd G => zka O KN (zg5 O fuel KN) aa ac af ag aj ai ah ap am bg ak al ax ay bd G
theorem zqK (fuel : Nat) (aa : Bool) (ac af ag : Int) (aj ai : Bool) (ah ap am : Int) (bg ak : Bool) (al ax ay : Int) (bd : Bool) (G : GH) (k : KE R) :
  zd Tryz.prog O zlL fuel (nav bd99 [1, 0]) 15 (mkE 131 [(2, .loc 0 0), (3, .loc 1 0), (4, .loc 2 0)]) [[.bool aa, uL ac, uL af, iL ag, .bool aj], [.bool ai, uL ah, uL ap, iL am, .bool bg], [.bool ak, uL al, uL ax, iL ay, .bool bd]] G k =
  zka O (fun aa ac af ag aj ai ah ap am bg ak al ax ay bd G => k .normal (mkE 131 [(2, .loc 0 0), (3, .loc 1 0), (4, .loc 2 0)]) [[.bool aa, uL ac, uL af, iL ag, .bool aj], [.bool ai, uL ah, uL ap, iL am, .bool bg], [.bool ak, uL al, uL ax, iL ay, .bool bd]] G) (fun aa ac af ag aj ai ah ap am bg ak al ax ay bd G => zi fuel (zd Tryz.prog O zlL fuel (nav bd99 [1, 0, 0]) 11 (mkE 131 [(2, .loc 0 0), (3, .loc 1 0), (4, .loc 2 0)]) [[.bool aa, uL ac, uL af, iL ag, .bool aj], [.bool ai, uL ah, uL ap, iL am, .bool bg], [.bool ak, uL al, uL ax, iL ay, .bool bd]] G (ze Tryz.prog O zlL fuel (nav bd99 [1, 0]) [0] (kpD zlL 15 3 k)))) aa ac af ag aj ai ah ap am bg ak al ax ay bd G := by kernel_rfl
theorem zsM (fuel : Nat) (k : KE R) : ∀ (aa : Bool) (ac af ag : Int) (aj ai : Bool) (ah ap am : Int) (bg ak : Bool) (al ax ay : Int) (bd : Bool) (G : GH),
  zd Tryz.prog O zlL fuel (nav bd99 [1, 0]) 15 (mkE 131 [(2, .loc 0 0), (3, .loc 1 0), (4, .loc 2 0)]) [[.bool aa, uL ac, uL af, iL ag, .bool aj], [.bool ai, uL ah, uL ap, iL am, .bool bg], [.bool ak, uL al, uL ax, iL ay, .bool bd]] G k = zgC O fuel (fun aa ac af ag aj ai ah ap am bg ak al ax ay bd G => k .normal (mkE 131 [(2, .loc 0 0), (3, .loc 1 0), (4, .loc 2 0)]) [[.bool aa, uL ac, uL af, iL ag, .bool aj], [.bool ai, uL ah, uL ap, iL am, .bool bg], [.bool ak, uL al, uL ax, iL ay, .bool bd]] G) aa ac af ag aj ai ah ap am bg ak al ax ay bd G := by
  intros
  rw [zqK]
  simp only [zgC, zsL]
def zej {R : Type} (O : Ora R) (KN : zFg R) (aa : Bool) (ac af ag : Int) (aj ai : Bool) (ah ap am : Int) (bg ak : Bool) (al ax ay : Int) (bd : Bool) (G : GH) : Option R :=
  bif (decide (am > ag)) then
  O zaO [.agg [.bool ai, uL ah, uL ap, iL am, .bool bg], iL (IntKind.wrap .i64 (am - ag))] G fun v1 G2 =>
  (zr 5 v1).bind fun c3 =>
  (zl (c3.getD 0 za)).bind fun x4 =>
  (zk .u64 (c3.getD 1 za)).bind fun x5 =>
  (zk .u64 (c3.getD 2 za)).bind fun x6 =>
  (zk .i64 (c3.getD 3 za)).bind fun x7 =>
  (zl (c3.getD 4 za)).bind fun x8 =>
  KN aa ac af ag aj x4 x5 x6 x7 x8 ak al ax ay bd G2
  else
  O zbk [.agg [.bool ai, uL ah, uL ap, iL am, .bool bg], iL (IntKind.wrap .i64 (ag - am))] G fun v9 G10 =>
  (zr 5 v9).bind fun c11 =>
  (zl (c11.getD 0 za)).bind fun x12 =>
  (zk .u64 (c11.getD 1 za)).bind fun x13 =>
  (zk .u64 (c11.getD 2 za)).bind fun x14 =>
  (zk .i64 (c11.getD 3 za)).bind fun x15 =>
  (zl (c11.getD 4 za)).bind fun x16 =>
  KN aa ac af ag aj x12 x13 x14 x15 x16 ak al ax ay bd G10
def zgS {R : Type} (O : Ora R) (KN : zFg R) : Bool → Int → Int → Int → Bool → Bool → Int → Int → Int → Bool → Bool → Int → Int → Int → Bool → GH → Option R := fun aa ac af ag aj ai ah ap am bg ak al ax ay bd G => zej O KN aa ac af ag aj ai ah ap am bg ak al ax ay bd G
theorem zqM (fuel : Nat) (aa : Bool) (ac af ag : Int) (aj ai : Bool) (ah ap am : Int) (bg ak : Bool) (al ax ay : Int) (bd : Bool) (G : GH) (k : KE R) :
  zd Tryz.prog O zlL fuel (nav bd99 [1, 1, 1, 1, 0]) 39 (mkE 131 [(2, .loc 0 0), (3, .loc 1 0), (4, .loc 2 0)]) [[.bool aa, uL ac, uL af, iL ag, .bool aj], [.bool ai, uL ah, uL ap, iL am, .bool bg], [.bool ak, uL al, uL ax, iL ay, .bool bd]] G k =
  zej O (fun aa ac af ag aj ai ah ap am bg ak al ax ay bd G => k .normal (mkE 131 [(2, .loc 0 0), (3, .loc 1 0), (4, .loc 2 0)]) [[.bool aa, uL ac, uL af, iL ag, .bool aj], [.bool ai, uL ah, uL ap, iL am, .bool bg], [.bool ak, uL al, uL ax, iL ay, .bool bd]] G) aa ac af ag aj ai ah ap am bg ak al ax ay bd G := by kernel_rfl
theorem zso (fuel : Nat) (k : KE R) : ∀ (aa : Bool) (ac af ag : Int) (aj ai : Bool) (ah ap am : Int) (bg ak : Bool) (al ax ay : Int) (bd : Bool) (G : GH),
  zd Tryz.prog O zlL fuel (nav bd99 [1, 1, 1, 1, 0]) 39 (mkE 131 [(2, .loc 0 0), (3, .loc 1 0), (4, .loc 2 0)]) [[.bool aa, uL ac, uL af, iL ag, .bool aj], [.bool ai, uL ah, uL ap, iL am, .bool bg], [.bool ak, uL al, uL ax, iL ay, .bool bd]] G k = zgS O (fun aa ac af ag aj ai ah ap am bg ak al ax ay bd G => k .normal (mkE 131 [(2, .loc 0 0), (3, .loc 1 0), (4, .loc 2 0)]) [[.bool aa, uL ac, uL af, iL ag, .bool aj], [.bool ai, uL ah, uL ap, iL am, .bool bg], [.bool ak, uL al, uL ax, iL ay, .bool bd]] G) aa ac af ag aj ai ah ap am bg ak al ax ay bd G := by
  intros
  rw [zqM]
  simp only [zgS]
def zkt {R : Type} (O : Ora R) (KN : zIo R) (s6 : Int) (aa : Bool) (ac af ag : Int) (aj ai : Bool) (ah ap am : Int) (bg ak : Bool) (al ax ay : Int) (bd : Bool) (G : GH) : Option R :=
  bif bg then
  KN (1 : Int) aa ac af ag aj ai ah ap am bg ak al ax ay bd G
  else
  KN s6 aa ac af ag aj ai ah ap am bg ak al ax ay bd G
def zgt {R : Type} (O : Ora R) (KN : zIo R) : Int → Bool → Int → Int → Int → Bool → Bool → Int → Int → Int → Bool → Bool → Int → Int → Int → Bool → GH → Option R := fun s6 aa ac af ag aj ai ah ap am bg ak al ax ay bd G => zkt O KN s6 aa ac af ag aj ai ah ap am bg ak al ax ay bd G
theorem zre (fuel : Nat) (s6 : Int) (aa : Bool) (ac af ag : Int) (aj ai : Bool) (ah ap am : Int) (bg ak : Bool) (al ax ay : Int) (bd : Bool) (G : GH) (k : KE R) :
  zd Tryz.prog O zlL fuel (nav bd99 [1, 1, 1, 1, 1, 1, 1, 0]) 75 (mkE 131 [(2, .loc 0 0), (3, .loc 1 0), (4, .loc 2 0), (6, uL s6)]) [[.bool aa, uL ac, uL af, iL ag, .bool aj], [.bool ai, uL ah, uL ap, iL am, .bool bg], [.bool ak, uL al, uL ax, iL ay, .bool bd]] G k =
  zkt O (fun s6 aa ac af ag aj ai ah ap am bg ak al ax ay bd G => k .normal (mkE 131 [(2, .loc 0 0), (3, .loc 1 0), (4, .loc 2 0), (6, uL s6)]) [[.bool aa, uL ac, uL af, iL ag, .bool aj], [.bool ai, uL ah, uL ap, iL am, .bool bg], [.bool ak, uL al, uL ax, iL ay, .bool bd]] G) s6 aa ac af ag aj ai ah ap am bg ak al ax ay bd G := by kernel_rfl
theorem zss (fuel : Nat) (k : KE R) : ∀ (s6 : Int) (aa : Bool) (ac af ag : Int) (aj ai : Bool) (ah ap am : Int) (bg ak : Bool) (al ax ay : Int) (bd : Bool) (G : GH),
  zd Tryz.prog O zlL fuel (nav bd99 [1, 1, 1, 1, 1, 1, 1, 0]) 75 (mkE 131 [(2, .loc 0 0), (3, .loc 1 0), (4, .loc 2 0), (6, uL s6)]) [[.bool aa, uL ac, uL af, iL ag, .bool aj], [.bool ai, uL ah, uL ap, iL am, .bool bg], [.bool ak, uL al, uL ax, iL ay, .bool bd]] G k = zgt O (fun s6 aa ac af ag aj ai ah ap am bg ak al ax ay bd G => k .normal (mkE 131 [(2, .loc 0 0), (3, .loc 1 0), (4, .loc 2 0), (6, uL s6)]) [[.bool aa, uL ac, uL af, iL ag, .bool aj], [.bool ai, uL ah, uL ap, iL am, .bool bg], [.bool ak, uL al, uL ax, iL ay, .bool bd]] G) s6 aa ac af ag aj ai ah ap am bg ak al ax ay bd G := by
  intros
  rw [zre]
  simp only [zgt]
def zhf {R : Type} (O : Ora R) (k : KV R) (L0 : zFg R) (av : Bool) (aw bf bh : Int) (bx bu : Bool) (bw cz da : Int) (dt : Bool) (G : GH) : Option R :=
  L0 av aw bf bh bx bu bw cz da dt false (0 : Int) (0 : Int) (0 : Int) false G
def zbe {R : Type} (O : Ora R) (k : KV R) (L2 : zFg R) (aa : Bool) (ac af ag : Int) (aj ai : Bool) (ah ap am : Int) (bg ak : Bool) (al ax ay : Int) (bd : Bool) (G : GH) : Option R :=
  O zL [.agg [.bool ai, uL ah, uL ap, iL am, .bool bg]] G fun v1 G2 =>
  (zl v1).bind fun x3 =>
  bif x3 then
  k (.agg [.bool aa, uL ac, uL af, iL ag, .bool aj]) G2
  else
  O zG [.agg [.bool aa, uL ac, uL af, iL ag, .bool aj]] (zj G2) fun v4 _ =>
  (zk .i64 v4).bind fun x5 =>
  O zaO [.agg [.bool aa, uL ac, uL af, iL ag, .bool aj], iL (IntKind.wrap .i64 ((126 : Int) - x5))] (zj G2) fun v6 _ =>
  (zr 5 v6).bind fun c7 =>
  (zl (c7.getD 0 za)).bind fun x8 =>
  (zk .u64 (c7.getD 1 za)).bind fun x9 =>
  (zk .u64 (c7.getD 2 za)).bind fun x10 =>
  (zk .i64 (c7.getD 3 za)).bind fun x11 =>
  (zl (c7.getD 4 za)).bind fun x12 =>
  L2 x8 x9 x10 x11 x12 ai ah ap am bg ak al ax ay bd G2
def zbd {R : Type} (O : Ora R) (k : KV R) (L3 : zIo R) (aa : Bool) (ac af ag : Int) (aj ai : Bool) (ah ap am : Int) (bg ak : Bool) (al ax ay : Int) (bd : Bool) (G : GH) : Option R :=
  bif (aa == ai) then
  O zgx [uL af, uL ap, uL (0 : Int)] G fun v1 G2 =>
  (zY 2 v1).bind fun c3 =>
  (zk .u64 (c3.getD 0 za)).bind fun x4 =>
  (zk .u64 (c3.getD 1 za)).bind fun x5 =>
  O zgx [uL ac, uL ah, uL x5] G2 fun v6 G7 =>
  (zY 2 v6).bind fun c8 =>
  (zk .u64 (c8.getD 0 za)).bind fun x9 =>
  (zk .u64 (c8.getD 1 za)).bind fun x10 =>
  k (.agg [.bool aa, uL x9, uL x4, iL ag, .bool bg]) G7
  else
  L3 (0 : Int) aa ac af ag aj ai ah ap am bg ak al ax ay bd G
def zdb {R : Type} (O : Ora R) (k : KV R) (s6 : Int) (aa : Bool) (ac af ag : Int) (aj ai : Bool) (ah ap am : Int) (bg ak : Bool) (al ax ay : Int) (bd : Bool) (G : GH) : Option R :=
  O zcU [uL af, uL ap, uL s6] G fun v1 G2 =>
  (zY 2 v1).bind fun c3 =>
  (zk .u64 (c3.getD 0 za)).bind fun x4 =>
  (zk .u64 (c3.getD 1 za)).bind fun x5 =>
  O zcU [uL ac, uL ah, uL x5] G2 fun v6 G7 =>
  (zY 2 v6).bind fun c8 =>
  (zk .u64 (c8.getD 0 za)).bind fun x9 =>
  (zk .u64 (c8.getD 1 za)).bind fun x10 =>
  bif (x10 != (0 : Int)) then
  O zcU [uL (0 : Int), uL x4, uL (0 : Int)] G7 fun v11 G12 =>
  (zY 2 v11).bind fun c13 =>
  (zk .u64 (c13.getD 0 za)).bind fun x14 =>
  (zk .u64 (c13.getD 1 za)).bind fun x15 =>
  O zcU [uL (0 : Int), uL x9, uL x15] G12 fun v16 G17 =>
  (zY 2 v16).bind fun c18 =>
  (zk .u64 (c18.getD 0 za)).bind fun x19 =>
  (zk .u64 (c18.getD 1 za)).bind fun x20 =>
  k (.agg [.bool (!aa), uL x19, uL x14, iL ag, .bool bg]) G17
  else
  k (.agg [.bool aa, uL x9, uL x4, iL ag, .bool bg]) G7
def zbq {R : Type} (O : Ora R) (fuel : Nat) (k : KV R) : Int → Bool → Int → Int → Int → Bool → Bool → Int → Int → Int → Bool → Bool → Int → Int → Int → Bool → GH → Option R := fun s6 aa ac af ag aj ai ah ap am bg ak al ax ay bd G =>
  zi fuel (zgt O (zdb O k) s6 aa ac af ag aj ai ah ap am bg ak al ax ay bd G)
theorem zpH (fuel : Nat) (s6 : Int) (aa : Bool) (ac af ag : Int) (aj ai : Bool) (ah ap am : Int) (bg ak : Bool) (al ax ay : Int) (bd : Bool) (G : GH) (k : KV R) :
  ze Tryz.prog O zlL fuel bd99 [1, 1, 1, 1, 1, 1, 1, 0] (rcK Tryz.f99 k) .normal (mkE 131 [(2, .loc 0 0), (3, .loc 1 0), (4, .loc 2 0), (6, uL s6)]) [[.bool aa, uL ac, uL af, iL ag, .bool aj], [.bool ai, uL ah, uL ap, iL am, .bool bg], [.bool ak, uL al, uL ax, iL ay, .bool bd]] G =
  zdb O k s6 aa ac af ag aj ai ah ap am bg ak al ax ay bd G := by kernel_rfl
theorem zsJ (fuel : Nat) (k : KV R) :
  (fun (s6 : Int) (aa : Bool) (ac af ag : Int) (aj ai : Bool) (ah ap am : Int) (bg ak : Bool) (al ax ay : Int) (bd : Bool) (G : GH) => zi fuel (zd Tryz.prog O zlL fuel (nav bd99 [1, 1, 1, 1, 1, 1, 1, 0]) 75 (mkE 131 [(2, .loc 0 0), (3, .loc 1 0), (4, .loc 2 0), (6, uL s6)]) [[.bool aa, uL ac, uL af, iL ag, .bool aj], [.bool ai, uL ah, uL ap, iL am, .bool bg], [.bool ak, uL al, uL ax, iL ay, .bool bd]] G (ze Tryz.prog O zlL fuel bd99 [1, 1, 1, 1, 1, 1, 1, 0] (rcK Tryz.f99 k)))) = zbq O fuel k := by
  funext s6 aa ac af ag aj ai ah ap am bg ak al ax ay bd G
  simp only [zbq, zss, zpH]
def zbs {R : Type} (O : Ora R) (fuel : Nat) (k : KV R) : Bool → Int → Int → Int → Bool → Bool → Int → Int → Int → Bool → Bool → Int → Int → Int → Bool → GH → Option R := fun aa ac af ag aj ai ah ap am bg ak al ax ay bd G =>
  zi fuel (zgS O (zbd O k (zbq O fuel k)) aa ac af ag aj ai ah ap am bg ak al ax ay bd G)
theorem zpo (fuel : Nat) (aa : Bool) (ac af ag : Int) (aj ai : Bool) (ah ap am : Int) (bg ak : Bool) (al ax ay : Int) (bd : Bool) (G : GH) (k : KV R) :
  ze Tryz.prog O zlL fuel bd99 [1, 1, 1, 1, 0] (rcK Tryz.f99 k) .normal (mkE 131 [(2, .loc 0 0), (3, .loc 1 0), (4, .loc 2 0)]) [[.bool aa, uL ac, uL af, iL ag, .bool aj], [.bool ai, uL ah, uL ap, iL am, .bool bg], [.bool ak, uL al, uL ax, iL ay, .bool bd]] G =
  zbd O k (fun s6 aa ac af ag aj ai ah ap am bg ak al ax ay bd G => zi fuel (zd Tryz.prog O zlL fuel (nav bd99 [1, 1, 1, 1, 1, 1, 1, 0]) 75 (mkE 131 [(2, .loc 0 0), (3, .loc 1 0), (4, .loc 2 0), (6, uL s6)]) [[.bool aa, uL ac, uL af, iL ag, .bool aj], [.bool ai, uL ah, uL ap, iL am, .bool bg], [.bool ak, uL al, uL ax, iL ay, .bool bd]] G (ze Tryz.prog O zlL fuel bd99 [1, 1, 1, 1, 1, 1, 1, 0] (rcK Tryz.f99 k)))) aa ac af ag aj ai ah ap am bg ak al ax ay bd G := by kernel_rfl
theorem zsB (fuel : Nat) (k : KV R) :
  (fun (aa : Bool) (ac af ag : Int) (aj ai : Bool) (ah ap am : Int) (bg ak : Bool) (al ax ay : Int) (bd : Bool) (G : GH) => zi fuel (zd Tryz.prog O zlL fuel (nav bd99 [1, 1, 1, 1, 0]) 39 (mkE 131 [(2, .loc 0 0), (3, .loc 1 0), (4, .loc 2 0)]) [[.bool aa, uL ac, uL af, iL ag, .bool aj], [.bool ai, uL ah, uL ap, iL am, .bool bg], [.bool ak, uL al, uL ax, iL ay, .bool bd]] G (ze Tryz.prog O zlL fuel bd99 [1, 1, 1, 1, 0] (rcK Tryz.f99 k)))) = zbs O fuel k := by
  funext aa ac af ag aj ai ah ap am bg ak al ax ay bd G
  simp only [zbs, zso, zpo, zsJ]
def zcV {R : Type} (O : Ora R) (fuel : Nat) (k : KV R) : Bool → Int → Int → Int → Bool → Bool → Int → Int → Int → Bool → Bool → Int → Int → Int → Bool → GH → Option R := fun aa ac af ag aj ai ah ap am bg ak al ax ay bd G =>
  zi fuel (zgC O fuel (zbe O k (zbs O fuel k)) aa ac af ag aj ai ah ap am bg ak al ax ay bd G)
theorem zpD (fuel : Nat) (aa : Bool) (ac af ag : Int) (aj ai : Bool) (ah ap am : Int) (bg ak : Bool) (al ax ay : Int) (bd : Bool) (G : GH) (k : KV R) :
  ze Tryz.prog O zlL fuel bd99 [1, 0] (rcK Tryz.f99 k) .normal (mkE 131 [(2, .loc 0 0), (3, .loc 1 0), (4, .loc 2 0)]) [[.bool aa, uL ac, uL af, iL ag, .bool aj], [.bool ai, uL ah, uL ap, iL am, .bool bg], [.bool ak, uL al, uL ax, iL ay, .bool bd]] G =
  zbe O k (fun aa ac af ag aj ai ah ap am bg ak al ax ay bd G => zi fuel (zd Tryz.prog O zlL fuel (nav bd99 [1, 1, 1, 1, 0]) 39 (mkE 131 [(2, .loc 0 0), (3, .loc 1 0), (4, .loc 2 0)]) [[.bool aa, uL ac, uL af, iL ag, .bool aj], [.bool ai, uL ah, uL ap, iL am, .bool bg], [.bool ak, uL al, uL ax, iL ay, .bool bd]] G (ze Tryz.prog O zlL fuel bd99 [1, 1, 1, 1, 0] (rcK Tryz.f99 k)))) aa ac af ag aj ai ah ap am bg ak al ax ay bd G := by kernel_rfl
theorem zsO (fuel : Nat) (k : KV R) :
  (fun (aa : Bool) (ac af ag : Int) (aj ai : Bool) (ah ap am : Int) (bg ak : Bool) (al ax ay : Int) (bd : Bool) (G : GH) => zi fuel (zd Tryz.prog O zlL fuel (nav bd99 [1, 0]) 15 (mkE 131 [(2, .loc 0 0), (3, .loc 1 0), (4, .loc 2 0)]) [[.bool aa, uL ac, uL af, iL ag, .bool aj], [.bool ai, uL ah, uL ap, iL am, .bool bg], [.bool ak, uL al, uL ax, iL ay, .bool bd]] G (ze Tryz.prog O zlL fuel bd99 [1, 0] (rcK Tryz.f99 k)))) = zcV O fuel k := by
  funext aa ac af ag aj ai ah ap am bg ak al ax ay bd G
  simp only [zcV, zsM, zpD, zsB]
theorem zuc (fuel : Nat) (av : Bool) (aw bf bh : Int) (bx bu : Bool) (bw cz da : Int) (dt : Bool) (G : GH) (k : KV R) :
  zf Tryz.prog O zlL fuel Tryz.f99 [.agg [.bool av, uL aw, uL bf, iL bh, .bool bx], .agg [.bool bu, uL bw, uL cz, iL da, .bool dt]] G k =
  zhf O k (fun aa ac af ag aj ai ah ap am bg ak al ax ay bd G => zi fuel (zd Tryz.prog O zlL fuel (nav bd99 [1, 0]) 15 (mkE 131 [(2, .loc 0 0), (3, .loc 1 0), (4, .loc 2 0)]) [[.bool aa, uL ac, uL af, iL ag, .bool aj], [.bool ai, uL ah, uL ap, iL am, .bool bg], [.bool ak, uL al, uL ax, iL ay, .bool bd]] G (ze Tryz.prog O zlL fuel bd99 [1, 0] (rcK Tryz.f99 k)))) av aw bf bh bx bu bw cz da dt G := by kernel_rfl
theorem zy0 (fuel : Nat) (av : Bool) (aw bf bh : Int) (bx bu : Bool) (bw cz da : Int) (dt : Bool) (G : GH) (k : KV R) :
  zf Tryz.prog O zlL fuel Tryz.f99 [.agg [.bool av, uL aw, uL bf, iL bh, .bool bx], .agg [.bool bu, uL bw, uL cz, iL da, .bool dt]] G k =
  zhf O k (zcV O fuel k) av aw bf bh bx bu bw cz da dt G := by
  rw [zuc, zsO]
theorem zyJ {R : Type} (fuel n : Nat) (av : Bool) (aw bf bh : Int) (bx bu : Bool) (bw cz da : Int) (dt : Bool) (G : GH) (k : KV R) :
  runC Tryz.prog lo0 fuel (n + 1) 99 [.agg [.bool av, uL aw, uL bf, iL bh, .bool bx], .agg [.bool bu, uL bw, uL cz, iL da, .bool dt]] G k = zf Tryz.prog (runC Tryz.prog lo0 fuel n) zlL fuel Tryz.f99 [.agg [.bool av, uL aw, uL bf, iL bh, .bool bx], .agg [.bool bu, uL bw, uL cz, iL da, .bool dt]] G k := zh Tryz.func99 rfl rfl
theorem zzo (fuel p0 p1 : Nat) (p2 : Bool) (G : GH) (k : KV R) :
  zf Tryz.prog O [777777] fuel Tryz.f82 [fL p0, fL p1, .bool p2] G k =
  O zlN [fL p0, fL p1] G fun v1 G2 =>
  (zl v1).bind fun x3 =>
  bif (!x3) then
  k (.tuple [fL (0 : Nat), iL (10 : Int)]) G2
  else
  O zbN [fL p0] G2 fun v4 G5 =>
  (zr 5 v4).bind fun c6 =>
  (zl (c6.getD 0 za)).bind fun x7 =>
  (zk .u64 (c6.getD 1 za)).bind fun x8 =>
  (zk .u64 (c6.getD 2 za)).bind fun x9 =>
  (zk .i64 (c6.getD 3 za)).bind fun x10 =>
  (zl (c6.getD 4 za)).bind fun x11 =>
  O zbN [fL p1] G5 fun v12 G13 =>
  (zr 5 v12).bind fun c14 =>
  (zl (c14.getD 0 za)).bind fun x15 =>
  (zk .u64 (c14.getD 1 za)).bind fun x16 =>
  (zk .u64 (c14.getD 2 za)).bind fun x17 =>
  (zk .i64 (c14.getD 3 za)).bind fun x18 =>
  (zl (c14.getD 4 za)).bind fun x19 =>
  O zr1 [.agg [.bool x7, uL x8, uL x9, iL x10, .bool x11], .agg [.bool x15, uL x16, uL x17, iL x18, .bool x19]] G13 fun v20 G21 =>
  (zr 5 v20).bind fun c22 =>
  (zl (c22.getD 0 za)).bind fun x23 =>
  (zk .u64 (c22.getD 1 za)).bind fun x24 =>
  (zk .u64 (c22.getD 2 za)).bind fun x25 =>
  (zk .i64 (c22.getD 3 za)).bind fun x26 =>
  (zl (c22.getD 4 za)).bind fun x27 =>
  O zeX [.agg [.bool x23, uL x24, uL x25, iL x26, .bool x27], .bool p2] G21 fun v28 G29 =>
  (zc .f64 v28).bind fun x30 =>
  k (.tuple [fL x30, iL (0 : Int)]) G29 := by kernel_rfl
theorem zyZ {R : Type} (fuel n p0 p1 : Nat) (p2 : Bool) (G : GH) (k : KV R) :
  runC Tryz.prog lo0 fuel (n + 1) 82 [fL p0, fL p1, .bool p2] G k = zf Tryz.prog (runC Tryz.prog lo0 fuel n) [777777] fuel Tryz.f82 [fL p0, fL p1, .bool p2] G k := zh Tryz.func82 rfl rfl
end
end Go.LI.Film
