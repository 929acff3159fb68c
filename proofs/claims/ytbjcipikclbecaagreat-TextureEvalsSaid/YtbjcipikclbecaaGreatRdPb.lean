/- What the interpreter gives for math (written by texz.py). -/
import Derived.Test.YtbjcipikclbecaaGreatSeatA
set_option maxRecDepth 100000
set_option linter.unusedVariables false
set_option linter.unusedSimpArgs false
namespace Go.LI.Film
open Go.Proofs.YtbjcipikclbecaaGreat Go Go.Proofs Go.LI
section
variable {R : Type} (O : Ora R)
theorem zxL (fuel p0 : Nat) (p1 : Int) (G : GH) (k : KV R) :
  zf Tryz.prog O [777777] fuel Tryz.f98 [fL p0, iL p1] G k =
  O zo9 [fL p0, iL p1] G fun v1 G2 =>
  (zc .f64 v1).bind fun x3 =>
  k (fL x3) G2 := by kernel_rfl
theorem zxM {R : Type} (fuel n p0 : Nat) (p1 : Int) (G : GH) (k : KV R) :
  runC Tryz.prog lo0 fuel (n + 1) 98 [fL p0, iL p1] G k = zf Tryz.prog (runC Tryz.prog lo0 fuel n) [777777] fuel Tryz.f98 [fL p0, iL p1] G k := zh Tryz.func98 rfl rfl
def ziz {R : Type} (O : Ora R) (KN : zI8 R) (s0 : Nat) (s1 : Int) (G : GH) : Option R :=
  O zcF [fL s0, iL (0 : Int)] G fun v1 G2 =>
  (zl v1).bind fun x3 =>
  bif x3 then
  KN s0 s1 true G2
  else
  O zkx [fL s0] G2 fun v4 G5 =>
  (zl v4).bind fun x6 =>
  KN s0 s1 x6 G5
def zfu {R : Type} (O : Ora R) (KN : zI8 R) : Nat → Int → GH → Option R := fun s0 s1 G => ziz O KN s0 s1 G
theorem zoY (fuel s0 : Nat) (s1 : Int) (G : GH) (k : KE R) :
  zd Tryz.prog O zk8 fuel (nav bd106 [1, 0, 0, 1, 1, 0]) 19 (mkE 63 [(0, fL s0), (1, iL s1)]) [] G k =
  ziz O (fun s0 s1 dp G => k .normal (mkE 63 [(0, fL s0), (1, iL s1), (12, .bool dp)]) [] G) s0 s1 G := by kernel_rfl
theorem zrl (fuel : Nat) (k : KE R) : ∀ (s0 : Nat) (s1 : Int) (G : GH),
  zd Tryz.prog O zk8 fuel (nav bd106 [1, 0, 0, 1, 1, 0]) 19 (mkE 63 [(0, fL s0), (1, iL s1)]) [] G k = zfu O (fun s0 s1 dp G => k .normal (mkE 63 [(0, fL s0), (1, iL s1), (12, .bool dp)]) [] G) s0 s1 G := by
  intros
  rw [zoY]
  simp only [zfu]
def zih {R : Type} (O : Ora R) (KN : zIv R) (s1 s6 : Int) (s7 : Nat) (G : GH) : Option R :=
  bif (decide (s1 < ((-1022 : Int)))) then
  KN (IntKind.wrap .i64 (s1 + (53 : Int))) s6 (4368491638549381120 : Nat) G
  else
  KN s1 s6 s7 G
def zfI {R : Type} (O : Ora R) (KN : zIv R) : Int → Int → Nat → GH → Option R := fun s1 s6 s7 G => zih O KN s1 s6 s7 G
theorem zpZ (fuel : Nat) (s1 s6 : Int) (s7 : Nat) (G : GH) (k : KE R) :
  zd Tryz.prog O zk8 fuel (nav bd106 [1, 1, 1, 1, 1, 1, 1, 1, 1, 0]) 79 (mkE 63 [(1, iL s1), (6, uL s6), (7, fL s7)]) [] G k =
  zih O (fun s1 s6 s7 G => k .normal (mkE 63 [(1, iL s1), (6, uL s6), (7, fL s7)]) [] G) s1 s6 s7 G := by kernel_rfl
theorem zrN (fuel : Nat) (k : KE R) : ∀ (s1 s6 : Int) (s7 : Nat) (G : GH),
  zd Tryz.prog O zk8 fuel (nav bd106 [1, 1, 1, 1, 1, 1, 1, 1, 1, 0]) 79 (mkE 63 [(1, iL s1), (6, uL s6), (7, fL s7)]) [] G k = zfI O (fun s1 s6 s7 G => k .normal (mkE 63 [(1, iL s1), (6, uL s6), (7, fL s7)]) [] G) s1 s6 s7 G := by
  intros
  rw [zpZ]
  simp only [zfI]
def zhX {R : Type} (O : Ora R) (k : KV R) (L0 : Nat → Int → GH → Option R) (p0 : Nat) (p1 : Int) (G : GH) : Option R :=
  bif (feq .f64 p0 (0 : Nat)) then
  k (fL p0) G
  else
  L0 p0 p1 G
def zhl {R : Type} (O : Ora R) (k : KV R) (L1 : zIv R) (s0 : Nat) (s1 : Int) (dp : Bool) (G : GH) : Option R :=
  bif dp then
  k (fL s0) G
  else
  O zjr [fL s0] G fun v1 G2 =>
  (zY 2 v1).bind fun c3 =>
  (zc .f64 (c3.getD 0 za)).bind fun x4 =>
  (zk .i64 (c3.getD 1 za)).bind fun x5 =>
  O zC [fL x4] G2 fun v6 G7 =>
  (zk .u64 v6).bind fun x8 =>
  bif (decide ((IntKind.wrap .i64 ((IntKind.wrap .i64 (s1 + x5)) + (IntKind.wrap .i64 ((ziI .i64 (IntKind.wrap .i64 (zeg .u64 x8 (52 : Int))) (2047 : Int)) - (1023 : Int))))) < ((-1075 : Int)))) then
  O zsQ [fL (0 : Nat), fL x4] G7 fun v9 G10 =>
  (zc .f64 v9).bind fun x11 =>
  k (fL x11) G10
  else
  bif (decide ((IntKind.wrap .i64 ((IntKind.wrap .i64 (s1 + x5)) + (IntKind.wrap .i64 ((ziI .i64 (IntKind.wrap .i64 (zeg .u64 x8 (52 : Int))) (2047 : Int)) - (1023 : Int))))) > (1023 : Int))) then
  bif (flt .f64 x4 (0 : Nat)) then
  O zbc [iL ((-1 : Int))] G7 fun v12 G13 =>
  (zc .f64 v12).bind fun x14 =>
  k (fL x14) G13
  else
  O zbc [iL (1 : Int)] G7 fun v15 G16 =>
  (zc .f64 v15).bind fun x17 =>
  k (fL x17) G16
  else
  L1 (IntKind.wrap .i64 ((IntKind.wrap .i64 (s1 + x5)) + (IntKind.wrap .i64 ((ziI .i64 (IntKind.wrap .i64 (zeg .u64 x8 (52 : Int))) (2047 : Int)) - (1023 : Int))))) x8 (4607182418800017408 : Nat) G7
def zea {R : Type} (O : Ora R) (k : KV R) (s1 s6 : Int) (s7 : Nat) (G : GH) : Option R :=
  O zx [uL (orI .u64 (zEG .u64 s6 (9218868437227405312 : Int)) (zvg .u64 (IntKind.wrap .u64 (IntKind.wrap .i64 (s1 + (1023 : Int)))) (52 : Int)))] G fun v1 G2 =>
  (zc .f64 v1).bind fun x3 =>
  ((FloatKind.format .f64).mul s7 x3).bind fun r4 =>
  k (fL r4) G2
def zde {R : Type} (O : Ora R) (fuel : Nat) (k : KV R) : Int → Int → Nat → GH → Option R := fun s1 s6 s7 G =>
  zi fuel (zfI O (zea O k) s1 s6 s7 G)
theorem zoe (fuel : Nat) (s1 s6 : Int) (s7 : Nat) (G : GH) (k : KV R) :
  ze Tryz.prog O zk8 fuel bd106 [1, 1, 1, 1, 1, 1, 1, 1, 1, 0] (rcK Tryz.f106 k) .normal (mkE 63 [(1, iL s1), (6, uL s6), (7, fL s7)]) [] G =
  zea O k s1 s6 s7 G := by kernel_rfl
theorem zrB (fuel : Nat) (k : KV R) :
  (fun (s1 s6 : Int) (s7 : Nat) (G : GH) => zi fuel (zd Tryz.prog O zk8 fuel (nav bd106 [1, 1, 1, 1, 1, 1, 1, 1, 1, 0]) 79 (mkE 63 [(1, iL s1), (6, uL s6), (7, fL s7)]) [] G (ze Tryz.prog O zk8 fuel bd106 [1, 1, 1, 1, 1, 1, 1, 1, 1, 0] (rcK Tryz.f106 k)))) = zde O fuel k := by
  funext s1 s6 s7 G
  simp only [zde, zrN, zoe]
def zc7 {R : Type} (O : Ora R) (fuel : Nat) (k : KV R) : Nat → Int → GH → Option R := fun s0 s1 G =>
  zi fuel (zfu O (zhl O k (zde O fuel k)) s0 s1 G)
theorem znv (fuel s0 : Nat) (s1 : Int) (dp : Bool) (G : GH) (k : KV R) :
  ze Tryz.prog O zk8 fuel bd106 [1, 0, 0, 1, 1, 0] (rcK Tryz.f106 k) .normal (mkE 63 [(0, fL s0), (1, iL s1), (12, .bool dp)]) [] G =
  zhl O k (fun s1 s6 s7 G => zi fuel (zd Tryz.prog O zk8 fuel (nav bd106 [1, 1, 1, 1, 1, 1, 1, 1, 1, 0]) 79 (mkE 63 [(1, iL s1), (6, uL s6), (7, fL s7)]) [] G (ze Tryz.prog O zk8 fuel bd106 [1, 1, 1, 1, 1, 1, 1, 1, 1, 0] (rcK Tryz.f106 k)))) s0 s1 dp G := by kernel_rfl
theorem zrK (fuel : Nat) (k : KV R) :
  (fun (s0 : Nat) (s1 : Int) (G : GH) => zi fuel (zd Tryz.prog O zk8 fuel (nav bd106 [1, 0, 0, 1, 1, 0]) 19 (mkE 63 [(0, fL s0), (1, iL s1)]) [] G (ze Tryz.prog O zk8 fuel bd106 [1, 0, 0, 1, 1, 0] (rcK Tryz.f106 k)))) = zc7 O fuel k := by
  funext s0 s1 G
  simp only [zc7, zrl, znv, zrB]
theorem zsj (fuel p0 : Nat) (p1 : Int) (G : GH) (k : KV R) :
  zf Tryz.prog O zk8 fuel Tryz.f106 [fL p0, iL p1] G k =
  zhX O k (fun s0 s1 G => zi fuel (zd Tryz.prog O zk8 fuel (nav bd106 [1, 0, 0, 1, 1, 0]) 19 (mkE 63 [(0, fL s0), (1, iL s1)]) [] G (ze Tryz.prog O zk8 fuel bd106 [1, 0, 0, 1, 1, 0] (rcK Tryz.f106 k)))) p0 p1 G := by kernel_rfl
theorem zyl (fuel p0 : Nat) (p1 : Int) (G : GH) (k : KV R) :
  zf Tryz.prog O zk8 fuel Tryz.f106 [fL p0, iL p1] G k =
  zhX O k (zc7 O fuel k) p0 p1 G := by
  rw [zsj, zrK]
theorem zxX {R : Type} (fuel n p0 : Nat) (p1 : Int) (G : GH) (k : KV R) :
  runC Tryz.prog lo0 fuel (n + 1) 106 [fL p0, iL p1] G k = zf Tryz.prog (runC Tryz.prog lo0 fuel n) zk8 fuel Tryz.f106 [fL p0, iL p1] G k := zh Tryz.func106 rfl rfl
theorem zsm (fuel p0 : Nat) (G : GH) (k : KV R) :
  zf Tryz.prog O [777777] fuel Tryz.f112 [fL p0] G k =
  O zn7 [fL p0] G fun v1 G2 =>
  (zc .f64 v1).bind fun x3 =>
  bif (flt .f64 x3 (4503599627370496 : Nat)) then
  ((FloatKind.format .f64).mul p0 (4841369599423283200 : Nat)).bind fun r4 =>
  k (.tuple [fL r4, iL ((-52 : Int))]) G2
  else
  k (.tuple [fL p0, iL (0 : Int)]) G2 := by kernel_rfl
theorem zsl {R : Type} (fuel n p0 : Nat) (G : GH) (k : KV R) :
  runC Tryz.prog lo0 fuel (n + 1) 112 [fL p0] G k = zf Tryz.prog (runC Tryz.prog lo0 fuel n) [777777] fuel Tryz.f112 [fL p0] G k := zh Tryz.func112 rfl rfl
theorem zAY (fuel p0 : Nat) (G : GH) (k : KV R) :
  zf Tryz.prog O [777777] fuel Tryz.f93 [fL p0] G k =
  O zC [fL p0] G fun v1 G2 =>
  (zk .u64 v1).bind fun x3 =>
  O zx [uL (zEG .u64 x3 (9223372036854775808 : Int))] G2 fun v4 G5 =>
  (zc .f64 v4).bind fun x6 =>
  k (fL x6) G5 := by kernel_rfl
theorem zAy {R : Type} (fuel n p0 : Nat) (G : GH) (k : KV R) :
  runC Tryz.prog lo0 fuel (n + 1) 93 [fL p0] G k = zf Tryz.prog (runC Tryz.prog lo0 fuel n) [777777] fuel Tryz.f93 [fL p0] G k := zh Tryz.func93 rfl rfl
def ziE {R : Type} (O : Ora R) (KN : Nat → GH → Option R) (s0 : Nat) (s1 : Int) (G : GH) : Option R :=
  bif (s1 == (0 : Int)) then
  O zn7 [fL s0] G fun v1 G2 =>
  (zc .f64 v1).bind fun x3 =>
  KN x3 G2
  else
  bif (decide (s1 < (0 : Int))) then
  KN (Op.negFloat .f64 s0) G
  else
  KN s0 G
def zfS {R : Type} (O : Ora R) (KN : Nat → GH → Option R) : Nat → Int → GH → Option R := fun s0 s1 G => ziE O KN s0 s1 G
theorem zpR (fuel s0 : Nat) (s1 : Int) (G : GH) (k : KE R) :
  zd Tryz.prog O zCA fuel (nav bd74 [1, 0]) 23 (mkE 15 [(0, fL s0), (1, iL s1)]) [] G k =
  ziE O (fun s0 G => k .normal (mkE 15 [(0, fL s0)]) [] G) s0 s1 G := by kernel_rfl
theorem zrj (fuel : Nat) (k : KE R) : ∀ (s0 : Nat) (s1 : Int) (G : GH),
  zd Tryz.prog O zCA fuel (nav bd74 [1, 0]) 23 (mkE 15 [(0, fL s0), (1, iL s1)]) [] G k = zfS O (fun s0 G => k .normal (mkE 15 [(0, fL s0)]) [] G) s0 s1 G := by
  intros
  rw [zpR]
  simp only [zfS]
def zlP {R : Type} (O : Ora R) (k : KV R) (L0 : Nat → Int → GH → Option R) (p0 : Nat) (p1 : Int) (G : GH) : Option R :=
  L0 p0 p1 G
def zhE {R : Type} (O : Ora R) (k : KV R) (s0 : Nat) (G : GH) : Option R :=
  k (.bool (fgt .f64 s0 (9218868437227405311 : Nat))) G
def zfk {R : Type} (O : Ora R) (fuel : Nat) (k : KV R) : Nat → Int → GH → Option R := fun s0 s1 G =>
  zi fuel (zfS O (zhE O k) s0 s1 G)
theorem znL (fuel s0 : Nat) (G : GH) (k : KV R) :
  ze Tryz.prog O zCA fuel bd74 [1, 0] (rcK Tryz.f74 k) .normal (mkE 15 [(0, fL s0)]) [] G =
  zhE O k s0 G := by kernel_rfl
theorem zrS (fuel : Nat) (k : KV R) :
  (fun (s0 : Nat) (s1 : Int) (G : GH) => zi fuel (zd Tryz.prog O zCA fuel (nav bd74 [1, 0]) 23 (mkE 15 [(0, fL s0), (1, iL s1)]) [] G (ze Tryz.prog O zCA fuel bd74 [1, 0] (rcK Tryz.f74 k)))) = zfk O fuel k := by
  funext s0 s1 G
  simp only [zfk, zrj, znL]
theorem ztk (fuel p0 : Nat) (p1 : Int) (G : GH) (k : KV R) :
  zf Tryz.prog O zCA fuel Tryz.f74 [fL p0, iL p1] G k =
  zlP O k (fun s0 s1 G => zi fuel (zd Tryz.prog O zCA fuel (nav bd74 [1, 0]) 23 (mkE 15 [(0, fL s0), (1, iL s1)]) [] G (ze Tryz.prog O zCA fuel bd74 [1, 0] (rcK Tryz.f74 k)))) p0 p1 G := by kernel_rfl
theorem zxu (fuel p0 : Nat) (p1 : Int) (G : GH) (k : KV R) :
  zf Tryz.prog O zCA fuel Tryz.f74 [fL p0, iL p1] G k =
  zlP O k (zfk O fuel k) p0 p1 G := by
  rw [ztk, zrS]
theorem zwO {R : Type} (fuel n p0 : Nat) (p1 : Int) (G : GH) (k : KV R) :
  runC Tryz.prog lo0 fuel (n + 1) 74 [fL p0, iL p1] G k = zf Tryz.prog (runC Tryz.prog lo0 fuel n) zCA fuel Tryz.f74 [fL p0, iL p1] G k := zh Tryz.func74 rfl rfl
theorem zyi (fuel p0 : Nat) (G : GH) (k : KV R) :
  zf Tryz.prog O [777777] fuel Tryz.f73 [fL p0] G k =
  k (.bool (!feq .f64 p0 p0)) G := by kernel_rfl
theorem zxA {R : Type} (fuel n p0 : Nat) (G : GH) (k : KV R) :
  runC Tryz.prog lo0 fuel (n + 1) 73 [fL p0] G k = zf Tryz.prog (runC Tryz.prog lo0 fuel n) [777777] fuel Tryz.f73 [fL p0] G k := zh Tryz.func73 rfl rfl
def zh2 {R : Type} (O : Ora R) (KN : Int → GH → Option R) (s0 : Int) (G : GH) : Option R :=
  bif (decide (s0 ≥ (0 : Int))) then
  KN (9218868437227405312 : Int) G
  else
  KN (18442240474082181120 : Int) G
def zf4 {R : Type} (O : Ora R) (KN : Int → GH → Option R) : Int → GH → Option R := fun s0 G => zh2 O KN s0 G
theorem zsg (fuel : Nat) (s0 : Int) (G : GH) (k : KE R) :
  zd Tryz.prog O zCv fuel (nav bd60 [1, 1, 0]) 23 (mkE 8 [(0, iL s0)]) [] G k =
  zh2 O (fun s3 G => k .normal (mkE 8 [(3, uL s3)]) [] G) s0 G := by kernel_rfl
theorem ztD (fuel : Nat) (k : KE R) : ∀ (s0 : Int) (G : GH),
  zd Tryz.prog O zCv fuel (nav bd60 [1, 1, 0]) 23 (mkE 8 [(0, iL s0)]) [] G k = zf4 O (fun s3 G => k .normal (mkE 8 [(3, uL s3)]) [] G) s0 G := by
  intros
  rw [zsg]
  simp only [zf4]
def zmq {R : Type} (O : Ora R) (k : KV R) (L0 : Int → GH → Option R) (p0 : Int) (G : GH) : Option R :=
  L0 p0 G
def zgJ {R : Type} (O : Ora R) (k : KV R) (s3 : Int) (G : GH) : Option R :=
  O zx [uL s3] G fun v1 G2 =>
  (zc .f64 v1).bind fun x3 =>
  k (fL x3) G2
def zf8 {R : Type} (O : Ora R) (fuel : Nat) (k : KV R) : Int → GH → Option R := fun s0 G =>
  zi fuel (zf4 O (zgJ O k) s0 G)
theorem zqV (fuel : Nat) (s3 : Int) (G : GH) (k : KV R) :
  ze Tryz.prog O zCv fuel bd60 [1, 1, 0] (rcK Tryz.f60 k) .normal (mkE 8 [(3, uL s3)]) [] G =
  zgJ O k s3 G := by kernel_rfl
theorem ztG (fuel : Nat) (k : KV R) :
  (fun (s0 : Int) (G : GH) => zi fuel (zd Tryz.prog O zCv fuel (nav bd60 [1, 1, 0]) 23 (mkE 8 [(0, iL s0)]) [] G (ze Tryz.prog O zCv fuel bd60 [1, 1, 0] (rcK Tryz.f60 k)))) = zf8 O fuel k := by
  funext s0 G
  simp only [zf8, ztD, zqV]
theorem zuU (fuel : Nat) (p0 : Int) (G : GH) (k : KV R) :
  zf Tryz.prog O zCv fuel Tryz.f60 [iL p0] G k =
  zmq O k (fun s0 G => zi fuel (zd Tryz.prog O zCv fuel (nav bd60 [1, 1, 0]) 23 (mkE 8 [(0, iL s0)]) [] G (ze Tryz.prog O zCv fuel bd60 [1, 1, 0] (rcK Tryz.f60 k)))) p0 G := by kernel_rfl
theorem zvc (fuel : Nat) (p0 : Int) (G : GH) (k : KV R) :
  zf Tryz.prog O zCv fuel Tryz.f60 [iL p0] G k =
  zmq O k (zf8 O fuel k) p0 G := by
  rw [zuU, ztG]
theorem zvq {R : Type} (fuel n : Nat) (p0 : Int) (G : GH) (k : KV R) :
  runC Tryz.prog lo0 fuel (n + 1) 60 [iL p0] G k = zf Tryz.prog (runC Tryz.prog lo0 fuel n) zCv fuel Tryz.f60 [iL p0] G k := zh Tryz.func60 rfl rfl
def zix {R : Type} (O : Ora R) (KN : Int → Int → GH → Option R) (s0 s2 : Int) (G : GH) : Option R :=
  bif (decide (s0 ≥ (4294967296 : Int))) then
  KN (zeg .u64 s0 (32 : Int)) (32 : Int) G
  else
  KN s0 s2 G
def zfG {R : Type} (O : Ora R) (KN : Int → Int → GH → Option R) : Int → Int → GH → Option R := fun s0 s2 G => zix O KN s0 s2 G
theorem zoC (fuel : Nat) (s0 s2 : Int) (G : GH) (k : KE R) :
  zd Tryz.prog O zga fuel (nav bd103 [1, 0]) 19 (mkE 25 [(0, uL s0), (2, iL s2)]) [] G k =
  zix O (fun s0 s2 G => k .normal (mkE 25 [(0, uL s0), (2, iL s2)]) [] G) s0 s2 G := by kernel_rfl
theorem zrq (fuel : Nat) (k : KE R) : ∀ (s0 s2 : Int) (G : GH),
  zd Tryz.prog O zga fuel (nav bd103 [1, 0]) 19 (mkE 25 [(0, uL s0), (2, iL s2)]) [] G k = zfG O (fun s0 s2 G => k .normal (mkE 25 [(0, uL s0), (2, iL s2)]) [] G) s0 s2 G := by
  intros
  rw [zoC]
  simp only [zfG]
def ziN {R : Type} (O : Ora R) (KN : Int → Int → GH → Option R) (s0 s2 : Int) (G : GH) : Option R :=
  bif (decide (s0 ≥ (65536 : Int))) then
  KN (zeg .u64 s0 (16 : Int)) (IntKind.wrap .i64 (s2 + (16 : Int))) G
  else
  KN s0 s2 G
def zfC {R : Type} (O : Ora R) (KN : Int → Int → GH → Option R) : Int → Int → GH → Option R := fun s0 s2 G => ziN O KN s0 s2 G
theorem zpy (fuel : Nat) (s0 s2 : Int) (G : GH) (k : KE R) :
  zd Tryz.prog O zga fuel (nav bd103 [1, 1, 0]) 31 (mkE 25 [(0, uL s0), (2, iL s2)]) [] G k =
  ziN O (fun s0 s2 G => k .normal (mkE 25 [(0, uL s0), (2, iL s2)]) [] G) s0 s2 G := by kernel_rfl
theorem zqH (fuel : Nat) (k : KE R) : ∀ (s0 s2 : Int) (G : GH),
  zd Tryz.prog O zga fuel (nav bd103 [1, 1, 0]) 31 (mkE 25 [(0, uL s0), (2, iL s2)]) [] G k = zfC O (fun s0 s2 G => k .normal (mkE 25 [(0, uL s0), (2, iL s2)]) [] G) s0 s2 G := by
  intros
  rw [zpy]
  simp only [zfC]
def ziJ {R : Type} (O : Ora R) (KN : Int → Int → GH → Option R) (s0 s2 : Int) (G : GH) : Option R :=
  bif (decide (s0 ≥ (256 : Int))) then
  KN (zeg .u64 s0 (8 : Int)) (IntKind.wrap .i64 (s2 + (8 : Int))) G
  else
  KN s0 s2 G
def zfj {R : Type} (O : Ora R) (KN : Int → Int → GH → Option R) : Int → Int → GH → Option R := fun s0 s2 G => ziJ O KN s0 s2 G
theorem zoS (fuel : Nat) (s0 s2 : Int) (G : GH) (k : KE R) :
  zd Tryz.prog O zga fuel (nav bd103 [1, 1, 1, 0]) 43 (mkE 25 [(0, uL s0), (2, iL s2)]) [] G k =
  ziJ O (fun s0 s2 G => k .normal (mkE 25 [(0, uL s0), (2, iL s2)]) [] G) s0 s2 G := by kernel_rfl
theorem zqw (fuel : Nat) (k : KE R) : ∀ (s0 s2 : Int) (G : GH),
  zd Tryz.prog O zga fuel (nav bd103 [1, 1, 1, 0]) 43 (mkE 25 [(0, uL s0), (2, iL s2)]) [] G k = zfj O (fun s0 s2 G => k .normal (mkE 25 [(0, uL s0), (2, iL s2)]) [] G) s0 s2 G := by
  intros
  rw [zoS]
  simp only [zfj]
def zmh {R : Type} (O : Ora R) (k : KV R) (L0 : Int → Int → GH → Option R) (p0 : Int) (G : GH) : Option R :=
  L0 p0 (0 : Int) G
def zhK {R : Type} (O : Ora R) (k : KV R) (L1 : Int → Int → GH → Option R) (s0 s2 : Int) (G : GH) : Option R :=
  L1 s0 s2 G
def zhz {R : Type} (O : Ora R) (k : KV R) (L2 : Int → Int → GH → Option R) (s0 s2 : Int) (G : GH) : Option R :=
  L2 s0 s2 G
def zew {R : Type} (O : Ora R) (k : KV R) (s0 s2 : Int) (G : GH) : Option R :=
  bif decide (0 ≤ (IntKind.wrap .u8 s0) ∧ (IntKind.wrap .u8 s0) < (([0, 1, 2, 2, 3, 3, 3, 3, 4, 4, 4, 4, 4, 4, 4, 4, 5, 5, 5, 5, 5, 5, 5, 5, 5, 5, 5, 5, 5, 5, 5, 5, 6, 6, 6, 6, 6, 6, 6, 6, 6, 6, 6, 6, 6, 6, 6, 6, 6, 6, 6, 6, 6, 6, 6, 6, 6, 6, 6, 6, 6, 6, 6, 6, 7, 7, 7, 7, 7, 7, 7, 7, 7, 7, 7, 7, 7, 7, 7, 7, 7, 7, 7, 7, 7, 7, 7, 7, 7, 7, 7, 7, 7, 7, 7, 7, 7, 7, 7, 7, 7, 7, 7, 7, 7, 7, 7, 7, 7, 7, 7, 7, 7, 7, 7, 7, 7, 7, 7, 7, 7, 7, 7, 7, 7, 7, 7, 7, 8, 8, 8, 8, 8, 8, 8, 8, 8, 8, 8, 8, 8, 8, 8, 8, 8, 8, 8, 8, 8, 8, 8, 8, 8, 8, 8, 8, 8, 8, 8, 8, 8, 8, 8, 8, 8, 8, 8, 8, 8, 8, 8, 8, 8, 8, 8, 8, 8, 8, 8, 8, 8, 8, 8, 8, 8, 8, 8, 8, 8, 8, 8, 8, 8, 8, 8, 8, 8, 8, 8, 8, 8, 8, 8, 8, 8, 8, 8, 8, 8, 8, 8, 8, 8, 8, 8, 8, 8, 8, 8, 8, 8, 8, 8, 8, 8, 8, 8, 8, 8, 8, 8, 8, 8, 8, 8, 8, 8, 8, 8, 8, 8, 8, 8, 8, 8, 8, 8, 8, 8, 8, 8, 8, 8, 8, 8, 8] : List UInt8).length : Int)) then
  k (iL (IntKind.wrap .i64 (s2 + (IntKind.wrap .i64 ((([0, 1, 2, 2, 3, 3, 3, 3, 4, 4, 4, 4, 4, 4, 4, 4, 5, 5, 5, 5, 5, 5, 5, 5, 5, 5, 5, 5, 5, 5, 5, 5, 6, 6, 6, 6, 6, 6, 6, 6, 6, 6, 6, 6, 6, 6, 6, 6, 6, 6, 6, 6, 6, 6, 6, 6, 6, 6, 6, 6, 6, 6, 6, 6, 7, 7, 7, 7, 7, 7, 7, 7, 7, 7, 7, 7, 7, 7, 7, 7, 7, 7, 7, 7, 7, 7, 7, 7, 7, 7, 7, 7, 7, 7, 7, 7, 7, 7, 7, 7, 7, 7, 7, 7, 7, 7, 7, 7, 7, 7, 7, 7, 7, 7, 7, 7, 7, 7, 7, 7, 7, 7, 7, 7, 7, 7, 7, 7, 8, 8, 8, 8, 8, 8, 8, 8, 8, 8, 8, 8, 8, 8, 8, 8, 8, 8, 8, 8, 8, 8, 8, 8, 8, 8, 8, 8, 8, 8, 8, 8, 8, 8, 8, 8, 8, 8, 8, 8, 8, 8, 8, 8, 8, 8, 8, 8, 8, 8, 8, 8, 8, 8, 8, 8, 8, 8, 8, 8, 8, 8, 8, 8, 8, 8, 8, 8, 8, 8, 8, 8, 8, 8, 8, 8, 8, 8, 8, 8, 8, 8, 8, 8, 8, 8, 8, 8, 8, 8, 8, 8, 8, 8, 8, 8, 8, 8, 8, 8, 8, 8, 8, 8, 8, 8, 8, 8, 8, 8, 8, 8, 8, 8, 8, 8, 8, 8, 8, 8, 8, 8, 8, 8, 8, 8, 8, 8] : List UInt8).getD (Int.toNat (IntKind.wrap .u8 s0)) 0).toNat : Int))))) G
  else none
def zc3 {R : Type} (O : Ora R) (fuel : Nat) (k : KV R) : Int → Int → GH → Option R := fun s0 s2 G =>
  zi fuel (zfj O (zew O k) s0 s2 G)
theorem zoh (fuel : Nat) (s0 s2 : Int) (G : GH) (k : KV R) :
  ze Tryz.prog O zga fuel bd103 [1, 1, 1, 0] (rcK Tryz.f103 k) .normal (mkE 25 [(0, uL s0), (2, iL s2)]) [] G =
  zew O k s0 s2 G := by kernel_rfl
theorem zrh (fuel : Nat) (k : KV R) :
  (fun (s0 s2 : Int) (G : GH) => zi fuel (zd Tryz.prog O zga fuel (nav bd103 [1, 1, 1, 0]) 43 (mkE 25 [(0, uL s0), (2, iL s2)]) [] G (ze Tryz.prog O zga fuel bd103 [1, 1, 1, 0] (rcK Tryz.f103 k)))) = zc3 O fuel k := by
  funext s0 s2 G
  simp only [zc3, zqw, zoh]
def zc2 {R : Type} (O : Ora R) (fuel : Nat) (k : KV R) : Int → Int → GH → Option R := fun s0 s2 G =>
  zi fuel (zfC O (zhz O k (zc3 O fuel k)) s0 s2 G)
theorem zoa (fuel : Nat) (s0 s2 : Int) (G : GH) (k : KV R) :
  ze Tryz.prog O zga fuel bd103 [1, 1, 0] (rcK Tryz.f103 k) .normal (mkE 25 [(0, uL s0), (2, iL s2)]) [] G =
  zhz O k (fun s0 s2 G => zi fuel (zd Tryz.prog O zga fuel (nav bd103 [1, 1, 1, 0]) 43 (mkE 25 [(0, uL s0), (2, iL s2)]) [] G (ze Tryz.prog O zga fuel bd103 [1, 1, 1, 0] (rcK Tryz.f103 k)))) s0 s2 G := by kernel_rfl
theorem zqz (fuel : Nat) (k : KV R) :
  (fun (s0 s2 : Int) (G : GH) => zi fuel (zd Tryz.prog O zga fuel (nav bd103 [1, 1, 0]) 31 (mkE 25 [(0, uL s0), (2, iL s2)]) [] G (ze Tryz.prog O zga fuel bd103 [1, 1, 0] (rcK Tryz.f103 k)))) = zc2 O fuel k := by
  funext s0 s2 G
  simp only [zc2, zqH, zoa, zrh]
def zfz {R : Type} (O : Ora R) (fuel : Nat) (k : KV R) : Int → Int → GH → Option R := fun s0 s2 G =>
  zi fuel (zfG O (zhK O k (zc2 O fuel k)) s0 s2 G)
theorem zof (fuel : Nat) (s0 s2 : Int) (G : GH) (k : KV R) :
  ze Tryz.prog O zga fuel bd103 [1, 0] (rcK Tryz.f103 k) .normal (mkE 25 [(0, uL s0), (2, iL s2)]) [] G =
  zhK O k (fun s0 s2 G => zi fuel (zd Tryz.prog O zga fuel (nav bd103 [1, 1, 0]) 31 (mkE 25 [(0, uL s0), (2, iL s2)]) [] G (ze Tryz.prog O zga fuel bd103 [1, 1, 0] (rcK Tryz.f103 k)))) s0 s2 G := by kernel_rfl
theorem zrk (fuel : Nat) (k : KV R) :
  (fun (s0 s2 : Int) (G : GH) => zi fuel (zd Tryz.prog O zga fuel (nav bd103 [1, 0]) 19 (mkE 25 [(0, uL s0), (2, iL s2)]) [] G (ze Tryz.prog O zga fuel bd103 [1, 0] (rcK Tryz.f103 k)))) = zfz O fuel k := by
  funext s0 s2 G
  simp only [zfz, zrq, zof, zqz]
theorem zsh (fuel : Nat) (p0 : Int) (G : GH) (k : KV R) :
  zf Tryz.prog O zga fuel Tryz.f103 [uL p0] G k =
  zmh O k (fun s0 s2 G => zi fuel (zd Tryz.prog O zga fuel (nav bd103 [1, 0]) 19 (mkE 25 [(0, uL s0), (2, iL s2)]) [] G (ze Tryz.prog O zga fuel bd103 [1, 0] (rcK Tryz.f103 k)))) p0 G := by kernel_rfl
theorem zwY (fuel : Nat) (p0 : Int) (G : GH) (k : KV R) :
  zf Tryz.prog O zga fuel Tryz.f103 [uL p0] G k =
  zmh O k (zfz O fuel k) p0 G := by
  rw [zsh, zrk]
theorem zxa {R : Type} (fuel n : Nat) (p0 : Int) (G : GH) (k : KV R) :
  runC Tryz.prog lo0 fuel (n + 1) 103 [uL p0] G k = zf Tryz.prog (runC Tryz.prog lo0 fuel n) zga fuel Tryz.f103 [uL p0] G k := zh Tryz.func103 rfl rfl
end
end Go.LI.Film
