/- What the interpreter gives for the reference of round: Mul, Floor (written by texz.py). -/
import Derived.Test.YtbjcipikclbecaaGreatSeatA
set_option maxRecDepth 100000
set_option linter.unusedVariables false
set_option linter.unusedSimpArgs false
namespace Go.LI.Film
open Go.Proofs.YtbjcipikclbecaaGreat Go Go.Proofs Go.LI
section
variable {R : Type} (O : Ora R)
theorem zv5 (fuel : Nat) (p0 p1 : Int) (G : GH) (k : KV R) :
  zf Tryz.prog O [777777] fuel Tryz.f70 [uL p0, uL p1] G k =
  k (.tuple [uL (IntKind.wrap .u64 ((IntKind.wrap .u64 ((IntKind.wrap .u64 ((zeg .u64 p0 (32 : Int)) * (zeg .u64 p1 (32 : Int)))) + (zeg .u64 (IntKind.wrap .u64 ((IntKind.wrap .u64 ((zeg .u64 p0 (32 : Int)) * (ziI .u64 p1 (4294967295 : Int)))) + (zeg .u64 (IntKind.wrap .u64 ((ziI .u64 p0 (4294967295 : Int)) * (ziI .u64 p1 (4294967295 : Int)))) (32 : Int)))) (32 : Int)))) + (zeg .u64 (IntKind.wrap .u64 ((IntKind.wrap .u64 ((ziI .u64 p0 (4294967295 : Int)) * (zeg .u64 p1 (32 : Int)))) + (ziI .u64 (IntKind.wrap .u64 ((IntKind.wrap .u64 ((zeg .u64 p0 (32 : Int)) * (ziI .u64 p1 (4294967295 : Int)))) + (zeg .u64 (IntKind.wrap .u64 ((ziI .u64 p0 (4294967295 : Int)) * (ziI .u64 p1 (4294967295 : Int)))) (32 : Int)))) (4294967295 : Int)))) (32 : Int)))), uL (IntKind.wrap .u64 (p0 * p1))]) G := by kernel_rfl
theorem zwA {R : Type} (fuel n : Nat) (p0 p1 : Int) (G : GH) (k : KV R) :
  runC Tryz.prog lo0 fuel (n + 1) 70 [uL p0, uL p1] G k = zf Tryz.prog (runC Tryz.prog lo0 fuel n) [777777] fuel Tryz.f70 [uL p0, uL p1] G k := zh Tryz.func70 rfl rfl
def zjD {R : Type} (O : Ora R) (KN : tY0 R) (s0 s1 : Nat) (s2 : Bool) (G : GH) : Option R :=
  O zt [fL s0] G fun v1 G2 =>
  (zl v1).bind fun x3 =>
  bif (!x3) then
  KN s0 s1 s2 true G2
  else
  O zt [fL s1] G2 fun v4 G5 =>
  (zl v4).bind fun x6 =>
  KN s0 s1 s2 (!x6) G5
def zgM {R : Type} (O : Ora R) (KN : tY0 R) : Nat → Nat → Bool → GH → Option R := fun s0 s1 s2 G => zjD O KN s0 s1 s2 G
theorem zqZ (fuel s0 s1 : Nat) (s2 : Bool) (G : GH) (k : KE R) :
  zd Tryz.prog O zBd fuel (nav bd51 [1, 0, 0]) 11 (mkE 53 [(0, fL s0), (1, fL s1), (2, .bool s2)]) [] G k =
  zjD O (fun s0 s1 s2 ek G => k .normal (mkE 53 [(0, fL s0), (1, fL s1), (2, .bool s2), (21, .bool ek)]) [] G) s0 s1 s2 G := by kernel_rfl
theorem zti (fuel : Nat) (k : KE R) : ∀ (s0 s1 : Nat) (s2 : Bool) (G : GH),
  zd Tryz.prog O zBd fuel (nav bd51 [1, 0, 0]) 11 (mkE 53 [(0, fL s0), (1, fL s1), (2, .bool s2)]) [] G k = zgM O (fun s0 s1 s2 ek G => k .normal (mkE 53 [(0, fL s0), (1, fL s1), (2, .bool s2), (21, .bool ek)]) [] G) s0 s1 s2 G := by
  intros
  rw [zqZ]
  simp only [zgM]
def zns {R : Type} (O : Ora R) (k : KV R) (L0 : tY1 R) (p0 p1 : Nat) (p2 : Bool) (G : GH) : Option R :=
  L0 p0 p1 p2 G
def zfx {R : Type} (O : Ora R) (k : KV R) (s0 s1 : Nat) (s2 ek : Bool) (G : GH) : Option R :=
  bif ek then
  k (.tuple [fL (0 : Nat), iL (10 : Int)]) G
  else
  O zeh [fL s0] G fun v1 G2 =>
  (zY 2 v1).bind fun c3 =>
  (zr 4 (c3.getD 0 za)).bind fun c4 =>
  (zk .u64 (c4.getD 0 za)).bind fun x5 =>
  (zk .u64 (c4.getD 1 za)).bind fun x6 =>
  (zk .i64 (c4.getD 2 za)).bind fun x7 =>
  (zl (c4.getD 3 za)).bind fun x8 =>
  (zl (c3.getD 1 za)).bind fun x9 =>
  O zeh [fL s1] G2 fun v10 G11 =>
  (zY 2 v10).bind fun c12 =>
  (zr 4 (c12.getD 0 za)).bind fun c13 =>
  (zk .u64 (c13.getD 0 za)).bind fun x14 =>
  (zk .u64 (c13.getD 1 za)).bind fun x15 =>
  (zk .i64 (c13.getD 2 za)).bind fun x16 =>
  (zl (c13.getD 3 za)).bind fun x17 =>
  (zl (c12.getD 1 za)).bind fun x18 =>
  O ziy [uL x6, uL x15] G11 fun v19 G20 =>
  (zY 2 v19).bind fun c21 =>
  (zk .u64 (c21.getD 0 za)).bind fun x22 =>
  (zk .u64 (c21.getD 1 za)).bind fun x23 =>
  O zeT [.agg [uL x22, uL x23, iL (IntKind.wrap .i64 (x7 + x16)), .bool false], .bool (!(x9 == x18)), .bool s2] G20 fun v24 G25 =>
  (zc .f64 v24).bind fun x26 =>
  k (.tuple [fL x26, iL (0 : Int)]) G25
def zg4 {R : Type} (O : Ora R) (fuel : Nat) (k : KV R) : Nat → Nat → Bool → GH → Option R := fun s0 s1 s2 G =>
  zi fuel (zgM O (zfx O k) s0 s1 s2 G)
theorem zpB (fuel s0 s1 : Nat) (s2 ek : Bool) (G : GH) (k : KV R) :
  ze Tryz.prog O zBd fuel bd51 [1, 0, 0] (rcK Tryz.f51 k) .normal (mkE 53 [(0, fL s0), (1, fL s1), (2, .bool s2), (21, .bool ek)]) [] G =
  zfx O k s0 s1 s2 ek G := by kernel_rfl
theorem zsN (fuel : Nat) (k : KV R) :
  (fun (s0 s1 : Nat) (s2 : Bool) (G : GH) => zi fuel (zd Tryz.prog O zBd fuel (nav bd51 [1, 0, 0]) 11 (mkE 53 [(0, fL s0), (1, fL s1), (2, .bool s2)]) [] G (ze Tryz.prog O zBd fuel bd51 [1, 0, 0] (rcK Tryz.f51 k)))) = zg4 O fuel k := by
  funext s0 s1 s2 G
  simp only [zg4, zti, zpB]
theorem ztV (fuel p0 p1 : Nat) (p2 : Bool) (G : GH) (k : KV R) :
  zf Tryz.prog O zBd fuel Tryz.f51 [fL p0, fL p1, .bool p2] G k =
  zns O k (fun s0 s1 s2 G => zi fuel (zd Tryz.prog O zBd fuel (nav bd51 [1, 0, 0]) 11 (mkE 53 [(0, fL s0), (1, fL s1), (2, .bool s2)]) [] G (ze Tryz.prog O zBd fuel bd51 [1, 0, 0] (rcK Tryz.f51 k)))) p0 p1 p2 G := by kernel_rfl
theorem zzu (fuel p0 p1 : Nat) (p2 : Bool) (G : GH) (k : KV R) :
  zf Tryz.prog O zBd fuel Tryz.f51 [fL p0, fL p1, .bool p2] G k =
  zns O k (zg4 O fuel k) p0 p1 p2 G := by
  rw [ztV, zsN]
theorem zzk {R : Type} (fuel n p0 p1 : Nat) (p2 : Bool) (G : GH) (k : KV R) :
  runC Tryz.prog lo0 fuel (n + 1) 51 [fL p0, fL p1, .bool p2] G k = zf Tryz.prog (runC Tryz.prog lo0 fuel n) zBd fuel Tryz.f51 [fL p0, fL p1, .bool p2] G k := zh Tryz.func51 rfl rfl
def zhI {R : Type} (O : Ora R) (KN : Nat → Bool → GH → Option R) (s0 : Nat) (G : GH) : Option R :=
  bif (fge .f64 s0 (4845873199050653696 : Nat)) then
  KN s0 true G
  else
  KN s0 (fle .f64 s0 (14069245235905429504 : Nat)) G
def zey {R : Type} (O : Ora R) (KN : Nat → Bool → GH → Option R) : Nat → GH → Option R := fun s0 G => zhI O KN s0 G
theorem zob (fuel s0 : Nat) (G : GH) (k : KE R) :
  zd Tryz.prog O zvW fuel (nav bd48 [1, 1, 0, 0]) 19 (mkE 25 [(0, fL s0)]) [] G k =
  zhI O (fun s0 eo G => k .normal (mkE 25 [(0, fL s0), (13, .bool eo)]) [] G) s0 G := by kernel_rfl
theorem zoU (fuel : Nat) (k : KE R) : ∀ (s0 : Nat) (G : GH),
  zd Tryz.prog O zvW fuel (nav bd48 [1, 1, 0, 0]) 19 (mkE 25 [(0, fL s0)]) [] G k = zey O (fun s0 eo G => k .normal (mkE 25 [(0, fL s0), (13, .bool eo)]) [] G) s0 G := by
  intros
  rw [zob]
  simp only [zey]
def zhH {R : Type} (O : Ora R) (KN : Nat → GH → Option R) (s0 s4 : Nat) (G : GH) : Option R :=
  bif (fgt .f64 s4 s0) then
  ((FloatKind.format .f64).sub s4 (4607182418800017408 : Nat)).bind fun r1 =>
  KN r1 G
  else
  KN s4 G
def zdV {R : Type} (O : Ora R) (KN : Nat → GH → Option R) : Nat → Nat → GH → Option R := fun s0 s4 G => zhH O KN s0 s4 G
theorem znW (fuel s0 s4 : Nat) (G : GH) (k : KE R) :
  zd Tryz.prog O zvW fuel (nav bd48 [1, 1, 1, 1, 0]) 35 (mkE 25 [(0, fL s0), (4, fL s4)]) [] G k =
  zhH O (fun s4 G => k .normal (mkE 25 [(4, fL s4)]) [] G) s0 s4 G := by kernel_rfl
theorem zpS (fuel : Nat) (k : KE R) : ∀ (s0 s4 : Nat) (G : GH),
  zd Tryz.prog O zvW fuel (nav bd48 [1, 1, 1, 1, 0]) 35 (mkE 25 [(0, fL s0), (4, fL s4)]) [] G k = zdV O (fun s4 G => k .normal (mkE 25 [(4, fL s4)]) [] G) s0 s4 G := by
  intros
  rw [znW]
  simp only [zdV]
def zkm {R : Type} (O : Ora R) (k : KV R) (L0 : Nat → GH → Option R) (p0 : Nat) (G : GH) : Option R :=
  O zt [fL p0] G fun v1 G2 =>
  (zl v1).bind fun x3 =>
  bif (!x3) then
  k (.tuple [fL (0 : Nat), iL (10 : Int)]) G2
  else
  L0 p0 G2
def zbE {R : Type} (O : Ora R) (k : KV R) (L1 : Nat → Nat → GH → Option R) (s0 : Nat) (eo : Bool) (G : GH) : Option R :=
  bif eo then
  k (.tuple [fL s0, iL (0 : Int)]) G
  else
  (f2i .f64 s0 .i64).bind fun x1 =>
  L1 s0 (FloatKind.nearest .f64 x1) G
def zds {R : Type} (O : Ora R) (k : KV R) (s4 : Nat) (G : GH) : Option R :=
  O zar [fL s4] G fun v1 G2 =>
  (zc .f64 v1).bind fun x3 =>
  k (.tuple [fL x3, iL (0 : Int)]) G2
def zcj {R : Type} (O : Ora R) (fuel : Nat) (k : KV R) : Nat → Nat → GH → Option R := fun s0 s4 G =>
  zi fuel (zdV O (zds O k) s0 s4 G)
theorem zmX (fuel s4 : Nat) (G : GH) (k : KV R) :
  ze Tryz.prog O zvW fuel bd48 [1, 1, 1, 1, 0] (rcK Tryz.f48 k) .normal (mkE 25 [(4, fL s4)]) [] G =
  zds O k s4 G := by kernel_rfl
theorem zoA (fuel : Nat) (k : KV R) :
  (fun (s0 s4 : Nat) (G : GH) => zi fuel (zd Tryz.prog O zvW fuel (nav bd48 [1, 1, 1, 1, 0]) 35 (mkE 25 [(0, fL s0), (4, fL s4)]) [] G (ze Tryz.prog O zvW fuel bd48 [1, 1, 1, 1, 0] (rcK Tryz.f48 k)))) = zcj O fuel k := by
  funext s0 s4 G
  simp only [zcj, zpS, zmX]
def zco {R : Type} (O : Ora R) (fuel : Nat) (k : KV R) : Nat → GH → Option R := fun s0 G =>
  zi fuel (zey O (zbE O k (zcj O fuel k)) s0 G)
theorem zm3 (fuel s0 : Nat) (eo : Bool) (G : GH) (k : KV R) :
  ze Tryz.prog O zvW fuel bd48 [1, 1, 0, 0] (rcK Tryz.f48 k) .normal (mkE 25 [(0, fL s0), (13, .bool eo)]) [] G =
  zbE O k (fun s0 s4 G => zi fuel (zd Tryz.prog O zvW fuel (nav bd48 [1, 1, 1, 1, 0]) 35 (mkE 25 [(0, fL s0), (4, fL s4)]) [] G (ze Tryz.prog O zvW fuel bd48 [1, 1, 1, 1, 0] (rcK Tryz.f48 k)))) s0 eo G := by kernel_rfl
theorem zpr (fuel : Nat) (k : KV R) :
  (fun (s0 : Nat) (G : GH) => zi fuel (zd Tryz.prog O zvW fuel (nav bd48 [1, 1, 0, 0]) 19 (mkE 25 [(0, fL s0)]) [] G (ze Tryz.prog O zvW fuel bd48 [1, 1, 0, 0] (rcK Tryz.f48 k)))) = zco O fuel k := by
  funext s0 G
  simp only [zco, zoU, zm3, zoA]
theorem zrg (fuel p0 : Nat) (G : GH) (k : KV R) :
  zf Tryz.prog O zvW fuel Tryz.f48 [fL p0] G k =
  zkm O k (fun s0 G => zi fuel (zd Tryz.prog O zvW fuel (nav bd48 [1, 1, 0, 0]) 19 (mkE 25 [(0, fL s0)]) [] G (ze Tryz.prog O zvW fuel bd48 [1, 1, 0, 0] (rcK Tryz.f48 k)))) p0 G := by kernel_rfl
theorem zvO (fuel p0 : Nat) (G : GH) (k : KV R) :
  zf Tryz.prog O zvW fuel Tryz.f48 [fL p0] G k =
  zkm O k (zco O fuel k) p0 G := by
  rw [zrg, zpr]
theorem zvy {R : Type} (fuel n p0 : Nat) (G : GH) (k : KV R) :
  runC Tryz.prog lo0 fuel (n + 1) 48 [fL p0] G k = zf Tryz.prog (runC Tryz.prog lo0 fuel n) zvW fuel Tryz.f48 [fL p0] G k := zh Tryz.func48 rfl rfl
end
end Go.LI.Film
