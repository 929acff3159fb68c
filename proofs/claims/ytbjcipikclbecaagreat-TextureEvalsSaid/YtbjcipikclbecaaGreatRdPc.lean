/- What the interpreter gives for the reference of round (written by texz.py). -/
import Derived.Test.YtbjcipikclbecaaGreatSeatA
set_option maxRecDepth 100000
set_option linter.unusedVariables false
set_option linter.unusedSimpArgs false
namespace Go.LI.Film
open Go.Proofs.YtbjcipikclbecaaGreat Go Go.Proofs Go.LI
section
variable {R : Type} (O : Ora R)
theorem zne (fuel p0 : Nat) (G : GH) (k : KV R) :
  zf Tryz.prog O [888888, 777777] fuel Tryz.f28 [fL p0] G k =
  k (.bool (match (FloatKind.format .f64).sub p0 p0 with | some r => feq .f64 r 0 | none => false)) G := by kernel_rfl
theorem znn {R : Type} (fuel n p0 : Nat) (G : GH) (k : KV R) :
  runC Tryz.prog lo0 fuel (n + 1) 28 [fL p0] G k = zf Tryz.prog (runC Tryz.prog lo0 fuel n) [888888, 777777] fuel Tryz.f28 [fL p0] G k := zh Tryz.func28 rfl rfl
theorem zno (fuel p0 : Nat) (G : GH) (k : KV R) :
  zf Tryz.prog O [777777] fuel Tryz.f30 [fL p0] G k =
  bif (feq .f64 p0 (0 : Nat)) then
  k (fL (0 : Nat)) G
  else
  k (fL p0) G := by kernel_rfl
theorem znk {R : Type} (fuel n p0 : Nat) (G : GH) (k : KV R) :
  runC Tryz.prog lo0 fuel (n + 1) 30 [fL p0] G k = zf Tryz.prog (runC Tryz.prog lo0 fuel n) [777777] fuel Tryz.f30 [fL p0] G k := zh Tryz.func30 rfl rfl
theorem zuo (fuel : Nat)  (G : GH) (k : KV R) :
  zf Tryz.prog O [777777] fuel Tryz.f13 [] G k =
  O zx [uL (9218868437227405312 : Int)] G fun v1 G2 =>
  (zc .f64 v1).bind fun x3 =>
  k (fL x3) G2 := by kernel_rfl
theorem zuw {R : Type} (fuel n : Nat)  (G : GH) (k : KV R) :
  runC Tryz.prog lo0 fuel (n + 1) 13 [] G k = zf Tryz.prog (runC Tryz.prog lo0 fuel n) [777777] fuel Tryz.f13 [] G k := zh Tryz.func13 rfl rfl
theorem zwV (fuel : Nat)  (G : GH) (k : KV R) :
  zf Tryz.prog O [777777] fuel Tryz.f100 [] G k =
  O zx [uL (9218868437227405311 : Int)] G fun v1 G2 =>
  (zc .f64 v1).bind fun x3 =>
  k (fL x3) G2 := by kernel_rfl
theorem zxD {R : Type} (fuel n : Nat)  (G : GH) (k : KV R) :
  runC Tryz.prog lo0 fuel (n + 1) 100 [] G k = zf Tryz.prog (runC Tryz.prog lo0 fuel n) [777777] fuel Tryz.f100 [] G k := zh Tryz.func100 rfl rfl
def zip {R : Type} (O : Ora R) (KN : zDt R) (s4 s5 : Int) (s6 aa : Int) (ac af : Int) (ag : Bool) (G : GH) : Option R :=
  bif (decide (s5 > (0 : Int))) then
  KN s4 s5 (orI .u64 s6 (4503599627370496 : Int)) aa ac af ag G
  else
  KN s4 (1 : Int) s6 aa ac af ag G
def zfe {R : Type} (O : Ora R) (KN : zDt R) : Int → Int → Int → Int → Int → Int → Bool → GH → Option R := fun s4 s5 s6 aa ac af ag G => zip O KN s4 s5 s6 aa ac af ag G
theorem zp9 (fuel : Nat) (s4 s5 : Int) (s6 aa : Int) (ac af : Int) (ag : Bool) (G : GH) (k : KE R) :
  zd Tryz.prog O zCO fuel (nav bd69 [1, 1, 1, 1, 0]) 31 (mkE 26 [(2, .loc 0 0), (4, uL s4), (5, iL s5), (6, uL s6)]) [[uL aa, uL ac, iL af, .bool ag]] G k =
  zip O (fun s4 s5 s6 aa ac af ag G => k .normal (mkE 26 [(2, .loc 0 0), (4, uL s4), (5, iL s5), (6, uL s6)]) [[uL aa, uL ac, iL af, .bool ag]] G) s4 s5 s6 aa ac af ag G := by kernel_rfl
theorem zry (fuel : Nat) (k : KE R) : ∀ (s4 s5 : Int) (s6 aa : Int) (ac af : Int) (ag : Bool) (G : GH),
  zd Tryz.prog O zCO fuel (nav bd69 [1, 1, 1, 1, 0]) 31 (mkE 26 [(2, .loc 0 0), (4, uL s4), (5, iL s5), (6, uL s6)]) [[uL aa, uL ac, iL af, .bool ag]] G k = zfe O (fun s4 s5 s6 aa ac af ag G => k .normal (mkE 26 [(2, .loc 0 0), (4, uL s4), (5, iL s5), (6, uL s6)]) [[uL aa, uL ac, iL af, .bool ag]] G) s4 s5 s6 aa ac af ag G := by
  intros
  rw [zp9]
  simp only [zfe]
def zf3 {R : Type} (O : Ora R) (k : KV R) (L0 : zDt R) (p0 : Nat) (G : GH) : Option R :=
  O zC [fL p0] G fun v1 G2 =>
  (zk .u64 v1).bind fun x3 =>
  L0 x3 (IntKind.wrap .i64 (ziI .u64 (zeg .u64 x3 (52 : Int)) (2047 : Int))) (ziI .u64 x3 (4503599627370495 : Int)) (0 : Int) (0 : Int) (0 : Int) false G2
def zhq {R : Type} (O : Ora R) (k : KV R) (s4 s5 : Int) (s6 aa : Int) (ac af : Int) (ag : Bool) (G : GH) : Option R :=
  k (.tuple [.agg [uL (0 : Int), uL s6, iL (IntKind.wrap .i64 (s5 - (1075 : Int))), .bool false], .bool ((zeg .u64 s4 (63 : Int)) != (0 : Int))]) G
def zbR {R : Type} (O : Ora R) (fuel : Nat) (k : KV R) : Int → Int → Int → Int → Int → Int → Bool → GH → Option R := fun s4 s5 s6 aa ac af ag G =>
  zi fuel (zfe O (zhq O k) s4 s5 s6 aa ac af ag G)
theorem zn5 (fuel : Nat) (s4 s5 : Int) (s6 aa : Int) (ac af : Int) (ag : Bool) (G : GH) (k : KV R) :
  ze Tryz.prog O zCO fuel bd69 [1, 1, 1, 1, 0] (rcK Tryz.f69 k) .normal (mkE 26 [(2, .loc 0 0), (4, uL s4), (5, iL s5), (6, uL s6)]) [[uL aa, uL ac, iL af, .bool ag]] G =
  zhq O k s4 s5 s6 aa ac af ag G := by kernel_rfl
theorem zqy (fuel : Nat) (k : KV R) :
  (fun (s4 s5 : Int) (s6 aa : Int) (ac af : Int) (ag : Bool) (G : GH) => zi fuel (zd Tryz.prog O zCO fuel (nav bd69 [1, 1, 1, 1, 0]) 31 (mkE 26 [(2, .loc 0 0), (4, uL s4), (5, iL s5), (6, uL s6)]) [[uL aa, uL ac, iL af, .bool ag]] G (ze Tryz.prog O zCO fuel bd69 [1, 1, 1, 1, 0] (rcK Tryz.f69 k)))) = zbR O fuel k := by
  funext s4 s5 s6 aa ac af ag G
  simp only [zbR, zry, zn5]
theorem ztb (fuel p0 : Nat) (G : GH) (k : KV R) :
  zf Tryz.prog O zCO fuel Tryz.f69 [fL p0] G k =
  zf3 O k (fun s4 s5 s6 aa ac af ag G => zi fuel (zd Tryz.prog O zCO fuel (nav bd69 [1, 1, 1, 1, 0]) 31 (mkE 26 [(2, .loc 0 0), (4, uL s4), (5, iL s5), (6, uL s6)]) [[uL aa, uL ac, iL af, .bool ag]] G (ze Tryz.prog O zCO fuel bd69 [1, 1, 1, 1, 0] (rcK Tryz.f69 k)))) p0 G := by kernel_rfl
theorem zxq (fuel p0 : Nat) (G : GH) (k : KV R) :
  zf Tryz.prog O zCO fuel Tryz.f69 [fL p0] G k =
  zf3 O k (zbR O fuel k) p0 G := by
  rw [ztb, zqy]
theorem zyk {R : Type} (fuel n p0 : Nat) (G : GH) (k : KV R) :
  runC Tryz.prog lo0 fuel (n + 1) 69 [fL p0] G k = zf Tryz.prog (runC Tryz.prog lo0 fuel n) zCO fuel Tryz.f69 [fL p0] G k := zh Tryz.func69 rfl rfl
def zgh {R : Type} (O : Ora R) (KN : tY2 R) (s3 s4 : Int) (aa ac af : Int) (ag : Bool) (G : GH) : Option R :=
  bif (aa != (0 : Int)) then
  KN (64 : Int) aa aa ac af ag G
  else
  KN s3 s4 aa ac af ag G
def zdv {R : Type} (O : Ora R) (KN : tY2 R) : Int → Int → Int → Int → Int → Bool → GH → Option R := fun s3 s4 aa ac af ag G => zgh O KN s3 s4 aa ac af ag G
theorem zm4 (fuel : Nat) (s3 s4 : Int) (aa ac af : Int) (ag : Bool) (G : GH) (k : KE R) :
  zd Tryz.prog O zqn fuel (nav bd86 [1, 1, 1, 0]) 27 (mkE 31 [(1, .loc 0 0), (3, iL s3), (4, uL s4)]) [[uL aa, uL ac, iL af, .bool ag]] G k =
  zgh O (fun s3 s4 aa ac af ag G => k .normal (mkE 31 [(3, iL s3), (4, uL s4)]) [[uL aa, uL ac, iL af, .bool ag]] G) s3 s4 aa ac af ag G := by kernel_rfl
theorem zod (fuel : Nat) (k : KE R) : ∀ (s3 s4 : Int) (aa ac af : Int) (ag : Bool) (G : GH),
  zd Tryz.prog O zqn fuel (nav bd86 [1, 1, 1, 0]) 27 (mkE 31 [(1, .loc 0 0), (3, iL s3), (4, uL s4)]) [[uL aa, uL ac, iL af, .bool ag]] G k = zdv O (fun s3 s4 aa ac af ag G => k .normal (mkE 31 [(3, iL s3), (4, uL s4)]) [[uL aa, uL ac, iL af, .bool ag]] G) s3 s4 aa ac af ag G := by
  intros
  rw [zm4]
  simp only [zdv]
def zge {R : Type} (O : Ora R) (KN : zDt R) (s3 s4 : Int) (s5 aa : Int) (ac af : Int) (ag : Bool) (G : GH) : Option R :=
  bif decide (s5 < 0) then none else
  bif ((zeg .u64 s4 s5) != (0 : Int)) then
  bif decide (s5 < 0) then none else
  KN (IntKind.wrap .i64 (s3 + s5)) (zeg .u64 s4 s5) s5 aa ac af ag G
  else
  KN s3 s4 s5 aa ac af ag G
def zdr {R : Type} (O : Ora R) (KN : zDt R) : Int → Int → Int → Int → Int → Int → Bool → GH → Option R := fun s3 s4 s5 aa ac af ag G => zge O KN s3 s4 s5 aa ac af ag G
theorem zmZ (fuel : Nat) (s3 s4 : Int) (s5 aa : Int) (ac af : Int) (ag : Bool) (G : GH) (k : KE R) :
  zd Tryz.prog O zqn fuel (nav bd86 [1, 1, 1, 1, 0, 1, 0, 0, 1, 0]) 35 (mkE 31 [(3, iL s3), (4, uL s4), (5, iL s5)]) [[uL aa, uL ac, iL af, .bool ag]] G k =
  zge O (fun s3 s4 s5 aa ac af ag G => k .normal (mkE 31 [(3, iL s3), (4, uL s4), (5, iL s5)]) [[uL aa, uL ac, iL af, .bool ag]] G) s3 s4 s5 aa ac af ag G := by kernel_rfl
theorem zn4 (fuel : Nat) (k : KE R) : ∀ (s3 s4 : Int) (s5 aa : Int) (ac af : Int) (ag : Bool) (G : GH),
  zd Tryz.prog O zqn fuel (nav bd86 [1, 1, 1, 1, 0, 1, 0, 0, 1, 0]) 35 (mkE 31 [(3, iL s3), (4, uL s4), (5, iL s5)]) [[uL aa, uL ac, iL af, .bool ag]] G k = zdr O (fun s3 s4 s5 aa ac af ag G => k .normal (mkE 31 [(3, iL s3), (4, uL s4), (5, iL s5)]) [[uL aa, uL ac, iL af, .bool ag]] G) s3 s4 s5 aa ac af ag G := by
  intros
  rw [zmZ]
  simp only [zdr]
def zdq {R : Type} (O : Ora R) (KN : zDt R) (K0 : tY2 R) (L2 : zDt R) (s3 s4 : Int) (s5 aa : Int) (ac af : Int) (ag : Bool) (G : GH) : Option R :=
  bif (decide (s5 > (0 : Int))) then
  L2 s3 s4 s5 aa ac af ag G
  else
  K0 s3 s4 aa ac af ag G
def zaJ {R : Type} (O : Ora R) (KN : zDt R) (K0 : tY2 R) (s3 s4 : Int) (s5 aa : Int) (ac af : Int) (ag : Bool) (G : GH) : Option R :=
  KN s3 s4 (IntKind.wrap .i64 (Int.tdiv s5 (2 : Int))) aa ac af ag G
def zdw {R : Type} (O : Ora R) (fuel : Nat) (KN : zDt R) (K0 : tY2 R) : Int → Int → Int → Int → Int → Int → Bool → GH → Option R := fun s3 s4 s5 aa ac af ag G =>
  zi fuel (zdr O (zaJ O KN K0) s3 s4 s5 aa ac af ag G)
theorem zmi (fuel : Nat) (s3 s4 : Int) (s5 aa : Int) (ac af : Int) (ag : Bool) (G : GH) (k : KE R) :
  ze Tryz.prog O zqn fuel (nav bd86 [1, 1, 1, 1, 0, 1, 0, 0]) [1, 0] (kpD zqn 28 1 k) .normal (mkE 31 [(3, iL s3), (4, uL s4), (5, iL s5)]) [[uL aa, uL ac, iL af, .bool ag]] G =
  zaJ O (fun s3 s4 s5 aa ac af ag G => k .normal (mkE 31 [(3, iL s3), (4, uL s4), (5, iL s5)]) [[uL aa, uL ac, iL af, .bool ag]] G) (fun s3 s4 aa ac af ag G => k (.exit 0) (mkE 31 [(3, iL s3), (4, uL s4)]) [[uL aa, uL ac, iL af, .bool ag]] G) s3 s4 s5 aa ac af ag G := by kernel_rfl
theorem zok (fuel : Nat) (k : KE R) :
  (fun (s3 s4 : Int) (s5 aa : Int) (ac af : Int) (ag : Bool) (G : GH) => zi fuel (zd Tryz.prog O zqn fuel (nav bd86 [1, 1, 1, 1, 0, 1, 0, 0, 1, 0]) 35 (mkE 31 [(3, iL s3), (4, uL s4), (5, iL s5)]) [[uL aa, uL ac, iL af, .bool ag]] G (ze Tryz.prog O zqn fuel (nav bd86 [1, 1, 1, 1, 0, 1, 0, 0]) [1, 0] (kpD zqn 28 1 k)))) = zdw O fuel (fun (s3 s4 : Int) (s5 aa : Int) (ac af : Int) (ag : Bool) (G : GH) => k .normal (mkE 31 [(3, iL s3), (4, uL s4), (5, iL s5)]) [[uL aa, uL ac, iL af, .bool ag]] G) (fun (s3 s4 : Int) (aa ac af : Int) (ag : Bool) (G : GH) => k (.exit 0) (mkE 31 [(3, iL s3), (4, uL s4)]) [[uL aa, uL ac, iL af, .bool ag]] G) := by
  funext s3 s4 s5 aa ac af ag G
  simp only [zdw, zn4, zmi]
def zn {R : Type} (O : Ora R) (fuel : Nat) (K0 : tY2 R) : Nat → Int → Int → Int → Int → Int → Int → Bool → GH → Option R
  | 0, _, _, _, _, _, _, _, _ => none
  | n + 1, s3, s4, s5, aa, ac, af, ag, G => zdq O (zn O fuel K0 n) K0 (zdw O fuel (zn O fuel K0 n) K0) s3 s4 s5 aa ac af ag G
theorem zmS (fuel : Nat) (s3 s4 : Int) (s5 aa : Int) (ac af : Int) (ag : Bool) (G : GH) (k : KE R) :
  zd Tryz.prog O zqn fuel (nav bd86 [1, 1, 1, 1, 0, 1, 0, 0]) 28 (mkE 31 [(3, iL s3), (4, uL s4), (5, iL s5)]) [[uL aa, uL ac, iL af, .bool ag]] G k =
  zdq O (fun s3 s4 s5 aa ac af ag G => k .normal (mkE 31 [(3, iL s3), (4, uL s4), (5, iL s5)]) [[uL aa, uL ac, iL af, .bool ag]] G) (fun s3 s4 aa ac af ag G => k (.exit 0) (mkE 31 [(3, iL s3), (4, uL s4)]) [[uL aa, uL ac, iL af, .bool ag]] G) (fun s3 s4 s5 aa ac af ag G => zi fuel (zd Tryz.prog O zqn fuel (nav bd86 [1, 1, 1, 1, 0, 1, 0, 0, 1, 0]) 35 (mkE 31 [(3, iL s3), (4, uL s4), (5, iL s5)]) [[uL aa, uL ac, iL af, .bool ag]] G (ze Tryz.prog O zqn fuel (nav bd86 [1, 1, 1, 1, 0, 1, 0, 0]) [1, 0] (kpD zqn 28 1 k)))) s3 s4 s5 aa ac af ag G := by kernel_rfl
theorem znN (fuel : Nat) (k : KE R) : ∀ (n : Nat) (s3 s4 : Int) (s5 aa : Int) (ac af : Int) (ag : Bool) (G : GH),
  zJ (zd Tryz.prog O zqn fuel (nav bd86 [1, 1, 1, 1, 0, 1, 0, 0]) 28) n (mkE 31 [(3, iL s3), (4, uL s4), (5, iL s5)]) [[uL aa, uL ac, iL af, .bool ag]] G k = zn O fuel (fun s3 s4 aa ac af ag G => k (.exit 0) (mkE 31 [(3, iL s3), (4, uL s4)]) [[uL aa, uL ac, iL af, .bool ag]] G) n s3 s4 s5 aa ac af ag G := by
  intro n
  induction n with
  | zero => intros; first | rfl | simp only [zJ, zn]
  | succ n ih =>
    intros
    rw [zaU, zmS]
    simp only [zn, zah, zaS, zbI, ih, zok]
def ziM {R : Type} (O : Ora R) (k : KV R) (L0 : tY2 R) (av aw bf : Int) (bh : Bool) (G : GH) : Option R :=
  L0 (0 : Int) aw av aw bf bh G
def zcE {R : Type} (O : Ora R) (k : KV R) (L1 : zDt R) (s3 s4 : Int) (aa ac af : Int) (ag : Bool) (G : GH) : Option R :=
  L1 s3 s4 (32 : Int) aa ac af ag G
def zcY {R : Type} (O : Ora R) (k : KV R) (s3 s4 : Int) (aa ac af : Int) (ag : Bool) (G : GH) : Option R :=
  k (iL (IntKind.wrap .i64 (s3 + (IntKind.wrap .i64 s4)))) G
def zbM {R : Type} (O : Ora R) (fuel : Nat) (k : KV R) : Int → Int → Int → Int → Int → Int → Bool → GH → Option R := fun s3 s4 s5 aa ac af ag G =>
  zn O fuel (zcY O k) fuel s3 s4 s5 aa ac af ag G
theorem zlw (fuel : Nat) (s3 s4 : Int) (aa ac af : Int) (ag : Bool) (G : GH) (k : KV R) :
  ze Tryz.prog O zqn fuel bd86 [1, 1, 1, 1, 0, 1, 0] (rcK Tryz.f86 k) (.exit 0) (mkE 31 [(3, iL s3), (4, uL s4)]) [[uL aa, uL ac, iL af, .bool ag]] G =
  zcY O k s3 s4 aa ac af ag G := by kernel_rfl
theorem znF (fuel : Nat) (k : KV R) :
  (fun (s3 s4 : Int) (s5 aa : Int) (ac af : Int) (ag : Bool) (G : GH) => zJ (zd Tryz.prog O zqn fuel (nav bd86 [1, 1, 1, 1, 0, 1, 0, 0]) 28) fuel (mkE 31 [(3, iL s3), (4, uL s4), (5, iL s5)]) [[uL aa, uL ac, iL af, .bool ag]] G (ze Tryz.prog O zqn fuel bd86 [1, 1, 1, 1, 0, 1, 0] (rcK Tryz.f86 k))) = zbM O fuel k := by
  funext s3 s4 s5 aa ac af ag G
  simp only [zbM, znN, zlw]
def zdu {R : Type} (O : Ora R) (fuel : Nat) (k : KV R) : Int → Int → Int → Int → Int → Bool → GH → Option R := fun s3 s4 aa ac af ag G =>
  zi fuel (zdv O (zcE O k (zbM O fuel k)) s3 s4 aa ac af ag G)
theorem zlE (fuel : Nat) (s3 s4 : Int) (aa ac af : Int) (ag : Bool) (G : GH) (k : KV R) :
  ze Tryz.prog O zqn fuel bd86 [1, 1, 1, 0] (rcK Tryz.f86 k) .normal (mkE 31 [(3, iL s3), (4, uL s4)]) [[uL aa, uL ac, iL af, .bool ag]] G =
  zcE O k (fun s3 s4 s5 aa ac af ag G => zJ (zd Tryz.prog O zqn fuel (nav bd86 [1, 1, 1, 1, 0, 1, 0, 0]) 28) fuel (mkE 31 [(3, iL s3), (4, uL s4), (5, iL s5)]) [[uL aa, uL ac, iL af, .bool ag]] G (ze Tryz.prog O zqn fuel bd86 [1, 1, 1, 1, 0, 1, 0] (rcK Tryz.f86 k))) s3 s4 aa ac af ag G := by kernel_rfl
theorem znA (fuel : Nat) (k : KV R) :
  (fun (s3 s4 : Int) (aa ac af : Int) (ag : Bool) (G : GH) => zi fuel (zd Tryz.prog O zqn fuel (nav bd86 [1, 1, 1, 0]) 27 (mkE 31 [(1, .loc 0 0), (3, iL s3), (4, uL s4)]) [[uL aa, uL ac, iL af, .bool ag]] G (ze Tryz.prog O zqn fuel bd86 [1, 1, 1, 0] (rcK Tryz.f86 k)))) = zdu O fuel k := by
  funext s3 s4 aa ac af ag G
  simp only [zdu, zod, zlE, znF]
theorem zpu (fuel : Nat) (av aw bf : Int) (bh : Bool) (G : GH) (k : KV R) :
  zf Tryz.prog O zqn fuel Tryz.f86 [.agg [uL av, uL aw, iL bf, .bool bh]] G k =
  ziM O k (fun s3 s4 aa ac af ag G => zi fuel (zd Tryz.prog O zqn fuel (nav bd86 [1, 1, 1, 0]) 27 (mkE 31 [(1, .loc 0 0), (3, iL s3), (4, uL s4)]) [[uL aa, uL ac, iL af, .bool ag]] G (ze Tryz.prog O zqn fuel bd86 [1, 1, 1, 0] (rcK Tryz.f86 k)))) av aw bf bh G := by kernel_rfl
theorem zuH (fuel : Nat) (av aw bf : Int) (bh : Bool) (G : GH) (k : KV R) :
  zf Tryz.prog O zqn fuel Tryz.f86 [.agg [uL av, uL aw, iL bf, .bool bh]] G k =
  ziM O k (zdu O fuel k) av aw bf bh G := by
  rw [zpu, znA]
theorem zuZ {R : Type} (fuel n : Nat) (av aw bf : Int) (bh : Bool) (G : GH) (k : KV R) :
  runC Tryz.prog lo0 fuel (n + 1) 86 [.agg [uL av, uL aw, iL bf, .bool bh]] G k = zf Tryz.prog (runC Tryz.prog lo0 fuel n) zqn fuel Tryz.f86 [.agg [uL av, uL aw, iL bf, .bool bh]] G k := zh Tryz.func86 rfl rfl
def zlx {R : Type} (O : Ora R) (KN : zAu R) (s1 aa : Int) (ac af : Int) (ag : Bool) (ai ah ap : Int) (am : Bool) (G : GH) : Option R :=
  bif (decide (s1 ≥ (64 : Int))) then
  bif decide ((IntKind.wrap .i64 (s1 - (64 : Int))) < 0) then none else
  KN s1 (zvg .u64 ac (IntKind.wrap .i64 (s1 - (64 : Int)))) (0 : Int) af ag ai ah ap am G
  else
  bif (decide (s1 > (0 : Int))) then
  bif decide (s1 < 0) then none else
  bif decide ((IntKind.wrap .i64 ((64 : Int) - s1)) < 0) then none else
  bif decide (s1 < 0) then none else
  KN s1 (orI .u64 (zvg .u64 aa s1) (zeg .u64 ac (IntKind.wrap .i64 ((64 : Int) - s1)))) (zvg .u64 ac s1) af ag ai ah ap am G
  else
  KN s1 aa ac af ag ai ah ap am G
def zh7 {R : Type} (O : Ora R) (KN : zAu R) : Int → Int → Int → Int → Bool → Int → Int → Int → Bool → GH → Option R := fun s1 aa ac af ag ai ah ap am G => zlx O KN s1 aa ac af ag ai ah ap am G
theorem ztm (fuel : Nat) (s1 aa : Int) (ac af : Int) (ag : Bool) (ai ah ap : Int) (am : Bool) (G : GH) (k : KE R) :
  zd Tryz.prog O zCI fuel (nav bd87 [1, 0]) 31 (mkE 38 [(1, iL s1), (2, .loc 0 0), (4, .loc 1 0)]) [[uL aa, uL ac, iL af, .bool ag], [uL ai, uL ah, iL ap, .bool am]] G k =
  zlx O (fun s1 aa ac af ag ai ah ap am G => k .normal (mkE 38 [(1, iL s1), (2, .loc 0 0), (4, .loc 1 0)]) [[uL aa, uL ac, iL af, .bool ag], [uL ai, uL ah, iL ap, .bool am]] G) s1 aa ac af ag ai ah ap am G := by kernel_rfl
theorem zui (fuel : Nat) (k : KE R) : ∀ (s1 aa : Int) (ac af : Int) (ag : Bool) (ai ah ap : Int) (am : Bool) (G : GH),
  zd Tryz.prog O zCI fuel (nav bd87 [1, 0]) 31 (mkE 38 [(1, iL s1), (2, .loc 0 0), (4, .loc 1 0)]) [[uL aa, uL ac, iL af, .bool ag], [uL ai, uL ah, iL ap, .bool am]] G k = zh7 O (fun s1 aa ac af ag ai ah ap am G => k .normal (mkE 38 [(1, iL s1), (2, .loc 0 0), (4, .loc 1 0)]) [[uL aa, uL ac, iL af, .bool ag], [uL ai, uL ah, iL ap, .bool am]] G) s1 aa ac af ag ai ah ap am G := by
  intros
  rw [ztm]
  simp only [zh7]
def zqr {R : Type} (O : Ora R) (k : KV R) (L0 : zAu R) (av aw bf : Int) (bh : Bool) (p1 : Int) (G : GH) : Option R :=
  L0 p1 av aw bf bh (0 : Int) (0 : Int) (0 : Int) false G
def zkn {R : Type} (O : Ora R) (k : KV R) (s1 aa : Int) (ac af : Int) (ag : Bool) (ai ah ap : Int) (am : Bool) (G : GH) : Option R :=
  k (.agg [uL aa, uL ac, iL (IntKind.wrap .i64 (af - s1)), .bool ag]) G
def zhV {R : Type} (O : Ora R) (fuel : Nat) (k : KV R) : Int → Int → Int → Int → Bool → Int → Int → Int → Bool → GH → Option R := fun s1 aa ac af ag ai ah ap am G =>
  zi fuel (zh7 O (zkn O k) s1 aa ac af ag ai ah ap am G)
theorem zqx (fuel : Nat) (s1 aa : Int) (ac af : Int) (ag : Bool) (ai ah ap : Int) (am : Bool) (G : GH) (k : KV R) :
  ze Tryz.prog O zCI fuel bd87 [1, 0] (rcK Tryz.f87 k) .normal (mkE 38 [(1, iL s1), (2, .loc 0 0), (4, .loc 1 0)]) [[uL aa, uL ac, iL af, .bool ag], [uL ai, uL ah, iL ap, .bool am]] G =
  zkn O k s1 aa ac af ag ai ah ap am G := by kernel_rfl
theorem ztH (fuel : Nat) (k : KV R) :
  (fun (s1 aa : Int) (ac af : Int) (ag : Bool) (ai ah ap : Int) (am : Bool) (G : GH) => zi fuel (zd Tryz.prog O zCI fuel (nav bd87 [1, 0]) 31 (mkE 38 [(1, iL s1), (2, .loc 0 0), (4, .loc 1 0)]) [[uL aa, uL ac, iL af, .bool ag], [uL ai, uL ah, iL ap, .bool am]] G (ze Tryz.prog O zCI fuel bd87 [1, 0] (rcK Tryz.f87 k)))) = zhV O fuel k := by
  funext s1 aa ac af ag ai ah ap am G
  simp only [zhV, zui, zqx]
theorem zuK (fuel : Nat) (av aw bf : Int) (bh : Bool) (p1 : Int) (G : GH) (k : KV R) :
  zf Tryz.prog O zCI fuel Tryz.f87 [.agg [uL av, uL aw, iL bf, .bool bh], iL p1] G k =
  zqr O k (fun s1 aa ac af ag ai ah ap am G => zi fuel (zd Tryz.prog O zCI fuel (nav bd87 [1, 0]) 31 (mkE 38 [(1, iL s1), (2, .loc 0 0), (4, .loc 1 0)]) [[uL aa, uL ac, iL af, .bool ag], [uL ai, uL ah, iL ap, .bool am]] G (ze Tryz.prog O zCI fuel bd87 [1, 0] (rcK Tryz.f87 k)))) av aw bf bh p1 G := by kernel_rfl
theorem zAL (fuel : Nat) (av aw bf : Int) (bh : Bool) (p1 : Int) (G : GH) (k : KV R) :
  zf Tryz.prog O zCI fuel Tryz.f87 [.agg [uL av, uL aw, iL bf, .bool bh], iL p1] G k =
  zqr O k (zhV O fuel k) av aw bf bh p1 G := by
  rw [zuK, ztH]
theorem zAW {R : Type} (fuel n : Nat) (av aw bf : Int) (bh : Bool) (p1 : Int) (G : GH) (k : KV R) :
  runC Tryz.prog lo0 fuel (n + 1) 87 [.agg [uL av, uL aw, iL bf, .bool bh], iL p1] G k = zf Tryz.prog (runC Tryz.prog lo0 fuel n) zCI fuel Tryz.f87 [.agg [uL av, uL aw, iL bf, .bool bh], iL p1] G k := zh Tryz.func87 rfl rfl
def zie {R : Type} (O : Ora R) (KN : zAu R) (s1 aa : Int) (ac af : Int) (ag : Bool) (ai ah ap : Int) (am : Bool) (G : GH) : Option R :=
  bif ag then
  KN s1 aa ac af true ai ah ap am G
  else
  KN s1 aa ac af (ac != (0 : Int)) ai ah ap am G
def zfN {R : Type} (O : Ora R) (KN : zAu R) : Int → Int → Int → Int → Bool → Int → Int → Int → Bool → GH → Option R := fun s1 aa ac af ag ai ah ap am G => zie O KN s1 aa ac af ag ai ah ap am G
theorem zo3 (fuel : Nat) (s1 aa : Int) (ac af : Int) (ag : Bool) (ai ah ap : Int) (am : Bool) (G : GH) (k : KE R) :
  zd Tryz.prog O zoW fuel (nav bd88 [1, 1, 1, 0, 0, 0, 1, 0, 0]) 27 (mkE 63 [(1, iL s1), (2, .loc 0 0), (4, .loc 1 0)]) [[uL aa, uL ac, iL af, .bool ag], [uL ai, uL ah, iL ap, .bool am]] G k =
  zie O (fun s1 aa ac af ag ai ah ap am G => k .normal (mkE 63 [(1, iL s1), (2, .loc 0 0), (4, .loc 1 0)]) [[uL aa, uL ac, iL af, .bool ag], [uL ai, uL ah, iL ap, .bool am]] G) s1 aa ac af ag ai ah ap am G := by kernel_rfl
theorem zrP (fuel : Nat) (k : KE R) : ∀ (s1 aa : Int) (ac af : Int) (ag : Bool) (ai ah ap : Int) (am : Bool) (G : GH),
  zd Tryz.prog O zoW fuel (nav bd88 [1, 1, 1, 0, 0, 0, 1, 0, 0]) 27 (mkE 63 [(1, iL s1), (2, .loc 0 0), (4, .loc 1 0)]) [[uL aa, uL ac, iL af, .bool ag], [uL ai, uL ah, iL ap, .bool am]] G k = zfN O (fun s1 aa ac af ag ai ah ap am G => k .normal (mkE 63 [(1, iL s1), (2, .loc 0 0), (4, .loc 1 0)]) [[uL aa, uL ac, iL af, .bool ag], [uL ai, uL ah, iL ap, .bool am]] G) s1 aa ac af ag ai ah ap am G := by
  intros
  rw [zo3]
  simp only [zfN]
def zfw {R : Type} (O : Ora R) (Kret : zHN R) (KN K0 L1 : zAu R) (s1 aa : Int) (ac af : Int) (ag : Bool) (ai ah ap : Int) (am : Bool) (G : GH) : Option R :=
  bif (decide (s1 ≥ (64 : Int))) then
  L1 s1 aa ac af ag ai ah ap am G
  else
  K0 s1 aa ac af ag ai ah ap am G
def zex {R : Type} (O : Ora R) (Kret : zHN R) (KN K0 : zAu R) (s1 aa : Int) (ac af : Int) (ag : Bool) (ai ah ap : Int) (am : Bool) (G : GH) : Option R :=
  bif (aa == (0 : Int)) then
  Kret (0 : Int) aa af ag (0 : Int) aa af ag G
  else
  KN (IntKind.wrap .i64 (s1 - (64 : Int))) (0 : Int) aa af ag ai ah ap am G
def zfW {R : Type} (O : Ora R) (fuel : Nat) (Kret : zHN R) (KN K0 : zAu R) : Int → Int → Int → Int → Bool → Int → Int → Int → Bool → GH → Option R := fun s1 aa ac af ag ai ah ap am G =>
  zi fuel (zfN O (zex O Kret KN K0) s1 aa ac af ag ai ah ap am G)
theorem znB (fuel : Nat) (s1 aa : Int) (ac af : Int) (ag : Bool) (ai ah ap : Int) (am : Bool) (G : GH) (k : KE R) :
  ze Tryz.prog O zoW fuel (nav bd88 [1, 1, 1, 0, 0, 0]) [1, 0, 0] (kpD zoW 16 2 k) .normal (mkE 63 [(1, iL s1), (2, .loc 0 0), (4, .loc 1 0)]) [[uL aa, uL ac, iL af, .bool ag], [uL ai, uL ah, iL ap, .bool am]] G =
  zex O (fun aa ac af ag ai ah ap am G => k .ret (mkE 63 [(4, .loc 1 0)]) [[uL aa, uL ac, iL af, .bool ag], [uL ai, uL ah, iL ap, .bool am]] G) (fun s1 aa ac af ag ai ah ap am G => k .normal (mkE 63 [(1, iL s1), (2, .loc 0 0), (4, .loc 1 0)]) [[uL aa, uL ac, iL af, .bool ag], [uL ai, uL ah, iL ap, .bool am]] G) (fun s1 aa ac af ag ai ah ap am G => k (.exit 0) (mkE 63 [(1, iL s1), (2, .loc 0 0), (4, .loc 1 0)]) [[uL aa, uL ac, iL af, .bool ag], [uL ai, uL ah, iL ap, .bool am]] G) s1 aa ac af ag ai ah ap am G := by kernel_rfl
theorem zqN (fuel : Nat) (k : KE R) :
  (fun (s1 aa : Int) (ac af : Int) (ag : Bool) (ai ah ap : Int) (am : Bool) (G : GH) => zi fuel (zd Tryz.prog O zoW fuel (nav bd88 [1, 1, 1, 0, 0, 0, 1, 0, 0]) 27 (mkE 63 [(1, iL s1), (2, .loc 0 0), (4, .loc 1 0)]) [[uL aa, uL ac, iL af, .bool ag], [uL ai, uL ah, iL ap, .bool am]] G (ze Tryz.prog O zoW fuel (nav bd88 [1, 1, 1, 0, 0, 0]) [1, 0, 0] (kpD zoW 16 2 k)))) = zfW O fuel (fun (aa ac af : Int) (ag : Bool) (ai ah ap : Int) (am : Bool) (G : GH) => k .ret (mkE 63 [(4, .loc 1 0)]) [[uL aa, uL ac, iL af, .bool ag], [uL ai, uL ah, iL ap, .bool am]] G) (fun (s1 aa : Int) (ac af : Int) (ag : Bool) (ai ah ap : Int) (am : Bool) (G : GH) => k .normal (mkE 63 [(1, iL s1), (2, .loc 0 0), (4, .loc 1 0)]) [[uL aa, uL ac, iL af, .bool ag], [uL ai, uL ah, iL ap, .bool am]] G) (fun (s1 aa : Int) (ac af : Int) (ag : Bool) (ai ah ap : Int) (am : Bool) (G : GH) => k (.exit 0) (mkE 63 [(1, iL s1), (2, .loc 0 0), (4, .loc 1 0)]) [[uL aa, uL ac, iL af, .bool ag], [uL ai, uL ah, iL ap, .bool am]] G) := by
  funext s1 aa ac af ag ai ah ap am G
  simp only [zfW, zrP, znB]
def zD {R : Type} (O : Ora R) (fuel : Nat) (Kret : zHN R) (K0 : zAu R) : Nat → Int → Int → Int → Int → Bool → Int → Int → Int → Bool → GH → Option R
  | 0, _, _, _, _, _, _, _, _, _, _ => none
  | n + 1, s1, aa, ac, af, ag, ai, ah, ap, am, G => zfw O Kret (zD O fuel Kret K0 n) K0 (zfW O fuel Kret (zD O fuel Kret K0 n) K0) s1 aa ac af ag ai ah ap am G
theorem zpw (fuel : Nat) (s1 aa : Int) (ac af : Int) (ag : Bool) (ai ah ap : Int) (am : Bool) (G : GH) (k : KE R) :
  zd Tryz.prog O zoW fuel (nav bd88 [1, 1, 1, 0, 0, 0]) 16 (mkE 63 [(1, iL s1), (2, .loc 0 0), (4, .loc 1 0)]) [[uL aa, uL ac, iL af, .bool ag], [uL ai, uL ah, iL ap, .bool am]] G k =
  zfw O (fun aa ac af ag ai ah ap am G => k .ret (mkE 63 [(4, .loc 1 0)]) [[uL aa, uL ac, iL af, .bool ag], [uL ai, uL ah, iL ap, .bool am]] G) (fun s1 aa ac af ag ai ah ap am G => k .normal (mkE 63 [(1, iL s1), (2, .loc 0 0), (4, .loc 1 0)]) [[uL aa, uL ac, iL af, .bool ag], [uL ai, uL ah, iL ap, .bool am]] G) (fun s1 aa ac af ag ai ah ap am G => k (.exit 0) (mkE 63 [(1, iL s1), (2, .loc 0 0), (4, .loc 1 0)]) [[uL aa, uL ac, iL af, .bool ag], [uL ai, uL ah, iL ap, .bool am]] G) (fun s1 aa ac af ag ai ah ap am G => zi fuel (zd Tryz.prog O zoW fuel (nav bd88 [1, 1, 1, 0, 0, 0, 1, 0, 0]) 27 (mkE 63 [(1, iL s1), (2, .loc 0 0), (4, .loc 1 0)]) [[uL aa, uL ac, iL af, .bool ag], [uL ai, uL ah, iL ap, .bool am]] G (ze Tryz.prog O zoW fuel (nav bd88 [1, 1, 1, 0, 0, 0]) [1, 0, 0] (kpD zoW 16 2 k)))) s1 aa ac af ag ai ah ap am G := by kernel_rfl
theorem zrA (fuel : Nat) (k : KE R) : ∀ (n : Nat) (s1 aa : Int) (ac af : Int) (ag : Bool) (ai ah ap : Int) (am : Bool) (G : GH),
  zJ (zd Tryz.prog O zoW fuel (nav bd88 [1, 1, 1, 0, 0, 0]) 16) n (mkE 63 [(1, iL s1), (2, .loc 0 0), (4, .loc 1 0)]) [[uL aa, uL ac, iL af, .bool ag], [uL ai, uL ah, iL ap, .bool am]] G k = zD O fuel (fun aa ac af ag ai ah ap am G => k .ret (mkE 63 [(4, .loc 1 0)]) [[uL aa, uL ac, iL af, .bool ag], [uL ai, uL ah, iL ap, .bool am]] G) (fun s1 aa ac af ag ai ah ap am G => k (.exit 0) (mkE 63 [(1, iL s1), (2, .loc 0 0), (4, .loc 1 0)]) [[uL aa, uL ac, iL af, .bool ag], [uL ai, uL ah, iL ap, .bool am]] G) n s1 aa ac af ag ai ah ap am G := by
  intro n
  induction n with
  | zero => intros; first | rfl | simp only [zJ, zD]
  | succ n ih =>
    intros
    rw [zaU, zpw]
    simp only [zD, zah, zaS, zbI, ih, zqN]
def ziK {R : Type} (O : Ora R) (KN : zAu R) (s1 aa : Int) (ac af : Int) (ag : Bool) (ai ah ap : Int) (am : Bool) (G : GH) : Option R :=
  bif ag then
  KN s1 aa ac af true ai ah ap am G
  else
  bif decide ((IntKind.wrap .i64 ((64 : Int) - s1)) < 0) then none else
  KN s1 aa ac af ((zvg .u64 ac (IntKind.wrap .i64 ((64 : Int) - s1))) != (0 : Int)) ai ah ap am G
def zfL {R : Type} (O : Ora R) (KN : zAu R) : Int → Int → Int → Int → Bool → Int → Int → Int → Bool → GH → Option R := fun s1 aa ac af ag ai ah ap am G => ziK O KN s1 aa ac af ag ai ah ap am G
theorem zo0 (fuel : Nat) (s1 aa : Int) (ac af : Int) (ag : Bool) (ai ah ap : Int) (am : Bool) (G : GH) (k : KE R) :
  zd Tryz.prog O zoW fuel (nav bd88 [1, 1, 1, 1, 0, 1, 0, 0]) 55 (mkE 63 [(1, iL s1), (2, .loc 0 0), (4, .loc 1 0)]) [[uL aa, uL ac, iL af, .bool ag], [uL ai, uL ah, iL ap, .bool am]] G k =
  ziK O (fun s1 aa ac af ag ai ah ap am G => k .normal (mkE 63 [(1, iL s1), (2, .loc 0 0), (4, .loc 1 0)]) [[uL aa, uL ac, iL af, .bool ag], [uL ai, uL ah, iL ap, .bool am]] G) s1 aa ac af ag ai ah ap am G := by kernel_rfl
theorem zrT (fuel : Nat) (k : KE R) : ∀ (s1 aa : Int) (ac af : Int) (ag : Bool) (ai ah ap : Int) (am : Bool) (G : GH),
  zd Tryz.prog O zoW fuel (nav bd88 [1, 1, 1, 1, 0, 1, 0, 0]) 55 (mkE 63 [(1, iL s1), (2, .loc 0 0), (4, .loc 1 0)]) [[uL aa, uL ac, iL af, .bool ag], [uL ai, uL ah, iL ap, .bool am]] G k = zfL O (fun s1 aa ac af ag ai ah ap am G => k .normal (mkE 63 [(1, iL s1), (2, .loc 0 0), (4, .loc 1 0)]) [[uL aa, uL ac, iL af, .bool ag], [uL ai, uL ah, iL ap, .bool am]] G) s1 aa ac af ag ai ah ap am G := by
  intros
  rw [zo0]
  simp only [zfL]
def zh0 {R : Type} (O : Ora R) (k : KV R) (L0 : zAu R) (av aw bf : Int) (bh : Bool) (p1 : Int) (G : GH) : Option R :=
  bif (decide (p1 ≤ (0 : Int))) then
  k (.agg [uL av, uL aw, iL bf, .bool bh]) G
  else
  L0 p1 av aw (IntKind.wrap .i64 (bf + p1)) bh (0 : Int) (0 : Int) (0 : Int) false G
def zaK {R : Type} (O : Ora R) (k : KV R) (aa ac af : Int) (ag : Bool) (ai ah ap : Int) (am : Bool) (G : GH) : Option R :=
  k (.agg [uL ai, uL ah, iL ap, .bool am]) G
def zap {R : Type} (O : Ora R) (k : KV R) (L2 : zAu R) (s1 aa : Int) (ac af : Int) (ag : Bool) (ai ah ap : Int) (am : Bool) (G : GH) : Option R :=
  bif (decide (s1 > (0 : Int))) then
  L2 s1 aa ac af ag ai ah ap am G
  else
  k (.agg [uL aa, uL ac, iL af, .bool ag]) G
def zhD {R : Type} (O : Ora R) (k : KV R) (s1 aa : Int) (ac af : Int) (ag : Bool) (ai ah ap : Int) (am : Bool) (G : GH) : Option R :=
  bif decide (s1 < 0) then none else
  bif decide ((IntKind.wrap .i64 ((64 : Int) - s1)) < 0) then none else
  bif decide (s1 < 0) then none else
  k (.agg [uL (zeg .u64 aa s1), uL (orI .u64 (zeg .u64 ac s1) (zvg .u64 aa (IntKind.wrap .i64 ((64 : Int) - s1)))), iL af, .bool ag]) G
def zan {R : Type} (O : Ora R) (fuel : Nat) (k : KV R) : Int → Int → Int → Int → Bool → Int → Int → Int → Bool → GH → Option R := fun s1 aa ac af ag ai ah ap am G =>
  zi fuel (zfL O (zhD O k) s1 aa ac af ag ai ah ap am G)
theorem znS (fuel : Nat) (s1 aa : Int) (ac af : Int) (ag : Bool) (ai ah ap : Int) (am : Bool) (G : GH) (k : KV R) :
  ze Tryz.prog O zoW fuel bd88 [1, 1, 1, 1, 0, 1, 0, 0] (rcK Tryz.f88 k) .normal (mkE 63 [(1, iL s1), (2, .loc 0 0), (4, .loc 1 0)]) [[uL aa, uL ac, iL af, .bool ag], [uL ai, uL ah, iL ap, .bool am]] G =
  zhD O k s1 aa ac af ag ai ah ap am G := by kernel_rfl
theorem zqC (fuel : Nat) (k : KV R) :
  (fun (s1 aa : Int) (ac af : Int) (ag : Bool) (ai ah ap : Int) (am : Bool) (G : GH) => zi fuel (zd Tryz.prog O zoW fuel (nav bd88 [1, 1, 1, 1, 0, 1, 0, 0]) 55 (mkE 63 [(1, iL s1), (2, .loc 0 0), (4, .loc 1 0)]) [[uL aa, uL ac, iL af, .bool ag], [uL ai, uL ah, iL ap, .bool am]] G (ze Tryz.prog O zoW fuel bd88 [1, 1, 1, 1, 0, 1, 0, 0] (rcK Tryz.f88 k)))) = zan O fuel k := by
  funext s1 aa ac af ag ai ah ap am G
  simp only [zan, zrT, znS]
def zdf {R : Type} (O : Ora R) (fuel : Nat) (k : KV R) : Int → Int → Int → Int → Bool → Int → Int → Int → Bool → GH → Option R := fun s1 aa ac af ag ai ah ap am G =>
  zD O fuel (zaK O k) (zap O k (zan O fuel k)) fuel s1 aa ac af ag ai ah ap am G
theorem zlm (fuel : Nat) (aa ac af : Int) (ag : Bool) (ai ah ap : Int) (am : Bool) (G : GH) (k : KV R) :
  ze Tryz.prog O zoW fuel bd88 [1, 1, 1, 0, 0] (rcK Tryz.f88 k) .ret (mkE 63 [(4, .loc 1 0)]) [[uL aa, uL ac, iL af, .bool ag], [uL ai, uL ah, iL ap, .bool am]] G =
  zaK O k aa ac af ag ai ah ap am G := by kernel_rfl
theorem znz (fuel : Nat) (s1 aa : Int) (ac af : Int) (ag : Bool) (ai ah ap : Int) (am : Bool) (G : GH) (k : KV R) :
  ze Tryz.prog O zoW fuel bd88 [1, 1, 1, 0, 0] (rcK Tryz.f88 k) (.exit 0) (mkE 63 [(1, iL s1), (2, .loc 0 0), (4, .loc 1 0)]) [[uL aa, uL ac, iL af, .bool ag], [uL ai, uL ah, iL ap, .bool am]] G =
  zap O k (fun s1 aa ac af ag ai ah ap am G => zi fuel (zd Tryz.prog O zoW fuel (nav bd88 [1, 1, 1, 1, 0, 1, 0, 0]) 55 (mkE 63 [(1, iL s1), (2, .loc 0 0), (4, .loc 1 0)]) [[uL aa, uL ac, iL af, .bool ag], [uL ai, uL ah, iL ap, .bool am]] G (ze Tryz.prog O zoW fuel bd88 [1, 1, 1, 1, 0, 1, 0, 0] (rcK Tryz.f88 k)))) s1 aa ac af ag ai ah ap am G := by kernel_rfl
theorem zqU (fuel : Nat) (k : KV R) :
  (fun (s1 aa : Int) (ac af : Int) (ag : Bool) (ai ah ap : Int) (am : Bool) (G : GH) => zJ (zd Tryz.prog O zoW fuel (nav bd88 [1, 1, 1, 0, 0, 0]) 16) fuel (mkE 63 [(1, iL s1), (2, .loc 0 0), (4, .loc 1 0)]) [[uL aa, uL ac, iL af, .bool ag], [uL ai, uL ah, iL ap, .bool am]] G (ze Tryz.prog O zoW fuel bd88 [1, 1, 1, 0, 0] (rcK Tryz.f88 k))) = zdf O fuel k := by
  funext s1 aa ac af ag ai ah ap am G
  simp only [zdf, zrA, zlm, znz, zqC]
theorem zsV (fuel : Nat) (av aw bf : Int) (bh : Bool) (p1 : Int) (G : GH) (k : KV R) :
  zf Tryz.prog O zoW fuel Tryz.f88 [.agg [uL av, uL aw, iL bf, .bool bh], iL p1] G k =
  zh0 O k (fun s1 aa ac af ag ai ah ap am G => zJ (zd Tryz.prog O zoW fuel (nav bd88 [1, 1, 1, 0, 0, 0]) 16) fuel (mkE 63 [(1, iL s1), (2, .loc 0 0), (4, .loc 1 0)]) [[uL aa, uL ac, iL af, .bool ag], [uL ai, uL ah, iL ap, .bool am]] G (ze Tryz.prog O zoW fuel bd88 [1, 1, 1, 0, 0] (rcK Tryz.f88 k))) av aw bf bh p1 G := by kernel_rfl
theorem zxg (fuel : Nat) (av aw bf : Int) (bh : Bool) (p1 : Int) (G : GH) (k : KV R) :
  zf Tryz.prog O zoW fuel Tryz.f88 [.agg [uL av, uL aw, iL bf, .bool bh], iL p1] G k =
  zh0 O k (zdf O fuel k) av aw bf bh p1 G := by
  rw [zsV, zqU]
theorem zw5 {R : Type} (fuel n : Nat) (av aw bf : Int) (bh : Bool) (p1 : Int) (G : GH) (k : KV R) :
  runC Tryz.prog lo0 fuel (n + 1) 88 [.agg [uL av, uL aw, iL bf, .bool bh], iL p1] G k = zf Tryz.prog (runC Tryz.prog lo0 fuel n) zoW fuel Tryz.f88 [.agg [uL av, uL aw, iL bf, .bool bh], iL p1] G k := zh Tryz.func88 rfl rfl
theorem zwj (fuel : Nat) (p0 : Int) (G : GH) (k : KV R) :
  zf Tryz.prog O [777777] fuel Tryz.f101 [iL p0] G k =
  bif (decide (p0 ≥ ((-1022 : Int)))) then
  O zx [uL (zvg .u64 (IntKind.wrap .u64 (IntKind.wrap .i64 (p0 + (1023 : Int)))) (52 : Int))] G fun v1 G2 =>
  (zc .f64 v1).bind fun x3 =>
  k (fL x3) G2
  else
  bif decide ((IntKind.wrap .i64 (p0 + (1074 : Int))) < 0) then none else
  O zx [uL (zvg .u64 (1 : Int) (IntKind.wrap .i64 (p0 + (1074 : Int))))] G fun v4 G5 =>
  (zc .f64 v4).bind fun x6 =>
  k (fL x6) G5 := by kernel_rfl
theorem zvV {R : Type} (fuel n : Nat) (p0 : Int) (G : GH) (k : KV R) :
  runC Tryz.prog lo0 fuel (n + 1) 101 [iL p0] G k = zf Tryz.prog (runC Tryz.prog lo0 fuel n) [777777] fuel Tryz.f101 [iL p0] G k := zh Tryz.func101 rfl rfl
def ziC {R : Type} (O : Ora R) (KN : zE8 R) (s1 : Bool) (s5 aa : Int) (ac af : Int) (ag : Bool) (G : GH) : Option R :=
  bif (decide ((IntKind.wrap .i64 (((-1074 : Int)) - af)) > s5)) then
  KN s1 (IntKind.wrap .i64 (((-1074 : Int)) - af)) aa ac af ag G
  else
  KN s1 s5 aa ac af ag G
def zfn {R : Type} (O : Ora R) (KN : zE8 R) : Bool → Int → Int → Int → Int → Bool → GH → Option R := fun s1 s5 aa ac af ag G => ziC O KN s1 s5 aa ac af ag G
theorem zo6 (fuel : Nat) (s1 : Bool) (s5 aa : Int) (ac af : Int) (ag : Bool) (G : GH) (k : KE R) :
  zd Tryz.prog O zgF fuel (nav bd92 [1, 1, 0]) 19 (mkE 83 [(1, .bool s1), (2, .loc 0 0), (5, iL s5)]) [[uL aa, uL ac, iL af, .bool ag]] G k =
  ziC O (fun s1 s5 aa ac af ag G => k .normal (mkE 83 [(1, .bool s1), (2, .loc 0 0), (5, iL s5)]) [[uL aa, uL ac, iL af, .bool ag]] G) s1 s5 aa ac af ag G := by kernel_rfl
theorem zq3 (fuel : Nat) (k : KE R) : ∀ (s1 : Bool) (s5 aa : Int) (ac af : Int) (ag : Bool) (G : GH),
  zd Tryz.prog O zgF fuel (nav bd92 [1, 1, 0]) 19 (mkE 83 [(1, .bool s1), (2, .loc 0 0), (5, iL s5)]) [[uL aa, uL ac, iL af, .bool ag]] G k = zfn O (fun s1 s5 aa ac af ag G => k .normal (mkE 83 [(1, .bool s1), (2, .loc 0 0), (5, iL s5)]) [[uL aa, uL ac, iL af, .bool ag]] G) s1 s5 aa ac af ag G := by
  intros
  rw [zo6]
  simp only [zfn]
def ziP {R : Type} (O : Ora R) (KN : tY8 R) (s1 : Bool) (s6 aa : Int) (ac af : Int) (ag : Bool) (G : GH) : Option R :=
  bif ag then
  KN s1 s6 s1 aa ac af ag G
  else
  KN s1 s6 false aa ac af ag G
def zfF {R : Type} (O : Ora R) (KN : tY8 R) : Bool → Int → Int → Int → Int → Bool → GH → Option R := fun s1 s6 aa ac af ag G => ziP O KN s1 s6 aa ac af ag G
theorem zpx (fuel : Nat) (s1 : Bool) (s6 aa : Int) (ac af : Int) (ag : Bool) (G : GH) (k : KE R) :
  zd Tryz.prog O zgF fuel (nav bd92 [1, 1, 1, 1, 1, 0, 0]) 31 (mkE 83 [(1, .bool s1), (2, .loc 0 0), (6, uL s6)]) [[uL aa, uL ac, iL af, .bool ag]] G k =
  ziP O (fun s1 s6 gy aa ac af ag G => k .normal (mkE 83 [(1, .bool s1), (2, .loc 0 0), (6, uL s6), (28, .bool gy)]) [[uL aa, uL ac, iL af, .bool ag]] G) s1 s6 aa ac af ag G := by kernel_rfl
theorem zru (fuel : Nat) (k : KE R) : ∀ (s1 : Bool) (s6 aa : Int) (ac af : Int) (ag : Bool) (G : GH),
  zd Tryz.prog O zgF fuel (nav bd92 [1, 1, 1, 1, 1, 0, 0]) 31 (mkE 83 [(1, .bool s1), (2, .loc 0 0), (6, uL s6)]) [[uL aa, uL ac, iL af, .bool ag]] G k = zfF O (fun s1 s6 gy aa ac af ag G => k .normal (mkE 83 [(1, .bool s1), (2, .loc 0 0), (6, uL s6), (28, .bool gy)]) [[uL aa, uL ac, iL af, .bool ag]] G) s1 s6 aa ac af ag G := by
  intros
  rw [zpx]
  simp only [zfF]
def ziq {R : Type} (O : Ora R) (KN L2 : zE8 R) (s1 : Bool) (s6 aa : Int) (ac af : Int) (ag : Bool) (G : GH) : Option R :=
  L2 s1 s6 aa ac af ag G
def zd7 {R : Type} (O : Ora R) (KN : zE8 R) (s1 : Bool) (s6 : Int) (gy : Bool) (aa ac af : Int) (ag : Bool) (G : GH) : Option R :=
  bif gy then
  KN s1 (IntKind.wrap .u64 (s6 + (1 : Int))) aa ac af ag G
  else
  KN s1 s6 aa ac af ag G
def zfq {R : Type} (O : Ora R) (fuel : Nat) (KN : zE8 R) : Bool → Int → Int → Int → Int → Bool → GH → Option R := fun s1 s6 aa ac af ag G =>
  zi fuel (zfF O (zd7 O KN) s1 s6 aa ac af ag G)
theorem zn2 (fuel : Nat) (s1 : Bool) (s6 : Int) (gy : Bool) (aa ac af : Int) (ag : Bool) (G : GH) (k : KE R) :
  ze Tryz.prog O zgF fuel (nav bd92 [1, 1, 1, 1, 1, 0]) [0] (kpD zgF 35 1 k) .normal (mkE 83 [(1, .bool s1), (2, .loc 0 0), (6, uL s6), (28, .bool gy)]) [[uL aa, uL ac, iL af, .bool ag]] G =
  zd7 O (fun s1 s6 aa ac af ag G => k .normal (mkE 83 [(1, .bool s1), (2, .loc 0 0), (6, uL s6)]) [[uL aa, uL ac, iL af, .bool ag]] G) s1 s6 gy aa ac af ag G := by kernel_rfl
theorem zqG (fuel : Nat) (k : KE R) :
  (fun (s1 : Bool) (s6 aa : Int) (ac af : Int) (ag : Bool) (G : GH) => zi fuel (zd Tryz.prog O zgF fuel (nav bd92 [1, 1, 1, 1, 1, 0, 0]) 31 (mkE 83 [(1, .bool s1), (2, .loc 0 0), (6, uL s6)]) [[uL aa, uL ac, iL af, .bool ag]] G (ze Tryz.prog O zgF fuel (nav bd92 [1, 1, 1, 1, 1, 0]) [0] (kpD zgF 35 1 k)))) = zfq O fuel (fun (s1 : Bool) (s6 aa : Int) (ac af : Int) (ag : Bool) (G : GH) => k .normal (mkE 83 [(1, .bool s1), (2, .loc 0 0), (6, uL s6)]) [[uL aa, uL ac, iL af, .bool ag]] G) := by
  funext s1 s6 aa ac af ag G
  simp only [zfq, zru, zn2]
def zfc {R : Type} (O : Ora R) (fuel : Nat) (KN : zE8 R) : Bool → Int → Int → Int → Int → Bool → GH → Option R := fun s1 s6 aa ac af ag G => ziq O KN (zfq O fuel KN) s1 s6 aa ac af ag G
theorem zpY (fuel : Nat) (s1 : Bool) (s6 aa : Int) (ac af : Int) (ag : Bool) (G : GH) (k : KE R) :
  zd Tryz.prog O zgF fuel (nav bd92 [1, 1, 1, 1, 1, 0]) 35 (mkE 83 [(1, .bool s1), (2, .loc 0 0), (6, uL s6)]) [[uL aa, uL ac, iL af, .bool ag]] G k =
  ziq O (fun s1 s6 aa ac af ag G => k .normal (mkE 83 [(1, .bool s1), (2, .loc 0 0), (6, uL s6)]) [[uL aa, uL ac, iL af, .bool ag]] G) (fun s1 s6 aa ac af ag G => zi fuel (zd Tryz.prog O zgF fuel (nav bd92 [1, 1, 1, 1, 1, 0, 0]) 31 (mkE 83 [(1, .bool s1), (2, .loc 0 0), (6, uL s6)]) [[uL aa, uL ac, iL af, .bool ag]] G (ze Tryz.prog O zgF fuel (nav bd92 [1, 1, 1, 1, 1, 0]) [0] (kpD zgF 35 1 k)))) s1 s6 aa ac af ag G := by kernel_rfl
theorem zrF (fuel : Nat) (k : KE R) : ∀ (s1 : Bool) (s6 aa : Int) (ac af : Int) (ag : Bool) (G : GH),
  zd Tryz.prog O zgF fuel (nav bd92 [1, 1, 1, 1, 1, 0]) 35 (mkE 83 [(1, .bool s1), (2, .loc 0 0), (6, uL s6)]) [[uL aa, uL ac, iL af, .bool ag]] G k = zfc O fuel (fun s1 s6 aa ac af ag G => k .normal (mkE 83 [(1, .bool s1), (2, .loc 0 0), (6, uL s6)]) [[uL aa, uL ac, iL af, .bool ag]] G) s1 s6 aa ac af ag G := by
  intros
  rw [zpY]
  simp only [zfc, zqG]
def zif {R : Type} (O : Ora R) (KN : zIT R) (s6 aa : Int) (ac af : Int) (ag : Bool) (G : GH) : Option R :=
  bif (decide (af ≥ ((-1074 : Int)))) then
  KN s6 (decide (af ≤ (971 : Int))) aa ac af ag G
  else
  KN s6 false aa ac af ag G
def zfo {R : Type} (O : Ora R) (KN : zIT R) : Int → Int → Int → Int → Bool → GH → Option R := fun s6 aa ac af ag G => zif O KN s6 aa ac af ag G
theorem zpG (fuel : Nat) (s6 aa : Int) (ac af : Int) (ag : Bool) (G : GH) (k : KE R) :
  zd Tryz.prog O zgF fuel (nav bd92 [1, 1, 1, 1, 1, 1, 1, 1, 1, 0, 0]) 67 (mkE 83 [(2, .loc 0 0), (6, uL s6)]) [[uL aa, uL ac, iL af, .bool ag]] G k =
  zif O (fun s6 gz aa ac af ag G => k .normal (mkE 83 [(2, .loc 0 0), (6, uL s6), (52, .bool gz)]) [[uL aa, uL ac, iL af, .bool ag]] G) s6 aa ac af ag G := by kernel_rfl
theorem zqB (fuel : Nat) (k : KE R) : ∀ (s6 aa : Int) (ac af : Int) (ag : Bool) (G : GH),
  zd Tryz.prog O zgF fuel (nav bd92 [1, 1, 1, 1, 1, 1, 1, 1, 1, 0, 0]) 67 (mkE 83 [(2, .loc 0 0), (6, uL s6)]) [[uL aa, uL ac, iL af, .bool ag]] G k = zfo O (fun s6 gz aa ac af ag G => k .normal (mkE 83 [(2, .loc 0 0), (6, uL s6), (52, .bool gz)]) [[uL aa, uL ac, iL af, .bool ag]] G) s6 aa ac af ag G := by
  intros
  rw [zpG]
  simp only [zfo]
def zfi {R : Type} (O : Ora R) (KN K0 : tY3 R) (s6 aa : Int) (ac af : Int) (ag : Bool) (G : GH) : Option R :=
  bif (decide (af > (971 : Int))) then
  KN (zvg .u64 s6 (1 : Int)) aa ac (IntKind.wrap .i64 (af - (1 : Int))) ag G
  else
  K0 s6 aa ac af ag G
def zaG {R : Type} (O : Ora R) (K0 : tY3 R) : Nat → Int → Int → Int → Int → Bool → GH → Option R
  | 0, _, _, _, _, _, _ => none
  | n + 1, s6, aa, ac, af, ag, G => zfi O (zaG O K0 n) K0 s6 aa ac af ag G
theorem zo7 (fuel : Nat) (s6 aa : Int) (ac af : Int) (ag : Bool) (G : GH) (k : KE R) :
  zd Tryz.prog O zgF fuel (nav bd92 [1, 1, 1, 1, 1, 1, 1, 1, 1, 1, 0, 0, 0]) 68 (mkE 83 [(2, .loc 0 0), (6, uL s6)]) [[uL aa, uL ac, iL af, .bool ag]] G k =
  zfi O (fun s6 aa ac af ag G => k .normal (mkE 83 [(2, .loc 0 0), (6, uL s6)]) [[uL aa, uL ac, iL af, .bool ag]] G) (fun s6 aa ac af ag G => k (.exit 0) (mkE 83 [(2, .loc 0 0), (6, uL s6)]) [[uL aa, uL ac, iL af, .bool ag]] G) s6 aa ac af ag G := by kernel_rfl
theorem zrG (fuel : Nat) (k : KE R) : ∀ (n : Nat) (s6 aa : Int) (ac af : Int) (ag : Bool) (G : GH),
  zJ (zd Tryz.prog O zgF fuel (nav bd92 [1, 1, 1, 1, 1, 1, 1, 1, 1, 1, 0, 0, 0]) 68) n (mkE 83 [(2, .loc 0 0), (6, uL s6)]) [[uL aa, uL ac, iL af, .bool ag]] G k = zaG O (fun s6 aa ac af ag G => k (.exit 0) (mkE 83 [(2, .loc 0 0), (6, uL s6)]) [[uL aa, uL ac, iL af, .bool ag]] G) n s6 aa ac af ag G := by
  intro n
  induction n with
  | zero => intros; first | rfl | simp only [zJ, zaG]
  | succ n ih =>
    intros
    rw [zaU, zo7]
    simp only [zaG, zah, zaS, zbI, ih]
def ziL {R : Type} (O : Ora R) (KN K2 : tY3 R) (s6 aa : Int) (ac af : Int) (ag : Bool) (G : GH) : Option R :=
  bif (decide (af < ((-1074 : Int)))) then
  KN (zeg .u64 s6 (1 : Int)) aa ac (IntKind.wrap .i64 (af + (1 : Int))) ag G
  else
  K2 s6 aa ac af ag G
def zbf {R : Type} (O : Ora R) (K2 : tY3 R) : Nat → Int → Int → Int → Int → Bool → GH → Option R
  | 0, _, _, _, _, _, _ => none
  | n + 1, s6, aa, ac, af, ag, G => ziL O (zbf O K2 n) K2 s6 aa ac af ag G
theorem zpL (fuel : Nat) (s6 aa : Int) (ac af : Int) (ag : Bool) (G : GH) (k : KE R) :
  zd Tryz.prog O zgF fuel (nav bd92 [1, 1, 1, 1, 1, 1, 1, 1, 1, 1, 1, 0, 0, 0]) 80 (mkE 83 [(2, .loc 0 0), (6, uL s6)]) [[uL aa, uL ac, iL af, .bool ag]] G k =
  ziL O (fun s6 aa ac af ag G => k .normal (mkE 83 [(2, .loc 0 0), (6, uL s6)]) [[uL aa, uL ac, iL af, .bool ag]] G) (fun s6 aa ac af ag G => k (.exit 2) (mkE 83 [(2, .loc 0 0), (6, uL s6)]) [[uL aa, uL ac, iL af, .bool ag]] G) s6 aa ac af ag G := by kernel_rfl
theorem zrr (fuel : Nat) (k : KE R) : ∀ (n : Nat) (s6 aa : Int) (ac af : Int) (ag : Bool) (G : GH),
  zJ (zd Tryz.prog O zgF fuel (nav bd92 [1, 1, 1, 1, 1, 1, 1, 1, 1, 1, 1, 0, 0, 0]) 80) n (mkE 83 [(2, .loc 0 0), (6, uL s6)]) [[uL aa, uL ac, iL af, .bool ag]] G k = zbf O (fun s6 aa ac af ag G => k (.exit 2) (mkE 83 [(2, .loc 0 0), (6, uL s6)]) [[uL aa, uL ac, iL af, .bool ag]] G) n s6 aa ac af ag G := by
  intro n
  induction n with
  | zero => intros; first | rfl | simp only [zJ, zbf]
  | succ n ih =>
    intros
    rw [zaU, zpL]
    simp only [zbf, zah, zaS, zbI, ih]
def zh6 {R : Type} (O : Ora R) (k : KV R) (L0 : zE8 R) (av aw bf : Int) (bh p1 : Bool) (G : GH) : Option R :=
  O zK [.agg [uL av, uL aw, iL bf, .bool bh]] G fun v1 G2 =>
  (zk .i64 v1).bind fun x3 =>
  L0 p1 (IntKind.wrap .i64 (x3 - (53 : Int))) av aw bf bh G2
def zeH {R : Type} (O : Ora R) (k : KV R) (L1 : zE8 R) (s1 : Bool) (s5 aa : Int) (ac af : Int) (ag : Bool) (G : GH) : Option R :=
  O zcK [.agg [uL aa, uL ac, iL af, .bool ag], iL s5] G fun v1 G2 =>
  (zr 4 v1).bind fun c3 =>
  (zk .u64 (c3.getD 0 za)).bind fun x4 =>
  (zk .u64 (c3.getD 1 za)).bind fun x5 =>
  (zk .i64 (c3.getD 2 za)).bind fun x6 =>
  (zl (c3.getD 3 za)).bind fun x7 =>
  L1 s1 x5 x4 x5 x6 x7 G2
def zcc {R : Type} (O : Ora R) (k : KV R) (L3 : tY3 R) (s1 : Bool) (s6 aa : Int) (ac af : Int) (ag : Bool) (G : GH) : Option R :=
  bif (s6 == (0 : Int)) then
  k (fL (0 : Nat)) G
  else
  O zK [.agg [uL (0 : Int), uL s6, iL (0 : Int), .bool false]] (zj G) fun v1 _ =>
  (zk .i64 v1).bind fun x2 =>
  bif (decide ((IntKind.wrap .i64 ((IntKind.wrap .i64 (x2 - (1 : Int))) + af)) > (1023 : Int))) then
  bif s1 then
  O zaf [] G fun v3 G4 =>
  (zc .f64 v3).bind fun x5 =>
  k (fL x5) G4
  else
  O zp8 [] G fun v6 G7 =>
  (zc .f64 v6).bind fun x8 =>
  k (fL x8) G7
  else
  L3 s6 aa ac af ag G
def zhx {R : Type} (O : Ora R) (k : KV R) (L4 : tY3 R) (s6 : Int) (gz : Bool) (aa ac af : Int) (ag : Bool) (G : GH) : Option R :=
  bif gz then
  O zic [iL af] G fun v1 G2 =>
  (zc .f64 v1).bind fun x3 =>
  ((FloatKind.format .f64).mul (FloatKind.nearest .f64 s6) x3).bind fun r4 =>
  k (fL r4) G2
  else
  L4 s6 aa ac af ag G
def zhi {R : Type} (O : Ora R) (k : KV R) (L5 : tY3 R) (s6 aa : Int) (ac af : Int) (ag : Bool) (G : GH) : Option R :=
  L5 s6 aa ac af ag G
def zcs {R : Type} (O : Ora R) (k : KV R) (s6 aa : Int) (ac af : Int) (ag : Bool) (G : GH) : Option R :=
  O zic [iL af] G fun v1 G2 =>
  (zc .f64 v1).bind fun x3 =>
  ((FloatKind.format .f64).mul (FloatKind.nearest .f64 s6) x3).bind fun r4 =>
  k (fL r4) G2
def zfR {R : Type} (O : Ora R) (fuel : Nat) (k : KV R) : Int → Int → Int → Int → Bool → GH → Option R := fun s6 aa ac af ag G =>
  zbf O (zcs O k) fuel s6 aa ac af ag G
theorem zoq (fuel : Nat) (s6 aa : Int) (ac af : Int) (ag : Bool) (G : GH) (k : KV R) :
  ze Tryz.prog O zgF fuel bd92 [1, 1, 1, 1, 1, 1, 1, 1, 1, 1, 1, 0, 0] (rcK Tryz.f92 k) (.exit 2) (mkE 83 [(2, .loc 0 0), (6, uL s6)]) [[uL aa, uL ac, iL af, .bool ag]] G =
  zcs O k s6 aa ac af ag G := by kernel_rfl
theorem zq6 (fuel : Nat) (k : KV R) :
  (fun (s6 aa : Int) (ac af : Int) (ag : Bool) (G : GH) => zJ (zd Tryz.prog O zgF fuel (nav bd92 [1, 1, 1, 1, 1, 1, 1, 1, 1, 1, 1, 0, 0, 0]) 80) fuel (mkE 83 [(2, .loc 0 0), (6, uL s6)]) [[uL aa, uL ac, iL af, .bool ag]] G (ze Tryz.prog O zgF fuel bd92 [1, 1, 1, 1, 1, 1, 1, 1, 1, 1, 1, 0, 0] (rcK Tryz.f92 k))) = zfR O fuel k := by
  funext s6 aa ac af ag G
  simp only [zfR, zrr, zoq]
def zfV {R : Type} (O : Ora R) (fuel : Nat) (k : KV R) : Int → Int → Int → Int → Bool → GH → Option R := fun s6 aa ac af ag G =>
  zaG O (zhi O k (zfR O fuel k)) fuel s6 aa ac af ag G
theorem zoj (fuel : Nat) (s6 aa : Int) (ac af : Int) (ag : Bool) (G : GH) (k : KV R) :
  ze Tryz.prog O zgF fuel bd92 [1, 1, 1, 1, 1, 1, 1, 1, 1, 1, 0, 0] (rcK Tryz.f92 k) (.exit 0) (mkE 83 [(2, .loc 0 0), (6, uL s6)]) [[uL aa, uL ac, iL af, .bool ag]] G =
  zhi O k (fun s6 aa ac af ag G => zJ (zd Tryz.prog O zgF fuel (nav bd92 [1, 1, 1, 1, 1, 1, 1, 1, 1, 1, 1, 0, 0, 0]) 80) fuel (mkE 83 [(2, .loc 0 0), (6, uL s6)]) [[uL aa, uL ac, iL af, .bool ag]] G (ze Tryz.prog O zgF fuel bd92 [1, 1, 1, 1, 1, 1, 1, 1, 1, 1, 1, 0, 0] (rcK Tryz.f92 k))) s6 aa ac af ag G := by kernel_rfl
theorem zrR (fuel : Nat) (k : KV R) :
  (fun (s6 aa : Int) (ac af : Int) (ag : Bool) (G : GH) => zJ (zd Tryz.prog O zgF fuel (nav bd92 [1, 1, 1, 1, 1, 1, 1, 1, 1, 1, 0, 0, 0]) 68) fuel (mkE 83 [(2, .loc 0 0), (6, uL s6)]) [[uL aa, uL ac, iL af, .bool ag]] G (ze Tryz.prog O zgF fuel bd92 [1, 1, 1, 1, 1, 1, 1, 1, 1, 1, 0, 0] (rcK Tryz.f92 k))) = zfV O fuel k := by
  funext s6 aa ac af ag G
  simp only [zfV, zrG, zoj, zq6]
def zbQ {R : Type} (O : Ora R) (fuel : Nat) (k : KV R) : Int → Int → Int → Int → Bool → GH → Option R := fun s6 aa ac af ag G =>
  zi fuel (zfo O (zhx O k (zfV O fuel k)) s6 aa ac af ag G)
theorem zn0 (fuel : Nat) (s6 : Int) (gz : Bool) (aa ac af : Int) (ag : Bool) (G : GH) (k : KV R) :
  ze Tryz.prog O zgF fuel bd92 [1, 1, 1, 1, 1, 1, 1, 1, 1, 0, 0] (rcK Tryz.f92 k) .normal (mkE 83 [(2, .loc 0 0), (6, uL s6), (52, .bool gz)]) [[uL aa, uL ac, iL af, .bool ag]] G =
  zhx O k (fun s6 aa ac af ag G => zJ (zd Tryz.prog O zgF fuel (nav bd92 [1, 1, 1, 1, 1, 1, 1, 1, 1, 1, 0, 0, 0]) 68) fuel (mkE 83 [(2, .loc 0 0), (6, uL s6)]) [[uL aa, uL ac, iL af, .bool ag]] G (ze Tryz.prog O zgF fuel bd92 [1, 1, 1, 1, 1, 1, 1, 1, 1, 1, 0, 0] (rcK Tryz.f92 k))) s6 gz aa ac af ag G := by kernel_rfl
theorem zq1 (fuel : Nat) (k : KV R) :
  (fun (s6 aa : Int) (ac af : Int) (ag : Bool) (G : GH) => zi fuel (zd Tryz.prog O zgF fuel (nav bd92 [1, 1, 1, 1, 1, 1, 1, 1, 1, 0, 0]) 67 (mkE 83 [(2, .loc 0 0), (6, uL s6)]) [[uL aa, uL ac, iL af, .bool ag]] G (ze Tryz.prog O zgF fuel bd92 [1, 1, 1, 1, 1, 1, 1, 1, 1, 0, 0] (rcK Tryz.f92 k)))) = zbQ O fuel k := by
  funext s6 aa ac af ag G
  simp only [zbQ, zqB, zn0, zrR]
def zc6 {R : Type} (O : Ora R) (fuel : Nat) (k : KV R) : Bool → Int → Int → Int → Int → Bool → GH → Option R := fun s1 s6 aa ac af ag G =>
  zi fuel (zfc O fuel (zcc O k (zbQ O fuel k)) s1 s6 aa ac af ag G)
theorem zos (fuel : Nat) (s1 : Bool) (s6 aa : Int) (ac af : Int) (ag : Bool) (G : GH) (k : KV R) :
  ze Tryz.prog O zgF fuel bd92 [1, 1, 1, 1, 1, 0] (rcK Tryz.f92 k) .normal (mkE 83 [(1, .bool s1), (2, .loc 0 0), (6, uL s6)]) [[uL aa, uL ac, iL af, .bool ag]] G =
  zcc O k (fun s6 aa ac af ag G => zi fuel (zd Tryz.prog O zgF fuel (nav bd92 [1, 1, 1, 1, 1, 1, 1, 1, 1, 0, 0]) 67 (mkE 83 [(2, .loc 0 0), (6, uL s6)]) [[uL aa, uL ac, iL af, .bool ag]] G (ze Tryz.prog O zgF fuel bd92 [1, 1, 1, 1, 1, 1, 1, 1, 1, 0, 0] (rcK Tryz.f92 k)))) s1 s6 aa ac af ag G := by kernel_rfl
theorem zq8 (fuel : Nat) (k : KV R) :
  (fun (s1 : Bool) (s6 aa : Int) (ac af : Int) (ag : Bool) (G : GH) => zi fuel (zd Tryz.prog O zgF fuel (nav bd92 [1, 1, 1, 1, 1, 0]) 35 (mkE 83 [(1, .bool s1), (2, .loc 0 0), (6, uL s6)]) [[uL aa, uL ac, iL af, .bool ag]] G (ze Tryz.prog O zgF fuel bd92 [1, 1, 1, 1, 1, 0] (rcK Tryz.f92 k)))) = zc6 O fuel k := by
  funext s1 s6 aa ac af ag G
  simp only [zc6, zrF, zos, zq1]
def zc5 {R : Type} (O : Ora R) (fuel : Nat) (k : KV R) : Bool → Int → Int → Int → Int → Bool → GH → Option R := fun s1 s5 aa ac af ag G =>
  zi fuel (zfn O (zeH O k (zc6 O fuel k)) s1 s5 aa ac af ag G)
theorem znH (fuel : Nat) (s1 : Bool) (s5 aa : Int) (ac af : Int) (ag : Bool) (G : GH) (k : KV R) :
  ze Tryz.prog O zgF fuel bd92 [1, 1, 0] (rcK Tryz.f92 k) .normal (mkE 83 [(1, .bool s1), (2, .loc 0 0), (5, iL s5)]) [[uL aa, uL ac, iL af, .bool ag]] G =
  zeH O k (fun s1 s6 aa ac af ag G => zi fuel (zd Tryz.prog O zgF fuel (nav bd92 [1, 1, 1, 1, 1, 0]) 35 (mkE 83 [(1, .bool s1), (2, .loc 0 0), (6, uL s6)]) [[uL aa, uL ac, iL af, .bool ag]] G (ze Tryz.prog O zgF fuel bd92 [1, 1, 1, 1, 1, 0] (rcK Tryz.f92 k)))) s1 s5 aa ac af ag G := by kernel_rfl
theorem zqL (fuel : Nat) (k : KV R) :
  (fun (s1 : Bool) (s5 aa : Int) (ac af : Int) (ag : Bool) (G : GH) => zi fuel (zd Tryz.prog O zgF fuel (nav bd92 [1, 1, 0]) 19 (mkE 83 [(1, .bool s1), (2, .loc 0 0), (5, iL s5)]) [[uL aa, uL ac, iL af, .bool ag]] G (ze Tryz.prog O zgF fuel bd92 [1, 1, 0] (rcK Tryz.f92 k)))) = zc5 O fuel k := by
  funext s1 s5 aa ac af ag G
  simp only [zc5, zq3, znH, zq8]
theorem zsA (fuel : Nat) (av aw bf : Int) (bh p1 : Bool) (G : GH) (k : KV R) :
  zf Tryz.prog O zgF fuel Tryz.f92 [.agg [uL av, uL aw, iL bf, .bool bh], .bool p1] G k =
  zh6 O k (fun s1 s5 aa ac af ag G => zi fuel (zd Tryz.prog O zgF fuel (nav bd92 [1, 1, 0]) 19 (mkE 83 [(1, .bool s1), (2, .loc 0 0), (5, iL s5)]) [[uL aa, uL ac, iL af, .bool ag]] G (ze Tryz.prog O zgF fuel bd92 [1, 1, 0] (rcK Tryz.f92 k)))) av aw bf bh p1 G := by kernel_rfl
theorem zxT (fuel : Nat) (av aw bf : Int) (bh p1 : Bool) (G : GH) (k : KV R) :
  zf Tryz.prog O zgF fuel Tryz.f92 [.agg [uL av, uL aw, iL bf, .bool bh], .bool p1] G k =
  zh6 O k (zc5 O fuel k) av aw bf bh p1 G := by
  rw [zsA, zqL]
theorem zxp {R : Type} (fuel n : Nat) (av aw bf : Int) (bh p1 : Bool) (G : GH) (k : KV R) :
  runC Tryz.prog lo0 fuel (n + 1) 92 [.agg [uL av, uL aw, iL bf, .bool bh], .bool p1] G k = zf Tryz.prog (runC Tryz.prog lo0 fuel n) zgF fuel Tryz.f92 [.agg [uL av, uL aw, iL bf, .bool bh], .bool p1] G k := zh Tryz.func92 rfl rfl
theorem zAQ (fuel : Nat) (av aw bf : Int) (bh p1 p2 : Bool) (G : GH) (k : KV R) :
  zf Tryz.prog O [3, 777777] fuel Tryz.f71 [.agg [uL av, uL aw, iL bf, .bool bh], .bool p1, .bool p2] G k =
  O zpl [.agg [uL av, uL aw, iL bf, .bool bh], .bool (p1 == p2)] G fun v1 G2 =>
  (zc .f64 v1).bind fun x3 =>
  bif p1 then
  ((FloatKind.format .f64).sub (0 : Nat) x3).bind fun r4 =>
  O zar [fL r4] G2 fun v5 G6 =>
  (zc .f64 v5).bind fun x7 =>
  k (fL x7) G6
  else
  k (fL x3) G2 := by kernel_rfl
theorem zBo {R : Type} (fuel n : Nat) (av aw bf : Int) (bh p1 p2 : Bool) (G : GH) (k : KV R) :
  runC Tryz.prog lo0 fuel (n + 1) 71 [.agg [uL av, uL aw, iL bf, .bool bh], .bool p1, .bool p2] G k = zf Tryz.prog (runC Tryz.prog lo0 fuel n) [3, 777777] fuel Tryz.f71 [.agg [uL av, uL aw, iL bf, .bool bh], .bool p1, .bool p2] G k := zh Tryz.func71 rfl rfl
def ziB {R : Type} (O : Ora R) (KN : zIV R) (aa ac af : Int) (ag : Bool) (ai ah ap : Int) (am : Bool) (ak al ax : Int) (ay : Bool) (G : GH) : Option R :=
  bif ag then
  KN aa ac af ag ai ah ap am ak al ax ay (IntKind.wrap .u64 (aa + ai)) (IntKind.wrap .u64 (ac + ah)) af true G
  else
  KN aa ac af ag ai ah ap am ak al ax ay (IntKind.wrap .u64 (aa + ai)) (IntKind.wrap .u64 (ac + ah)) af am G
def zfM {R : Type} (O : Ora R) (KN : zIV R) : Int → Int → Int → Bool → Int → Int → Int → Bool → Int → Int → Int → Bool → GH → Option R := fun aa ac af ag ai ah ap am ak al ax ay G => ziB O KN aa ac af ag ai ah ap am ak al ax ay G
theorem zp1 (fuel : Nat) (aa ac af : Int) (ag : Bool) (ai ah ap : Int) (am : Bool) (ak al ax : Int) (ay : Bool) (G : GH) (k : KE R) :
  zd Tryz.prog O zC0 fuel (nav bd89 [1, 0]) 11 (mkE 35 [(2, .loc 0 0), (3, .loc 1 0), (4, .loc 2 0)]) [[uL aa, uL ac, iL af, .bool ag], [uL ai, uL ah, iL ap, .bool am], [uL ak, uL al, iL ax, .bool ay]] G k =
  ziB O (fun aa ac af ag ai ah ap am ak al ax ay cr cq ct cu G => k .normal (mkE 35 [(2, .loc 0 0), (4, .loc 2 0), (5, .loc 3 0)]) [[uL aa, uL ac, iL af, .bool ag], [uL ai, uL ah, iL ap, .bool am], [uL ak, uL al, iL ax, .bool ay], [uL cr, uL cq, iL ct, .bool cu]] G) aa ac af ag ai ah ap am ak al ax ay G := by kernel_rfl
theorem zqR (fuel : Nat) (k : KE R) : ∀ (aa ac af : Int) (ag : Bool) (ai ah ap : Int) (am : Bool) (ak al ax : Int) (ay : Bool) (G : GH),
  zd Tryz.prog O zC0 fuel (nav bd89 [1, 0]) 11 (mkE 35 [(2, .loc 0 0), (3, .loc 1 0), (4, .loc 2 0)]) [[uL aa, uL ac, iL af, .bool ag], [uL ai, uL ah, iL ap, .bool am], [uL ak, uL al, iL ax, .bool ay]] G k = zfM O (fun aa ac af ag ai ah ap am ak al ax ay cr cq ct cu G => k .normal (mkE 35 [(2, .loc 0 0), (4, .loc 2 0), (5, .loc 3 0)]) [[uL aa, uL ac, iL af, .bool ag], [uL ai, uL ah, iL ap, .bool am], [uL ak, uL al, iL ax, .bool ay], [uL cr, uL cq, iL ct, .bool cu]] G) aa ac af ag ai ah ap am ak al ax ay G := by
  intros
  rw [zp1]
  simp only [zfM]
def zlO {R : Type} (O : Ora R) (k : KV R) (L0 : zJr R) (av aw bf : Int) (bh : Bool) (bu bw cz : Int) (da : Bool) (G : GH) : Option R :=
  L0 av aw bf bh bu bw cz da (0 : Int) (0 : Int) (0 : Int) false G
def zhF {R : Type} (O : Ora R) (k : KV R) (aa ac af : Int) (ag : Bool) (ai ah ap : Int) (am : Bool) (ak al ax : Int) (ay : Bool) (cr cq ct : Int) (cu : Bool) (G : GH) : Option R :=
  bif (decide (cq < ac)) then
  k (.agg [uL (IntKind.wrap .u64 (cr + (1 : Int))), uL cq, iL ct, .bool cu]) G
  else
  k (.agg [uL cr, uL cq, iL ct, .bool cu]) G
def zff {R : Type} (O : Ora R) (fuel : Nat) (k : KV R) : Int → Int → Int → Bool → Int → Int → Int → Bool → Int → Int → Int → Bool → GH → Option R := fun aa ac af ag ai ah ap am ak al ax ay G =>
  zi fuel (zfM O (zhF O k) aa ac af ag ai ah ap am ak al ax ay G)
theorem znY (fuel : Nat) (aa ac af : Int) (ag : Bool) (ai ah ap : Int) (am : Bool) (ak al ax : Int) (ay : Bool) (cr cq ct : Int) (cu : Bool) (G : GH) (k : KV R) :
  ze Tryz.prog O zC0 fuel bd89 [1, 0] (rcK Tryz.f89 k) .normal (mkE 35 [(2, .loc 0 0), (4, .loc 2 0), (5, .loc 3 0)]) [[uL aa, uL ac, iL af, .bool ag], [uL ai, uL ah, iL ap, .bool am], [uL ak, uL al, iL ax, .bool ay], [uL cr, uL cq, iL ct, .bool cu]] G =
  zhF O k aa ac af ag ai ah ap am ak al ax ay cr cq ct cu G := by kernel_rfl
theorem zrc (fuel : Nat) (k : KV R) :
  (fun (aa ac af : Int) (ag : Bool) (ai ah ap : Int) (am : Bool) (ak al ax : Int) (ay : Bool) (G : GH) => zi fuel (zd Tryz.prog O zC0 fuel (nav bd89 [1, 0]) 11 (mkE 35 [(2, .loc 0 0), (3, .loc 1 0), (4, .loc 2 0)]) [[uL aa, uL ac, iL af, .bool ag], [uL ai, uL ah, iL ap, .bool am], [uL ak, uL al, iL ax, .bool ay]] G (ze Tryz.prog O zC0 fuel bd89 [1, 0] (rcK Tryz.f89 k)))) = zff O fuel k := by
  funext aa ac af ag ai ah ap am ak al ax ay G
  simp only [zff, zqR, znY]
theorem zsT (fuel : Nat) (av aw bf : Int) (bh : Bool) (bu bw cz : Int) (da : Bool) (G : GH) (k : KV R) :
  zf Tryz.prog O zC0 fuel Tryz.f89 [.agg [uL av, uL aw, iL bf, .bool bh], .agg [uL bu, uL bw, iL cz, .bool da]] G k =
  zlO O k (fun aa ac af ag ai ah ap am ak al ax ay G => zi fuel (zd Tryz.prog O zC0 fuel (nav bd89 [1, 0]) 11 (mkE 35 [(2, .loc 0 0), (3, .loc 1 0), (4, .loc 2 0)]) [[uL aa, uL ac, iL af, .bool ag], [uL ai, uL ah, iL ap, .bool am], [uL ak, uL al, iL ax, .bool ay]] G (ze Tryz.prog O zC0 fuel bd89 [1, 0] (rcK Tryz.f89 k)))) av aw bf bh bu bw cz da G := by kernel_rfl
theorem zxH (fuel : Nat) (av aw bf : Int) (bh : Bool) (bu bw cz : Int) (da : Bool) (G : GH) (k : KV R) :
  zf Tryz.prog O zC0 fuel Tryz.f89 [.agg [uL av, uL aw, iL bf, .bool bh], .agg [uL bu, uL bw, iL cz, .bool da]] G k =
  zlO O k (zff O fuel k) av aw bf bh bu bw cz da G := by
  rw [zsT, zrc]
theorem zxW {R : Type} (fuel n : Nat) (av aw bf : Int) (bh : Bool) (bu bw cz : Int) (da : Bool) (G : GH) (k : KV R) :
  runC Tryz.prog lo0 fuel (n + 1) 89 [.agg [uL av, uL aw, iL bf, .bool bh], .agg [uL bu, uL bw, iL cz, .bool da]] G k = zf Tryz.prog (runC Tryz.prog lo0 fuel n) zC0 fuel Tryz.f89 [.agg [uL av, uL aw, iL bf, .bool bh], .agg [uL bu, uL bw, iL cz, .bool da]] G k := zh Tryz.func89 rfl rfl
theorem zvJ (fuel : Nat) (av aw bf : Int) (bh : Bool) (bu bw cz : Int) (da : Bool) (G : GH) (k : KV R) :
  zf Tryz.prog O [2, 3, 777777] fuel Tryz.f90 [.agg [uL av, uL aw, iL bf, .bool bh], .agg [uL bu, uL bw, iL cz, .bool da]] G k =
  bif (decide (av < bu)) then
  k (.bool true) G
  else
  bif (av == bu) then
  k (.bool (decide (aw < bw))) G
  else
  k (.bool false) G := by kernel_rfl
theorem zvM {R : Type} (fuel n : Nat) (av aw bf : Int) (bh : Bool) (bu bw cz : Int) (da : Bool) (G : GH) (k : KV R) :
  runC Tryz.prog lo0 fuel (n + 1) 90 [.agg [uL av, uL aw, iL bf, .bool bh], .agg [uL bu, uL bw, iL cz, .bool da]] G k = zf Tryz.prog (runC Tryz.prog lo0 fuel n) [2, 3, 777777] fuel Tryz.f90 [.agg [uL av, uL aw, iL bf, .bool bh], .agg [uL bu, uL bw, iL cz, .bool da]] G k := zh Tryz.func90 rfl rfl
theorem zwd (fuel : Nat) (av aw bf : Int) (bh : Bool) (bu bw cz : Int) (da : Bool) (G : GH) (k : KV R) :
  zf Tryz.prog O [2, 3, 4, 5, 777777] fuel Tryz.f91 [.agg [uL av, uL aw, iL bf, .bool bh], .agg [uL bu, uL bw, iL cz, .bool da]] G k =
  bif (decide (aw < bw)) then
  k (.agg [uL (IntKind.wrap .u64 ((IntKind.wrap .u64 (av - bu)) - (1 : Int))), uL (IntKind.wrap .u64 (aw - bw)), iL bf, .bool false]) G
  else
  k (.agg [uL (IntKind.wrap .u64 (av - bu)), uL (IntKind.wrap .u64 (aw - bw)), iL bf, .bool false]) G := by kernel_rfl
theorem zwv {R : Type} (fuel n : Nat) (av aw bf : Int) (bh : Bool) (bu bw cz : Int) (da : Bool) (G : GH) (k : KV R) :
  runC Tryz.prog lo0 fuel (n + 1) 91 [.agg [uL av, uL aw, iL bf, .bool bh], .agg [uL bu, uL bw, iL cz, .bool da]] G k = zf Tryz.prog (runC Tryz.prog lo0 fuel n) [2, 3, 4, 5, 777777] fuel Tryz.f91 [.agg [uL av, uL aw, iL bf, .bool bh], .agg [uL bu, uL bw, iL cz, .bool da]] G k := zh Tryz.func91 rfl rfl
def zjZ {R : Type} (O : Ora R) (KN : tY0 R) (s0 s1 : Nat) (s2 : Bool) (G : GH) : Option R :=
  O zt [fL s0] G fun v1 G2 =>
  (zl v1).bind fun x3 =>
  bif (!x3) then
  KN s0 s1 s2 true G2
  else
  O zt [fL s1] G2 fun v4 G5 =>
  (zl v4).bind fun x6 =>
  KN s0 s1 s2 (!x6) G5
def zgO {R : Type} (O : Ora R) (KN : tY0 R) : Nat → Nat → Bool → GH → Option R := fun s0 s1 s2 G => zjZ O KN s0 s1 s2 G
theorem zrx (fuel s0 s1 : Nat) (s2 : Bool) (G : GH) (k : KE R) :
  zd Tryz.prog O zjO fuel (nav bd68 [1, 0, 0]) 11 (mkE 116 [(0, fL s0), (1, fL s1), (2, .bool s2)]) [] G k =
  zjZ O (fun s0 s1 s2 fl G => k .normal (mkE 116 [(0, fL s0), (1, fL s1), (2, .bool s2), (20, .bool fl)]) [] G) s0 s1 s2 G := by kernel_rfl
theorem zsF (fuel : Nat) (k : KE R) : ∀ (s0 s1 : Nat) (s2 : Bool) (G : GH),
  zd Tryz.prog O zjO fuel (nav bd68 [1, 0, 0]) 11 (mkE 116 [(0, fL s0), (1, fL s1), (2, .bool s2)]) [] G k = zgO O (fun s0 s1 s2 fl G => k .normal (mkE 116 [(0, fL s0), (1, fL s1), (2, .bool s2), (20, .bool fl)]) [] G) s0 s1 s2 G := by
  intros
  rw [zrx]
  simp only [zgO]
def zjB {R : Type} (O : Ora R) (KN : zGb R) (s2 s9 cj : Bool) (aa ac af : Int) (ag : Bool) (ai ah ap : Int) (am : Bool) (G : GH) : Option R :=
  O zK [.agg [uL aa, uL ac, iL af, .bool ag]] (zj G) fun v1 _ =>
  (zk .i64 v1).bind fun x2 =>
  O zK [.agg [uL ai, uL ah, iL ap, .bool am]] (zj G) fun v3 _ =>
  (zk .i64 v3).bind fun x4 =>
  bif (decide ((IntKind.wrap .i64 (x2 + af)) < (IntKind.wrap .i64 (x4 + ap)))) then
  KN s2 cj s9 ai ah ap am aa ac af ag G
  else
  KN s2 s9 cj aa ac af ag ai ah ap am G
def zgB {R : Type} (O : Ora R) (KN : zGb R) : Bool → Bool → Bool → Int → Int → Int → Bool → Int → Int → Int → Bool → GH → Option R := fun s2 s9 cj aa ac af ag ai ah ap am G => zjB O KN s2 s9 cj aa ac af ag ai ah ap am G
theorem zq9 (fuel : Nat) (s2 s9 cj : Bool) (aa ac af : Int) (ag : Bool) (ai ah ap : Int) (am : Bool) (G : GH) (k : KE R) :
  zd Tryz.prog O zjO fuel (nav bd68 [1, 1, 1, 1, 1, 1, 0]) 51 (mkE 116 [(2, .bool s2), (8, .loc 0 0), (9, .bool s9), (10, .loc 1 0), (11, .bool cj)]) [[uL aa, uL ac, iL af, .bool ag], [uL ai, uL ah, iL ap, .bool am]] G k =
  zjB O (fun s2 s9 cj aa ac af ag ai ah ap am G => k .normal (mkE 116 [(2, .bool s2), (8, .loc 0 0), (9, .bool s9), (10, .loc 1 0), (11, .bool cj)]) [[uL aa, uL ac, iL af, .bool ag], [uL ai, uL ah, iL ap, .bool am]] G) s2 s9 cj aa ac af ag ai ah ap am G := by kernel_rfl
theorem zsu (fuel : Nat) (k : KE R) : ∀ (s2 s9 cj : Bool) (aa ac af : Int) (ag : Bool) (ai ah ap : Int) (am : Bool) (G : GH),
  zd Tryz.prog O zjO fuel (nav bd68 [1, 1, 1, 1, 1, 1, 0]) 51 (mkE 116 [(2, .bool s2), (8, .loc 0 0), (9, .bool s9), (10, .loc 1 0), (11, .bool cj)]) [[uL aa, uL ac, iL af, .bool ag], [uL ai, uL ah, iL ap, .bool am]] G k = zgB O (fun s2 s9 cj aa ac af ag ai ah ap am G => k .normal (mkE 116 [(2, .bool s2), (8, .loc 0 0), (9, .bool s9), (10, .loc 1 0), (11, .bool cj)]) [[uL aa, uL ac, iL af, .bool ag], [uL ai, uL ah, iL ap, .bool am]] G) s2 s9 cj aa ac af ag ai ah ap am G := by
  intros
  rw [zq9]
  simp only [zgB]
def zj9 {R : Type} (O : Ora R) (KN : zGb R) (s2 s9 cj : Bool) (aa ac af : Int) (ag : Bool) (ai ah ap : Int) (am : Bool) (G : GH) : Option R :=
  bif (decide (ap ≥ af)) then
  O zhC [.agg [uL ai, uL ah, iL ap, .bool am], iL (IntKind.wrap .i64 (ap - af))] G fun v1 G2 =>
  (zr 4 v1).bind fun c3 =>
  (zk .u64 (c3.getD 0 za)).bind fun x4 =>
  (zk .u64 (c3.getD 1 za)).bind fun x5 =>
  (zk .i64 (c3.getD 2 za)).bind fun x6 =>
  (zl (c3.getD 3 za)).bind fun x7 =>
  KN s2 s9 cj aa ac af ag x4 x5 x6 x7 G2
  else
  O zcK [.agg [uL ai, uL ah, iL ap, .bool am], iL (IntKind.wrap .i64 (af - ap))] G fun v8 G9 =>
  (zr 4 v8).bind fun c10 =>
  (zk .u64 (c10.getD 0 za)).bind fun x11 =>
  (zk .u64 (c10.getD 1 za)).bind fun x12 =>
  (zk .i64 (c10.getD 2 za)).bind fun x13 =>
  (zl (c10.getD 3 za)).bind fun x14 =>
  KN s2 s9 cj aa ac af ag x11 x12 x13 x14 G9
def zgU {R : Type} (O : Ora R) (KN : zGb R) : Bool → Bool → Bool → Int → Int → Int → Bool → Int → Int → Int → Bool → GH → Option R := fun s2 s9 cj aa ac af ag ai ah ap am G => zj9 O KN s2 s9 cj aa ac af ag ai ah ap am G
theorem zqJ (fuel : Nat) (s2 s9 cj : Bool) (aa ac af : Int) (ag : Bool) (ai ah ap : Int) (am : Bool) (G : GH) (k : KE R) :
  zd Tryz.prog O zjO fuel (nav bd68 [1, 1, 1, 1, 1, 1, 1, 1, 0]) 67 (mkE 116 [(2, .bool s2), (8, .loc 0 0), (9, .bool s9), (10, .loc 1 0), (11, .bool cj)]) [[uL aa, uL ac, iL af, .bool ag], [uL ai, uL ah, iL ap, .bool am]] G k =
  zj9 O (fun s2 s9 cj aa ac af ag ai ah ap am G => k .normal (mkE 116 [(2, .bool s2), (8, .loc 0 0), (9, .bool s9), (10, .loc 1 0), (11, .bool cj)]) [[uL aa, uL ac, iL af, .bool ag], [uL ai, uL ah, iL ap, .bool am]] G) s2 s9 cj aa ac af ag ai ah ap am G := by kernel_rfl
theorem zsU (fuel : Nat) (k : KE R) : ∀ (s2 s9 cj : Bool) (aa ac af : Int) (ag : Bool) (ai ah ap : Int) (am : Bool) (G : GH),
  zd Tryz.prog O zjO fuel (nav bd68 [1, 1, 1, 1, 1, 1, 1, 1, 0]) 67 (mkE 116 [(2, .bool s2), (8, .loc 0 0), (9, .bool s9), (10, .loc 1 0), (11, .bool cj)]) [[uL aa, uL ac, iL af, .bool ag], [uL ai, uL ah, iL ap, .bool am]] G k = zgU O (fun s2 s9 cj aa ac af ag ai ah ap am G => k .normal (mkE 116 [(2, .bool s2), (8, .loc 0 0), (9, .bool s9), (10, .loc 1 0), (11, .bool cj)]) [[uL aa, uL ac, iL af, .bool ag], [uL ai, uL ah, iL ap, .bool am]] G) s2 s9 cj aa ac af ag ai ah ap am G := by
  intros
  rw [zqJ]
  simp only [zgU]
def zkc {R : Type} (O : Ora R) (KN : zI9 R) (s2 s9 cj : Bool) (aa ac af : Int) (ag : Bool) (ai ah ap : Int) (am : Bool) (G : GH) : Option R :=
  bif (!am) then
  O ziD [.agg [uL aa, uL ac, iL af, .bool ag], .agg [uL ai, uL ah, iL ap, .bool am]] G fun v1 G2 =>
  (zl v1).bind fun x3 =>
  KN s2 s9 cj x3 aa ac af ag ai ah ap am G2
  else
  KN s2 s9 cj false aa ac af ag ai ah ap am G
def zg1 {R : Type} (O : Ora R) (KN : zI9 R) : Bool → Bool → Bool → Int → Int → Int → Bool → Int → Int → Int → Bool → GH → Option R := fun s2 s9 cj aa ac af ag ai ah ap am G => zkc O KN s2 s9 cj aa ac af ag ai ah ap am G
theorem zrC (fuel : Nat) (s2 s9 cj : Bool) (aa ac af : Int) (ag : Bool) (ai ah ap : Int) (am : Bool) (G : GH) (k : KE R) :
  zd Tryz.prog O zjO fuel (nav bd68 [1, 1, 1, 1, 1, 1, 1, 1, 1, 1, 0, 0]) 79 (mkE 116 [(2, .bool s2), (8, .loc 0 0), (9, .bool s9), (10, .loc 1 0), (11, .bool cj)]) [[uL aa, uL ac, iL af, .bool ag], [uL ai, uL ah, iL ap, .bool am]] G k =
  zkc O (fun s2 s9 cj ia aa ac af ag ai ah ap am G => k .normal (mkE 116 [(2, .bool s2), (8, .loc 0 0), (9, .bool s9), (10, .loc 1 0), (11, .bool cj), (93, .bool ia)]) [[uL aa, uL ac, iL af, .bool ag], [uL ai, uL ah, iL ap, .bool am]] G) s2 s9 cj aa ac af ag ai ah ap am G := by kernel_rfl
theorem ztl (fuel : Nat) (k : KE R) : ∀ (s2 s9 cj : Bool) (aa ac af : Int) (ag : Bool) (ai ah ap : Int) (am : Bool) (G : GH),
  zd Tryz.prog O zjO fuel (nav bd68 [1, 1, 1, 1, 1, 1, 1, 1, 1, 1, 0, 0]) 79 (mkE 116 [(2, .bool s2), (8, .loc 0 0), (9, .bool s9), (10, .loc 1 0), (11, .bool cj)]) [[uL aa, uL ac, iL af, .bool ag], [uL ai, uL ah, iL ap, .bool am]] G k = zg1 O (fun s2 s9 cj ia aa ac af ag ai ah ap am G => k .normal (mkE 116 [(2, .bool s2), (8, .loc 0 0), (9, .bool s9), (10, .loc 1 0), (11, .bool cj), (93, .bool ia)]) [[uL aa, uL ac, iL af, .bool ag], [uL ai, uL ah, iL ap, .bool am]] G) s2 s9 cj aa ac af ag ai ah ap am G := by
  intros
  rw [zrC]
  simp only [zg1]
def zky {R : Type} (O : Ora R) (KN : zIq R) (s2 s9 : Bool) (aa ac af : Int) (ag : Bool) (ai ah ap : Int) (am : Bool) (ak al ax : Int) (ay : Bool) (G : GH) : Option R :=
  bif am then
  O zbi [.agg [uL ak, uL al, iL ax, .bool ay], .agg [uL (0 : Int), uL (1 : Int), iL (0 : Int), .bool false]] G fun v1 G2 =>
  (zr 4 v1).bind fun c3 =>
  (zk .u64 (c3.getD 0 za)).bind fun x4 =>
  (zk .u64 (c3.getD 1 za)).bind fun x5 =>
  (zk .i64 (c3.getD 2 za)).bind fun x6 =>
  (zl (c3.getD 3 za)).bind fun x7 =>
  KN s2 s9 aa ac af ag ai ah ap am x4 x5 af true G2
  else
  KN s2 s9 aa ac af ag ai ah ap am ak al ax ay G
def zgN {R : Type} (O : Ora R) (KN : zIq R) : Bool → Bool → Int → Int → Int → Bool → Int → Int → Int → Bool → Int → Int → Int → Bool → GH → Option R := fun s2 s9 aa ac af ag ai ah ap am ak al ax ay G => zky O KN s2 s9 aa ac af ag ai ah ap am ak al ax ay G
theorem zqS (fuel : Nat) (s2 s9 : Bool) (aa ac af : Int) (ag : Bool) (ai ah ap : Int) (am : Bool) (ak al ax : Int) (ay : Bool) (G : GH) (k : KE R) :
  zd Tryz.prog O zjO fuel (nav bd68 [1, 1, 1, 1, 1, 1, 1, 1, 1, 1, 1, 1, 0]) 103 (mkE 116 [(2, .bool s2), (8, .loc 0 0), (9, .bool s9), (10, .loc 1 0), (12, .loc 2 0)]) [[uL aa, uL ac, iL af, .bool ag], [uL ai, uL ah, iL ap, .bool am], [uL ak, uL al, iL ax, .bool ay]] G k =
  zky O (fun s2 s9 aa ac af ag ai ah ap am ak al ax ay G => k .normal (mkE 116 [(2, .bool s2), (9, .bool s9), (12, .loc 2 0)]) [[uL aa, uL ac, iL af, .bool ag], [uL ai, uL ah, iL ap, .bool am], [uL ak, uL al, iL ax, .bool ay]] G) s2 s9 aa ac af ag ai ah ap am ak al ax ay G := by kernel_rfl
theorem zsK (fuel : Nat) (k : KE R) : ∀ (s2 s9 : Bool) (aa ac af : Int) (ag : Bool) (ai ah ap : Int) (am : Bool) (ak al ax : Int) (ay : Bool) (G : GH),
  zd Tryz.prog O zjO fuel (nav bd68 [1, 1, 1, 1, 1, 1, 1, 1, 1, 1, 1, 1, 0]) 103 (mkE 116 [(2, .bool s2), (8, .loc 0 0), (9, .bool s9), (10, .loc 1 0), (12, .loc 2 0)]) [[uL aa, uL ac, iL af, .bool ag], [uL ai, uL ah, iL ap, .bool am], [uL ak, uL al, iL ax, .bool ay]] G k = zgN O (fun s2 s9 aa ac af ag ai ah ap am ak al ax ay G => k .normal (mkE 116 [(2, .bool s2), (9, .bool s9), (12, .loc 2 0)]) [[uL aa, uL ac, iL af, .bool ag], [uL ai, uL ah, iL ap, .bool am], [uL ak, uL al, iL ax, .bool ay]] G) s2 s9 aa ac af ag ai ah ap am ak al ax ay G := by
  intros
  rw [zqS]
  simp only [zgN]
def zj5 {R : Type} (O : Ora R) (k : KV R) (L0 : tY1 R) (p0 p1 : Nat) (p2 : Bool) (G : GH) : Option R :=
  L0 p0 p1 p2 G
def zdi {R : Type} (O : Ora R) (k : KV R) (L1 : zGb R) (s0 s1 : Nat) (s2 fl : Bool) (G : GH) : Option R :=
  bif fl then
  k (.tuple [fL (0 : Nat), iL (10 : Int)]) G
  else
  bif (feq .f64 s1 (0 : Nat)) then
  O zar [fL s0] G fun v1 G2 =>
  (zc .f64 v1).bind fun x3 =>
  k (.tuple [fL x3, iL (0 : Int)]) G2
  else
  bif (feq .f64 s0 (0 : Nat)) then
  k (.tuple [fL s1, iL (0 : Int)]) G
  else
  O zeh [fL s0] G fun v4 G5 =>
  (zY 2 v4).bind fun c6 =>
  (zr 4 (c6.getD 0 za)).bind fun c7 =>
  (zk .u64 (c7.getD 0 za)).bind fun x8 =>
  (zk .u64 (c7.getD 1 za)).bind fun x9 =>
  (zk .i64 (c7.getD 2 za)).bind fun x10 =>
  (zl (c7.getD 3 za)).bind fun x11 =>
  (zl (c6.getD 1 za)).bind fun x12 =>
  O zeh [fL s1] G5 fun v13 G14 =>
  (zY 2 v13).bind fun c15 =>
  (zr 4 (c15.getD 0 za)).bind fun c16 =>
  (zk .u64 (c16.getD 0 za)).bind fun x17 =>
  (zk .u64 (c16.getD 1 za)).bind fun x18 =>
  (zk .i64 (c16.getD 2 za)).bind fun x19 =>
  (zl (c16.getD 3 za)).bind fun x20 =>
  (zl (c15.getD 1 za)).bind fun x21 =>
  L1 s2 x12 x21 x8 x9 x10 x11 x17 x18 x19 x20 G14
def zfQ {R : Type} (O : Ora R) (k : KV R) (L2 : zGb R) (s2 s9 cj : Bool) (aa ac af : Int) (ag : Bool) (ai ah ap : Int) (am : Bool) (G : GH) : Option R :=
  O zK [.agg [uL aa, uL ac, iL af, .bool ag]] (zj G) fun v1 _ =>
  (zk .i64 v1).bind fun x2 =>
  O zhC [.agg [uL aa, uL ac, iL af, .bool ag], iL (IntKind.wrap .i64 ((126 : Int) - x2))] (zj G) fun v3 _ =>
  (zr 4 v3).bind fun c4 =>
  (zk .u64 (c4.getD 0 za)).bind fun x5 =>
  (zk .u64 (c4.getD 1 za)).bind fun x6 =>
  (zk .i64 (c4.getD 2 za)).bind fun x7 =>
  (zl (c4.getD 3 za)).bind fun x8 =>
  L2 s2 s9 cj x5 x6 x7 x8 ai ah ap am G
def zfp {R : Type} (O : Ora R) (k : KV R) (L3 : zGb R) (s2 s9 cj : Bool) (aa ac af : Int) (ag : Bool) (ai ah ap : Int) (am : Bool) (G : GH) : Option R :=
  bif (s9 == cj) then
  O zkb [.agg [uL aa, uL ac, iL af, .bool ag], .agg [uL ai, uL ah, iL ap, .bool am]] G fun v1 G2 =>
  (zr 4 v1).bind fun c3 =>
  (zk .u64 (c3.getD 0 za)).bind fun x4 =>
  (zk .u64 (c3.getD 1 za)).bind fun x5 =>
  (zk .i64 (c3.getD 2 za)).bind fun x6 =>
  (zl (c3.getD 3 za)).bind fun x7 =>
  O zeT [.agg [uL x4, uL x5, iL x6, .bool x7], .bool s9, .bool s2] G2 fun v8 G9 =>
  (zc .f64 v8).bind fun x10 =>
  k (.tuple [fL x10, iL (0 : Int)]) G9
  else
  L3 s2 s9 cj aa ac af ag ai ah ap am G
def zfP {R : Type} (O : Ora R) (k : KV R) (L4 : zIq R) (s2 s9 : Bool) (cj ia : Bool) (aa ac af : Int) (ag : Bool) (ai ah ap : Int) (am : Bool) (G : GH) : Option R :=
  bif ia then
  O zbi [.agg [uL ai, uL ah, iL ap, .bool am], .agg [uL aa, uL ac, iL af, .bool ag]] G fun v1 G2 =>
  (zr 4 v1).bind fun c3 =>
  (zk .u64 (c3.getD 0 za)).bind fun x4 =>
  (zk .u64 (c3.getD 1 za)).bind fun x5 =>
  (zk .i64 (c3.getD 2 za)).bind fun x6 =>
  (zl (c3.getD 3 za)).bind fun x7 =>
  O zeT [.agg [uL x4, uL x5, iL x6, .bool x7], .bool cj, .bool s2] G2 fun v8 G9 =>
  (zc .f64 v8).bind fun x10 =>
  k (.tuple [fL x10, iL (0 : Int)]) G9
  else
  O zbi [.agg [uL aa, uL ac, iL af, .bool ag], .agg [uL ai, uL ah, iL ap, .bool am]] G fun v11 G12 =>
  (zr 4 v11).bind fun c13 =>
  (zk .u64 (c13.getD 0 za)).bind fun x14 =>
  (zk .u64 (c13.getD 1 za)).bind fun x15 =>
  (zk .i64 (c13.getD 2 za)).bind fun x16 =>
  (zl (c13.getD 3 za)).bind fun x17 =>
  L4 s2 s9 aa ac af ag ai ah ap am x14 x15 x16 x17 G12
def zfH {R : Type} (O : Ora R) (k : KV R) (s2 s9 : Bool) (aa ac af : Int) (ag : Bool) (ai ah ap : Int) (am : Bool) (ak al ax : Int) (ay : Bool) (G : GH) : Option R :=
  O zeT [.agg [uL ak, uL al, iL ax, .bool ay], .bool s9, .bool s2] G fun v1 G2 =>
  (zc .f64 v1).bind fun x3 =>
  k (.tuple [fL x3, iL (0 : Int)]) G2
def zdW {R : Type} (O : Ora R) (fuel : Nat) (k : KV R) : Bool → Bool → Int → Int → Int → Bool → Int → Int → Int → Bool → Int → Int → Int → Bool → GH → Option R := fun s2 s9 aa ac af ag ai ah ap am ak al ax ay G =>
  zi fuel (zgN O (zfH O k) s2 s9 aa ac af ag ai ah ap am ak al ax ay G)
theorem zpV (fuel : Nat) (s2 s9 : Bool) (aa ac af : Int) (ag : Bool) (ai ah ap : Int) (am : Bool) (ak al ax : Int) (ay : Bool) (G : GH) (k : KV R) :
  ze Tryz.prog O zjO fuel bd68 [1, 1, 1, 1, 1, 1, 1, 1, 1, 1, 1, 1, 0] (rcK Tryz.f68 k) .normal (mkE 116 [(2, .bool s2), (9, .bool s9), (12, .loc 2 0)]) [[uL aa, uL ac, iL af, .bool ag], [uL ai, uL ah, iL ap, .bool am], [uL ak, uL al, iL ax, .bool ay]] G =
  zfH O k s2 s9 aa ac af ag ai ah ap am ak al ax ay G := by kernel_rfl
theorem zsw (fuel : Nat) (k : KV R) :
  (fun (s2 s9 : Bool) (aa ac af : Int) (ag : Bool) (ai ah ap : Int) (am : Bool) (ak al ax : Int) (ay : Bool) (G : GH) => zi fuel (zd Tryz.prog O zjO fuel (nav bd68 [1, 1, 1, 1, 1, 1, 1, 1, 1, 1, 1, 1, 0]) 103 (mkE 116 [(2, .bool s2), (8, .loc 0 0), (9, .bool s9), (10, .loc 1 0), (12, .loc 2 0)]) [[uL aa, uL ac, iL af, .bool ag], [uL ai, uL ah, iL ap, .bool am], [uL ak, uL al, iL ax, .bool ay]] G (ze Tryz.prog O zjO fuel bd68 [1, 1, 1, 1, 1, 1, 1, 1, 1, 1, 1, 1, 0] (rcK Tryz.f68 k)))) = zdW O fuel k := by
  funext s2 s9 aa ac af ag ai ah ap am ak al ax ay G
  simp only [zdW, zsK, zpV]
def zd3 {R : Type} (O : Ora R) (fuel : Nat) (k : KV R) : Bool → Bool → Bool → Int → Int → Int → Bool → Int → Int → Int → Bool → GH → Option R := fun s2 s9 cj aa ac af ag ai ah ap am G =>
  zi fuel (zg1 O (zfP O k (zdW O fuel k)) s2 s9 cj aa ac af ag ai ah ap am G)
theorem zoO (fuel : Nat) (s2 s9 : Bool) (cj ia : Bool) (aa ac af : Int) (ag : Bool) (ai ah ap : Int) (am : Bool) (G : GH) (k : KV R) :
  ze Tryz.prog O zjO fuel bd68 [1, 1, 1, 1, 1, 1, 1, 1, 1, 1, 0, 0] (rcK Tryz.f68 k) .normal (mkE 116 [(2, .bool s2), (8, .loc 0 0), (9, .bool s9), (10, .loc 1 0), (11, .bool cj), (93, .bool ia)]) [[uL aa, uL ac, iL af, .bool ag], [uL ai, uL ah, iL ap, .bool am]] G =
  zfP O k (fun s2 s9 aa ac af ag ai ah ap am ak al ax ay G => zi fuel (zd Tryz.prog O zjO fuel (nav bd68 [1, 1, 1, 1, 1, 1, 1, 1, 1, 1, 1, 1, 0]) 103 (mkE 116 [(2, .bool s2), (8, .loc 0 0), (9, .bool s9), (10, .loc 1 0), (12, .loc 2 0)]) [[uL aa, uL ac, iL af, .bool ag], [uL ai, uL ah, iL ap, .bool am], [uL ak, uL al, iL ax, .bool ay]] G (ze Tryz.prog O zjO fuel bd68 [1, 1, 1, 1, 1, 1, 1, 1, 1, 1, 1, 1, 0] (rcK Tryz.f68 k)))) s2 s9 cj ia aa ac af ag ai ah ap am G := by kernel_rfl
theorem ztj (fuel : Nat) (k : KV R) :
  (fun (s2 s9 cj : Bool) (aa ac af : Int) (ag : Bool) (ai ah ap : Int) (am : Bool) (G : GH) => zi fuel (zd Tryz.prog O zjO fuel (nav bd68 [1, 1, 1, 1, 1, 1, 1, 1, 1, 1, 0, 0]) 79 (mkE 116 [(2, .bool s2), (8, .loc 0 0), (9, .bool s9), (10, .loc 1 0), (11, .bool cj)]) [[uL aa, uL ac, iL af, .bool ag], [uL ai, uL ah, iL ap, .bool am]] G (ze Tryz.prog O zjO fuel bd68 [1, 1, 1, 1, 1, 1, 1, 1, 1, 1, 0, 0] (rcK Tryz.f68 k)))) = zd3 O fuel k := by
  funext s2 s9 cj aa ac af ag ai ah ap am G
  simp only [zd3, ztl, zoO, zsw]
def zel {R : Type} (O : Ora R) (fuel : Nat) (k : KV R) : Bool → Bool → Bool → Int → Int → Int → Bool → Int → Int → Int → Bool → GH → Option R := fun s2 s9 cj aa ac af ag ai ah ap am G =>
  zi fuel (zgU O (zfp O k (zd3 O fuel k)) s2 s9 cj aa ac af ag ai ah ap am G)
theorem zoz (fuel : Nat) (s2 s9 cj : Bool) (aa ac af : Int) (ag : Bool) (ai ah ap : Int) (am : Bool) (G : GH) (k : KV R) :
  ze Tryz.prog O zjO fuel bd68 [1, 1, 1, 1, 1, 1, 1, 1, 0] (rcK Tryz.f68 k) .normal (mkE 116 [(2, .bool s2), (8, .loc 0 0), (9, .bool s9), (10, .loc 1 0), (11, .bool cj)]) [[uL aa, uL ac, iL af, .bool ag], [uL ai, uL ah, iL ap, .bool am]] G =
  zfp O k (fun s2 s9 cj aa ac af ag ai ah ap am G => zi fuel (zd Tryz.prog O zjO fuel (nav bd68 [1, 1, 1, 1, 1, 1, 1, 1, 1, 1, 0, 0]) 79 (mkE 116 [(2, .bool s2), (8, .loc 0 0), (9, .bool s9), (10, .loc 1 0), (11, .bool cj)]) [[uL aa, uL ac, iL af, .bool ag], [uL ai, uL ah, iL ap, .bool am]] G (ze Tryz.prog O zjO fuel bd68 [1, 1, 1, 1, 1, 1, 1, 1, 1, 1, 0, 0] (rcK Tryz.f68 k)))) s2 s9 cj aa ac af ag ai ah ap am G := by kernel_rfl
theorem zsP (fuel : Nat) (k : KV R) :
  (fun (s2 s9 cj : Bool) (aa ac af : Int) (ag : Bool) (ai ah ap : Int) (am : Bool) (G : GH) => zi fuel (zd Tryz.prog O zjO fuel (nav bd68 [1, 1, 1, 1, 1, 1, 1, 1, 0]) 67 (mkE 116 [(2, .bool s2), (8, .loc 0 0), (9, .bool s9), (10, .loc 1 0), (11, .bool cj)]) [[uL aa, uL ac, iL af, .bool ag], [uL ai, uL ah, iL ap, .bool am]] G (ze Tryz.prog O zjO fuel bd68 [1, 1, 1, 1, 1, 1, 1, 1, 0] (rcK Tryz.f68 k)))) = zel O fuel k := by
  funext s2 s9 cj aa ac af ag ai ah ap am G
  simp only [zel, zsU, zoz, ztj]
def zdX {R : Type} (O : Ora R) (fuel : Nat) (k : KV R) : Bool → Bool → Bool → Int → Int → Int → Bool → Int → Int → Int → Bool → GH → Option R := fun s2 s9 cj aa ac af ag ai ah ap am G =>
  zi fuel (zgB O (zfQ O k (zel O fuel k)) s2 s9 cj aa ac af ag ai ah ap am G)
theorem zo8 (fuel : Nat) (s2 s9 cj : Bool) (aa ac af : Int) (ag : Bool) (ai ah ap : Int) (am : Bool) (G : GH) (k : KV R) :
  ze Tryz.prog O zjO fuel bd68 [1, 1, 1, 1, 1, 1, 0] (rcK Tryz.f68 k) .normal (mkE 116 [(2, .bool s2), (8, .loc 0 0), (9, .bool s9), (10, .loc 1 0), (11, .bool cj)]) [[uL aa, uL ac, iL af, .bool ag], [uL ai, uL ah, iL ap, .bool am]] G =
  zfQ O k (fun s2 s9 cj aa ac af ag ai ah ap am G => zi fuel (zd Tryz.prog O zjO fuel (nav bd68 [1, 1, 1, 1, 1, 1, 1, 1, 0]) 67 (mkE 116 [(2, .bool s2), (8, .loc 0 0), (9, .bool s9), (10, .loc 1 0), (11, .bool cj)]) [[uL aa, uL ac, iL af, .bool ag], [uL ai, uL ah, iL ap, .bool am]] G (ze Tryz.prog O zjO fuel bd68 [1, 1, 1, 1, 1, 1, 1, 1, 0] (rcK Tryz.f68 k)))) s2 s9 cj aa ac af ag ai ah ap am G := by kernel_rfl
theorem zsn (fuel : Nat) (k : KV R) :
  (fun (s2 s9 cj : Bool) (aa ac af : Int) (ag : Bool) (ai ah ap : Int) (am : Bool) (G : GH) => zi fuel (zd Tryz.prog O zjO fuel (nav bd68 [1, 1, 1, 1, 1, 1, 0]) 51 (mkE 116 [(2, .bool s2), (8, .loc 0 0), (9, .bool s9), (10, .loc 1 0), (11, .bool cj)]) [[uL aa, uL ac, iL af, .bool ag], [uL ai, uL ah, iL ap, .bool am]] G (ze Tryz.prog O zjO fuel bd68 [1, 1, 1, 1, 1, 1, 0] (rcK Tryz.f68 k)))) = zdX O fuel k := by
  funext s2 s9 cj aa ac af ag ai ah ap am G
  simp only [zdX, zsu, zo8, zsP]
def zec {R : Type} (O : Ora R) (fuel : Nat) (k : KV R) : Nat → Nat → Bool → GH → Option R := fun s0 s1 s2 G =>
  zi fuel (zgO O (zdi O k (zdX O fuel k)) s0 s1 s2 G)
theorem zo1 (fuel s0 s1 : Nat) (s2 fl : Bool) (G : GH) (k : KV R) :
  ze Tryz.prog O zjO fuel bd68 [1, 0, 0] (rcK Tryz.f68 k) .normal (mkE 116 [(0, fL s0), (1, fL s1), (2, .bool s2), (20, .bool fl)]) [] G =
  zdi O k (fun s2 s9 cj aa ac af ag ai ah ap am G => zi fuel (zd Tryz.prog O zjO fuel (nav bd68 [1, 1, 1, 1, 1, 1, 0]) 51 (mkE 116 [(2, .bool s2), (8, .loc 0 0), (9, .bool s9), (10, .loc 1 0), (11, .bool cj)]) [[uL aa, uL ac, iL af, .bool ag], [uL ai, uL ah, iL ap, .bool am]] G (ze Tryz.prog O zjO fuel bd68 [1, 1, 1, 1, 1, 1, 0] (rcK Tryz.f68 k)))) s0 s1 s2 fl G := by kernel_rfl
theorem zsX (fuel : Nat) (k : KV R) :
  (fun (s0 s1 : Nat) (s2 : Bool) (G : GH) => zi fuel (zd Tryz.prog O zjO fuel (nav bd68 [1, 0, 0]) 11 (mkE 116 [(0, fL s0), (1, fL s1), (2, .bool s2)]) [] G (ze Tryz.prog O zjO fuel bd68 [1, 0, 0] (rcK Tryz.f68 k)))) = zec O fuel k := by
  funext s0 s1 s2 G
  simp only [zec, zsF, zo1, zsn]
theorem zt7 (fuel p0 p1 : Nat) (p2 : Bool) (G : GH) (k : KV R) :
  zf Tryz.prog O zjO fuel Tryz.f68 [fL p0, fL p1, .bool p2] G k =
  zj5 O k (fun s0 s1 s2 G => zi fuel (zd Tryz.prog O zjO fuel (nav bd68 [1, 0, 0]) 11 (mkE 116 [(0, fL s0), (1, fL s1), (2, .bool s2)]) [] G (ze Tryz.prog O zjO fuel bd68 [1, 0, 0] (rcK Tryz.f68 k)))) p0 p1 p2 G := by kernel_rfl
theorem zyB (fuel p0 p1 : Nat) (p2 : Bool) (G : GH) (k : KV R) :
  zf Tryz.prog O zjO fuel Tryz.f68 [fL p0, fL p1, .bool p2] G k =
  zj5 O k (zec O fuel k) p0 p1 p2 G := by
  rw [zt7, zsX]
theorem zys {R : Type} (fuel n p0 p1 : Nat) (p2 : Bool) (G : GH) (k : KV R) :
  runC Tryz.prog lo0 fuel (n + 1) 68 [fL p0, fL p1, .bool p2] G k = zf Tryz.prog (runC Tryz.prog lo0 fuel n) zjO fuel Tryz.f68 [fL p0, fL p1, .bool p2] G k := zh Tryz.func68 rfl rfl
end
end Go.LI.Film
