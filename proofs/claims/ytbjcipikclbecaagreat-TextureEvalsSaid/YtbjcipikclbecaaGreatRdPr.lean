/- What the interpreter gives for the reference of spans (written by texz.py). -/
import Derived.Test.YtbjcipikclbecaaGreatSeatA
set_option maxRecDepth 100000
set_option linter.unusedVariables false
set_option linter.unusedSimpArgs false
namespace Go.LI.Film
open Go.Proofs.YtbjcipikclbecaaGreat Go Go.Proofs Go.LI
section
variable {R : Type} (O : Ora R)
def zjX {R : Type} (O : Ora R) (KN : zHJ R) (aa ac : Nat) (ai ah : Nat) (ak al : Nat) (G : GH) : Option R :=
  O zdy [.agg [fL aa, fL ac]] G fun v1 G2 =>
  (zl v1).bind fun x3 =>
  bif x3 then
  KN true aa ac ai ah ak al G2
  else
  O zdy [.agg [fL ai, fL ah]] G2 fun v4 G5 =>
  (zl v4).bind fun x6 =>
  KN x6 aa ac ai ah ak al G5
def zd4 {R : Type} (O : Ora R) (KN : zHJ R) : Nat → Nat → Nat → Nat → Nat → Nat → GH → Option R := fun aa ac ai ah ak al G => zjX O KN aa ac ai ah ak al G
theorem zra (fuel aa : Nat) (ac ai : Nat) (ah ak al : Nat) (G : GH) (k : KE R) :
  zd Tryz.prog O zhO fuel (nav bd25 [1, 0, 0]) 11 (mkE 88 [(2, .loc 0 0), (3, .loc 1 0), (4, .loc 2 0)]) [[fL aa, fL ac], [fL ai, fL ah], [fL ak, fL al]] G k =
  zjX O (fun gv aa ac ai ah ak al G => k .normal (mkE 88 [(2, .loc 0 0), (3, .loc 1 0), (4, .loc 2 0), (19, .bool gv)]) [[fL aa, fL ac], [fL ai, fL ah], [fL ak, fL al]] G) aa ac ai ah ak al G := by kernel_rfl
theorem zsx (fuel : Nat) (k : KE R) : ∀ (aa ac : Nat) (ai ah : Nat) (ak al : Nat) (G : GH),
  zd Tryz.prog O zhO fuel (nav bd25 [1, 0, 0]) 11 (mkE 88 [(2, .loc 0 0), (3, .loc 1 0), (4, .loc 2 0)]) [[fL aa, fL ac], [fL ai, fL ah], [fL ak, fL al]] G k = zd4 O (fun gv aa ac ai ah ak al G => k .normal (mkE 88 [(2, .loc 0 0), (3, .loc 1 0), (4, .loc 2 0), (19, .bool gv)]) [[fL aa, fL ac], [fL ai, fL ah], [fL ak, fL al]] G) aa ac ai ah ak al G := by
  intros
  rw [zra]
  simp only [zd4]
def zkr {R : Type} (O : Ora R) (KN : zHJ R) (aa ac : Nat) (ai ah : Nat) (ak al : Nat) (G : GH) : Option R :=
  O zg2 [.agg [fL aa, fL ac]] G fun v1 G2 =>
  (zl v1).bind fun x3 =>
  bif x3 then
  KN true aa ac ai ah ak al G2
  else
  O zg2 [.agg [fL ai, fL ah]] G2 fun v4 G5 =>
  (zl v4).bind fun x6 =>
  KN x6 aa ac ai ah ak al G5
def zd8 {R : Type} (O : Ora R) (KN : zHJ R) : Nat → Nat → Nat → Nat → Nat → Nat → GH → Option R := fun aa ac ai ah ak al G => zkr O KN aa ac ai ah ak al G
theorem zqo (fuel aa : Nat) (ac ai : Nat) (ah ak al : Nat) (G : GH) (k : KE R) :
  zd Tryz.prog O zhO fuel (nav bd25 [1, 1, 0, 0]) 19 (mkE 88 [(2, .loc 0 0), (3, .loc 1 0), (4, .loc 2 0)]) [[fL aa, fL ac], [fL ai, fL ah], [fL ak, fL al]] G k =
  zkr O (fun fz aa ac ai ah ak al G => k .normal (mkE 88 [(2, .loc 0 0), (3, .loc 1 0), (4, .loc 2 0), (26, .bool fz)]) [[fL aa, fL ac], [fL ai, fL ah], [fL ak, fL al]] G) aa ac ai ah ak al G := by kernel_rfl
theorem zsy (fuel : Nat) (k : KE R) : ∀ (aa ac : Nat) (ai ah : Nat) (ak al : Nat) (G : GH),
  zd Tryz.prog O zhO fuel (nav bd25 [1, 1, 0, 0]) 19 (mkE 88 [(2, .loc 0 0), (3, .loc 1 0), (4, .loc 2 0)]) [[fL aa, fL ac], [fL ai, fL ah], [fL ak, fL al]] G k = zd8 O (fun fz aa ac ai ah ak al G => k .normal (mkE 88 [(2, .loc 0 0), (3, .loc 1 0), (4, .loc 2 0), (26, .bool fz)]) [[fL aa, fL ac], [fL ai, fL ah], [fL ak, fL al]] G) aa ac ai ah ak al G := by
  intros
  rw [zqo]
  simp only [zd8]
def zks {R : Type} (O : Ora R) (KN : zJb R) (s5 s6 : Nat) (ck : OG) (cm : Nat) (co : OG) (cp : Nat) (s9 : Int) (el dp : Nat) (aa ac : Nat) (ai ah : Nat) (ak al : Nat) (G : GH) : Option R :=
  bif (flt .f64 el s5) then
  KN el s6 ck cm co cp s9 dp aa ac ai ah ak al G
  else
  KN s5 s6 ck cm co cp s9 dp aa ac ai ah ak al G
def zeF {R : Type} (O : Ora R) (KN : zJb R) : Nat → Nat → OG → Nat → OG → Nat → Int → Nat → Nat → Nat → Nat → Nat → Nat → Nat → Nat → GH → Option R := fun s5 s6 ck cm co cp s9 el dp aa ac ai ah ak al G => zks O KN s5 s6 ck cm co cp s9 el dp aa ac ai ah ak al G
theorem zrU (fuel s5 s6 : Nat) (ck : OG) (cm : Nat) (co : OG) (cp : Nat) (s9 : Int) (el dp : Nat) (aa ac : Nat) (ai ah : Nat) (ak al : Nat) (G : GH) (k : KE R) :
  zd Tryz.prog O zhO fuel (nav bd25 [1, 1, 1, 1, 1, 1, 0, 1, 0, 0, 1, 0, 0, 1, 1, 0]) 63 (mkE 88 [(4, .loc 2 0), (5, fL s5), (6, fL s6), (7, .slice ck cm), (8, .slice co cp), (9, iL s9), (10, fL el), (12, fL dp)]) [[fL aa, fL ac], [fL ai, fL ah], [fL ak, fL al]] G k =
  zks O (fun s5 s6 ck cm co cp s9 dp aa ac ai ah ak al G => k .normal (mkE 88 [(4, .loc 2 0), (5, fL s5), (6, fL s6), (7, .slice ck cm), (8, .slice co cp), (9, iL s9), (12, fL dp)]) [[fL aa, fL ac], [fL ai, fL ah], [fL ak, fL al]] G) s5 s6 ck cm co cp s9 el dp aa ac ai ah ak al G := by kernel_rfl
theorem zsH (fuel : Nat) (k : KE R) : ∀ (s5 s6 : Nat) (ck : OG) (cm : Nat) (co : OG) (cp : Nat) (s9 : Int) (el dp : Nat) (aa ac : Nat) (ai ah : Nat) (ak al : Nat) (G : GH),
  zd Tryz.prog O zhO fuel (nav bd25 [1, 1, 1, 1, 1, 1, 0, 1, 0, 0, 1, 0, 0, 1, 1, 0]) 63 (mkE 88 [(4, .loc 2 0), (5, fL s5), (6, fL s6), (7, .slice ck cm), (8, .slice co cp), (9, iL s9), (10, fL el), (12, fL dp)]) [[fL aa, fL ac], [fL ai, fL ah], [fL ak, fL al]] G k = zeF O (fun s5 s6 ck cm co cp s9 dp aa ac ai ah ak al G => k .normal (mkE 88 [(4, .loc 2 0), (5, fL s5), (6, fL s6), (7, .slice ck cm), (8, .slice co cp), (9, iL s9), (12, fL dp)]) [[fL aa, fL ac], [fL ai, fL ah], [fL ak, fL al]] G) s5 s6 ck cm co cp s9 el dp aa ac ai ah ak al G := by
  intros
  rw [zrU]
  simp only [zeF]
def zkp {R : Type} (O : Ora R) (KN : zD0 R) (L4 : zJF R) (s5 s6 : Nat) (ck : OG) (cm : Nat) (co : OG) (cp : Nat) (s9 : Int) (aa ac : Nat) (ai ah : Nat) (ak al : Nat) (G : GH) : Option R :=
  (zbj ck cm s9 1).bind fun a1 =>
  (zg G .f64 a1).bind fun x2 =>
  (zbj co cp s9 1).bind fun a3 =>
  (zg G .f64 a3).bind fun x4 =>
  O zhY [fL x2, fL x4, .bool true] G fun v5 G6 =>
  (zY 2 v5).bind fun c7 =>
  (zc .f64 (c7.getD 0 za)).bind fun x8 =>
  (zk .i64 (c7.getD 1 za)).bind fun x9 =>
  (zbj ck cm s9 1).bind fun a10 =>
  (zg G6 .f64 a10).bind fun x11 =>
  (zbj co cp s9 1).bind fun a12 =>
  (zg G6 .f64 a12).bind fun x13 =>
  O zhY [fL x11, fL x13, .bool false] G6 fun v14 G15 =>
  (zY 2 v14).bind fun c16 =>
  (zc .f64 (c16.getD 0 za)).bind fun x17 =>
  (zk .i64 (c16.getD 1 za)).bind fun x18 =>
  L4 s5 s6 ck cm co cp s9 x8 x17 aa ac ai ah ak al G15
def zfv {R : Type} (O : Ora R) (KN : zD0 R) (s5 s6 : Nat) (ck : OG) (cm : Nat) (co : OG) (cp : Nat) (s9 : Int) (dp aa : Nat) (ac ai : Nat) (ah ak al : Nat) (G : GH) : Option R :=
  bif (fgt .f64 dp s6) then
  KN s5 dp ck cm co cp s9 aa ac ai ah ak al G
  else
  KN s5 s6 ck cm co cp s9 aa ac ai ah ak al G
def zjG {R : Type} (O : Ora R) (fuel : Nat) (KN : zD0 R) : Nat → Nat → OG → Nat → OG → Nat → Int → Nat → Nat → Nat → Nat → Nat → Nat → Nat → Nat → GH → Option R := fun s5 s6 ck cm co cp s9 el dp aa ac ai ah ak al G =>
  zi fuel (zeF O (zfv O KN) s5 s6 ck cm co cp s9 el dp aa ac ai ah ak al G)
theorem zpj (fuel s5 s6 : Nat) (ck : OG) (cm : Nat) (co : OG) (cp : Nat) (s9 : Int) (dp aa : Nat) (ac ai : Nat) (ah ak al : Nat) (G : GH) (k : KE R) :
  ze Tryz.prog O zhO fuel (nav bd25 [1, 1, 1, 1, 1, 1, 0, 1, 0, 0, 1, 0]) [0, 1, 1, 0] (kpD zhO 43 3 k) .normal (mkE 88 [(4, .loc 2 0), (5, fL s5), (6, fL s6), (7, .slice ck cm), (8, .slice co cp), (9, iL s9), (12, fL dp)]) [[fL aa, fL ac], [fL ai, fL ah], [fL ak, fL al]] G =
  zfv O (fun s5 s6 ck cm co cp s9 aa ac ai ah ak al G => k .normal (mkE 88 [(4, .loc 2 0), (5, fL s5), (6, fL s6), (7, .slice ck cm), (8, .slice co cp), (9, iL s9)]) [[fL aa, fL ac], [fL ai, fL ah], [fL ak, fL al]] G) s5 s6 ck cm co cp s9 dp aa ac ai ah ak al G := by kernel_rfl
theorem ztg (fuel : Nat) (k : KE R) :
  (fun (s5 s6 : Nat) (ck : OG) (cm : Nat) (co : OG) (cp : Nat) (s9 : Int) (el dp : Nat) (aa ac : Nat) (ai ah : Nat) (ak al : Nat) (G : GH) => zi fuel (zd Tryz.prog O zhO fuel (nav bd25 [1, 1, 1, 1, 1, 1, 0, 1, 0, 0, 1, 0, 0, 1, 1, 0]) 63 (mkE 88 [(4, .loc 2 0), (5, fL s5), (6, fL s6), (7, .slice ck cm), (8, .slice co cp), (9, iL s9), (10, fL el), (12, fL dp)]) [[fL aa, fL ac], [fL ai, fL ah], [fL ak, fL al]] G (ze Tryz.prog O zhO fuel (nav bd25 [1, 1, 1, 1, 1, 1, 0, 1, 0, 0, 1, 0]) [0, 1, 1, 0] (kpD zhO 43 3 k)))) = zjG O fuel (fun (s5 s6 : Nat) (ck : OG) (cm : Nat) (co : OG) (cp : Nat) (s9 : Int) (aa ac : Nat) (ai ah : Nat) (ak al : Nat) (G : GH) => k .normal (mkE 88 [(4, .loc 2 0), (5, fL s5), (6, fL s6), (7, .slice ck cm), (8, .slice co cp), (9, iL s9)]) [[fL aa, fL ac], [fL ai, fL ah], [fL ak, fL al]] G) := by
  funext s5 s6 ck cm co cp s9 el dp aa ac ai ah ak al G
  refine congrArg (zi fuel) ?_
  refine (zsH O fuel _ s5 s6 ck cm co cp s9 el dp aa ac ai ah ak al G).trans ?_
  refine congrFun (congrFun (congrFun (congrFun (congrFun (congrFun (congrFun (congrFun (congrFun (congrFun (congrFun (congrFun (congrFun (congrFun (congrFun (congrFun ?_ _) _) _) _) _) _) _) _) _) _) _) _) _) _) _) _
  refine congrArg (zeF O) ?_
  · funext s5 s6 ck cm co cp s9 dp aa ac ai ah ak al G
    exact zpj O fuel s5 s6 ck cm co cp s9 dp aa ac ai ah ak al G k
def zep {R : Type} (O : Ora R) (fuel : Nat) (KN : zD0 R) : Nat → Nat → OG → Nat → OG → Nat → Int → Nat → Nat → Nat → Nat → Nat → Nat → GH → Option R := fun s5 s6 ck cm co cp s9 aa ac ai ah ak al G => zkp O KN (zjG O fuel KN) s5 s6 ck cm co cp s9 aa ac ai ah ak al G
theorem zq7 (fuel s5 s6 : Nat) (ck : OG) (cm : Nat) (co : OG) (cp : Nat) (s9 : Int) (aa ac : Nat) (ai ah : Nat) (ak al : Nat) (G : GH) (k : KE R) :
  zd Tryz.prog O zhO fuel (nav bd25 [1, 1, 1, 1, 1, 1, 0, 1, 0, 0, 1, 0]) 43 (mkE 88 [(4, .loc 2 0), (5, fL s5), (6, fL s6), (7, .slice ck cm), (8, .slice co cp), (9, iL s9)]) [[fL aa, fL ac], [fL ai, fL ah], [fL ak, fL al]] G k =
  zkp O (fun s5 s6 ck cm co cp s9 aa ac ai ah ak al G => k .normal (mkE 88 [(4, .loc 2 0), (5, fL s5), (6, fL s6), (7, .slice ck cm), (8, .slice co cp), (9, iL s9)]) [[fL aa, fL ac], [fL ai, fL ah], [fL ak, fL al]] G) (fun s5 s6 ck cm co cp s9 el dp aa ac ai ah ak al G => zi fuel (zd Tryz.prog O zhO fuel (nav bd25 [1, 1, 1, 1, 1, 1, 0, 1, 0, 0, 1, 0, 0, 1, 1, 0]) 63 (mkE 88 [(4, .loc 2 0), (5, fL s5), (6, fL s6), (7, .slice ck cm), (8, .slice co cp), (9, iL s9), (10, fL el), (12, fL dp)]) [[fL aa, fL ac], [fL ai, fL ah], [fL ak, fL al]] G (ze Tryz.prog O zhO fuel (nav bd25 [1, 1, 1, 1, 1, 1, 0, 1, 0, 0, 1, 0]) [0, 1, 1, 0] (kpD zhO 43 3 k)))) s5 s6 ck cm co cp s9 aa ac ai ah ak al G := by kernel_rfl
theorem zsf (fuel : Nat) (k : KE R) : ∀ (s5 s6 : Nat) (ck : OG) (cm : Nat) (co : OG) (cp : Nat) (s9 : Int) (aa ac : Nat) (ai ah : Nat) (ak al : Nat) (G : GH),
  zd Tryz.prog O zhO fuel (nav bd25 [1, 1, 1, 1, 1, 1, 0, 1, 0, 0, 1, 0]) 43 (mkE 88 [(4, .loc 2 0), (5, fL s5), (6, fL s6), (7, .slice ck cm), (8, .slice co cp), (9, iL s9)]) [[fL aa, fL ac], [fL ai, fL ah], [fL ak, fL al]] G k = zep O fuel (fun s5 s6 ck cm co cp s9 aa ac ai ah ak al G => k .normal (mkE 88 [(4, .loc 2 0), (5, fL s5), (6, fL s6), (7, .slice ck cm), (8, .slice co cp), (9, iL s9)]) [[fL aa, fL ac], [fL ai, fL ah], [fL ak, fL al]] G) s5 s6 ck cm co cp s9 aa ac ai ah ak al G := by
  intros
  rw [zq7]
  simp only [zep, ztg]
def zgY {R : Type} (O : Ora R) (KN : zD0 R) (K0 : zGM R) (L3 : zD0 R) (s5 s6 : Nat) (ck : OG) (cm : Nat) (co : OG) (cp : Nat) (s9 : Int) (aa ac : Nat) (ai ah : Nat) (ak al : Nat) (G : GH) : Option R :=
  bif (decide (s9 < (4 : Int))) then
  L3 s5 s6 ck cm co cp s9 aa ac ai ah ak al G
  else
  K0 s5 s6 aa ac ai ah ak al G
def zfh {R : Type} (O : Ora R) (KN : zD0 R) (K0 : zGM R) (s5 s6 : Nat) (ck : OG) (cm : Nat) (co : OG) (cp : Nat) (s9 : Int) (aa ac : Nat) (ai ah : Nat) (ak al : Nat) (G : GH) : Option R :=
  KN s5 s6 ck cm co cp (IntKind.wrap .i64 (s9 + (1 : Int))) aa ac ai ah ak al G
def zjP {R : Type} (O : Ora R) (fuel : Nat) (KN : zD0 R) (K0 : zGM R) : Nat → Nat → OG → Nat → OG → Nat → Int → Nat → Nat → Nat → Nat → Nat → Nat → GH → Option R := fun s5 s6 ck cm co cp s9 aa ac ai ah ak al G =>
  zi fuel (zep O fuel (zfh O KN K0) s5 s6 ck cm co cp s9 aa ac ai ah ak al G)
theorem zoT (fuel s5 s6 : Nat) (ck : OG) (cm : Nat) (co : OG) (cp : Nat) (s9 : Int) (aa ac : Nat) (ai ah : Nat) (ak al : Nat) (G : GH) (k : KE R) :
  ze Tryz.prog O zhO fuel (nav bd25 [1, 1, 1, 1, 1, 1, 0, 1, 0, 0]) [1, 0] (kpD zhO 36 3 k) .normal (mkE 88 [(4, .loc 2 0), (5, fL s5), (6, fL s6), (7, .slice ck cm), (8, .slice co cp), (9, iL s9)]) [[fL aa, fL ac], [fL ai, fL ah], [fL ak, fL al]] G =
  zfh O (fun s5 s6 ck cm co cp s9 aa ac ai ah ak al G => k .normal (mkE 88 [(4, .loc 2 0), (5, fL s5), (6, fL s6), (7, .slice ck cm), (8, .slice co cp), (9, iL s9)]) [[fL aa, fL ac], [fL ai, fL ah], [fL ak, fL al]] G) (fun s5 s6 aa ac ai ah ak al G => k (.exit 0) (mkE 88 [(4, .loc 2 0), (5, fL s5), (6, fL s6)]) [[fL aa, fL ac], [fL ai, fL ah], [fL ak, fL al]] G) s5 s6 ck cm co cp s9 aa ac ai ah ak al G := by kernel_rfl
theorem zsz (fuel : Nat) (k : KE R) :
  (fun (s5 s6 : Nat) (ck : OG) (cm : Nat) (co : OG) (cp : Nat) (s9 : Int) (aa ac : Nat) (ai ah : Nat) (ak al : Nat) (G : GH) => zi fuel (zd Tryz.prog O zhO fuel (nav bd25 [1, 1, 1, 1, 1, 1, 0, 1, 0, 0, 1, 0]) 43 (mkE 88 [(4, .loc 2 0), (5, fL s5), (6, fL s6), (7, .slice ck cm), (8, .slice co cp), (9, iL s9)]) [[fL aa, fL ac], [fL ai, fL ah], [fL ak, fL al]] G (ze Tryz.prog O zhO fuel (nav bd25 [1, 1, 1, 1, 1, 1, 0, 1, 0, 0]) [1, 0] (kpD zhO 36 3 k)))) = zjP O fuel (fun (s5 s6 : Nat) (ck : OG) (cm : Nat) (co : OG) (cp : Nat) (s9 : Int) (aa ac : Nat) (ai ah : Nat) (ak al : Nat) (G : GH) => k .normal (mkE 88 [(4, .loc 2 0), (5, fL s5), (6, fL s6), (7, .slice ck cm), (8, .slice co cp), (9, iL s9)]) [[fL aa, fL ac], [fL ai, fL ah], [fL ak, fL al]] G) (fun (s5 s6 : Nat) (aa ac : Nat) (ai ah : Nat) (ak al : Nat) (G : GH) => k (.exit 0) (mkE 88 [(4, .loc 2 0), (5, fL s5), (6, fL s6)]) [[fL aa, fL ac], [fL ai, fL ah], [fL ak, fL al]] G) := by
  funext s5 s6 ck cm co cp s9 aa ac ai ah ak al G
  refine congrArg (zi fuel) ?_
  refine (zsf O fuel _ s5 s6 ck cm co cp s9 aa ac ai ah ak al G).trans ?_
  refine congrFun (congrFun (congrFun (congrFun (congrFun (congrFun (congrFun (congrFun (congrFun (congrFun (congrFun (congrFun (congrFun (congrFun ?_ _) _) _) _) _) _) _) _) _) _) _) _) _) _
  refine congrArg (zep O fuel) ?_
  · funext s5 s6 ck cm co cp s9 aa ac ai ah ak al G
    exact zoT O fuel s5 s6 ck cm co cp s9 aa ac ai ah ak al G k
def zM {R : Type} (O : Ora R) (fuel : Nat) (K0 : zGM R) : Nat → Nat → Nat → OG → Nat → OG → Nat → Int → Nat → Nat → Nat → Nat → Nat → Nat → GH → Option R
  | 0, _, _, _, _, _, _, _, _, _, _, _, _, _, _ => none
  | n + 1, s5, s6, ck, cm, co, cp, s9, aa, ac, ai, ah, ak, al, G => zgY O (zM O fuel K0 n) K0 (zjP O fuel (zM O fuel K0 n) K0) s5 s6 ck cm co cp s9 aa ac ai ah ak al G
theorem zq5 (fuel s5 s6 : Nat) (ck : OG) (cm : Nat) (co : OG) (cp : Nat) (s9 : Int) (aa ac : Nat) (ai ah : Nat) (ak al : Nat) (G : GH) (k : KE R) :
  zd Tryz.prog O zhO fuel (nav bd25 [1, 1, 1, 1, 1, 1, 0, 1, 0, 0]) 36 (mkE 88 [(4, .loc 2 0), (5, fL s5), (6, fL s6), (7, .slice ck cm), (8, .slice co cp), (9, iL s9)]) [[fL aa, fL ac], [fL ai, fL ah], [fL ak, fL al]] G k =
  zgY O (fun s5 s6 ck cm co cp s9 aa ac ai ah ak al G => k .normal (mkE 88 [(4, .loc 2 0), (5, fL s5), (6, fL s6), (7, .slice ck cm), (8, .slice co cp), (9, iL s9)]) [[fL aa, fL ac], [fL ai, fL ah], [fL ak, fL al]] G) (fun s5 s6 aa ac ai ah ak al G => k (.exit 0) (mkE 88 [(4, .loc 2 0), (5, fL s5), (6, fL s6)]) [[fL aa, fL ac], [fL ai, fL ah], [fL ak, fL al]] G) (fun s5 s6 ck cm co cp s9 aa ac ai ah ak al G => zi fuel (zd Tryz.prog O zhO fuel (nav bd25 [1, 1, 1, 1, 1, 1, 0, 1, 0, 0, 1, 0]) 43 (mkE 88 [(4, .loc 2 0), (5, fL s5), (6, fL s6), (7, .slice ck cm), (8, .slice co cp), (9, iL s9)]) [[fL aa, fL ac], [fL ai, fL ah], [fL ak, fL al]] G (ze Tryz.prog O zhO fuel (nav bd25 [1, 1, 1, 1, 1, 1, 0, 1, 0, 0]) [1, 0] (kpD zhO 36 3 k)))) s5 s6 ck cm co cp s9 aa ac ai ah ak al G := by kernel_rfl
theorem zse (fuel : Nat) (k : KE R) : ∀ (n s5 s6 : Nat) (ck : OG) (cm : Nat) (co : OG) (cp : Nat) (s9 : Int) (aa ac : Nat) (ai ah : Nat) (ak al : Nat) (G : GH),
  zJ (zd Tryz.prog O zhO fuel (nav bd25 [1, 1, 1, 1, 1, 1, 0, 1, 0, 0]) 36) n (mkE 88 [(4, .loc 2 0), (5, fL s5), (6, fL s6), (7, .slice ck cm), (8, .slice co cp), (9, iL s9)]) [[fL aa, fL ac], [fL ai, fL ah], [fL ak, fL al]] G k = zM O fuel (fun s5 s6 aa ac ai ah ak al G => k (.exit 0) (mkE 88 [(4, .loc 2 0), (5, fL s5), (6, fL s6)]) [[fL aa, fL ac], [fL ai, fL ah], [fL ak, fL al]] G) n s5 s6 ck cm co cp s9 aa ac ai ah ak al G := by
  intro n
  induction n with
  | zero => intros; simp only [zJ, zM]
  | succ n ih =>
    intros
    rw [zaU, zq5]
    simp only [zM, zah, zaS, zbI, ih, zsz]
def zn6 {R : Type} (O : Ora R) (k : KV R) (L0 : zJe R) (av aw : Nat) (bu bw : Nat) (G : GH) : Option R :=
  L0 av aw bu bw (0 : Nat) (0 : Nat) G
def ziT {R : Type} (O : Ora R) (k : KV R) (L1 : zJe R) (gv : Bool) (aa ac : Nat) (ai ah : Nat) (ak al : Nat) (G : GH) : Option R :=
  bif gv then
  k (.agg [fL (0 : Nat), fL (0 : Nat)]) G
  else
  L1 aa ac ai ah ak al G
def zc4 {R : Type} (O : Ora R) (k : KV R) (L2 : zD0 R) (fz : Bool) (aa ac : Nat) (ai ah : Nat) (ak al : Nat) (G : GH) : Option R :=
  bif fz then
  O zh1 [] G fun v1 G2 =>
  (zr 2 v1).bind fun c3 =>
  (zc .f64 (c3.getD 0 za)).bind fun x4 =>
  (zc .f64 (c3.getD 1 za)).bind fun x5 =>
  k (.agg [fL x4, fL x5]) G2
  else
  O zaf [] G fun v6 G7 =>
  (zc .f64 v6).bind fun x8 =>
  O zaf [] G7 fun v9 G10 =>
  (zc .f64 v9).bind fun x11 =>
  L2 x8 (Op.negFloat .f64 x11) (some (zaA G10)) 4 (some (zaA (zac G10 [fL aa, fL aa, fL ac, fL ac] 24))) 4 (0 : Int) aa ac ai ah ak al (zac (zac G10 [fL aa, fL aa, fL ac, fL ac] 24) [fL ai, fL ah, fL ai, fL ah] 24)
def ziU {R : Type} (O : Ora R) (k : KV R) (s5 s6 : Nat) (aa ac : Nat) (ai ah : Nat) (ak al : Nat) (G : GH) : Option R :=
  k (.agg [fL s5, fL s6]) G
def zgX {R : Type} (O : Ora R) (fuel : Nat) (k : KV R) : Nat → Nat → OG → Nat → OG → Nat → Int → Nat → Nat → Nat → Nat → Nat → Nat → GH → Option R := fun s5 s6 ck cm co cp s9 aa ac ai ah ak al G =>
  zM O fuel (ziU O k) fuel s5 s6 ck cm co cp s9 aa ac ai ah ak al G
theorem zoE (fuel s5 : Nat) (s6 aa : Nat) (ac ai : Nat) (ah ak al : Nat) (G : GH) (k : KV R) :
  ze Tryz.prog O zhO fuel bd25 [1, 1, 1, 1, 1, 1, 0, 1, 0] (rcK Tryz.f25 k) (.exit 0) (mkE 88 [(4, .loc 2 0), (5, fL s5), (6, fL s6)]) [[fL aa, fL ac], [fL ai, fL ah], [fL ak, fL al]] G =
  ziU O k s5 s6 aa ac ai ah ak al G := by kernel_rfl
theorem zsW (fuel : Nat) (k : KV R) :
  (fun (s5 s6 : Nat) (ck : OG) (cm : Nat) (co : OG) (cp : Nat) (s9 : Int) (aa ac : Nat) (ai ah : Nat) (ak al : Nat) (G : GH) => zJ (zd Tryz.prog O zhO fuel (nav bd25 [1, 1, 1, 1, 1, 1, 0, 1, 0, 0]) 36) fuel (mkE 88 [(4, .loc 2 0), (5, fL s5), (6, fL s6), (7, .slice ck cm), (8, .slice co cp), (9, iL s9)]) [[fL aa, fL ac], [fL ai, fL ah], [fL ak, fL al]] G (ze Tryz.prog O zhO fuel bd25 [1, 1, 1, 1, 1, 1, 0, 1, 0] (rcK Tryz.f25 k))) = zgX O fuel k := by
  funext s5 s6 ck cm co cp s9 aa ac ai ah ak al G
  simp only [zgX, zse, zoE]
def zke {R : Type} (O : Ora R) (fuel : Nat) (k : KV R) : Nat → Nat → Nat → Nat → Nat → Nat → GH → Option R := fun aa ac ai ah ak al G =>
  zi fuel (zd8 O (zc4 O k (zgX O fuel k)) aa ac ai ah ak al G)
theorem zoB (fuel : Nat) (fz : Bool) (aa ac : Nat) (ai ah : Nat) (ak al : Nat) (G : GH) (k : KV R) :
  ze Tryz.prog O zhO fuel bd25 [1, 1, 0, 0] (rcK Tryz.f25 k) .normal (mkE 88 [(2, .loc 0 0), (3, .loc 1 0), (4, .loc 2 0), (26, .bool fz)]) [[fL aa, fL ac], [fL ai, fL ah], [fL ak, fL al]] G =
  zc4 O k (fun s5 s6 ck cm co cp s9 aa ac ai ah ak al G => zJ (zd Tryz.prog O zhO fuel (nav bd25 [1, 1, 1, 1, 1, 1, 0, 1, 0, 0]) 36) fuel (mkE 88 [(4, .loc 2 0), (5, fL s5), (6, fL s6), (7, .slice ck cm), (8, .slice co cp), (9, iL s9)]) [[fL aa, fL ac], [fL ai, fL ah], [fL ak, fL al]] G (ze Tryz.prog O zhO fuel bd25 [1, 1, 1, 1, 1, 1, 0, 1, 0] (rcK Tryz.f25 k))) fz aa ac ai ah ak al G := by kernel_rfl
theorem zsR (fuel : Nat) (k : KV R) :
  (fun (aa ac : Nat) (ai ah : Nat) (ak al : Nat) (G : GH) => zi fuel (zd Tryz.prog O zhO fuel (nav bd25 [1, 1, 0, 0]) 19 (mkE 88 [(2, .loc 0 0), (3, .loc 1 0), (4, .loc 2 0)]) [[fL aa, fL ac], [fL ai, fL ah], [fL ak, fL al]] G (ze Tryz.prog O zhO fuel bd25 [1, 1, 0, 0] (rcK Tryz.f25 k)))) = zke O fuel k := by
  funext aa ac ai ah ak al G
  refine congrArg (zi fuel) ?_
  refine (zsy O fuel _ aa ac ai ah ak al G).trans ?_
  refine congrFun (congrFun (congrFun (congrFun (congrFun (congrFun (congrFun ?_ _) _) _) _) _) _) _
  refine congrArg (zd8 O) ?_
  · funext fz aa ac ai ah ak al G
    rw [← zsW]
    exact zoB O fuel fz aa ac ai ah ak al G k
def zj7 {R : Type} (O : Ora R) (fuel : Nat) (k : KV R) : Nat → Nat → Nat → Nat → Nat → Nat → GH → Option R := fun aa ac ai ah ak al G =>
  zi fuel (zd4 O (ziT O k (zke O fuel k)) aa ac ai ah ak al G)
theorem zqc (fuel : Nat) (gv : Bool) (aa ac : Nat) (ai ah : Nat) (ak al : Nat) (G : GH) (k : KV R) :
  ze Tryz.prog O zhO fuel bd25 [1, 0, 0] (rcK Tryz.f25 k) .normal (mkE 88 [(2, .loc 0 0), (3, .loc 1 0), (4, .loc 2 0), (19, .bool gv)]) [[fL aa, fL ac], [fL ai, fL ah], [fL ak, fL al]] G =
  ziT O k (fun aa ac ai ah ak al G => zi fuel (zd Tryz.prog O zhO fuel (nav bd25 [1, 1, 0, 0]) 19 (mkE 88 [(2, .loc 0 0), (3, .loc 1 0), (4, .loc 2 0)]) [[fL aa, fL ac], [fL ai, fL ah], [fL ak, fL al]] G (ze Tryz.prog O zhO fuel bd25 [1, 1, 0, 0] (rcK Tryz.f25 k)))) gv aa ac ai ah ak al G := by kernel_rfl
theorem zs6 (fuel : Nat) (k : KV R) :
  (fun (aa ac : Nat) (ai ah : Nat) (ak al : Nat) (G : GH) => zi fuel (zd Tryz.prog O zhO fuel (nav bd25 [1, 0, 0]) 11 (mkE 88 [(2, .loc 0 0), (3, .loc 1 0), (4, .loc 2 0)]) [[fL aa, fL ac], [fL ai, fL ah], [fL ak, fL al]] G (ze Tryz.prog O zhO fuel bd25 [1, 0, 0] (rcK Tryz.f25 k)))) = zj7 O fuel k := by
  funext aa ac ai ah ak al G
  refine congrArg (zi fuel) ?_
  refine (zsx O fuel _ aa ac ai ah ak al G).trans ?_
  refine congrFun (congrFun (congrFun (congrFun (congrFun (congrFun (congrFun ?_ _) _) _) _) _) _) _
  refine congrArg (zd4 O) ?_
  · funext gv aa ac ai ah ak al G
    rw [← zsR]
    exact zqc O fuel gv aa ac ai ah ak al G k
theorem zut (fuel av : Nat) (aw bu bw : Nat) (G : GH) (k : KV R) :
  zf Tryz.prog O zhO fuel Tryz.f25 [.agg [fL av, fL aw], .agg [fL bu, fL bw]] G k =
  zn6 O k (fun aa ac ai ah ak al G => zi fuel (zd Tryz.prog O zhO fuel (nav bd25 [1, 0, 0]) 11 (mkE 88 [(2, .loc 0 0), (3, .loc 1 0), (4, .loc 2 0)]) [[fL aa, fL ac], [fL ai, fL ah], [fL ak, fL al]] G (ze Tryz.prog O zhO fuel bd25 [1, 0, 0] (rcK Tryz.f25 k)))) av aw bu bw G := by kernel_rfl
theorem zyX (fuel av : Nat) (aw bu bw : Nat) (G : GH) (k : KV R) :
  zf Tryz.prog O zhO fuel Tryz.f25 [.agg [fL av, fL aw], .agg [fL bu, fL bw]] G k =
  zn6 O k (zj7 O fuel k) av aw bu bw G := by
  rw [zut, zs6]
theorem zyT {R : Type} (fuel n av : Nat) (aw bu bw : Nat) (G : GH) (k : KV R) :
  runC Tryz.prog lo0 fuel (n + 1) 25 [.agg [fL av, fL aw], .agg [fL bu, fL bw]] G k = zf Tryz.prog (runC Tryz.prog lo0 fuel n) zhO fuel Tryz.f25 [.agg [fL av, fL aw], .agg [fL bu, fL bw]] G k := zh Tryz.func25 rfl rfl
theorem zuv (fuel av aw : Nat) (G : GH) (k : KV R) :
  zf Tryz.prog O [1, 777777] fuel Tryz.f49 [.agg [fL av, fL aw]] G k =
  bif (feq .f64 av (0 : Nat)) then
  k (.bool (feq .f64 aw (0 : Nat))) G
  else
  k (.bool false) G := by kernel_rfl
theorem ztA {R : Type} (fuel n av aw : Nat) (G : GH) (k : KV R) :
  runC Tryz.prog lo0 fuel (n + 1) 49 [.agg [fL av, fL aw]] G k = zf Tryz.prog (runC Tryz.prog lo0 fuel n) [1, 777777] fuel Tryz.f49 [.agg [fL av, fL aw]] G k := zh Tryz.func49 rfl rfl
theorem zxP (fuel av aw : Nat) (G : GH) (k : KV R) :
  zf Tryz.prog O [1, 777777] fuel Tryz.f50 [.agg [fL av, fL aw]] G k =
  O zt [fL av] G fun v1 G2 =>
  (zl v1).bind fun x3 =>
  bif (!x3) then
  k (.bool true) G2
  else
  O zt [fL aw] G2 fun v4 G5 =>
  (zl v4).bind fun x6 =>
  k (.bool (!x6)) G5 := by kernel_rfl
theorem zx6 {R : Type} (fuel n av aw : Nat) (G : GH) (k : KV R) :
  runC Tryz.prog lo0 fuel (n + 1) 50 [.agg [fL av, fL aw]] G k = zf Tryz.prog (runC Tryz.prog lo0 fuel n) [1, 777777] fuel Tryz.f50 [.agg [fL av, fL aw]] G k := zh Tryz.func50 rfl rfl
def zkk {R : Type} (O : Ora R) (KN : zIO R) (s5 : Nat) (s6 : Int) (aa ac : Nat) (ai ah : Nat) (ak al : Nat) (G : GH) : Option R :=
  bif (s6 != (0 : Int)) then
  O zaf [] G fun v1 G2 =>
  (zc .f64 v1).bind fun x3 =>
  KN (Op.negFloat .f64 x3) aa ac ai ah ak al G2
  else
  KN s5 aa ac ai ah ak al G
def zgG {R : Type} (O : Ora R) (KN : zIO R) : Nat → Int → Nat → Nat → Nat → Nat → Nat → Nat → GH → Option R := fun s5 s6 aa ac ai ah ak al G => zkk O KN s5 s6 aa ac ai ah ak al G
theorem zq0 (fuel s5 : Nat) (s6 : Int) (aa ac : Nat) (ai ah : Nat) (ak al : Nat) (G : GH) (k : KE R) :
  zd Tryz.prog O zwD fuel (nav bd45 [1, 1, 0]) 19 (mkE 34 [(2, .loc 0 0), (3, .loc 1 0), (4, .loc 2 0), (5, fL s5), (6, iL s6)]) [[fL aa, fL ac], [fL ai, fL ah], [fL ak, fL al]] G k =
  zkk O (fun s5 aa ac ai ah ak al G => k .normal (mkE 34 [(2, .loc 0 0), (3, .loc 1 0), (4, .loc 2 0), (5, fL s5)]) [[fL aa, fL ac], [fL ai, fL ah], [fL ak, fL al]] G) s5 s6 aa ac ai ah ak al G := by kernel_rfl
theorem zs4 (fuel : Nat) (k : KE R) : ∀ (s5 : Nat) (s6 : Int) (aa ac : Nat) (ai ah : Nat) (ak al : Nat) (G : GH),
  zd Tryz.prog O zwD fuel (nav bd45 [1, 1, 0]) 19 (mkE 34 [(2, .loc 0 0), (3, .loc 1 0), (4, .loc 2 0), (5, fL s5), (6, iL s6)]) [[fL aa, fL ac], [fL ai, fL ah], [fL ak, fL al]] G k = zgG O (fun s5 aa ac ai ah ak al G => k .normal (mkE 34 [(2, .loc 0 0), (3, .loc 1 0), (4, .loc 2 0), (5, fL s5)]) [[fL aa, fL ac], [fL ai, fL ah], [fL ak, fL al]] G) s5 s6 aa ac ai ah ak al G := by
  intros
  rw [zq0]
  simp only [zgG]
def zkj {R : Type} (O : Ora R) (KN : zGM R) (s5 : Nat) (s6 : Int) (s7 aa : Nat) (ac ai : Nat) (ah ak al : Nat) (G : GH) : Option R :=
  bif (s6 != (0 : Int)) then
  O zaf [] G fun v1 G2 =>
  (zc .f64 v1).bind fun x3 =>
  KN s5 x3 aa ac ai ah ak al G2
  else
  KN s5 s7 aa ac ai ah ak al G
def zgz {R : Type} (O : Ora R) (KN : zGM R) : Nat → Int → Nat → Nat → Nat → Nat → Nat → Nat → Nat → GH → Option R := fun s5 s6 s7 aa ac ai ah ak al G => zkj O KN s5 s6 s7 aa ac ai ah ak al G
theorem zqQ (fuel s5 : Nat) (s6 : Int) (s7 aa : Nat) (ac ai : Nat) (ah ak al : Nat) (G : GH) (k : KE R) :
  zd Tryz.prog O zwD fuel (nav bd45 [1, 1, 1, 1, 0]) 31 (mkE 34 [(4, .loc 2 0), (5, fL s5), (6, iL s6), (7, fL s7)]) [[fL aa, fL ac], [fL ai, fL ah], [fL ak, fL al]] G k =
  zkj O (fun s5 s7 aa ac ai ah ak al G => k .normal (mkE 34 [(4, .loc 2 0), (5, fL s5), (7, fL s7)]) [[fL aa, fL ac], [fL ai, fL ah], [fL ak, fL al]] G) s5 s6 s7 aa ac ai ah ak al G := by kernel_rfl
theorem zs5 (fuel : Nat) (k : KE R) : ∀ (s5 : Nat) (s6 : Int) (s7 aa : Nat) (ac ai : Nat) (ah ak al : Nat) (G : GH),
  zd Tryz.prog O zwD fuel (nav bd45 [1, 1, 1, 1, 0]) 31 (mkE 34 [(4, .loc 2 0), (5, fL s5), (6, iL s6), (7, fL s7)]) [[fL aa, fL ac], [fL ai, fL ah], [fL ak, fL al]] G k = zgz O (fun s5 s7 aa ac ai ah ak al G => k .normal (mkE 34 [(4, .loc 2 0), (5, fL s5), (7, fL s7)]) [[fL aa, fL ac], [fL ai, fL ah], [fL ak, fL al]] G) s5 s6 s7 aa ac ai ah ak al G := by
  intros
  rw [zqQ]
  simp only [zgz]
def zn3 {R : Type} (O : Ora R) (k : KV R) (L0 : zJo R) (av aw : Nat) (bu bw : Nat) (G : GH) : Option R :=
  O zlg [fL av, fL bu, .bool true] G fun v1 G2 =>
  (zY 2 v1).bind fun c3 =>
  (zc .f64 (c3.getD 0 za)).bind fun x4 =>
  (zk .i64 (c3.getD 1 za)).bind fun x5 =>
  L0 x4 x5 av aw bu bw (0 : Nat) (0 : Nat) G2
def zfg {R : Type} (O : Ora R) (k : KV R) (L1 : zJ0 R) (s5 aa : Nat) (ac ai : Nat) (ah ak al : Nat) (G : GH) : Option R :=
  O zlg [fL ac, fL ah, .bool false] G fun v1 G2 =>
  (zY 2 v1).bind fun c3 =>
  (zc .f64 (c3.getD 0 za)).bind fun x4 =>
  (zk .i64 (c3.getD 1 za)).bind fun x5 =>
  L1 s5 x5 x4 aa ac ai ah ak al G2
def znj {R : Type} (O : Ora R) (k : KV R) (s5 s7 : Nat) (aa ac : Nat) (ai ah : Nat) (ak al : Nat) (G : GH) : Option R :=
  k (.agg [fL s5, fL s7]) G
def zeJ {R : Type} (O : Ora R) (fuel : Nat) (k : KV R) : Nat → Int → Nat → Nat → Nat → Nat → Nat → Nat → Nat → GH → Option R := fun s5 s6 s7 aa ac ai ah ak al G =>
  zi fuel (zgz O (znj O k) s5 s6 s7 aa ac ai ah ak al G)
theorem zqb (fuel s5 : Nat) (s7 aa : Nat) (ac ai : Nat) (ah ak al : Nat) (G : GH) (k : KV R) :
  ze Tryz.prog O zwD fuel bd45 [1, 1, 1, 1, 0] (rcK Tryz.f45 k) .normal (mkE 34 [(4, .loc 2 0), (5, fL s5), (7, fL s7)]) [[fL aa, fL ac], [fL ai, fL ah], [fL ak, fL al]] G =
  znj O k s5 s7 aa ac ai ah ak al G := by kernel_rfl
theorem zsc (fuel : Nat) (k : KV R) :
  (fun (s5 : Nat) (s6 : Int) (s7 aa : Nat) (ac ai : Nat) (ah ak al : Nat) (G : GH) => zi fuel (zd Tryz.prog O zwD fuel (nav bd45 [1, 1, 1, 1, 0]) 31 (mkE 34 [(4, .loc 2 0), (5, fL s5), (6, iL s6), (7, fL s7)]) [[fL aa, fL ac], [fL ai, fL ah], [fL ak, fL al]] G (ze Tryz.prog O zwD fuel bd45 [1, 1, 1, 1, 0] (rcK Tryz.f45 k)))) = zeJ O fuel k := by
  funext s5 s6 s7 aa ac ai ah ak al G
  simp only [zeJ, zs5, zqb]
def zgK {R : Type} (O : Ora R) (fuel : Nat) (k : KV R) : Nat → Int → Nat → Nat → Nat → Nat → Nat → Nat → GH → Option R := fun s5 s6 aa ac ai ah ak al G =>
  zi fuel (zgG O (zfg O k (zeJ O fuel k)) s5 s6 aa ac ai ah ak al G)
theorem zpt (fuel s5 : Nat) (aa ac : Nat) (ai ah : Nat) (ak al : Nat) (G : GH) (k : KV R) :
  ze Tryz.prog O zwD fuel bd45 [1, 1, 0] (rcK Tryz.f45 k) .normal (mkE 34 [(2, .loc 0 0), (3, .loc 1 0), (4, .loc 2 0), (5, fL s5)]) [[fL aa, fL ac], [fL ai, fL ah], [fL ak, fL al]] G =
  zfg O k (fun s5 s6 s7 aa ac ai ah ak al G => zi fuel (zd Tryz.prog O zwD fuel (nav bd45 [1, 1, 1, 1, 0]) 31 (mkE 34 [(4, .loc 2 0), (5, fL s5), (6, iL s6), (7, fL s7)]) [[fL aa, fL ac], [fL ai, fL ah], [fL ak, fL al]] G (ze Tryz.prog O zwD fuel bd45 [1, 1, 1, 1, 0] (rcK Tryz.f45 k)))) s5 aa ac ai ah ak al G := by kernel_rfl
theorem zta (fuel : Nat) (k : KV R) :
  (fun (s5 : Nat) (s6 : Int) (aa ac : Nat) (ai ah : Nat) (ak al : Nat) (G : GH) => zi fuel (zd Tryz.prog O zwD fuel (nav bd45 [1, 1, 0]) 19 (mkE 34 [(2, .loc 0 0), (3, .loc 1 0), (4, .loc 2 0), (5, fL s5), (6, iL s6)]) [[fL aa, fL ac], [fL ai, fL ah], [fL ak, fL al]] G (ze Tryz.prog O zwD fuel bd45 [1, 1, 0] (rcK Tryz.f45 k)))) = zgK O fuel k := by
  funext s5 s6 aa ac ai ah ak al G
  simp only [zgK, zs4, zpt, zsc]
theorem zum (fuel av : Nat) (aw bu bw : Nat) (G : GH) (k : KV R) :
  zf Tryz.prog O zwD fuel Tryz.f45 [.agg [fL av, fL aw], .agg [fL bu, fL bw]] G k =
  zn3 O k (fun s5 s6 aa ac ai ah ak al G => zi fuel (zd Tryz.prog O zwD fuel (nav bd45 [1, 1, 0]) 19 (mkE 34 [(2, .loc 0 0), (3, .loc 1 0), (4, .loc 2 0), (5, fL s5), (6, iL s6)]) [[fL aa, fL ac], [fL ai, fL ah], [fL ak, fL al]] G (ze Tryz.prog O zwD fuel bd45 [1, 1, 0] (rcK Tryz.f45 k)))) av aw bu bw G := by kernel_rfl
theorem zy6 (fuel av : Nat) (aw bu bw : Nat) (G : GH) (k : KV R) :
  zf Tryz.prog O zwD fuel Tryz.f45 [.agg [fL av, fL aw], .agg [fL bu, fL bw]] G k =
  zn3 O k (zgK O fuel k) av aw bu bw G := by
  rw [zum, zta]
theorem zyM {R : Type} (fuel n av : Nat) (aw bu bw : Nat) (G : GH) (k : KV R) :
  runC Tryz.prog lo0 fuel (n + 1) 45 [.agg [fL av, fL aw], .agg [fL bu, fL bw]] G k = zf Tryz.prog (runC Tryz.prog lo0 fuel n) zwD fuel Tryz.f45 [.agg [fL av, fL aw], .agg [fL bu, fL bw]] G k := zh Tryz.func45 rfl rfl
theorem zyR (fuel av aw : Nat) (G : GH) (k : KV R) :
  zf Tryz.prog O [1, 2, 777777] fuel Tryz.f47 [.agg [fL av, fL aw]] G k =
  ((FloatKind.format .f64).sub (0 : Nat) aw).bind fun r1 =>
  ((FloatKind.format .f64).sub (0 : Nat) av).bind fun r2 =>
  k (.agg [fL r1, fL r2]) G := by kernel_rfl
theorem zzb {R : Type} (fuel n av aw : Nat) (G : GH) (k : KV R) :
  runC Tryz.prog lo0 fuel (n + 1) 47 [.agg [fL av, fL aw]] G k = zf Tryz.prog (runC Tryz.prog lo0 fuel n) [1, 2, 777777] fuel Tryz.f47 [.agg [fL av, fL aw]] G k := zh Tryz.func47 rfl rfl
theorem zyx (fuel av : Nat) (aw bu bw : Nat) (G : GH) (k : KV R) :
  zf Tryz.prog O [2, 3, 4, 777777] fuel Tryz.f23 [.agg [fL av, fL aw], .agg [fL bu, fL bw]] G k =
  O zmb [.agg [fL bu, fL bw]] (zj G) fun v1 _ =>
  (zr 2 v1).bind fun c2 =>
  (zc .f64 (c2.getD 0 za)).bind fun x3 =>
  (zc .f64 (c2.getD 1 za)).bind fun x4 =>
  O zdL [.agg [fL av, fL aw], .agg [fL x3, fL x4]] (zj G) fun v5 _ =>
  (zr 2 v5).bind fun c6 =>
  (zc .f64 (c6.getD 0 za)).bind fun x7 =>
  (zc .f64 (c6.getD 1 za)).bind fun x8 =>
  k (.agg [fL x7, fL x8]) G := by kernel_rfl
theorem zy8 {R : Type} (fuel n av : Nat) (aw bu bw : Nat) (G : GH) (k : KV R) :
  runC Tryz.prog lo0 fuel (n + 1) 23 [.agg [fL av, fL aw], .agg [fL bu, fL bw]] G k = zf Tryz.prog (runC Tryz.prog lo0 fuel n) [2, 3, 4, 777777] fuel Tryz.f23 [.agg [fL av, fL aw], .agg [fL bu, fL bw]] G k := zh Tryz.func23 rfl rfl
def zhn {R : Type} (O : Ora R) (KN : zHR R) (s4 : Nat) (s5 : Int) (s6 : Nat) (s7 : Int) (aa ac : Nat) (G : GH) : Option R :=
  bif (s5 != (0 : Int)) then
  KN s4 true aa ac G
  else
  bif (s7 != (0 : Int)) then
  KN s4 true aa ac G
  else
  bif (!feq .f64 s4 s6) then
  KN s4 true aa ac G
  else
  bif (flt .f64 s4 (14069245235905429504 : Nat)) then
  KN s4 true aa ac G
  else
  KN s4 (fgt .f64 s4 (4845873199050653696 : Nat)) aa ac G
def zdY {R : Type} (O : Ora R) (KN : zHR R) : Nat → Int → Nat → Int → Nat → Nat → GH → Option R := fun s4 s5 s6 s7 aa ac G => zhn O KN s4 s5 s6 s7 aa ac G
theorem znO (fuel s4 : Nat) (s5 : Int) (s6 : Nat) (s7 : Int) (aa ac : Nat) (G : GH) (k : KE R) :
  zd Tryz.prog O zBP fuel (nav bd24 [1, 1, 1, 0, 0]) 19 (mkE 41 [(4, fL s4), (5, iL s5), (6, fL s6), (7, iL s7)]) [[fL aa, fL ac]] G k =
  zhn O (fun s4 gj aa ac G => k .normal (mkE 41 [(4, fL s4), (38, .bool gj)]) [[fL aa, fL ac]] G) s4 s5 s6 s7 aa ac G := by kernel_rfl
theorem zoM (fuel : Nat) (k : KE R) : ∀ (s4 : Nat) (s5 : Int) (s6 : Nat) (s7 : Int) (aa ac : Nat) (G : GH),
  zd Tryz.prog O zBP fuel (nav bd24 [1, 1, 1, 0, 0]) 19 (mkE 41 [(4, fL s4), (5, iL s5), (6, fL s6), (7, iL s7)]) [[fL aa, fL ac]] G k = zdY O (fun s4 gj aa ac G => k .normal (mkE 41 [(4, fL s4), (38, .bool gj)]) [[fL aa, fL ac]] G) s4 s5 s6 s7 aa ac G := by
  intros
  rw [znO]
  simp only [zdY]
def zkG {R : Type} (O : Ora R) (k : KV R) (L0 : zIZ R) (av aw : Nat) (G : GH) : Option R :=
  O zfE [fL av] G fun v1 G2 =>
  (zY 2 v1).bind fun c3 =>
  (zc .f64 (c3.getD 0 za)).bind fun x4 =>
  (zk .i64 (c3.getD 1 za)).bind fun x5 =>
  O zfE [fL aw] G2 fun v6 G7 =>
  (zY 2 v6).bind fun c8 =>
  (zc .f64 (c8.getD 0 za)).bind fun x9 =>
  (zk .i64 (c8.getD 1 za)).bind fun x10 =>
  L0 x4 x5 x9 x10 av aw G7
def zgk {R : Type} (O : Ora R) (k : KV R) (s4 : Nat) (gj : Bool) (aa ac : Nat) (G : GH) : Option R :=
  bif gj then
  k (.tuple [iL (0 : Int), iL (2 : Int)]) G
  else
  (f2i .f64 s4 .i64).bind fun x1 =>
  k (.tuple [iL x1, iL (1 : Int)]) G
def zeu {R : Type} (O : Ora R) (fuel : Nat) (k : KV R) : Nat → Int → Nat → Int → Nat → Nat → GH → Option R := fun s4 s5 s6 s7 aa ac G =>
  zi fuel (zdY O (zgk O k) s4 s5 s6 s7 aa ac G)
theorem zm2 (fuel s4 : Nat) (gj : Bool) (aa ac : Nat) (G : GH) (k : KV R) :
  ze Tryz.prog O zBP fuel bd24 [1, 1, 1, 0, 0] (rcK Tryz.f24 k) .normal (mkE 41 [(4, fL s4), (38, .bool gj)]) [[fL aa, fL ac]] G =
  zgk O k s4 gj aa ac G := by kernel_rfl
theorem zoX (fuel : Nat) (k : KV R) :
  (fun (s4 : Nat) (s5 : Int) (s6 : Nat) (s7 : Int) (aa ac : Nat) (G : GH) => zi fuel (zd Tryz.prog O zBP fuel (nav bd24 [1, 1, 1, 0, 0]) 19 (mkE 41 [(4, fL s4), (5, iL s5), (6, fL s6), (7, iL s7)]) [[fL aa, fL ac]] G (ze Tryz.prog O zBP fuel bd24 [1, 1, 1, 0, 0] (rcK Tryz.f24 k)))) = zeu O fuel k := by
  funext s4 s5 s6 s7 aa ac G
  simp only [zeu, zoM, zm2]
theorem zrJ (fuel av aw : Nat) (G : GH) (k : KV R) :
  zf Tryz.prog O zBP fuel Tryz.f24 [.agg [fL av, fL aw]] G k =
  zkG O k (fun s4 s5 s6 s7 aa ac G => zi fuel (zd Tryz.prog O zBP fuel (nav bd24 [1, 1, 1, 0, 0]) 19 (mkE 41 [(4, fL s4), (5, iL s5), (6, fL s6), (7, iL s7)]) [[fL aa, fL ac]] G (ze Tryz.prog O zBP fuel bd24 [1, 1, 1, 0, 0] (rcK Tryz.f24 k)))) av aw G := by kernel_rfl
theorem zvE (fuel av aw : Nat) (G : GH) (k : KV R) :
  zf Tryz.prog O zBP fuel Tryz.f24 [.agg [fL av, fL aw]] G k =
  zkG O k (zeu O fuel k) av aw G := by
  rw [zrJ, zoX]
theorem zwr {R : Type} (fuel n av aw : Nat) (G : GH) (k : KV R) :
  runC Tryz.prog lo0 fuel (n + 1) 24 [.agg [fL av, fL aw]] G k = zf Tryz.prog (runC Tryz.prog lo0 fuel n) zBP fuel Tryz.f24 [.agg [fL av, fL aw]] G k := zh Tryz.func24 rfl rfl
theorem zx1 (fuel av aw : Nat) (G : GH) (k : KV R) :
  zf Tryz.prog O [1, 2, 777777] fuel Tryz.f46 [.agg [fL av, fL aw]] G k =
  k (.agg [fL av, fL aw, fL av, fL aw, fL av, fL aw]) G := by kernel_rfl
theorem zwL {R : Type} (fuel n av aw : Nat) (G : GH) (k : KV R) :
  runC Tryz.prog lo0 fuel (n + 1) 46 [.agg [fL av, fL aw]] G k = zf Tryz.prog (runC Tryz.prog lo0 fuel n) [1, 2, 777777] fuel Tryz.f46 [.agg [fL av, fL aw]] G k := zh Tryz.func46 rfl rfl
theorem zvY (fuel av : Nat) (aw bf : Nat) (bh bx : Nat) (cd bu : Nat) (bw cz : Nat) (da dt eh : Nat) (G : GH) (k : KV R) :
  zf Tryz.prog O [2, 3, 4, 777777] fuel Tryz.f20 [.agg [fL av, fL aw, fL bf, fL bh, fL bx, fL cd], .agg [fL bu, fL bw, fL cz, fL da, fL dt, fL eh]] G k =
  O zae [.agg [fL av, fL aw], .agg [fL bu, fL bw]] (zj G) fun v1 _ =>
  (zr 2 v1).bind fun c2 =>
  (zc .f64 (c2.getD 0 za)).bind fun x3 =>
  (zc .f64 (c2.getD 1 za)).bind fun x4 =>
  O zae [.agg [fL bf, fL bh], .agg [fL cz, fL da]] (zj G) fun v5 _ =>
  (zr 2 v5).bind fun c6 =>
  (zc .f64 (c6.getD 0 za)).bind fun x7 =>
  (zc .f64 (c6.getD 1 za)).bind fun x8 =>
  O zae [.agg [fL bx, fL cd], .agg [fL dt, fL eh]] (zj G) fun v9 _ =>
  (zr 2 v9).bind fun c10 =>
  (zc .f64 (c10.getD 0 za)).bind fun x11 =>
  (zc .f64 (c10.getD 1 za)).bind fun x12 =>
  k (.agg [fL x3, fL x4, fL x7, fL x8, fL x11, fL x12]) G := by kernel_rfl
theorem zvA {R : Type} (fuel n av : Nat) (aw bf : Nat) (bh bx : Nat) (cd bu : Nat) (bw cz : Nat) (da dt eh : Nat) (G : GH) (k : KV R) :
  runC Tryz.prog lo0 fuel (n + 1) 20 [.agg [fL av, fL aw, fL bf, fL bh, fL bx, fL cd], .agg [fL bu, fL bw, fL cz, fL da, fL dt, fL eh]] G k = zf Tryz.prog (runC Tryz.prog lo0 fuel n) [2, 3, 4, 777777] fuel Tryz.f20 [.agg [fL av, fL aw, fL bf, fL bh, fL bx, fL cd], .agg [fL bu, fL bw, fL cz, fL da, fL dt, fL eh]] G k := zh Tryz.func20 rfl rfl
theorem zwt (fuel av : Nat) (aw bf : Nat) (bh bx : Nat) (cd bu bw : Nat) (G : GH) (k : KV R) :
  zf Tryz.prog O [2, 3, 4, 777777] fuel Tryz.f22 [.agg [fL av, fL aw, fL bf, fL bh, fL bx, fL cd], .agg [fL bu, fL bw]] G k =
  O zjV [.agg [fL bu, fL bw]] (zj G) fun v1 _ =>
  (zr 6 v1).bind fun c2 =>
  (zc .f64 (c2.getD 0 za)).bind fun x3 =>
  (zc .f64 (c2.getD 1 za)).bind fun x4 =>
  (zc .f64 (c2.getD 2 za)).bind fun x5 =>
  (zc .f64 (c2.getD 3 za)).bind fun x6 =>
  (zc .f64 (c2.getD 4 za)).bind fun x7 =>
  (zc .f64 (c2.getD 5 za)).bind fun x8 =>
  O zfm [.agg [fL av, fL aw, fL bf, fL bh, fL bx, fL cd], .agg [fL x3, fL x4, fL x5, fL x6, fL x7, fL x8]] (zj G) fun v9 _ =>
  (zr 6 v9).bind fun c10 =>
  (zc .f64 (c10.getD 0 za)).bind fun x11 =>
  (zc .f64 (c10.getD 1 za)).bind fun x12 =>
  (zc .f64 (c10.getD 2 za)).bind fun x13 =>
  (zc .f64 (c10.getD 3 za)).bind fun x14 =>
  (zc .f64 (c10.getD 4 za)).bind fun x15 =>
  (zc .f64 (c10.getD 5 za)).bind fun x16 =>
  k (.agg [fL x11, fL x12, fL x13, fL x14, fL x15, fL x16]) G := by kernel_rfl
theorem zvX {R : Type} (fuel n av : Nat) (aw bf : Nat) (bh bx : Nat) (cd bu bw : Nat) (G : GH) (k : KV R) :
  runC Tryz.prog lo0 fuel (n + 1) 22 [.agg [fL av, fL aw, fL bf, fL bh, fL bx, fL cd], .agg [fL bu, fL bw]] G k = zf Tryz.prog (runC Tryz.prog lo0 fuel n) [2, 3, 4, 777777] fuel Tryz.f22 [.agg [fL av, fL aw, fL bf, fL bh, fL bx, fL cd], .agg [fL bu, fL bw]] G k := zh Tryz.func22 rfl rfl
theorem zzm (fuel av : Nat) (aw bf : Nat) (bh bx : Nat) (cd bu : Nat) (bw cz : Nat) (da dt eh : Nat) (G : GH) (k : KV R) :
  zf Tryz.prog O [2, 3, 4, 777777] fuel Tryz.f21 [.agg [fL av, fL aw, fL bf, fL bh, fL bx, fL cd], .agg [fL bu, fL bw, fL cz, fL da, fL dt, fL eh]] G k =
  O zdL [.agg [fL av, fL aw], .agg [fL bu, fL bw]] (zj G) fun v1 _ =>
  (zr 2 v1).bind fun c2 =>
  (zc .f64 (c2.getD 0 za)).bind fun x3 =>
  (zc .f64 (c2.getD 1 za)).bind fun x4 =>
  O zdL [.agg [fL bf, fL bh], .agg [fL cz, fL da]] (zj G) fun v5 _ =>
  (zr 2 v5).bind fun c6 =>
  (zc .f64 (c6.getD 0 za)).bind fun x7 =>
  (zc .f64 (c6.getD 1 za)).bind fun x8 =>
  O zdL [.agg [fL bx, fL cd], .agg [fL dt, fL eh]] (zj G) fun v9 _ =>
  (zr 2 v9).bind fun c10 =>
  (zc .f64 (c10.getD 0 za)).bind fun x11 =>
  (zc .f64 (c10.getD 1 za)).bind fun x12 =>
  k (.agg [fL x3, fL x4, fL x7, fL x8, fL x11, fL x12]) G := by kernel_rfl
theorem zzp {R : Type} (fuel n av : Nat) (aw bf : Nat) (bh bx : Nat) (cd bu : Nat) (bw cz : Nat) (da dt eh : Nat) (G : GH) (k : KV R) :
  runC Tryz.prog lo0 fuel (n + 1) 21 [.agg [fL av, fL aw, fL bf, fL bh, fL bx, fL cd], .agg [fL bu, fL bw, fL cz, fL da, fL dt, fL eh]] G k = zf Tryz.prog (runC Tryz.prog lo0 fuel n) [2, 3, 4, 777777] fuel Tryz.f21 [.agg [fL av, fL aw, fL bf, fL bh, fL bx, fL cd], .agg [fL bu, fL bw, fL cz, fL da, fL dt, fL eh]] G k := zh Tryz.func21 rfl rfl
end
end Go.LI.Film
