/- What the interpreter gives for textures: copies (written by texz.py). -/
import Derived.Test.YtbjcipikclbecaaGreatSeatA
set_option maxRecDepth 100000
set_option linter.unusedVariables false
set_option linter.unusedSimpArgs false
namespace Go.LI.Film
open Go.Proofs.YtbjcipikclbecaaGreat Go Go.Proofs Go.LI
section
variable {R : Type} (O : Ora R)
def zHl (G : GH) (b : OG) (n sz : Nat) : Option (List IV) := match b with | some b => grd G b (n * sz) | none => if n = 0 then some [] else none
def ziw {R : Type} (O : Ora R) (Kret : Bool → GH → Option R) (KN : OG → Nat → GH → Option R) (ba : OG) (az : Nat) (bm : OG) (bj : Nat) (G : GH) : Option R :=
  bif (decide ((az : Int) > (100 : Int))) then
  Kret true G
  else
  bif (decide ((bj : Int) > (10 : Int))) then
  Kret true G
  else
  KN bm bj G
def zfK {R : Type} (O : Ora R) (Kret : Bool → GH → Option R) (KN : OG → Nat → GH → Option R) : OG → Nat → OG → Nat → GH → Option R := fun ba az bm bj G => ziw O Kret KN ba az bm bj G
theorem zoH (fuel : Nat) (ba : OG) (az : Nat) (bm : OG) (bj : Nat) (G : GH) (k : KE R) :
  zd Tryz.prog O lo5 fuel (nav bd5 [1, 0]) 15 (mkE 27 [(0, .slice ba az), (1, .slice bm bj)]) [] G k =
  ziw O (fun s4 G => k .ret (mkE 27 [(4, .bool s4)]) [] G) (fun bm bj G => k .normal (mkE 27 [(1, .slice bm bj)]) [] G) ba az bm bj G := by kernel_rfl
theorem zqD (fuel : Nat) (k : KE R) : ∀ (ba : OG) (az : Nat) (bm : OG) (bj : Nat) (G : GH),
  zd Tryz.prog O lo5 fuel (nav bd5 [1, 0]) 15 (mkE 27 [(0, .slice ba az), (1, .slice bm bj)]) [] G k = zfK O (fun s4 G => k .ret (mkE 27 [(4, .bool s4)]) [] G) (fun bm bj G => k .normal (mkE 27 [(1, .slice bm bj)]) [] G) ba az bm bj G := by
  intros
  rw [zoH]
  simp only [zfK]
def zfd {R : Type} (O : Ora R) (Kret : Bool → GH → Option R) (KN : zI6 R) (K0 : GH → Option R) (bm : OG) (bj : Nat) (s5 : Int) (G : GH) : Option R :=
  bif (decide (s5 < (bj : Int))) then
  (zbj bm bj s5 3).bind fun a1 =>
  (zci G (GA.add a1 2)).bind fun x2 =>
  bif (decide ((x2.2 : Int) > (500 : Int))) then
  Kret true G
  else
  KN bm bj (IntKind.wrap .i64 (s5 + (1 : Int))) G
  else
  K0 G
def zaF {R : Type} (O : Ora R) (Kret : Bool → GH → Option R) (K0 : GH → Option R) : Nat → OG → Nat → Int → GH → Option R
  | 0, _, _, _, _ => none
  | n + 1, bm, bj, s5, G => zfd O Kret (zaF O Kret K0 n) K0 bm bj s5 G
theorem zpO (fuel : Nat) (bm : OG) (bj : Nat) (s5 : Int) (G : GH) (k : KE R) :
  zd Tryz.prog O lo5 fuel (nav bd5 [1, 1, 0, 1, 0, 0]) 16 (mkE 27 [(1, .slice bm bj), (5, iL s5)]) [] G k =
  zfd O (fun s4 G => k .ret (mkE 27 [(4, .bool s4)]) [] G) (fun bm bj s5 G => k .normal (mkE 27 [(1, .slice bm bj), (5, iL s5)]) [] G) (fun G => k (.exit 0) (mkE 27 []) [] G) bm bj s5 G := by kernel_rfl
theorem zrL (fuel : Nat) (k : KE R) : ∀ (n : Nat) (bm : OG) (bj : Nat) (s5 : Int) (G : GH),
  zJ (zd Tryz.prog O lo5 fuel (nav bd5 [1, 1, 0, 1, 0, 0]) 16) n (mkE 27 [(1, .slice bm bj), (5, iL s5)]) [] G k = zaF O (fun s4 G => k .ret (mkE 27 [(4, .bool s4)]) [] G) (fun G => k (.exit 0) (mkE 27 []) [] G) n bm bj s5 G := by
  intro n
  induction n with
  | zero => intros; first | rfl | simp only [zJ, zaF]
  | succ n ih =>
    intros
    rw [zaU, zpO]
    simp only [zaF, zah, zaS, zbI, ih]
def zlW {R : Type} (O : Ora R) (k : KV R) (L0 : zJs R) (dc : OG) (db : Nat) (dq : OG) (dr : Nat) (G : GH) : Option R :=
  L0 dc db dq dr G
def ze5 {R : Type} (O : Ora R) (k : KV R) (s4 : Bool) (G : GH) : Option R :=
  k (.bool s4) G
def zhj {R : Type} (O : Ora R) (k : KV R) (L1 : zI6 R) (bm : OG) (bj : Nat) (G : GH) : Option R :=
  L1 bm bj (0 : Int) G
def ze3 {R : Type} (O : Ora R) (k : KV R) (s4 : Bool) (G : GH) : Option R :=
  k (.bool s4) G
def zhp {R : Type} (O : Ora R) (k : KV R)  (G : GH) : Option R :=
  k (.bool false) G
def zfA {R : Type} (O : Ora R) (fuel : Nat) (k : KV R) : OG → Nat → Int → GH → Option R := fun bm bj s5 G =>
  zaF O (ze3 O k) (zhp O k) fuel bm bj s5 G
theorem zlk (fuel : Nat) (s4 : Bool) (G : GH) (k : KV R) :
  ze Tryz.prog O lo5 fuel bd5 [1, 1, 0, 1, 0] (rcK Tryz.f5 k) .ret (mkE 27 [(4, .bool s4)]) [] G =
  ze3 O k s4 G := by kernel_rfl
theorem zop (fuel : Nat)  (G : GH) (k : KV R) :
  ze Tryz.prog O lo5 fuel bd5 [1, 1, 0, 1, 0] (rcK Tryz.f5 k) (.exit 0) (mkE 27 []) [] G =
  zhp O k G := by kernel_rfl
theorem zrI (fuel : Nat) (k : KV R) :
  (fun (bm : OG) (bj : Nat) (s5 : Int) (G : GH) => zJ (zd Tryz.prog O lo5 fuel (nav bd5 [1, 1, 0, 1, 0, 0]) 16) fuel (mkE 27 [(1, .slice bm bj), (5, iL s5)]) [] G (ze Tryz.prog O lo5 fuel bd5 [1, 1, 0, 1, 0] (rcK Tryz.f5 k))) = zfA O fuel k := by
  funext bm bj s5 G
  simp only [zfA, zrL, zlk, zop]
def zfJ {R : Type} (O : Ora R) (fuel : Nat) (k : KV R) : OG → Nat → OG → Nat → GH → Option R := fun ba az bm bj G =>
  zi fuel (zfK O (ze5 O k) (zhj O k (zfA O fuel k)) ba az bm bj G)
theorem zlB (fuel : Nat) (s4 : Bool) (G : GH) (k : KV R) :
  ze Tryz.prog O lo5 fuel bd5 [1, 0] (rcK Tryz.f5 k) .ret (mkE 27 [(4, .bool s4)]) [] G =
  ze5 O k s4 G := by kernel_rfl
theorem znP (fuel : Nat) (bm : OG) (bj : Nat) (G : GH) (k : KV R) :
  ze Tryz.prog O lo5 fuel bd5 [1, 0] (rcK Tryz.f5 k) .normal (mkE 27 [(1, .slice bm bj)]) [] G =
  zhj O k (fun bm bj s5 G => zJ (zd Tryz.prog O lo5 fuel (nav bd5 [1, 1, 0, 1, 0, 0]) 16) fuel (mkE 27 [(1, .slice bm bj), (5, iL s5)]) [] G (ze Tryz.prog O lo5 fuel bd5 [1, 1, 0, 1, 0] (rcK Tryz.f5 k))) bm bj G := by kernel_rfl
theorem zqs (fuel : Nat) (k : KV R) :
  (fun (ba : OG) (az : Nat) (bm : OG) (bj : Nat) (G : GH) => zi fuel (zd Tryz.prog O lo5 fuel (nav bd5 [1, 0]) 15 (mkE 27 [(0, .slice ba az), (1, .slice bm bj)]) [] G (ze Tryz.prog O lo5 fuel bd5 [1, 0] (rcK Tryz.f5 k)))) = zfJ O fuel k := by
  funext ba az bm bj G
  simp only [zfJ, zqD, zlB, znP, zrI]
theorem zs9 (fuel : Nat) (dc : OG) (db : Nat) (dq : OG) (dr : Nat) (G : GH) (k : KV R) :
  zf Tryz.prog O lo5 fuel Tryz.f5 [.slice dc db, .slice dq dr] G k =
  zlW O k (fun ba az bm bj G => zi fuel (zd Tryz.prog O lo5 fuel (nav bd5 [1, 0]) 15 (mkE 27 [(0, .slice ba az), (1, .slice bm bj)]) [] G (ze Tryz.prog O lo5 fuel bd5 [1, 0] (rcK Tryz.f5 k)))) dc db dq dr G := by kernel_rfl
theorem zw4 (fuel : Nat) (dc : OG) (db : Nat) (dq : OG) (dr : Nat) (G : GH) (k : KV R) :
  zf Tryz.prog O lo5 fuel Tryz.f5 [.slice dc db, .slice dq dr] G k =
  zlW O k (zfJ O fuel k) dc db dq dr G := by
  rw [zs9, zqs]
theorem zwH {R : Type} (fuel n : Nat) (dc : OG) (db : Nat) (dq : OG) (dr : Nat) (G : GH) (k : KV R) :
  runC Tryz.prog lo0 fuel (n + 1) 5 [.slice dc db, .slice dq dr] G k = zf Tryz.prog (runC Tryz.prog lo0 fuel n) lo5 fuel Tryz.f5 [.slice dc db, .slice dq dr] G k := zh Tryz.func5 rfl rfl
theorem zuG (fuel : Nat) (av aw : Int) (ei : OG) (ef : Nat) (G : GH) (k : KV R) :
  zf Tryz.prog O [1, 2, 777777] fuel Tryz.f18 [.agg [iL av, iL aw, .slice ei ef]] G k =
  (zHl (zac G [] 45) ei ef 3).bind fun x1 =>
  (zgd (zac G [] 45) 45 3 24 (some (zaA G)) 0 x1 ef).bind fun r2 =>
  k (.agg [iL av, iL aw, .slice r2.1 (0 + ef)]) r2.2 := by kernel_rfl
theorem zuS {R : Type} (fuel n : Nat) (av aw : Int) (ei : OG) (ef : Nat) (G : GH) (k : KV R) :
  runC Tryz.prog lo0 fuel (n + 1) 18 [.agg [iL av, iL aw, .slice ei ef]] G k = zf Tryz.prog (runC Tryz.prog lo0 fuel n) [1, 2, 777777] fuel Tryz.f18 [.agg [iL av, iL aw, .slice ei ef]] G k := zh Tryz.func18 rfl rfl
def zbJ {R : Type} (O : Ora R) (KN : zs3 R) (K0 : OG → Nat → GH → Option R) (ba : OG) (az : Nat) (fh : OG) (fb : Nat) (s4 : Int) (G : GH) : Option R :=
  bif (decide (s4 < (az : Int))) then
  (zbj ba az s4 3).bind fun a1 =>
  (z0 G .i64 (GA.add a1 0)).bind fun x2 =>
  (z0 G .i64 (GA.add a1 1)).bind fun x3 =>
  (zci G (GA.add a1 2)).bind fun x4 =>
  O zht [.agg [iL x2, iL x3, .slice x4.1 x4.2]] G fun v5 G6 =>
  (zr 3 v5).bind fun c7 =>
  (zk .i64 (c7.getD 0 za)).bind fun x8 =>
  (zk .i64 (c7.getD 1 za)).bind fun x9 =>
  (zn1 (c7.getD 2 za)).bind fun x10 =>
  (grd (zac G6 [iL x8, iL x9, .slice x10.1 x10.2] 52) (zaA G6) (1 * 3)).bind fun x11 =>
  (zgd (zac G6 [iL x8, iL x9, .slice x10.1 x10.2] 52) 52 3 40 fh fb x11 1).bind fun r12 =>
  KN ba az r12.1 (fb + 1) (IntKind.wrap .i64 (s4 + (1 : Int))) r12.2
  else
  K0 fh fb G
def zS {R : Type} (O : Ora R) (K0 : OG → Nat → GH → Option R) : Nat → OG → Nat → OG → Nat → Int → GH → Option R
  | 0, _, _, _, _, _, _ => none
  | n + 1, ba, az, fh, fb, s4, G => zbJ O (zS O K0 n) K0 ba az fh fb s4 G
theorem zm9 (fuel : Nat) (ba : OG) (az : Nat) (fh : OG) (fb : Nat) (s4 : Int) (G : GH) (k : KE R) :
  zd Tryz.prog O lo8 fuel (nav bd8 [1, 1, 0, 1, 0, 0]) 12 (mkE 20 [(0, .slice ba az), (3, .slice fh fb), (4, iL s4)]) [] G k =
  zbJ O (fun ba az fh fb s4 G => k .normal (mkE 20 [(0, .slice ba az), (3, .slice fh fb), (4, iL s4)]) [] G) (fun fh fb G => k (.exit 0) (mkE 20 [(3, .slice fh fb)]) [] G) ba az fh fb s4 G := by kernel_rfl
theorem zon (fuel : Nat) (k : KE R) : ∀ (n : Nat) (ba : OG) (az : Nat) (fh : OG) (fb : Nat) (s4 : Int) (G : GH),
  zJ (zd Tryz.prog O lo8 fuel (nav bd8 [1, 1, 0, 1, 0, 0]) 12) n (mkE 20 [(0, .slice ba az), (3, .slice fh fb), (4, iL s4)]) [] G k = zS O (fun fh fb G => k (.exit 0) (mkE 20 [(3, .slice fh fb)]) [] G) n ba az fh fb s4 G := by
  intro n
  induction n with
  | zero => intros; first | rfl | simp only [zJ, zS]
  | succ n ih =>
    intros
    rw [zaU, zm9]
    simp only [zS, zah, zaS, zbI, ih]
def zfy {R : Type} (O : Ora R) (k : KV R) (L0 : zs3 R) (dc : OG) (db : Nat) (G : GH) : Option R :=
  L0 dc db none 0 (0 : Int) G
def zeP {R : Type} (O : Ora R) (k : KV R) (fh : OG) (fb : Nat) (G : GH) : Option R :=
  k (.slice fh fb) G
def zbG {R : Type} (O : Ora R) (fuel : Nat) (k : KV R) : OG → Nat → OG → Nat → Int → GH → Option R := fun ba az fh fb s4 G =>
  zS O (zeP O k) fuel ba az fh fb s4 G
theorem zlT (fuel : Nat) (fh : OG) (fb : Nat) (G : GH) (k : KV R) :
  ze Tryz.prog O lo8 fuel bd8 [1, 1, 0, 1, 0] (rcK Tryz.f8 k) (.exit 0) (mkE 20 [(3, .slice fh fb)]) [] G =
  zeP O k fh fb G := by kernel_rfl
theorem znM (fuel : Nat) (k : KV R) :
  (fun (ba : OG) (az : Nat) (fh : OG) (fb : Nat) (s4 : Int) (G : GH) => zJ (zd Tryz.prog O lo8 fuel (nav bd8 [1, 1, 0, 1, 0, 0]) 12) fuel (mkE 20 [(0, .slice ba az), (3, .slice fh fb), (4, iL s4)]) [] G (ze Tryz.prog O lo8 fuel bd8 [1, 1, 0, 1, 0] (rcK Tryz.f8 k))) = zbG O fuel k := by
  funext ba az fh fb s4 G
  simp only [zbG, zon, zlT]
theorem zpA (fuel : Nat) (dc : OG) (db : Nat) (G : GH) (k : KV R) :
  zf Tryz.prog O lo8 fuel Tryz.f8 [.slice dc db] G k =
  zfy O k (fun ba az fh fb s4 G => zJ (zd Tryz.prog O lo8 fuel (nav bd8 [1, 1, 0, 1, 0, 0]) 12) fuel (mkE 20 [(0, .slice ba az), (3, .slice fh fb), (4, iL s4)]) [] G (ze Tryz.prog O lo8 fuel bd8 [1, 1, 0, 1, 0] (rcK Tryz.f8 k))) dc db G := by kernel_rfl
theorem znq (fuel : Nat) (dc : OG) (db : Nat) (G : GH) (k : KV R) :
  zf Tryz.prog O lo8 fuel Tryz.f8 [.slice dc db] G k =
  zfy O k (zbG O fuel k) dc db G := by
  rw [zpA, znM]
theorem zuD {R : Type} (fuel n : Nat) (dc : OG) (db : Nat) (G : GH) (k : KV R) :
  runC Tryz.prog lo0 fuel (n + 1) 8 [.slice dc db] G k = zf Tryz.prog (runC Tryz.prog lo0 fuel n) lo8 fuel Tryz.f8 [.slice dc db] G k := zh Tryz.func8 rfl rfl
theorem zuE (fuel av : Nat) (aw bf : Nat) (G : GH) (k : KV R) :
  zf Tryz.prog O [1, 777777] fuel Tryz.f67 [.agg [fL av, fL aw, fL bf]] G k =
  O zt [fL av] G fun v1 G2 =>
  (zl v1).bind fun x3 =>
  bif x3 then
  O zt [fL aw] G2 fun v4 G5 =>
  (zl v4).bind fun x6 =>
  bif x6 then
  O zt [fL bf] G5 fun v7 G8 =>
  (zl v7).bind fun x9 =>
  k (.bool x9) G8
  else
  k (.bool false) G5
  else
  k (.bool false) G2 := by kernel_rfl
theorem zuY {R : Type} (fuel n av : Nat) (aw bf : Nat) (G : GH) (k : KV R) :
  runC Tryz.prog lo0 fuel (n + 1) 67 [.agg [fL av, fL aw, fL bf]] G k = zf Tryz.prog (runC Tryz.prog lo0 fuel n) [1, 777777] fuel Tryz.f67 [.agg [fL av, fL aw, fL bf]] G k := zh Tryz.func67 rfl rfl
def zjE {R : Type} (O : Ora R) (KN : zHV R) (s1 s2 aa : Int) (ac af ag : Nat) (aj ar : Int) (aq : Nat) (au : Int) (G : GH) : Option R :=
  bif (aa == (2 : Int)) then
  KN s1 s2 true aa ac af ag aj ar aq au G
  else
  KN s1 s2 (aa == (3 : Int)) aa ac af ag aj ar aq au G
def zg3 {R : Type} (O : Ora R) (KN : zHV R) : Int → Int → Int → Nat → Nat → Nat → Int → Int → Nat → Int → GH → Option R := fun s1 s2 aa ac af ag aj ar aq au G => zjE O KN s1 s2 aa ac af ag aj ar aq au G
theorem zrm (fuel : Nat) (s1 s2 aa : Int) (ac af ag : Nat) (aj ar : Int) (aq : Nat) (au : Int) (G : GH) (k : KE R) :
  zd Tryz.prog O zdP fuel (nav bd44 [1, 0]) 11 (mkE 121 [(1, iL s1), (2, iL s2), (3, .loc 0 0)]) [[iL aa, fL ac, fL af, fL ag, iL aj, iL ar, fL aq, iL au]] G k =
  zjE O (fun s1 s2 s7 aa ac af ag aj ar aq au G => k .normal (mkE 121 [(1, iL s1), (2, iL s2), (3, .loc 0 0), (7, .bool s7)]) [[iL aa, fL ac, fL af, fL ag, iL aj, iL ar, fL aq, iL au]] G) s1 s2 aa ac af ag aj ar aq au G := by kernel_rfl
theorem zsr (fuel : Nat) (k : KE R) : ∀ (s1 s2 aa : Int) (ac af ag : Nat) (aj ar : Int) (aq : Nat) (au : Int) (G : GH),
  zd Tryz.prog O zdP fuel (nav bd44 [1, 0]) 11 (mkE 121 [(1, iL s1), (2, iL s2), (3, .loc 0 0)]) [[iL aa, fL ac, fL af, fL ag, iL aj, iL ar, fL aq, iL au]] G k = zg3 O (fun s1 s2 s7 aa ac af ag aj ar aq au G => k .normal (mkE 121 [(1, iL s1), (2, iL s2), (3, .loc 0 0), (7, .bool s7)]) [[iL aa, fL ac, fL af, fL ag, iL aj, iL ar, fL aq, iL au]] G) s1 s2 aa ac af ag aj ar aq au G := by
  intros
  rw [zrm]
  simp only [zg3]
def zjC {R : Type} (O : Ora R) (KN : zHY R) (s1 s2 : Int) (s7 : Bool) (aa : Int) (ac af ag : Nat) (aj ar : Int) (aq : Nat) (au : Int) (G : GH) : Option R :=
  bif (decide (aj ≥ (0 : Int))) then
  KN s1 s2 s7 (decide (aj < s1)) aa ac af ag aj ar aq au G
  else
  KN s1 s2 s7 false aa ac af ag aj ar aq au G
def zgP {R : Type} (O : Ora R) (KN : zHY R) : Int → Int → Bool → Int → Nat → Nat → Nat → Int → Int → Nat → Int → GH → Option R := fun s1 s2 s7 aa ac af ag aj ar aq au G => zjC O KN s1 s2 s7 aa ac af ag aj ar aq au G
theorem zri (fuel : Nat) (s1 s2 : Int) (s7 : Bool) (aa : Int) (ac af ag : Nat) (aj ar : Int) (aq : Nat) (au : Int) (G : GH) (k : KE R) :
  zd Tryz.prog O zdP fuel (nav bd44 [1, 1, 0]) 15 (mkE 121 [(1, iL s1), (2, iL s2), (3, .loc 0 0), (7, .bool s7)]) [[iL aa, fL ac, fL af, fL ag, iL aj, iL ar, fL aq, iL au]] G k =
  zjC O (fun s1 s2 s7 s8 aa ac af ag aj ar aq au G => k .normal (mkE 121 [(1, iL s1), (2, iL s2), (3, .loc 0 0), (7, .bool s7), (8, .bool s8)]) [[iL aa, fL ac, fL af, fL ag, iL aj, iL ar, fL aq, iL au]] G) s1 s2 s7 aa ac af ag aj ar aq au G := by kernel_rfl
theorem zsC (fuel : Nat) (k : KE R) : ∀ (s1 s2 : Int) (s7 : Bool) (aa : Int) (ac af ag : Nat) (aj ar : Int) (aq : Nat) (au : Int) (G : GH),
  zd Tryz.prog O zdP fuel (nav bd44 [1, 1, 0]) 15 (mkE 121 [(1, iL s1), (2, iL s2), (3, .loc 0 0), (7, .bool s7)]) [[iL aa, fL ac, fL af, fL ag, iL aj, iL ar, fL aq, iL au]] G k = zgP O (fun s1 s2 s7 s8 aa ac af ag aj ar aq au G => k .normal (mkE 121 [(1, iL s1), (2, iL s2), (3, .loc 0 0), (7, .bool s7), (8, .bool s8)]) [[iL aa, fL ac, fL af, fL ag, iL aj, iL ar, fL aq, iL au]] G) s1 s2 s7 aa ac af ag aj ar aq au G := by
  intros
  rw [zri]
  simp only [zgP]
def zku {R : Type} (O : Ora R) (KN : zGf R) (s1 s2 : Int) (s7 s8 : Bool) (aa : Int) (ac af ag : Nat) (aj ar : Int) (aq : Nat) (au : Int) (G : GH) : Option R :=
  bif (decide (ar ≥ (0 : Int))) then
  KN s2 s7 s8 (decide (ar < s1)) aa ac af ag aj ar aq au G
  else
  KN s2 s7 s8 false aa ac af ag aj ar aq au G
def zgH {R : Type} (O : Ora R) (KN : zGf R) : Int → Int → Bool → Bool → Int → Nat → Nat → Nat → Int → Int → Nat → Int → GH → Option R := fun s1 s2 s7 s8 aa ac af ag aj ar aq au G => zku O KN s1 s2 s7 s8 aa ac af ag aj ar aq au G
theorem zrz (fuel : Nat) (s1 s2 : Int) (s7 s8 : Bool) (aa : Int) (ac af ag : Nat) (aj ar : Int) (aq : Nat) (au : Int) (G : GH) (k : KE R) :
  zd Tryz.prog O zdP fuel (nav bd44 [1, 1, 1, 0]) 19 (mkE 121 [(1, iL s1), (2, iL s2), (3, .loc 0 0), (7, .bool s7), (8, .bool s8)]) [[iL aa, fL ac, fL af, fL ag, iL aj, iL ar, fL aq, iL au]] G k =
  zku O (fun s2 s7 s8 s9 aa ac af ag aj ar aq au G => k .normal (mkE 121 [(2, iL s2), (3, .loc 0 0), (7, .bool s7), (8, .bool s8), (9, .bool s9)]) [[iL aa, fL ac, fL af, fL ag, iL aj, iL ar, fL aq, iL au]] G) s1 s2 s7 s8 aa ac af ag aj ar aq au G := by kernel_rfl
theorem zte (fuel : Nat) (k : KE R) : ∀ (s1 s2 : Int) (s7 s8 : Bool) (aa : Int) (ac af ag : Nat) (aj ar : Int) (aq : Nat) (au : Int) (G : GH),
  zd Tryz.prog O zdP fuel (nav bd44 [1, 1, 1, 0]) 19 (mkE 121 [(1, iL s1), (2, iL s2), (3, .loc 0 0), (7, .bool s7), (8, .bool s8)]) [[iL aa, fL ac, fL af, fL ag, iL aj, iL ar, fL aq, iL au]] G k = zgH O (fun s2 s7 s8 s9 aa ac af ag aj ar aq au G => k .normal (mkE 121 [(2, iL s2), (3, .loc 0 0), (7, .bool s7), (8, .bool s8), (9, .bool s9)]) [[iL aa, fL ac, fL af, fL ag, iL aj, iL ar, fL aq, iL au]] G) s1 s2 s7 s8 aa ac af ag aj ar aq au G := by
  intros
  rw [zrz]
  simp only [zgH]
def zjW {R : Type} (O : Ora R) (KN : zE0 R) (s2 : Int) (s7 s8 s9 : Bool) (aa : Int) (ac af ag : Nat) (aj ar : Int) (aq : Nat) (au : Int) (G : GH) : Option R :=
  bif (decide (aa < (1 : Int))) then
  KN s2 s7 s8 s9 true aa ac af ag aj ar aq au G
  else
  KN s2 s7 s8 s9 (decide (aa > (5 : Int))) aa ac af ag aj ar aq au G
def zgI {R : Type} (O : Ora R) (KN : zE0 R) : Int → Bool → Bool → Bool → Int → Nat → Nat → Nat → Int → Int → Nat → Int → GH → Option R := fun s2 s7 s8 s9 aa ac af ag aj ar aq au G => zjW O KN s2 s7 s8 s9 aa ac af ag aj ar aq au G
theorem zqA (fuel : Nat) (s2 : Int) (s7 s8 s9 : Bool) (aa : Int) (ac af ag : Nat) (aj ar : Int) (aq : Nat) (au : Int) (G : GH) (k : KE R) :
  zd Tryz.prog O zdP fuel (nav bd44 [1, 1, 1, 1, 0, 0, 0]) 23 (mkE 121 [(2, iL s2), (3, .loc 0 0), (7, .bool s7), (8, .bool s8), (9, .bool s9)]) [[iL aa, fL ac, fL af, fL ag, iL aj, iL ar, fL aq, iL au]] G k =
  zjW O (fun s2 s7 s8 s9 ik aa ac af ag aj ar aq au G => k .normal (mkE 121 [(2, iL s2), (3, .loc 0 0), (7, .bool s7), (8, .bool s8), (9, .bool s9), (36, .bool ik)]) [[iL aa, fL ac, fL af, fL ag, iL aj, iL ar, fL aq, iL au]] G) s2 s7 s8 s9 aa ac af ag aj ar aq au G := by kernel_rfl
theorem zsv (fuel : Nat) (k : KE R) : ∀ (s2 : Int) (s7 s8 s9 : Bool) (aa : Int) (ac af ag : Nat) (aj ar : Int) (aq : Nat) (au : Int) (G : GH),
  zd Tryz.prog O zdP fuel (nav bd44 [1, 1, 1, 1, 0, 0, 0]) 23 (mkE 121 [(2, iL s2), (3, .loc 0 0), (7, .bool s7), (8, .bool s8), (9, .bool s9)]) [[iL aa, fL ac, fL af, fL ag, iL aj, iL ar, fL aq, iL au]] G k = zgI O (fun s2 s7 s8 s9 ik aa ac af ag aj ar aq au G => k .normal (mkE 121 [(2, iL s2), (3, .loc 0 0), (7, .bool s7), (8, .bool s8), (9, .bool s9), (36, .bool ik)]) [[iL aa, fL ac, fL af, fL ag, iL aj, iL ar, fL aq, iL au]] G) s2 s7 s8 s9 aa ac af ag aj ar aq au G := by
  intros
  rw [zqA]
  simp only [zgI]
def zkw {R : Type} (O : Ora R) (KN : zE0 R) (s2 : Int) (s7 s8 s9 : Bool) (aa : Int) (ac af ag : Nat) (aj ar : Int) (aq : Nat) (au : Int) (G : GH) : Option R :=
  bif (aa == (1 : Int)) then
  O zeG [.agg [fL ac, fL af, fL ag]] G fun v1 G2 =>
  (zl v1).bind fun x3 =>
  KN s2 s7 s8 s9 (!x3) aa ac af ag aj ar aq au G2
  else
  bif (aa == (5 : Int)) then
  O zeG [.agg [fL ac, fL af, fL ag]] G fun v4 G5 =>
  (zl v4).bind fun x6 =>
  KN s2 s7 s8 s9 (!x6) aa ac af ag aj ar aq au G5
  else
  KN s2 s7 s8 s9 false aa ac af ag aj ar aq au G
def zgy {R : Type} (O : Ora R) (KN : zE0 R) : Int → Bool → Bool → Bool → Int → Nat → Nat → Nat → Int → Int → Nat → Int → GH → Option R := fun s2 s7 s8 s9 aa ac af ag aj ar aq au G => zkw O KN s2 s7 s8 s9 aa ac af ag aj ar aq au G
theorem zqY (fuel : Nat) (s2 : Int) (s7 s8 s9 : Bool) (aa : Int) (ac af ag : Nat) (aj ar : Int) (aq : Nat) (au : Int) (G : GH) (k : KE R) :
  zd Tryz.prog O zdP fuel (nav bd44 [1, 1, 1, 1, 0, 0, 1, 1, 0]) 31 (mkE 121 [(2, iL s2), (3, .loc 0 0), (7, .bool s7), (8, .bool s8), (9, .bool s9)]) [[iL aa, fL ac, fL af, fL ag, iL aj, iL ar, fL aq, iL au]] G k =
  zkw O (fun s2 s7 s8 s9 il aa ac af ag aj ar aq au G => k .normal (mkE 121 [(2, iL s2), (3, .loc 0 0), (7, .bool s7), (8, .bool s8), (9, .bool s9), (45, .bool il)]) [[iL aa, fL ac, fL af, fL ag, iL aj, iL ar, fL aq, iL au]] G) s2 s7 s8 s9 aa ac af ag aj ar aq au G := by kernel_rfl
theorem zs1 (fuel : Nat) (k : KE R) : ∀ (s2 : Int) (s7 s8 s9 : Bool) (aa : Int) (ac af ag : Nat) (aj ar : Int) (aq : Nat) (au : Int) (G : GH),
  zd Tryz.prog O zdP fuel (nav bd44 [1, 1, 1, 1, 0, 0, 1, 1, 0]) 31 (mkE 121 [(2, iL s2), (3, .loc 0 0), (7, .bool s7), (8, .bool s8), (9, .bool s9)]) [[iL aa, fL ac, fL af, fL ag, iL aj, iL ar, fL aq, iL au]] G k = zgy O (fun s2 s7 s8 s9 il aa ac af ag aj ar aq au G => k .normal (mkE 121 [(2, iL s2), (3, .loc 0 0), (7, .bool s7), (8, .bool s8), (9, .bool s9), (45, .bool il)]) [[iL aa, fL ac, fL af, fL ag, iL aj, iL ar, fL aq, iL au]] G) s2 s7 s8 s9 aa ac af ag aj ar aq au G := by
  intros
  rw [zqY]
  simp only [zgy]
def zj3 {R : Type} (O : Ora R) (KN : zE0 R) (s2 : Int) (s7 s8 s9 : Bool) (aa : Int) (ac af ag : Nat) (aj ar : Int) (aq : Nat) (au : Int) (G : GH) : Option R :=
  bif s7 then
  O zt [fL aq] G fun v1 G2 =>
  (zl v1).bind fun x3 =>
  KN s2 s7 s8 s9 (!x3) aa ac af ag aj ar aq au G2
  else
  bif (aa == (4 : Int)) then
  O zt [fL aq] G fun v4 G5 =>
  (zl v4).bind fun x6 =>
  KN s2 s7 s8 s9 (!x6) aa ac af ag aj ar aq au G5
  else
  KN s2 s7 s8 s9 false aa ac af ag aj ar aq au G
def zgR {R : Type} (O : Ora R) (KN : zE0 R) : Int → Bool → Bool → Bool → Int → Nat → Nat → Nat → Int → Int → Nat → Int → GH → Option R := fun s2 s7 s8 s9 aa ac af ag aj ar aq au G => zj3 O KN s2 s7 s8 s9 aa ac af ag aj ar aq au G
theorem zqp (fuel : Nat) (s2 : Int) (s7 s8 s9 : Bool) (aa : Int) (ac af ag : Nat) (aj ar : Int) (aq : Nat) (au : Int) (G : GH) (k : KE R) :
  zd Tryz.prog O zdP fuel (nav bd44 [1, 1, 1, 1, 0, 0, 1, 1, 1, 1, 0]) 39 (mkE 121 [(2, iL s2), (3, .loc 0 0), (7, .bool s7), (8, .bool s8), (9, .bool s9)]) [[iL aa, fL ac, fL af, fL ag, iL aj, iL ar, fL aq, iL au]] G k =
  zj3 O (fun s2 s7 s8 s9 io aa ac af ag aj ar aq au G => k .normal (mkE 121 [(2, iL s2), (3, .loc 0 0), (7, .bool s7), (8, .bool s8), (9, .bool s9), (60, .bool io)]) [[iL aa, fL ac, fL af, fL ag, iL aj, iL ar, fL aq, iL au]] G) s2 s7 s8 s9 aa ac af ag aj ar aq au G := by kernel_rfl
theorem zs0 (fuel : Nat) (k : KE R) : ∀ (s2 : Int) (s7 s8 s9 : Bool) (aa : Int) (ac af ag : Nat) (aj ar : Int) (aq : Nat) (au : Int) (G : GH),
  zd Tryz.prog O zdP fuel (nav bd44 [1, 1, 1, 1, 0, 0, 1, 1, 1, 1, 0]) 39 (mkE 121 [(2, iL s2), (3, .loc 0 0), (7, .bool s7), (8, .bool s8), (9, .bool s9)]) [[iL aa, fL ac, fL af, fL ag, iL aj, iL ar, fL aq, iL au]] G k = zgR O (fun s2 s7 s8 s9 io aa ac af ag aj ar aq au G => k .normal (mkE 121 [(2, iL s2), (3, .loc 0 0), (7, .bool s7), (8, .bool s8), (9, .bool s9), (60, .bool io)]) [[iL aa, fL ac, fL af, fL ag, iL aj, iL ar, fL aq, iL au]] G) s2 s7 s8 s9 aa ac af ag aj ar aq au G := by
  intros
  rw [zqp]
  simp only [zgR]
def zjA {R : Type} (O : Ora R) (KN : zE0 R) (s2 : Int) (s7 s8 s9 : Bool) (aa : Int) (ac af ag : Nat) (aj ar : Int) (aq : Nat) (au : Int) (G : GH) : Option R :=
  bif (aa == (3 : Int)) then
  bif (flt .f64 aq (0 : Nat)) then
  KN s2 s7 s8 s9 true aa ac af ag aj ar aq au G
  else
  KN s2 s7 s8 s9 (fgt .f64 aq (4607182418800017408 : Nat)) aa ac af ag aj ar aq au G
  else
  KN s2 s7 s8 s9 false aa ac af ag aj ar aq au G
def zgw {R : Type} (O : Ora R) (KN : zE0 R) : Int → Bool → Bool → Bool → Int → Nat → Nat → Nat → Int → Int → Nat → Int → GH → Option R := fun s2 s7 s8 s9 aa ac af ag aj ar aq au G => zjA O KN s2 s7 s8 s9 aa ac af ag aj ar aq au G
theorem zrs (fuel : Nat) (s2 : Int) (s7 s8 s9 : Bool) (aa : Int) (ac af ag : Nat) (aj ar : Int) (aq : Nat) (au : Int) (G : GH) (k : KE R) :
  zd Tryz.prog O zdP fuel (nav bd44 [1, 1, 1, 1, 0, 0, 1, 1, 1, 1, 1, 1, 0]) 47 (mkE 121 [(2, iL s2), (3, .loc 0 0), (7, .bool s7), (8, .bool s8), (9, .bool s9)]) [[iL aa, fL ac, fL af, fL ag, iL aj, iL ar, fL aq, iL au]] G k =
  zjA O (fun s2 s7 s8 s9 ip aa ac af ag aj ar aq au G => k .normal (mkE 121 [(2, iL s2), (3, .loc 0 0), (7, .bool s7), (8, .bool s8), (9, .bool s9), (73, .bool ip)]) [[iL aa, fL ac, fL af, fL ag, iL aj, iL ar, fL aq, iL au]] G) s2 s7 s8 s9 aa ac af ag aj ar aq au G := by kernel_rfl
theorem zs2 (fuel : Nat) (k : KE R) : ∀ (s2 : Int) (s7 s8 s9 : Bool) (aa : Int) (ac af ag : Nat) (aj ar : Int) (aq : Nat) (au : Int) (G : GH),
  zd Tryz.prog O zdP fuel (nav bd44 [1, 1, 1, 1, 0, 0, 1, 1, 1, 1, 1, 1, 0]) 47 (mkE 121 [(2, iL s2), (3, .loc 0 0), (7, .bool s7), (8, .bool s8), (9, .bool s9)]) [[iL aa, fL ac, fL af, fL ag, iL aj, iL ar, fL aq, iL au]] G k = zgw O (fun s2 s7 s8 s9 ip aa ac af ag aj ar aq au G => k .normal (mkE 121 [(2, iL s2), (3, .loc 0 0), (7, .bool s7), (8, .bool s8), (9, .bool s9), (73, .bool ip)]) [[iL aa, fL ac, fL af, fL ag, iL aj, iL ar, fL aq, iL au]] G) s2 s7 s8 s9 aa ac af ag aj ar aq au G := by
  intros
  rw [zrs]
  simp only [zgw]
def zkd {R : Type} (O : Ora R) (KN : zGJ R) (s2 : Int) (s7 s8 s9 : Bool) (aa : Int) (ac af ag : Nat) (aj ar : Int) (aq : Nat) (au : Int) (G : GH) : Option R :=
  bif s7 then
  bif (!s8) then
  KN s2 true aa ac af ag aj ar aq au G
  else
  bif (!s9) then
  KN s2 true aa ac af ag aj ar aq au G
  else
  bif (aa == (5 : Int)) then
  KN s2 (!s8) aa ac af ag aj ar aq au G
  else
  KN s2 false aa ac af ag aj ar aq au G
  else
  bif (aa == (5 : Int)) then
  KN s2 (!s8) aa ac af ag aj ar aq au G
  else
  KN s2 false aa ac af ag aj ar aq au G
def zgQ {R : Type} (O : Ora R) (KN : zGJ R) : Int → Bool → Bool → Bool → Int → Nat → Nat → Nat → Int → Int → Nat → Int → GH → Option R := fun s2 s7 s8 s9 aa ac af ag aj ar aq au G => zkd O KN s2 s7 s8 s9 aa ac af ag aj ar aq au G
theorem zq2 (fuel : Nat) (s2 : Int) (s7 s8 s9 : Bool) (aa : Int) (ac af ag : Nat) (aj ar : Int) (aq : Nat) (au : Int) (G : GH) (k : KE R) :
  zd Tryz.prog O zdP fuel (nav bd44 [1, 1, 1, 1, 0, 0, 1, 1, 1, 1, 1, 1, 1, 1, 0]) 55 (mkE 121 [(2, iL s2), (3, .loc 0 0), (7, .bool s7), (8, .bool s8), (9, .bool s9)]) [[iL aa, fL ac, fL af, fL ag, iL aj, iL ar, fL aq, iL au]] G k =
  zkd O (fun s2 iq aa ac af ag aj ar aq au G => k .normal (mkE 121 [(2, iL s2), (3, .loc 0 0), (87, .bool iq)]) [[iL aa, fL ac, fL af, fL ag, iL aj, iL ar, fL aq, iL au]] G) s2 s7 s8 s9 aa ac af ag aj ar aq au G := by kernel_rfl
theorem zsG (fuel : Nat) (k : KE R) : ∀ (s2 : Int) (s7 s8 s9 : Bool) (aa : Int) (ac af ag : Nat) (aj ar : Int) (aq : Nat) (au : Int) (G : GH),
  zd Tryz.prog O zdP fuel (nav bd44 [1, 1, 1, 1, 0, 0, 1, 1, 1, 1, 1, 1, 1, 1, 0]) 55 (mkE 121 [(2, iL s2), (3, .loc 0 0), (7, .bool s7), (8, .bool s8), (9, .bool s9)]) [[iL aa, fL ac, fL af, fL ag, iL aj, iL ar, fL aq, iL au]] G k = zgQ O (fun s2 iq aa ac af ag aj ar aq au G => k .normal (mkE 121 [(2, iL s2), (3, .loc 0 0), (87, .bool iq)]) [[iL aa, fL ac, fL af, fL ag, iL aj, iL ar, fL aq, iL au]] G) s2 s7 s8 s9 aa ac af ag aj ar aq au G := by
  intros
  rw [zq2]
  simp only [zgQ]
def zoo {R : Type} (O : Ora R) (k : KV R) (L0 : zJn R) (av : Int) (aw bf bh : Nat) (bx cd : Int) (dn : Nat) (ec p1 p2 : Int) (G : GH) : Option R :=
  L0 p1 p2 av aw bf bh bx cd dn ec G
def zis {R : Type} (O : Ora R) (k : KV R) (L1 : zHV R) (s1 s2 : Int) (s7 : Bool) (aa : Int) (ac af ag : Nat) (aj ar : Int) (aq : Nat) (au : Int) (G : GH) : Option R :=
  L1 s1 s2 s7 aa ac af ag aj ar aq au G
def ziv {R : Type} (O : Ora R) (k : KV R) (L2 : zHY R) (s1 s2 : Int) (s7 s8 : Bool) (aa : Int) (ac af ag : Nat) (aj ar : Int) (aq : Nat) (au : Int) (G : GH) : Option R :=
  L2 s1 s2 s7 s8 aa ac af ag aj ar aq au G
def zil {R : Type} (O : Ora R) (k : KV R) (L3 : zGf R) (s2 : Int) (s7 s8 s9 : Bool) (aa : Int) (ac af ag : Nat) (aj ar : Int) (aq : Nat) (au : Int) (G : GH) : Option R :=
  L3 s2 s7 s8 s9 aa ac af ag aj ar aq au G
def ziG {R : Type} (O : Ora R) (k : KV R) (L4 : zGf R) (s2 : Int) (s7 s8 : Bool) (s9 ik : Bool) (aa : Int) (ac af ag : Nat) (aj ar : Int) (aq : Nat) (au : Int) (G : GH) : Option R :=
  bif ik then
  k (iL (2 : Int)) G
  else
  L4 s2 s7 s8 s9 aa ac af ag aj ar aq au G
def zim {R : Type} (O : Ora R) (k : KV R) (L5 : zGf R) (s2 : Int) (s7 s8 : Bool) (s9 il : Bool) (aa : Int) (ac af ag : Nat) (aj ar : Int) (aq : Nat) (au : Int) (G : GH) : Option R :=
  bif il then
  k (iL (10 : Int)) G
  else
  L5 s2 s7 s8 s9 aa ac af ag aj ar aq au G
def zh9 {R : Type} (O : Ora R) (k : KV R) (L6 : zGf R) (s2 : Int) (s7 s8 : Bool) (s9 io : Bool) (aa : Int) (ac af ag : Nat) (aj ar : Int) (aq : Nat) (au : Int) (G : GH) : Option R :=
  bif io then
  k (iL (10 : Int)) G
  else
  L6 s2 s7 s8 s9 aa ac af ag aj ar aq au G
def ziF {R : Type} (O : Ora R) (k : KV R) (L7 : zGf R) (s2 : Int) (s7 s8 : Bool) (s9 ip : Bool) (aa : Int) (ac af ag : Nat) (aj ar : Int) (aq : Nat) (au : Int) (G : GH) : Option R :=
  bif ip then
  k (iL (2 : Int)) G
  else
  L7 s2 s7 s8 s9 aa ac af ag aj ar aq au G
def ziV {R : Type} (O : Ora R) (k : KV R) (s2 : Int) (iq : Bool) (aa : Int) (ac af ag : Nat) (aj ar : Int) (aq : Nat) (au : Int) (G : GH) : Option R :=
  bif iq then
  k (iL (110 : Int)) G
  else
  bif (aa == (4 : Int)) then
  bif (decide (au < (0 : Int))) then
  k (iL (110 : Int)) G
  else
  bif (decide (au ≥ s2)) then
  k (iL (110 : Int)) G
  else
  k (iL (0 : Int)) G
  else
  k (iL (0 : Int)) G
def zgE {R : Type} (O : Ora R) (fuel : Nat) (k : KV R) : Int → Bool → Bool → Bool → Int → Nat → Nat → Nat → Int → Int → Nat → Int → GH → Option R := fun s2 s7 s8 s9 aa ac af ag aj ar aq au G =>
  zi fuel (zgQ O (ziV O k) s2 s7 s8 s9 aa ac af ag aj ar aq au G)
theorem zoV (fuel : Nat) (s2 : Int) (iq : Bool) (aa : Int) (ac af ag : Nat) (aj ar : Int) (aq : Nat) (au : Int) (G : GH) (k : KV R) :
  ze Tryz.prog O zdP fuel bd44 [1, 1, 1, 1, 0, 0, 1, 1, 1, 1, 1, 1, 1, 1, 0] (rcK Tryz.f44 k) .normal (mkE 121 [(2, iL s2), (3, .loc 0 0), (87, .bool iq)]) [[iL aa, fL ac, fL af, fL ag, iL aj, iL ar, fL aq, iL au]] G =
  ziV O k s2 iq aa ac af ag aj ar aq au G := by kernel_rfl
theorem zsi (fuel : Nat) (k : KV R) :
  (fun (s2 : Int) (s7 s8 s9 : Bool) (aa : Int) (ac af ag : Nat) (aj ar : Int) (aq : Nat) (au : Int) (G : GH) => zi fuel (zd Tryz.prog O zdP fuel (nav bd44 [1, 1, 1, 1, 0, 0, 1, 1, 1, 1, 1, 1, 1, 1, 0]) 55 (mkE 121 [(2, iL s2), (3, .loc 0 0), (7, .bool s7), (8, .bool s8), (9, .bool s9)]) [[iL aa, fL ac, fL af, fL ag, iL aj, iL ar, fL aq, iL au]] G (ze Tryz.prog O zdP fuel bd44 [1, 1, 1, 1, 0, 0, 1, 1, 1, 1, 1, 1, 1, 1, 0] (rcK Tryz.f44 k)))) = zgE O fuel k := by
  funext s2 s7 s8 s9 aa ac af ag aj ar aq au G
  simp only [zgE, zsG, zoV]
def zgu {R : Type} (O : Ora R) (fuel : Nat) (k : KV R) : Int → Bool → Bool → Bool → Int → Nat → Nat → Nat → Int → Int → Nat → Int → GH → Option R := fun s2 s7 s8 s9 aa ac af ag aj ar aq au G =>
  zi fuel (zgw O (ziF O k (zgE O fuel k)) s2 s7 s8 s9 aa ac af ag aj ar aq au G)
theorem zqk (fuel : Nat) (s2 : Int) (s7 s8 : Bool) (s9 ip : Bool) (aa : Int) (ac af ag : Nat) (aj ar : Int) (aq : Nat) (au : Int) (G : GH) (k : KV R) :
  ze Tryz.prog O zdP fuel bd44 [1, 1, 1, 1, 0, 0, 1, 1, 1, 1, 1, 1, 0] (rcK Tryz.f44 k) .normal (mkE 121 [(2, iL s2), (3, .loc 0 0), (7, .bool s7), (8, .bool s8), (9, .bool s9), (73, .bool ip)]) [[iL aa, fL ac, fL af, fL ag, iL aj, iL ar, fL aq, iL au]] G =
  ziF O k (fun s2 s7 s8 s9 aa ac af ag aj ar aq au G => zi fuel (zd Tryz.prog O zdP fuel (nav bd44 [1, 1, 1, 1, 0, 0, 1, 1, 1, 1, 1, 1, 1, 1, 0]) 55 (mkE 121 [(2, iL s2), (3, .loc 0 0), (7, .bool s7), (8, .bool s8), (9, .bool s9)]) [[iL aa, fL ac, fL af, fL ag, iL aj, iL ar, fL aq, iL au]] G (ze Tryz.prog O zdP fuel bd44 [1, 1, 1, 1, 0, 0, 1, 1, 1, 1, 1, 1, 1, 1, 0] (rcK Tryz.f44 k)))) s2 s7 s8 s9 ip aa ac af ag aj ar aq au G := by kernel_rfl
theorem zs8 (fuel : Nat) (k : KV R) :
  (fun (s2 : Int) (s7 s8 s9 : Bool) (aa : Int) (ac af ag : Nat) (aj ar : Int) (aq : Nat) (au : Int) (G : GH) => zi fuel (zd Tryz.prog O zdP fuel (nav bd44 [1, 1, 1, 1, 0, 0, 1, 1, 1, 1, 1, 1, 0]) 47 (mkE 121 [(2, iL s2), (3, .loc 0 0), (7, .bool s7), (8, .bool s8), (9, .bool s9)]) [[iL aa, fL ac, fL af, fL ag, iL aj, iL ar, fL aq, iL au]] G (ze Tryz.prog O zdP fuel bd44 [1, 1, 1, 1, 0, 0, 1, 1, 1, 1, 1, 1, 0] (rcK Tryz.f44 k)))) = zgu O fuel k := by
  funext s2 s7 s8 s9 aa ac af ag aj ar aq au G
  simp only [zgu, zs2, zqk, zsi]
def zg0 {R : Type} (O : Ora R) (fuel : Nat) (k : KV R) : Int → Bool → Bool → Bool → Int → Nat → Nat → Nat → Int → Int → Nat → Int → GH → Option R := fun s2 s7 s8 s9 aa ac af ag aj ar aq au G =>
  zi fuel (zgR O (zh9 O k (zgu O fuel k)) s2 s7 s8 s9 aa ac af ag aj ar aq au G)
theorem zoJ (fuel : Nat) (s2 : Int) (s7 s8 : Bool) (s9 io : Bool) (aa : Int) (ac af ag : Nat) (aj ar : Int) (aq : Nat) (au : Int) (G : GH) (k : KV R) :
  ze Tryz.prog O zdP fuel bd44 [1, 1, 1, 1, 0, 0, 1, 1, 1, 1, 0] (rcK Tryz.f44 k) .normal (mkE 121 [(2, iL s2), (3, .loc 0 0), (7, .bool s7), (8, .bool s8), (9, .bool s9), (60, .bool io)]) [[iL aa, fL ac, fL af, fL ag, iL aj, iL ar, fL aq, iL au]] G =
  zh9 O k (fun s2 s7 s8 s9 aa ac af ag aj ar aq au G => zi fuel (zd Tryz.prog O zdP fuel (nav bd44 [1, 1, 1, 1, 0, 0, 1, 1, 1, 1, 1, 1, 0]) 47 (mkE 121 [(2, iL s2), (3, .loc 0 0), (7, .bool s7), (8, .bool s8), (9, .bool s9)]) [[iL aa, fL ac, fL af, fL ag, iL aj, iL ar, fL aq, iL au]] G (ze Tryz.prog O zdP fuel bd44 [1, 1, 1, 1, 0, 0, 1, 1, 1, 1, 1, 1, 0] (rcK Tryz.f44 k)))) s2 s7 s8 s9 io aa ac af ag aj ar aq au G := by kernel_rfl
theorem zsE (fuel : Nat) (k : KV R) :
  (fun (s2 : Int) (s7 s8 s9 : Bool) (aa : Int) (ac af ag : Nat) (aj ar : Int) (aq : Nat) (au : Int) (G : GH) => zi fuel (zd Tryz.prog O zdP fuel (nav bd44 [1, 1, 1, 1, 0, 0, 1, 1, 1, 1, 0]) 39 (mkE 121 [(2, iL s2), (3, .loc 0 0), (7, .bool s7), (8, .bool s8), (9, .bool s9)]) [[iL aa, fL ac, fL af, fL ag, iL aj, iL ar, fL aq, iL au]] G (ze Tryz.prog O zdP fuel bd44 [1, 1, 1, 1, 0, 0, 1, 1, 1, 1, 0] (rcK Tryz.f44 k)))) = zg0 O fuel k := by
  funext s2 s7 s8 s9 aa ac af ag aj ar aq au G
  simp only [zg0, zs0, zoJ, zs8]
def zgT {R : Type} (O : Ora R) (fuel : Nat) (k : KV R) : Int → Bool → Bool → Bool → Int → Nat → Nat → Nat → Int → Int → Nat → Int → GH → Option R := fun s2 s7 s8 s9 aa ac af ag aj ar aq au G =>
  zi fuel (zgy O (zim O k (zg0 O fuel k)) s2 s7 s8 s9 aa ac af ag aj ar aq au G)
theorem zp2 (fuel : Nat) (s2 : Int) (s7 s8 : Bool) (s9 il : Bool) (aa : Int) (ac af ag : Nat) (aj ar : Int) (aq : Nat) (au : Int) (G : GH) (k : KV R) :
  ze Tryz.prog O zdP fuel bd44 [1, 1, 1, 1, 0, 0, 1, 1, 0] (rcK Tryz.f44 k) .normal (mkE 121 [(2, iL s2), (3, .loc 0 0), (7, .bool s7), (8, .bool s8), (9, .bool s9), (45, .bool il)]) [[iL aa, fL ac, fL af, fL ag, iL aj, iL ar, fL aq, iL au]] G =
  zim O k (fun s2 s7 s8 s9 aa ac af ag aj ar aq au G => zi fuel (zd Tryz.prog O zdP fuel (nav bd44 [1, 1, 1, 1, 0, 0, 1, 1, 1, 1, 0]) 39 (mkE 121 [(2, iL s2), (3, .loc 0 0), (7, .bool s7), (8, .bool s8), (9, .bool s9)]) [[iL aa, fL ac, fL af, fL ag, iL aj, iL ar, fL aq, iL au]] G (ze Tryz.prog O zdP fuel bd44 [1, 1, 1, 1, 0, 0, 1, 1, 1, 1, 0] (rcK Tryz.f44 k)))) s2 s7 s8 s9 il aa ac af ag aj ar aq au G := by kernel_rfl
theorem zsI (fuel : Nat) (k : KV R) :
  (fun (s2 : Int) (s7 s8 s9 : Bool) (aa : Int) (ac af ag : Nat) (aj ar : Int) (aq : Nat) (au : Int) (G : GH) => zi fuel (zd Tryz.prog O zdP fuel (nav bd44 [1, 1, 1, 1, 0, 0, 1, 1, 0]) 31 (mkE 121 [(2, iL s2), (3, .loc 0 0), (7, .bool s7), (8, .bool s8), (9, .bool s9)]) [[iL aa, fL ac, fL af, fL ag, iL aj, iL ar, fL aq, iL au]] G (ze Tryz.prog O zdP fuel bd44 [1, 1, 1, 1, 0, 0, 1, 1, 0] (rcK Tryz.f44 k)))) = zgT O fuel k := by
  funext s2 s7 s8 s9 aa ac af ag aj ar aq au G
  simp only [zgT, zs1, zp2, zsE]
def zgV {R : Type} (O : Ora R) (fuel : Nat) (k : KV R) : Int → Bool → Bool → Bool → Int → Nat → Nat → Nat → Int → Int → Nat → Int → GH → Option R := fun s2 s7 s8 s9 aa ac af ag aj ar aq au G =>
  zi fuel (zgI O (ziG O k (zgT O fuel k)) s2 s7 s8 s9 aa ac af ag aj ar aq au G)
theorem zpm (fuel : Nat) (s2 : Int) (s7 s8 : Bool) (s9 ik : Bool) (aa : Int) (ac af ag : Nat) (aj ar : Int) (aq : Nat) (au : Int) (G : GH) (k : KV R) :
  ze Tryz.prog O zdP fuel bd44 [1, 1, 1, 1, 0, 0, 0] (rcK Tryz.f44 k) .normal (mkE 121 [(2, iL s2), (3, .loc 0 0), (7, .bool s7), (8, .bool s8), (9, .bool s9), (36, .bool ik)]) [[iL aa, fL ac, fL af, fL ag, iL aj, iL ar, fL aq, iL au]] G =
  ziG O k (fun s2 s7 s8 s9 aa ac af ag aj ar aq au G => zi fuel (zd Tryz.prog O zdP fuel (nav bd44 [1, 1, 1, 1, 0, 0, 1, 1, 0]) 31 (mkE 121 [(2, iL s2), (3, .loc 0 0), (7, .bool s7), (8, .bool s8), (9, .bool s9)]) [[iL aa, fL ac, fL af, fL ag, iL aj, iL ar, fL aq, iL au]] G (ze Tryz.prog O zdP fuel bd44 [1, 1, 1, 1, 0, 0, 1, 1, 0] (rcK Tryz.f44 k)))) s2 s7 s8 s9 ik aa ac af ag aj ar aq au G := by kernel_rfl
theorem zsD (fuel : Nat) (k : KV R) :
  (fun (s2 : Int) (s7 s8 s9 : Bool) (aa : Int) (ac af ag : Nat) (aj ar : Int) (aq : Nat) (au : Int) (G : GH) => zi fuel (zd Tryz.prog O zdP fuel (nav bd44 [1, 1, 1, 1, 0, 0, 0]) 23 (mkE 121 [(2, iL s2), (3, .loc 0 0), (7, .bool s7), (8, .bool s8), (9, .bool s9)]) [[iL aa, fL ac, fL af, fL ag, iL aj, iL ar, fL aq, iL au]] G (ze Tryz.prog O zdP fuel bd44 [1, 1, 1, 1, 0, 0, 0] (rcK Tryz.f44 k)))) = zgV O fuel k := by
  funext s2 s7 s8 s9 aa ac af ag aj ar aq au G
  simp only [zgV, zsv, zpm, zsI]
def zgD {R : Type} (O : Ora R) (fuel : Nat) (k : KV R) : Int → Int → Bool → Bool → Int → Nat → Nat → Nat → Int → Int → Nat → Int → GH → Option R := fun s1 s2 s7 s8 aa ac af ag aj ar aq au G =>
  zi fuel (zgH O (zil O k (zgV O fuel k)) s1 s2 s7 s8 aa ac af ag aj ar aq au G)
theorem zpk (fuel : Nat) (s2 : Int) (s7 s8 s9 : Bool) (aa : Int) (ac af ag : Nat) (aj ar : Int) (aq : Nat) (au : Int) (G : GH) (k : KV R) :
  ze Tryz.prog O zdP fuel bd44 [1, 1, 1, 0] (rcK Tryz.f44 k) .normal (mkE 121 [(2, iL s2), (3, .loc 0 0), (7, .bool s7), (8, .bool s8), (9, .bool s9)]) [[iL aa, fL ac, fL af, fL ag, iL aj, iL ar, fL aq, iL au]] G =
  zil O k (fun s2 s7 s8 s9 aa ac af ag aj ar aq au G => zi fuel (zd Tryz.prog O zdP fuel (nav bd44 [1, 1, 1, 1, 0, 0, 0]) 23 (mkE 121 [(2, iL s2), (3, .loc 0 0), (7, .bool s7), (8, .bool s8), (9, .bool s9)]) [[iL aa, fL ac, fL af, fL ag, iL aj, iL ar, fL aq, iL au]] G (ze Tryz.prog O zdP fuel bd44 [1, 1, 1, 1, 0, 0, 0] (rcK Tryz.f44 k)))) s2 s7 s8 s9 aa ac af ag aj ar aq au G := by kernel_rfl
theorem zsk (fuel : Nat) (k : KV R) :
  (fun (s1 s2 : Int) (s7 s8 : Bool) (aa : Int) (ac af ag : Nat) (aj ar : Int) (aq : Nat) (au : Int) (G : GH) => zi fuel (zd Tryz.prog O zdP fuel (nav bd44 [1, 1, 1, 0]) 19 (mkE 121 [(1, iL s1), (2, iL s2), (3, .loc 0 0), (7, .bool s7), (8, .bool s8)]) [[iL aa, fL ac, fL af, fL ag, iL aj, iL ar, fL aq, iL au]] G (ze Tryz.prog O zdP fuel bd44 [1, 1, 1, 0] (rcK Tryz.f44 k)))) = zgD O fuel k := by
  funext s1 s2 s7 s8 aa ac af ag aj ar aq au G
  simp only [zgD, zte, zpk, zsD]
def zgW {R : Type} (O : Ora R) (fuel : Nat) (k : KV R) : Int → Int → Bool → Int → Nat → Nat → Nat → Int → Int → Nat → Int → GH → Option R := fun s1 s2 s7 aa ac af ag aj ar aq au G =>
  zi fuel (zgP O (ziv O k (zgD O fuel k)) s1 s2 s7 aa ac af ag aj ar aq au G)
theorem zpd (fuel : Nat) (s1 s2 : Int) (s7 s8 : Bool) (aa : Int) (ac af ag : Nat) (aj ar : Int) (aq : Nat) (au : Int) (G : GH) (k : KV R) :
  ze Tryz.prog O zdP fuel bd44 [1, 1, 0] (rcK Tryz.f44 k) .normal (mkE 121 [(1, iL s1), (2, iL s2), (3, .loc 0 0), (7, .bool s7), (8, .bool s8)]) [[iL aa, fL ac, fL af, fL ag, iL aj, iL ar, fL aq, iL au]] G =
  ziv O k (fun s1 s2 s7 s8 aa ac af ag aj ar aq au G => zi fuel (zd Tryz.prog O zdP fuel (nav bd44 [1, 1, 1, 0]) 19 (mkE 121 [(1, iL s1), (2, iL s2), (3, .loc 0 0), (7, .bool s7), (8, .bool s8)]) [[iL aa, fL ac, fL af, fL ag, iL aj, iL ar, fL aq, iL au]] G (ze Tryz.prog O zdP fuel bd44 [1, 1, 1, 0] (rcK Tryz.f44 k)))) s1 s2 s7 s8 aa ac af ag aj ar aq au G := by kernel_rfl
theorem zsZ (fuel : Nat) (k : KV R) :
  (fun (s1 s2 : Int) (s7 : Bool) (aa : Int) (ac af ag : Nat) (aj ar : Int) (aq : Nat) (au : Int) (G : GH) => zi fuel (zd Tryz.prog O zdP fuel (nav bd44 [1, 1, 0]) 15 (mkE 121 [(1, iL s1), (2, iL s2), (3, .loc 0 0), (7, .bool s7)]) [[iL aa, fL ac, fL af, fL ag, iL aj, iL ar, fL aq, iL au]] G (ze Tryz.prog O zdP fuel bd44 [1, 1, 0] (rcK Tryz.f44 k)))) = zgW O fuel k := by
  funext s1 s2 s7 aa ac af ag aj ar aq au G
  simp only [zgW, zsC, zpd, zsk]
def zgZ {R : Type} (O : Ora R) (fuel : Nat) (k : KV R) : Int → Int → Int → Nat → Nat → Nat → Int → Int → Nat → Int → GH → Option R := fun s1 s2 aa ac af ag aj ar aq au G =>
  zi fuel (zg3 O (zis O k (zgW O fuel k)) s1 s2 aa ac af ag aj ar aq au G)
theorem zph (fuel : Nat) (s1 s2 : Int) (s7 : Bool) (aa : Int) (ac af ag : Nat) (aj ar : Int) (aq : Nat) (au : Int) (G : GH) (k : KV R) :
  ze Tryz.prog O zdP fuel bd44 [1, 0] (rcK Tryz.f44 k) .normal (mkE 121 [(1, iL s1), (2, iL s2), (3, .loc 0 0), (7, .bool s7)]) [[iL aa, fL ac, fL af, fL ag, iL aj, iL ar, fL aq, iL au]] G =
  zis O k (fun s1 s2 s7 aa ac af ag aj ar aq au G => zi fuel (zd Tryz.prog O zdP fuel (nav bd44 [1, 1, 0]) 15 (mkE 121 [(1, iL s1), (2, iL s2), (3, .loc 0 0), (7, .bool s7)]) [[iL aa, fL ac, fL af, fL ag, iL aj, iL ar, fL aq, iL au]] G (ze Tryz.prog O zdP fuel bd44 [1, 1, 0] (rcK Tryz.f44 k)))) s1 s2 s7 aa ac af ag aj ar aq au G := by kernel_rfl
theorem ztd (fuel : Nat) (k : KV R) :
  (fun (s1 s2 aa : Int) (ac af ag : Nat) (aj ar : Int) (aq : Nat) (au : Int) (G : GH) => zi fuel (zd Tryz.prog O zdP fuel (nav bd44 [1, 0]) 11 (mkE 121 [(1, iL s1), (2, iL s2), (3, .loc 0 0)]) [[iL aa, fL ac, fL af, fL ag, iL aj, iL ar, fL aq, iL au]] G (ze Tryz.prog O zdP fuel bd44 [1, 0] (rcK Tryz.f44 k)))) = zgZ O fuel k := by
  funext s1 s2 aa ac af ag aj ar aq au G
  simp only [zgZ, zsr, zph, zsZ]
theorem ztR (fuel : Nat) (av : Int) (aw bf bh : Nat) (bx cd : Int) (dn : Nat) (ec p1 p2 : Int) (G : GH) (k : KV R) :
  zf Tryz.prog O zdP fuel Tryz.f44 [.agg [iL av, fL aw, fL bf, fL bh, iL bx, iL cd, fL dn, iL ec], iL p1, iL p2] G k =
  zoo O k (fun s1 s2 aa ac af ag aj ar aq au G => zi fuel (zd Tryz.prog O zdP fuel (nav bd44 [1, 0]) 11 (mkE 121 [(1, iL s1), (2, iL s2), (3, .loc 0 0)]) [[iL aa, fL ac, fL af, fL ag, iL aj, iL ar, fL aq, iL au]] G (ze Tryz.prog O zdP fuel bd44 [1, 0] (rcK Tryz.f44 k)))) av aw bf bh bx cd dn ec p1 p2 G := by kernel_rfl
theorem zyv (fuel : Nat) (av : Int) (aw bf bh : Nat) (bx cd : Int) (dn : Nat) (ec p1 p2 : Int) (G : GH) (k : KV R) :
  zf Tryz.prog O zdP fuel Tryz.f44 [.agg [iL av, fL aw, fL bf, fL bh, iL bx, iL cd, fL dn, iL ec], iL p1, iL p2] G k =
  zoo O k (zgZ O fuel k) av aw bf bh bx cd dn ec p1 p2 G := by
  rw [ztR, ztd]
theorem zyr {R : Type} (fuel n : Nat) (av : Int) (aw bf bh : Nat) (bx cd : Int) (dn : Nat) (ec p1 p2 : Int) (G : GH) (k : KV R) :
  runC Tryz.prog lo0 fuel (n + 1) 44 [.agg [iL av, fL aw, fL bf, fL bh, iL bx, iL cd, fL dn, iL ec], iL p1, iL p2] G k = zf Tryz.prog (runC Tryz.prog lo0 fuel n) zdP fuel Tryz.f44 [.agg [iL av, fL aw, fL bf, fL bh, iL bx, iL cd, fL dn, iL ec], iL p1, iL p2] G k := zh Tryz.func44 rfl rfl
def zeb {R : Type} (O : Ora R) (Kret : Int → Int → GH → Option R) (KN : zJd R) (K0 : GH → Option R) (ba : OG) (az : Nat) (s1 s6 : Int) (G : GH) : Option R :=
  bif (decide (s6 < (az : Int))) then
  (zbj ba az s6 8).bind fun a1 =>
  (z0 G .i64 (GA.add a1 0)).bind fun x2 =>
  (zg G .f64 (GA.add a1 1)).bind fun x3 =>
  (zg G .f64 (GA.add a1 2)).bind fun x4 =>
  (zg G .f64 (GA.add a1 3)).bind fun x5 =>
  (z0 G .i64 (GA.add a1 4)).bind fun x6 =>
  (z0 G .i64 (GA.add a1 5)).bind fun x7 =>
  (zg G .f64 (GA.add a1 6)).bind fun x8 =>
  (z0 G .i64 (GA.add a1 7)).bind fun x9 =>
  O zlZ [.agg [iL x2, fL x3, fL x4, fL x5, iL x6, iL x7, fL x8, iL x9], iL s6, iL s1] G fun v10 G11 =>
  (zk .i64 v10).bind fun x12 =>
  bif (x12 != (0 : Int)) then
  Kret s6 x12 G11
  else
  KN ba az s1 (IntKind.wrap .i64 (s6 + (1 : Int))) G11
  else
  K0 G
def zaq {R : Type} (O : Ora R) (Kret : Int → Int → GH → Option R) (K0 : GH → Option R) : Nat → OG → Nat → Int → Int → GH → Option R
  | 0, _, _, _, _, _ => none
  | n + 1, ba, az, s1, s6, G => zeb O Kret (zaq O Kret K0 n) K0 ba az s1 s6 G
theorem znE (fuel : Nat) (ba : OG) (az : Nat) (s1 s6 : Int) (G : GH) (k : KE R) :
  zd Tryz.prog O zBE fuel (nav bd19 [1, 0, 1, 0, 0]) 8 (mkE 25 [(0, .slice ba az), (1, iL s1), (6, iL s6)]) [] G k =
  zeb O (fun s4 s5 G => k .ret (mkE 25 [(4, iL s4), (5, iL s5)]) [] G) (fun ba az s1 s6 G => k .normal (mkE 25 [(0, .slice ba az), (1, iL s1), (6, iL s6)]) [] G) (fun G => k (.exit 0) (mkE 25 []) [] G) ba az s1 s6 G := by kernel_rfl
theorem zoy (fuel : Nat) (k : KE R) : ∀ (n : Nat) (ba : OG) (az : Nat) (s1 s6 : Int) (G : GH),
  zJ (zd Tryz.prog O zBE fuel (nav bd19 [1, 0, 1, 0, 0]) 8) n (mkE 25 [(0, .slice ba az), (1, iL s1), (6, iL s6)]) [] G k = zaq O (fun s4 s5 G => k .ret (mkE 25 [(4, iL s4), (5, iL s5)]) [] G) (fun G => k (.exit 0) (mkE 25 []) [] G) n ba az s1 s6 G := by
  intro n
  induction n with
  | zero => intros; first | rfl | simp only [zJ, zaq]
  | succ n ih =>
    intros
    rw [zaU, znE]
    simp only [zaq, zah, zaS, zbI, ih]
def zkF {R : Type} (O : Ora R) (k : KV R) (L0 : zJd R) (dc : OG) (db : Nat) (p1 : Int) (G : GH) : Option R :=
  L0 dc db p1 (0 : Int) G
def zef {R : Type} (O : Ora R) (k : KV R) (s4 s5 : Int) (G : GH) : Option R :=
  k (.tuple [iL s4, iL s5]) G
def zgb {R : Type} (O : Ora R) (k : KV R)  (G : GH) : Option R :=
  k (.tuple [iL (0 : Int), iL (0 : Int)]) G
def zd1 {R : Type} (O : Ora R) (fuel : Nat) (k : KV R) : OG → Nat → Int → Int → GH → Option R := fun ba az s1 s6 G =>
  zaq O (zef O k) (zgb O k) fuel ba az s1 s6 G
theorem zk4 (fuel : Nat) (s4 s5 : Int) (G : GH) (k : KV R) :
  ze Tryz.prog O zBE fuel bd19 [1, 0, 1, 0] (rcK Tryz.f19 k) .ret (mkE 25 [(4, iL s4), (5, iL s5)]) [] G =
  zef O k s4 s5 G := by kernel_rfl
theorem zm6 (fuel : Nat)  (G : GH) (k : KV R) :
  ze Tryz.prog O zBE fuel bd19 [1, 0, 1, 0] (rcK Tryz.f19 k) (.exit 0) (mkE 25 []) [] G =
  zgb O k G := by kernel_rfl
theorem zqi (fuel : Nat) (k : KV R) :
  (fun (ba : OG) (az : Nat) (s1 s6 : Int) (G : GH) => zJ (zd Tryz.prog O zBE fuel (nav bd19 [1, 0, 1, 0, 0]) 8) fuel (mkE 25 [(0, .slice ba az), (1, iL s1), (6, iL s6)]) [] G (ze Tryz.prog O zBE fuel bd19 [1, 0, 1, 0] (rcK Tryz.f19 k))) = zd1 O fuel k := by
  funext ba az s1 s6 G
  simp only [zd1, zoy, zk4, zm6]
theorem zqt (fuel : Nat) (dc : OG) (db : Nat) (p1 : Int) (G : GH) (k : KV R) :
  zf Tryz.prog O zBE fuel Tryz.f19 [.slice dc db, iL p1] G k =
  zkF O k (fun ba az s1 s6 G => zJ (zd Tryz.prog O zBE fuel (nav bd19 [1, 0, 1, 0, 0]) 8) fuel (mkE 25 [(0, .slice ba az), (1, iL s1), (6, iL s6)]) [] G (ze Tryz.prog O zBE fuel bd19 [1, 0, 1, 0] (rcK Tryz.f19 k))) dc db p1 G := by kernel_rfl
theorem zwo (fuel : Nat) (dc : OG) (db : Nat) (p1 : Int) (G : GH) (k : KV R) :
  zf Tryz.prog O zBE fuel Tryz.f19 [.slice dc db, iL p1] G k =
  zkF O k (zd1 O fuel k) dc db p1 G := by
  rw [zqt, zqi]
theorem zws {R : Type} (fuel n : Nat) (dc : OG) (db : Nat) (p1 : Int) (G : GH) (k : KV R) :
  runC Tryz.prog lo0 fuel (n + 1) 19 [.slice dc db, iL p1] G k = zf Tryz.prog (runC Tryz.prog lo0 fuel n) zBE fuel Tryz.f19 [.slice dc db, iL p1] G k := zh Tryz.func19 rfl rfl
end
end Go.LI.Film
