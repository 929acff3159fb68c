/- What the interpreter gives for the reference: Eval (written by texz.py). -/
import Derived.Test.YtbjcipikclbecaaGreatSeatA
import Derived.Test.YtbjcipikclbecaaGreatRdPt4
set_option maxRecDepth 100000
set_option linter.unusedVariables false
set_option linter.unusedSimpArgs false
namespace Go.LI.Film
open Go.Proofs.YtbjcipikclbecaaGreat Go Go.Proofs Go.LI
section
variable {R : Type} (O : Ora R)
theorem zx3 (fuel : Nat) (p0 p1 : Int) (G : GH) (k : KV R) :
  zf Tryz.prog O [777777] fuel Tryz.f72 [iL p0, iL p1] G k =
  bif (decide (p0 ≥ (1 : Int))) then
  bif (decide (p1 ≥ (1 : Int))) then
  bif (decide (p0 ≤ (1024 : Int))) then
  bif (decide (p1 ≤ (1024 : Int))) then
  k (.bool (decide ((IntKind.wrap .i64 (p0 * p1)) ≤ (65536 : Int)))) G
  else
  k (.bool false) G
  else
  k (.bool false) G
  else
  k (.bool false) G
  else
  k (.bool false) G := by kernel_rfl
theorem zw7 {R : Type} (fuel n : Nat) (p0 p1 : Int) (G : GH) (k : KV R) :
  runC Tryz.prog lo0 fuel (n + 1) 72 [iL p0, iL p1] G k = zf Tryz.prog (runC Tryz.prog lo0 fuel n) [777777] fuel Tryz.f72 [iL p0, iL p1] G k := zh Tryz.func72 rfl rfl
theorem zuT (fuel : Nat) (av aw : Int) (ei : OG) (ef : Nat) (G : GH) (k : KV R) :
  zf Tryz.prog O [1, 777777] fuel Tryz.f52 [.agg [iL av, iL aw, .slice ei ef]] G k =
  O zkH [iL av, iL aw] G fun v1 G2 =>
  (zl v1).bind fun x3 =>
  bif x3 then
  k (.bool ((ef : Int) == (IntKind.wrap .i64 (av * aw)))) G2
  else
  k (.bool false) G2 := by kernel_rfl
theorem zuJ {R : Type} (fuel n : Nat) (av aw : Int) (ei : OG) (ef : Nat) (G : GH) (k : KV R) :
  runC Tryz.prog lo0 fuel (n + 1) 52 [.agg [iL av, iL aw, .slice ei ef]] G k = zf Tryz.prog (runC Tryz.prog lo0 fuel n) [1, 777777] fuel Tryz.f52 [.agg [iL av, iL aw, .slice ei ef]] G k := zh Tryz.func52 rfl rfl
theorem zuz (fuel : Nat) (p0 p1 : Int) (G : GH) (k : KV R) :
  zf Tryz.prog O [777777] fuel Tryz.f53 [iL p0, iL p1] G k =
  bif p1 == 0 then none else
  bif (decide ((Int.tmod p0 p1) < (0 : Int))) then
  k (iL (IntKind.wrap .i64 ((Int.tmod p0 p1) + p1))) G
  else
  k (iL (Int.tmod p0 p1)) G := by kernel_rfl
theorem zuR {R : Type} (fuel n : Nat) (p0 p1 : Int) (G : GH) (k : KV R) :
  runC Tryz.prog lo0 fuel (n + 1) 53 [iL p0, iL p1] G k = zf Tryz.prog (runC Tryz.prog lo0 fuel n) [777777] fuel Tryz.f53 [iL p0, iL p1] G k := zh Tryz.func53 rfl rfl
theorem zv6 (fuel : Nat) (av aw : Int) (ei : OG) (ef bu : Nat) (bw gr gu : Nat) (G : GH) (k : KV R) :
  zf Tryz.prog O [3, 4, 5, 6, 777777] fuel Tryz.f26 [.agg [iL av, iL aw, .slice ei ef], .agg [fL bu, fL bw], .agg [fL gr, fL gu]] G k =
  O zhM [.agg [iL av, iL aw, .slice ei ef]] G fun v1 G2 =>
  (zl v1).bind fun x3 =>
  bif (!x3) then
  k (.tuple [.agg [fL (0 : Nat), fL (0 : Nat), fL (0 : Nat), fL (0 : Nat), fL (0 : Nat), fL (0 : Nat)], .bool false]) G2
  else
  O zbw [fL (FloatKind.nearest .f64 av)] (zj G2) fun v4 _ =>
  (zr 2 v4).bind fun c5 =>
  (zc .f64 (c5.getD 0 za)).bind fun x6 =>
  (zc .f64 (c5.getD 1 za)).bind fun x7 =>
  O zae [.agg [fL bu, fL bw], .agg [fL x6, fL x7]] (zj G2) fun v8 _ =>
  (zr 2 v8).bind fun c9 =>
  (zc .f64 (c9.getD 0 za)).bind fun x10 =>
  (zc .f64 (c9.getD 1 za)).bind fun x11 =>
  O zbO [.agg [fL x10, fL x11]] (zj G2) fun v12 _ =>
  (zY 2 v12).bind fun c13 =>
  (zk .i64 (c13.getD 0 za)).bind fun x14 =>
  (zk .i64 (c13.getD 1 za)).bind fun x15 =>
  O zbw [fL (FloatKind.nearest .f64 aw)] (zj G2) fun v16 _ =>
  (zr 2 v16).bind fun c17 =>
  (zc .f64 (c17.getD 0 za)).bind fun x18 =>
  (zc .f64 (c17.getD 1 za)).bind fun x19 =>
  O zae [.agg [fL gr, fL gu], .agg [fL x18, fL x19]] (zj G2) fun v20 _ =>
  (zr 2 v20).bind fun c21 =>
  (zc .f64 (c21.getD 0 za)).bind fun x22 =>
  (zc .f64 (c21.getD 1 za)).bind fun x23 =>
  O zbO [.agg [fL x22, fL x23]] (zj G2) fun v24 _ =>
  (zY 2 v24).bind fun c25 =>
  (zk .i64 (c25.getD 0 za)).bind fun x26 =>
  (zk .i64 (c25.getD 1 za)).bind fun x27 =>
  O zdZ [iL x26, iL aw] G2 fun v28 G29 =>
  (zk .i64 v28).bind fun x30 =>
  O zdZ [iL x14, iL av] G29 fun v31 G32 =>
  (zk .i64 v31).bind fun x33 =>
  (zbj ei ef (IntKind.wrap .i64 ((IntKind.wrap .i64 (x30 * av)) + x33)) 3).bind fun a34 =>
  (zg G32 .f64 (GA.add a34 0)).bind fun x35 =>
  (zg G32 .f64 (GA.add a34 1)).bind fun x36 =>
  (zg G32 .f64 (GA.add a34 2)).bind fun x37 =>
  O zhJ [.agg [fL x35, fL x36, fL x37]] G32 fun v38 G39 =>
  (zr 6 v38).bind fun c40 =>
  (zc .f64 (c40.getD 0 za)).bind fun x41 =>
  (zc .f64 (c40.getD 1 za)).bind fun x42 =>
  (zc .f64 (c40.getD 2 za)).bind fun x43 =>
  (zc .f64 (c40.getD 3 za)).bind fun x44 =>
  (zc .f64 (c40.getD 4 za)).bind fun x45 =>
  (zc .f64 (c40.getD 5 za)).bind fun x46 =>
  bif (x15 == (1 : Int)) then
  k (.tuple [.agg [fL x41, fL x42, fL x43, fL x44, fL x45, fL x46], .bool (x27 == (1 : Int))]) G39
  else
  k (.tuple [.agg [fL x41, fL x42, fL x43, fL x44, fL x45, fL x46], .bool false]) G39 := by kernel_rfl
theorem zwi {R : Type} (fuel n : Nat) (av aw : Int) (ei : OG) (ef bu : Nat) (bw gr gu : Nat) (G : GH) (k : KV R) :
  runC Tryz.prog lo0 fuel (n + 1) 26 [.agg [iL av, iL aw, .slice ei ef], .agg [fL bu, fL bw], .agg [fL gr, fL gu]] G k = zf Tryz.prog (runC Tryz.prog lo0 fuel n) [3, 4, 5, 6, 777777] fuel Tryz.f26 [.agg [iL av, iL aw, .slice ei ef], .agg [fL bu, fL bw], .agg [fL gr, fL gu]] G k := zh Tryz.func26 rfl rfl
def zio {R : Type} (O : Ora R) (KN : zHH R) (ba : OG) (az : Nat) (bm : OG) (bj : Nat) (s2 : Int) (aa ac : Nat) (ai ah : Nat) (ak al : Nat) (ax ay : Nat) (bd bi : Nat) (G : GH) : Option R :=
  bif (decide (s2 < (0 : Int))) then
  KN ba az bm bj s2 true aa ac ai ah ak al ax ay bd bi G
  else
  KN ba az bm bj s2 (decide (s2 ≥ (az : Int))) aa ac ai ah ak al ax ay bd bi G
def zdk {R : Type} (O : Ora R) (KN : zHH R) : OG → Nat → OG → Nat → Int → Nat → Nat → Nat → Nat → Nat → Nat → Nat → Nat → Nat → Nat → GH → Option R := fun ba az bm bj s2 aa ac ai ah ak al ax ay bd bi G => zio O KN ba az bm bj s2 aa ac ai ah ak al ax ay bd bi G
theorem zp0 (fuel : Nat) (ba : OG) (az : Nat) (bm : OG) (bj : Nat) (s2 : Int) (aa ac : Nat) (ai ah : Nat) (ak al : Nat) (ax ay : Nat) (bd bi : Nat) (G : GH) (k : KE R) :
  zd Tryz.prog O lo9 fuel (nav bd9 [1, 0, 0]) 11 (mkE 220 [(0, .slice ba az), (1, .slice bm bj), (2, iL s2), (8, .loc 0 0), (9, .loc 1 0), (10, .loc 2 0)]) [[fL aa, fL ac], [fL ai, fL ah], [fL ak, fL al, fL ax, fL ay, fL bd, fL bi]] G k =
  zio O (fun ba az bm bj s2 gw aa ac ai ah ak al ax ay bd bi G => k .normal (mkE 220 [(0, .slice ba az), (1, .slice bm bj), (2, iL s2), (8, .loc 0 0), (9, .loc 1 0), (10, .loc 2 0), (32, .bool gw)]) [[fL aa, fL ac], [fL ai, fL ah], [fL ak, fL al, fL ax, fL ay, fL bd, fL bi]] G) ba az bm bj s2 aa ac ai ah ak al ax ay bd bi G := by kernel_rfl
theorem zqI (fuel : Nat) (k : KE R) : ∀ (ba : OG) (az : Nat) (bm : OG) (bj : Nat) (s2 : Int) (aa ac : Nat) (ai ah : Nat) (ak al : Nat) (ax ay : Nat) (bd bi : Nat) (G : GH),
  zd Tryz.prog O lo9 fuel (nav bd9 [1, 0, 0]) 11 (mkE 220 [(0, .slice ba az), (1, .slice bm bj), (2, iL s2), (8, .loc 0 0), (9, .loc 1 0), (10, .loc 2 0)]) [[fL aa, fL ac], [fL ai, fL ah], [fL ak, fL al, fL ax, fL ay, fL bd, fL bi]] G k = zdk O (fun ba az bm bj s2 gw aa ac ai ah ak al ax ay bd bi G => k .normal (mkE 220 [(0, .slice ba az), (1, .slice bm bj), (2, iL s2), (8, .loc 0 0), (9, .loc 1 0), (10, .loc 2 0), (32, .bool gw)]) [[fL aa, fL ac], [fL ai, fL ah], [fL ak, fL al, fL ax, fL ay, fL bd, fL bi]] G) ba az bm bj s2 aa ac ai ah ak al ax ay bd bi G := by
  intros
  rw [zp0]
  simp only [zdk]
def zin {R : Type} (O : Ora R) (KN : zIU R) (ba : OG) (az : Nat) (bm : OG) (bj : Nat) (s2 : Int) (br : OG) (bt : Nat) (bz : OG) (cb : Nat) (ci fl : Int) (ek gm : Int) (fc fe : Int) (aa ac : Nat) (ai ah : Nat) (ak al : Nat) (ax ay : Nat) (bd bi : Nat) (cr : Int) (cq ct cu : Nat) (df de : Int) (dg : Nat) (em : Int) (dh di : Nat) (G : GH) : Option R :=
  bif ((Int.tmod (IntKind.wrap .i64 (fl + gm)) (2 : Int)) != (0 : Int)) then
  KN ba az bm bj s2 br bt bz cb ci ek fc de aa ac ai ah ak al ax ay bd bi cr cq ct cu df de dg em dh di G
  else
  KN ba az bm bj s2 br bt bz cb ci ek fc fe aa ac ai ah ak al ax ay bd bi cr cq ct cu df de dg em dh di G
def zda {R : Type} (O : Ora R) (KN : zIU R) : OG → Nat → OG → Nat → Int → OG → Nat → OG → Nat → Int → Int → Int → Int → Int → Int → Nat → Nat → Nat → Nat → Nat → Nat → Nat → Nat → Nat → Nat → Int → Nat → Nat → Nat → Int → Int → Nat → Int → Nat → Nat → GH → Option R := fun ba az bm bj s2 br bt bz cb ci fl ek gm fc fe aa ac ai ah ak al ax ay bd bi cr cq ct cu df de dg em dh di G => zin O KN ba az bm bj s2 br bt bz cb ci fl ek gm fc fe aa ac ai ah ak al ax ay bd bi cr cq ct cu df de dg em dh di G
theorem zpa (fuel : Nat) (ba : OG) (az : Nat) (bm : OG) (bj : Nat) (s2 : Int) (br : OG) (bt : Nat) (bz : OG) (cb : Nat) (ci fl : Int) (ek gm : Int) (fc fe : Int) (aa ac : Nat) (ai ah : Nat) (ak al : Nat) (ax ay : Nat) (bd bi : Nat) (cr : Int) (cq ct cu : Nat) (df de : Int) (dg : Nat) (em : Int) (dh di : Nat) (G : GH) (k : KE R) :
  zd Tryz.prog O lo9 fuel (nav bd9 [1, 1, 1, 1, 1, 1, 0, 1, 0, 0, 1, 0, 0, 1, 1, 1, 0, 1, 1, 1, 1, 1, 1, 1, 0, 1, 1, 1, 0]) 111 (mkE 220 [(0, .slice ba az), (1, .slice bm bj), (2, iL s2), (8, .loc 0 0), (9, .loc 1 0), (10, .loc 2 0), (15, .slice br bt), (16, .slice bz cb), (17, iL ci), (18, .loc 3 0), (20, iL fl), (21, iL ek), (22, iL gm), (23, iL fc), (24, iL fe)]) [[fL aa, fL ac], [fL ai, fL ah], [fL ak, fL al, fL ax, fL ay, fL bd, fL bi], [iL cr, fL cq, fL ct, fL cu, iL df, iL de, fL dg, iL em], [fL dh, fL di]] G k =
  zin O (fun ba az bm bj s2 br bt bz cb ci ek fc fe aa ac ai ah ak al ax ay bd bi cr cq ct cu df de dg em dh di G => k .normal (mkE 220 [(0, .slice ba az), (1, .slice bm bj), (2, iL s2), (8, .loc 0 0), (9, .loc 1 0), (10, .loc 2 0), (15, .slice br bt), (16, .slice bz cb), (17, iL ci), (21, iL ek), (23, iL fc), (24, iL fe)]) [[fL aa, fL ac], [fL ai, fL ah], [fL ak, fL al, fL ax, fL ay, fL bd, fL bi], [iL cr, fL cq, fL ct, fL cu, iL df, iL de, fL dg, iL em], [fL dh, fL di]] G) ba az bm bj s2 br bt bz cb ci fl ek gm fc fe aa ac ai ah ak al ax ay bd bi cr cq ct cu df de dg em dh di G := by kernel_rfl
theorem zrt (fuel : Nat) (k : KE R) : ∀ (ba : OG) (az : Nat) (bm : OG) (bj : Nat) (s2 : Int) (br : OG) (bt : Nat) (bz : OG) (cb : Nat) (ci fl : Int) (ek gm : Int) (fc fe : Int) (aa ac : Nat) (ai ah : Nat) (ak al : Nat) (ax ay : Nat) (bd bi : Nat) (cr : Int) (cq ct cu : Nat) (df de : Int) (dg : Nat) (em : Int) (dh di : Nat) (G : GH),
  zd Tryz.prog O lo9 fuel (nav bd9 [1, 1, 1, 1, 1, 1, 0, 1, 0, 0, 1, 0, 0, 1, 1, 1, 0, 1, 1, 1, 1, 1, 1, 1, 0, 1, 1, 1, 0]) 111 (mkE 220 [(0, .slice ba az), (1, .slice bm bj), (2, iL s2), (8, .loc 0 0), (9, .loc 1 0), (10, .loc 2 0), (15, .slice br bt), (16, .slice bz cb), (17, iL ci), (18, .loc 3 0), (20, iL fl), (21, iL ek), (22, iL gm), (23, iL fc), (24, iL fe)]) [[fL aa, fL ac], [fL ai, fL ah], [fL ak, fL al, fL ax, fL ay, fL bd, fL bi], [iL cr, fL cq, fL ct, fL cu, iL df, iL de, fL dg, iL em], [fL dh, fL di]] G k = zda O (fun ba az bm bj s2 br bt bz cb ci ek fc fe aa ac ai ah ak al ax ay bd bi cr cq ct cu df de dg em dh di G => k .normal (mkE 220 [(0, .slice ba az), (1, .slice bm bj), (2, iL s2), (8, .loc 0 0), (9, .loc 1 0), (10, .loc 2 0), (15, .slice br bt), (16, .slice bz cb), (17, iL ci), (21, iL ek), (23, iL fc), (24, iL fe)]) [[fL aa, fL ac], [fL ai, fL ah], [fL ak, fL al, fL ax, fL ay, fL bd, fL bi], [iL cr, fL cq, fL ct, fL cu, iL df, iL de, fL dg, iL em], [fL dh, fL di]] G) ba az bm bj s2 br bt bz cb ci fl ek gm fc fe aa ac ai ah ak al ax ay bd bi cr cq ct cu df de dg em dh di G := by
  intros
  rw [zpa]
  simp only [zda]
def zQ {R : Type} (O : Ora R) (KN : zEe R) (L3 : zJP R) (ba : OG) (az : Nat) (bm : OG) (bj : Nat) (s2 : Int) (br : OG) (bt : Nat) (bz : OG) (cb : Nat) (ci : Int) (aa ac : Nat) (ai ah : Nat) (ak al : Nat) (ax ay : Nat) (bd bi : Nat) (G : GH) : Option R :=
  (zbj ba az ci 8).bind fun a1 =>
  (z0 G .i64 (GA.add a1 0)).bind fun x2 =>
  (zg G .f64 (GA.add a1 1)).bind fun x3 =>
  (zg G .f64 (GA.add a1 2)).bind fun x4 =>
  (zg G .f64 (GA.add a1 3)).bind fun x5 =>
  (z0 G .i64 (GA.add a1 4)).bind fun x6 =>
  (z0 G .i64 (GA.add a1 5)).bind fun x7 =>
  (zg G .f64 (GA.add a1 6)).bind fun x8 =>
  (z0 G .i64 (GA.add a1 7)).bind fun x9 =>
  O zbw [fL x8] G fun v10 G11 =>
  (zr 2 v10).bind fun c12 =>
  (zc .f64 (c12.getD 0 za)).bind fun x13 =>
  (zc .f64 (c12.getD 1 za)).bind fun x14 =>
  bif (x2 == (1 : Int)) then
  O zhJ [.agg [fL x3, fL x4, fL x5]] G11 fun v15 G16 =>
  (zr 6 v15).bind fun c17 =>
  (zc .f64 (c17.getD 0 za)).bind fun x18 =>
  (zc .f64 (c17.getD 1 za)).bind fun x19 =>
  (zc .f64 (c17.getD 2 za)).bind fun x20 =>
  (zc .f64 (c17.getD 3 za)).bind fun x21 =>
  (zc .f64 (c17.getD 4 za)).bind fun x22 =>
  (zc .f64 (c17.getD 5 za)).bind fun x23 =>
  (zbj br bt ci 6).bind fun a24 =>
  (gst G16 a24 [fL x18, fL x19, fL x20, fL x21, fL x22, fL x23]).bind fun G25 =>
  (zbj bz cb ci 1).bind fun a26 =>
  (gst G25 a26 [.bool true]).bind fun G27 =>
  KN ba az bm bj s2 br bt bz cb ci aa ac ai ah ak al ax ay bd bi G27
  else
  bif (x2 == (5 : Int)) then
  (zbj br bt x6 6).bind fun a28 =>
  if Nat.blt (a28).b G11.length = true then
  (zg G11 .f64 (GA.add a28 0)).bind fun x29 =>
  (zg G11 .f64 (GA.add a28 1)).bind fun x30 =>
  (zg G11 .f64 (GA.add a28 2)).bind fun x31 =>
  (zg G11 .f64 (GA.add a28 3)).bind fun x32 =>
  (zg G11 .f64 (GA.add a28 4)).bind fun x33 =>
  (zg G11 .f64 (GA.add a28 5)).bind fun x34 =>
  if Nat.ble G11.length G11.length = true then
  O zhJ [.agg [fL x3, fL x4, fL x5]] G11 fun v35 G36 =>
  (zr 6 v35).bind fun c37 =>
  (zc .f64 (c37.getD 0 za)).bind fun x38 =>
  (zc .f64 (c37.getD 1 za)).bind fun x39 =>
  (zc .f64 (c37.getD 2 za)).bind fun x40 =>
  (zc .f64 (c37.getD 3 za)).bind fun x41 =>
  (zc .f64 (c37.getD 4 za)).bind fun x42 =>
  (zc .f64 (c37.getD 5 za)).bind fun x43 =>
  if zy1 G11 G36 = true then
  if Nat.ble G11.length G36.length = true then
  O zfm [.agg [fL x29, fL x30, fL x31, fL x32, fL x33, fL x34], .agg [fL x38, fL x39, fL x40, fL x41, fL x42, fL x43]] G36 fun v44 G45 =>
  (zr 6 v44).bind fun c46 =>
  (zc .f64 (c46.getD 0 za)).bind fun x47 =>
  (zc .f64 (c46.getD 1 za)).bind fun x48 =>
  (zc .f64 (c46.getD 2 za)).bind fun x49 =>
  (zc .f64 (c46.getD 3 za)).bind fun x50 =>
  (zc .f64 (c46.getD 4 za)).bind fun x51 =>
  (zc .f64 (c46.getD 5 za)).bind fun x52 =>
  if zy1 G36 G45 = true then
  (zbj bz cb x6 1).bind fun a53 =>
  if Nat.blt (a53).b G11.length = true then
  (zfZ G45 a53).bind fun x54 =>
  (zbj br bt ci 6).bind fun a55 =>
  (gst G45 a55 [fL x47, fL x48, fL x49, fL x50, fL x51, fL x52]).bind fun G56 =>
  (zbj bz cb ci 1).bind fun a57 =>
  (gst G56 a57 [.bool x54]).bind fun G58 =>
  KN ba az bm bj s2 br bt bz cb ci aa ac ai ah ak al ax ay bd bi G58
  else none
  else none
  else none
  else none
  else none
  else none
  else
  bif (x2 == (3 : Int)) then
  (zbj br bt x6 6).bind fun a59 =>
  (zg G11 .f64 (GA.add a59 0)).bind fun x60 =>
  (zg G11 .f64 (GA.add a59 1)).bind fun x61 =>
  (zg G11 .f64 (GA.add a59 2)).bind fun x62 =>
  (zg G11 .f64 (GA.add a59 3)).bind fun x63 =>
  (zg G11 .f64 (GA.add a59 4)).bind fun x64 =>
  (zg G11 .f64 (GA.add a59 5)).bind fun x65 =>
  O zbw [fL (4607182418800017408 : Nat)] (zj G11) fun v66 _ =>
  (zr 2 v66).bind fun c67 =>
  (zc .f64 (c67.getD 0 za)).bind fun x68 =>
  (zc .f64 (c67.getD 1 za)).bind fun x69 =>
  O zly [.agg [fL x68, fL x69], .agg [fL x13, fL x14]] (zj G11) fun v70 _ =>
  (zr 2 v70).bind fun c71 =>
  (zc .f64 (c71.getD 0 za)).bind fun x72 =>
  (zc .f64 (c71.getD 1 za)).bind fun x73 =>
  O zfl [.agg [fL x60, fL x61, fL x62, fL x63, fL x64, fL x65], .agg [fL x72, fL x73]] (zj G11) fun v74 _ =>
  (zr 6 v74).bind fun c75 =>
  (zc .f64 (c75.getD 0 za)).bind fun x76 =>
  (zc .f64 (c75.getD 1 za)).bind fun x77 =>
  (zc .f64 (c75.getD 2 za)).bind fun x78 =>
  (zc .f64 (c75.getD 3 za)).bind fun x79 =>
  (zc .f64 (c75.getD 4 za)).bind fun x80 =>
  (zc .f64 (c75.getD 5 za)).bind fun x81 =>
  (zbj br bt x7 6).bind fun a82 =>
  (zg G11 .f64 (GA.add a82 0)).bind fun x83 =>
  (zg G11 .f64 (GA.add a82 1)).bind fun x84 =>
  (zg G11 .f64 (GA.add a82 2)).bind fun x85 =>
  (zg G11 .f64 (GA.add a82 3)).bind fun x86 =>
  (zg G11 .f64 (GA.add a82 4)).bind fun x87 =>
  (zg G11 .f64 (GA.add a82 5)).bind fun x88 =>
  O zfl [.agg [fL x83, fL x84, fL x85, fL x86, fL x87, fL x88], .agg [fL x13, fL x14]] (zj G11) fun v89 _ =>
  (zr 6 v89).bind fun c90 =>
  (zc .f64 (c90.getD 0 za)).bind fun x91 =>
  (zc .f64 (c90.getD 1 za)).bind fun x92 =>
  (zc .f64 (c90.getD 2 za)).bind fun x93 =>
  (zc .f64 (c90.getD 3 za)).bind fun x94 =>
  (zc .f64 (c90.getD 4 za)).bind fun x95 =>
  (zc .f64 (c90.getD 5 za)).bind fun x96 =>
  O zmf [.agg [fL x76, fL x77, fL x78, fL x79, fL x80, fL x81], .agg [fL x91, fL x92, fL x93, fL x94, fL x95, fL x96]] (zj G11) fun v97 _ =>
  (zr 6 v97).bind fun c98 =>
  (zc .f64 (c98.getD 0 za)).bind fun x99 =>
  (zc .f64 (c98.getD 1 za)).bind fun x100 =>
  (zc .f64 (c98.getD 2 za)).bind fun x101 =>
  (zc .f64 (c98.getD 3 za)).bind fun x102 =>
  (zc .f64 (c98.getD 4 za)).bind fun x103 =>
  (zc .f64 (c98.getD 5 za)).bind fun x104 =>
  (zbj br bt ci 6).bind fun a105 =>
  (gst G11 a105 [fL x99, fL x100, fL x101, fL x102, fL x103, fL x104]).bind fun G106 =>
  (zbj bz cb x6 1).bind fun a107 =>
  (zfZ G106 a107).bind fun x108 =>
  bif x108 then
  (zbj bz cb x7 1).bind fun a109 =>
  (zfZ G106 a109).bind fun x110 =>
  (zbj bz cb ci 1).bind fun a111 =>
  (gst G106 a111 [.bool x110]).bind fun G112 =>
  KN ba az bm bj s2 br bt bz cb ci aa ac ai ah ak al ax ay bd bi G112
  else
  (zbj bz cb ci 1).bind fun a113 =>
  (gst G106 a113 [.bool false]).bind fun G114 =>
  KN ba az bm bj s2 br bt bz cb ci aa ac ai ah ak al ax ay bd bi G114
  else
  bif (x2 == (2 : Int)) then
  O zae [.agg [fL aa, fL ac], .agg [fL x13, fL x14]] G11 fun v115 G116 =>
  (zr 2 v115).bind fun c117 =>
  (zc .f64 (c117.getD 0 za)).bind fun x118 =>
  (zc .f64 (c117.getD 1 za)).bind fun x119 =>
  O zbO [.agg [fL x118, fL x119]] G116 fun v120 G121 =>
  (zY 2 v120).bind fun c122 =>
  (zk .i64 (c122.getD 0 za)).bind fun x123 =>
  (zk .i64 (c122.getD 1 za)).bind fun x124 =>
  O zae [.agg [fL ai, fL ah], .agg [fL x13, fL x14]] G121 fun v125 G126 =>
  (zr 2 v125).bind fun c127 =>
  (zc .f64 (c127.getD 0 za)).bind fun x128 =>
  (zc .f64 (c127.getD 1 za)).bind fun x129 =>
  O zbO [.agg [fL x128, fL x129]] G126 fun v130 G131 =>
  (zY 2 v130).bind fun c132 =>
  (zk .i64 (c132.getD 0 za)).bind fun x133 =>
  (zk .i64 (c132.getD 1 za)).bind fun x134 =>
  L3 ba az bm bj s2 br bt bz cb ci x123 x124 x133 x134 x6 aa ac ai ah ak al ax ay bd bi x2 x3 x4 x5 x6 x7 x8 x9 x13 x14 G131
  else
  bif (x2 == (4 : Int)) then
  (zbj bm bj x9 3).bind fun a135 =>
  if Nat.blt (a135).b G11.length = true then
  (z0 G11 .i64 (GA.add a135 0)).bind fun x136 =>
  (z0 G11 .i64 (GA.add a135 1)).bind fun x137 =>
  (zci G11 (GA.add a135 2)).bind fun x138 =>
  if Nat.ble G11.length G11.length = true then
  O zae [.agg [fL aa, fL ac], .agg [fL x13, fL x14]] G11 fun v139 G140 =>
  (zr 2 v139).bind fun c141 =>
  (zc .f64 (c141.getD 0 za)).bind fun x142 =>
  (zc .f64 (c141.getD 1 za)).bind fun x143 =>
  if zy1 G11 G140 = true then
  if Nat.ble G11.length G140.length = true then
  O zae [.agg [fL ai, fL ah], .agg [fL x13, fL x14]] G140 fun v144 G145 =>
  (zr 2 v144).bind fun c146 =>
  (zc .f64 (c146.getD 0 za)).bind fun x147 =>
  (zc .f64 (c146.getD 1 za)).bind fun x148 =>
  if zy1 G140 G145 = true then
  if Nat.ble G11.length G145.length = true then
  O ziu [.agg [iL x136, iL x137, .slice x138.1 x138.2], .agg [fL x142, fL x143], .agg [fL x147, fL x148]] G145 fun v149 G150 =>
  (zY 2 v149).bind fun c151 =>
  (zr 6 (c151.getD 0 za)).bind fun c152 =>
  (zc .f64 (c152.getD 0 za)).bind fun x153 =>
  (zc .f64 (c152.getD 1 za)).bind fun x154 =>
  (zc .f64 (c152.getD 2 za)).bind fun x155 =>
  (zc .f64 (c152.getD 3 za)).bind fun x156 =>
  (zc .f64 (c152.getD 4 za)).bind fun x157 =>
  (zc .f64 (c152.getD 5 za)).bind fun x158 =>
  (zl (c151.getD 1 za)).bind fun x159 =>
  if zy1 G145 G150 = true then
  (zbj br bt ci 6).bind fun a160 =>
  (gst G150 a160 [fL x153, fL x154, fL x155, fL x156, fL x157, fL x158]).bind fun G161 =>
  (zbj bz cb ci 1).bind fun a162 =>
  (gst G161 a162 [.bool x159]).bind fun G163 =>
  KN ba az bm bj s2 br bt bz cb ci aa ac ai ah ak al ax ay bd bi G163
  else none
  else none
  else none
  else none
  else none
  else none
  else none
  else
  KN ba az bm bj s2 br bt bz cb ci aa ac ai ah ak al ax ay bd bi G11
def zbn {R : Type} (O : Ora R) (KN : zEe R) (ba : OG) (az : Nat) (bm : OG) (bj : Nat) (s2 : Int) (br : OG) (bt : Nat) (bz : OG) (cb : Nat) (ci ek : Int) (fc fe : Int) (aa ac : Nat) (ai ah : Nat) (ak al : Nat) (ax ay : Nat) (bd bi : Nat) (cr : Int) (cq ct cu : Nat) (df de : Int) (dg : Nat) (em : Int) (dh di : Nat) (G : GH) : Option R :=
  (zbj br bt fe 6).bind fun a1 =>
  (zg G .f64 (GA.add a1 0)).bind fun x2 =>
  (zg G .f64 (GA.add a1 1)).bind fun x3 =>
  (zg G .f64 (GA.add a1 2)).bind fun x4 =>
  (zg G .f64 (GA.add a1 3)).bind fun x5 =>
  (zg G .f64 (GA.add a1 4)).bind fun x6 =>
  (zg G .f64 (GA.add a1 5)).bind fun x7 =>
  (zbj bz cb fe 1).bind fun a8 =>
  (zfZ G a8).bind fun x9 =>
  bif x9 then
  bif (ek == (1 : Int)) then
  (zbj br bt ci 6).bind fun a10 =>
  (gst G a10 [fL x2, fL x3, fL x4, fL x5, fL x6, fL x7]).bind fun G11 =>
  (zbj bz cb ci 1).bind fun a12 =>
  (gst G11 a12 [.bool (fc == (1 : Int))]).bind fun G13 =>
  KN ba az bm bj s2 br bt bz cb ci aa ac ai ah ak al ax ay bd bi G13
  else
  (zbj br bt ci 6).bind fun a14 =>
  (gst G a14 [fL x2, fL x3, fL x4, fL x5, fL x6, fL x7]).bind fun G15 =>
  (zbj bz cb ci 1).bind fun a16 =>
  (gst G15 a16 [.bool false]).bind fun G17 =>
  KN ba az bm bj s2 br bt bz cb ci aa ac ai ah ak al ax ay bd bi G17
  else
  (zbj br bt ci 6).bind fun a18 =>
  (gst G a18 [fL x2, fL x3, fL x4, fL x5, fL x6, fL x7]).bind fun G19 =>
  (zbj bz cb ci 1).bind fun a20 =>
  (gst G19 a20 [.bool false]).bind fun G21 =>
  KN ba az bm bj s2 br bt bz cb ci aa ac ai ah ak al ax ay bd bi G21
def zbh {R : Type} (O : Ora R) (fuel : Nat) (KN : zEe R) : OG → Nat → OG → Nat → Int → OG → Nat → OG → Nat → Int → Int → Int → Int → Int → Int → Nat → Nat → Nat → Nat → Nat → Nat → Nat → Nat → Nat → Nat → Int → Nat → Nat → Nat → Int → Int → Nat → Int → Nat → Nat → GH → Option R := fun ba az bm bj s2 br bt bz cb ci fl ek gm fc fe aa ac ai ah ak al ax ay bd bi cr cq ct cu df de dg em dh di G =>
  zi fuel (zda O (zbn O KN) ba az bm bj s2 br bt bz cb ci fl ek gm fc fe aa ac ai ah ak al ax ay bd bi cr cq ct cu df de dg em dh di G)
theorem znU (fuel : Nat) (ba : OG) (az : Nat) (bm : OG) (bj : Nat) (s2 : Int) (br : OG) (bt : Nat) (bz : OG) (cb : Nat) (ci ek : Int) (fc fe : Int) (aa ac : Nat) (ai ah : Nat) (ak al : Nat) (ax ay : Nat) (bd bi : Nat) (cr : Int) (cq ct cu : Nat) (df de : Int) (dg : Nat) (em : Int) (dh di : Nat) (G : GH) (k : KE R) :
  ze Tryz.prog O lo9 fuel (nav bd9 [1, 1, 1, 1, 1, 1, 0, 1, 0, 0, 1, 0]) [0, 1, 1, 1, 0, 1, 1, 1, 1, 1, 1, 1, 0, 1, 1, 1, 0] (kpD lo9 43 3 k) .normal (mkE 220 [(0, .slice ba az), (1, .slice bm bj), (2, iL s2), (8, .loc 0 0), (9, .loc 1 0), (10, .loc 2 0), (15, .slice br bt), (16, .slice bz cb), (17, iL ci), (21, iL ek), (23, iL fc), (24, iL fe)]) [[fL aa, fL ac], [fL ai, fL ah], [fL ak, fL al, fL ax, fL ay, fL bd, fL bi], [iL cr, fL cq, fL ct, fL cu, iL df, iL de, fL dg, iL em], [fL dh, fL di]] G =
  zbn O (fun ba az bm bj s2 br bt bz cb ci aa ac ai ah ak al ax ay bd bi G => k .normal (mkE 220 [(0, .slice ba az), (1, .slice bm bj), (2, iL s2), (8, .loc 0 0), (9, .loc 1 0), (10, .loc 2 0), (15, .slice br bt), (16, .slice bz cb), (17, iL ci)]) [[fL aa, fL ac], [fL ai, fL ah], [fL ak, fL al, fL ax, fL ay, fL bd, fL bi]] G) ba az bm bj s2 br bt bz cb ci ek fc fe aa ac ai ah ak al ax ay bd bi cr cq ct cu df de dg em dh di G := by kernel_rfl
theorem zrE (fuel : Nat) (k : KE R) :
  (fun (ba : OG) (az : Nat) (bm : OG) (bj : Nat) (s2 : Int) (br : OG) (bt : Nat) (bz : OG) (cb : Nat) (ci fl : Int) (ek gm : Int) (fc fe : Int) (aa ac : Nat) (ai ah : Nat) (ak al : Nat) (ax ay : Nat) (bd bi : Nat) (cr : Int) (cq ct cu : Nat) (df de : Int) (dg : Nat) (em : Int) (dh di : Nat) (G : GH) => zi fuel (zd Tryz.prog O lo9 fuel (nav bd9 [1, 1, 1, 1, 1, 1, 0, 1, 0, 0, 1, 0, 0, 1, 1, 1, 0, 1, 1, 1, 1, 1, 1, 1, 0, 1, 1, 1, 0]) 111 (mkE 220 [(0, .slice ba az), (1, .slice bm bj), (2, iL s2), (8, .loc 0 0), (9, .loc 1 0), (10, .loc 2 0), (15, .slice br bt), (16, .slice bz cb), (17, iL ci), (18, .loc 3 0), (20, iL fl), (21, iL ek), (22, iL gm), (23, iL fc), (24, iL fe)]) [[fL aa, fL ac], [fL ai, fL ah], [fL ak, fL al, fL ax, fL ay, fL bd, fL bi], [iL cr, fL cq, fL ct, fL cu, iL df, iL de, fL dg, iL em], [fL dh, fL di]] G (ze Tryz.prog O lo9 fuel (nav bd9 [1, 1, 1, 1, 1, 1, 0, 1, 0, 0, 1, 0]) [0, 1, 1, 1, 0, 1, 1, 1, 1, 1, 1, 1, 0, 1, 1, 1, 0] (kpD lo9 43 3 k)))) = zbh O fuel (fun (ba : OG) (az : Nat) (bm : OG) (bj : Nat) (s2 : Int) (br : OG) (bt : Nat) (bz : OG) (cb : Nat) (ci : Int) (aa ac : Nat) (ai ah : Nat) (ak al : Nat) (ax ay : Nat) (bd bi : Nat) (G : GH) => k .normal (mkE 220 [(0, .slice ba az), (1, .slice bm bj), (2, iL s2), (8, .loc 0 0), (9, .loc 1 0), (10, .loc 2 0), (15, .slice br bt), (16, .slice bz cb), (17, iL ci)]) [[fL aa, fL ac], [fL ai, fL ah], [fL ak, fL al, fL ax, fL ay, fL bd, fL bi]] G) := by
  funext ba az bm bj s2 br bt bz cb ci fl ek gm fc fe aa ac ai ah ak al ax ay bd bi cr cq ct cu df de dg em dh di G
  refine congrArg (zi fuel) ?_
  refine (zrt O fuel _ ba az bm bj s2 br bt bz cb ci fl ek gm fc fe aa ac ai ah ak al ax ay bd bi cr cq ct cu df de dg em dh di G).trans ?_
  refine congrFun (congrFun (congrFun (congrFun (congrFun (congrFun (congrFun (congrFun (congrFun (congrFun (congrFun (congrFun (congrFun (congrFun (congrFun (congrFun (congrFun (congrFun (congrFun (congrFun (congrFun (congrFun (congrFun (congrFun (congrFun (congrFun (congrFun (congrFun (congrFun (congrFun (congrFun (congrFun (congrFun (congrFun (congrFun (congrFun ?_ _) _) _) _) _) _) _) _) _) _) _) _) _) _) _) _) _) _) _) _) _) _) _) _) _) _) _) _) _) _) _) _) _) _) _) _
  refine congrArg (zda O) ?_
  · funext ba az bm bj s2 br bt bz cb ci ek fc fe aa ac ai ah ak al ax ay bd bi cr cq ct cu df de dg em dh di G
    exact znU O fuel ba az bm bj s2 br bt bz cb ci ek fc fe aa ac ai ah ak al ax ay bd bi cr cq ct cu df de dg em dh di G k
def zdd {R : Type} (O : Ora R) (fuel : Nat) (KN : zEe R) : OG → Nat → OG → Nat → Int → OG → Nat → OG → Nat → Int → Nat → Nat → Nat → Nat → Nat → Nat → Nat → Nat → Nat → Nat → GH → Option R := fun ba az bm bj s2 br bt bz cb ci aa ac ai ah ak al ax ay bd bi G => zQ O KN (zbh O fuel KN) ba az bm bj s2 br bt bz cb ci aa ac ai ah ak al ax ay bd bi G
theorem zoP (fuel : Nat) (ba : OG) (az : Nat) (bm : OG) (bj : Nat) (s2 : Int) (br : OG) (bt : Nat) (bz : OG) (cb : Nat) (ci : Int) (aa ac : Nat) (ai ah : Nat) (ak al : Nat) (ax ay : Nat) (bd bi : Nat) (G : GH) (k : KE R) :
  zd Tryz.prog O lo9 fuel (nav bd9 [1, 1, 1, 1, 1, 1, 0, 1, 0, 0, 1, 0]) 43 (mkE 220 [(0, .slice ba az), (1, .slice bm bj), (2, iL s2), (8, .loc 0 0), (9, .loc 1 0), (10, .loc 2 0), (15, .slice br bt), (16, .slice bz cb), (17, iL ci)]) [[fL aa, fL ac], [fL ai, fL ah], [fL ak, fL al, fL ax, fL ay, fL bd, fL bi]] G k =
  zQ O (fun ba az bm bj s2 br bt bz cb ci aa ac ai ah ak al ax ay bd bi G => k .normal (mkE 220 [(0, .slice ba az), (1, .slice bm bj), (2, iL s2), (8, .loc 0 0), (9, .loc 1 0), (10, .loc 2 0), (15, .slice br bt), (16, .slice bz cb), (17, iL ci)]) [[fL aa, fL ac], [fL ai, fL ah], [fL ak, fL al, fL ax, fL ay, fL bd, fL bi]] G) (fun ba az bm bj s2 br bt bz cb ci fl ek gm fc fe aa ac ai ah ak al ax ay bd bi cr cq ct cu df de dg em dh di G => zi fuel (zd Tryz.prog O lo9 fuel (nav bd9 [1, 1, 1, 1, 1, 1, 0, 1, 0, 0, 1, 0, 0, 1, 1, 1, 0, 1, 1, 1, 1, 1, 1, 1, 0, 1, 1, 1, 0]) 111 (mkE 220 [(0, .slice ba az), (1, .slice bm bj), (2, iL s2), (8, .loc 0 0), (9, .loc 1 0), (10, .loc 2 0), (15, .slice br bt), (16, .slice bz cb), (17, iL ci), (18, .loc 3 0), (20, iL fl), (21, iL ek), (22, iL gm), (23, iL fc), (24, iL fe)]) [[fL aa, fL ac], [fL ai, fL ah], [fL ak, fL al, fL ax, fL ay, fL bd, fL bi], [iL cr, fL cq, fL ct, fL cu, iL df, iL de, fL dg, iL em], [fL dh, fL di]] G (ze Tryz.prog O lo9 fuel (nav bd9 [1, 1, 1, 1, 1, 1, 0, 1, 0, 0, 1, 0]) [0, 1, 1, 1, 0, 1, 1, 1, 1, 1, 1, 1, 0, 1, 1, 1, 0] (kpD lo9 43 3 k)))) ba az bm bj s2 br bt bz cb ci aa ac ai ah ak al ax ay bd bi G := by kernel_rfl
theorem zrn (fuel : Nat) (k : KE R) : ∀ (ba : OG) (az : Nat) (bm : OG) (bj : Nat) (s2 : Int) (br : OG) (bt : Nat) (bz : OG) (cb : Nat) (ci : Int) (aa ac : Nat) (ai ah : Nat) (ak al : Nat) (ax ay : Nat) (bd bi : Nat) (G : GH),
  zd Tryz.prog O lo9 fuel (nav bd9 [1, 1, 1, 1, 1, 1, 0, 1, 0, 0, 1, 0]) 43 (mkE 220 [(0, .slice ba az), (1, .slice bm bj), (2, iL s2), (8, .loc 0 0), (9, .loc 1 0), (10, .loc 2 0), (15, .slice br bt), (16, .slice bz cb), (17, iL ci)]) [[fL aa, fL ac], [fL ai, fL ah], [fL ak, fL al, fL ax, fL ay, fL bd, fL bi]] G k = zdd O fuel (fun ba az bm bj s2 br bt bz cb ci aa ac ai ah ak al ax ay bd bi G => k .normal (mkE 220 [(0, .slice ba az), (1, .slice bm bj), (2, iL s2), (8, .loc 0 0), (9, .loc 1 0), (10, .loc 2 0), (15, .slice br bt), (16, .slice bz cb), (17, iL ci)]) [[fL aa, fL ac], [fL ai, fL ah], [fL ak, fL al, fL ax, fL ay, fL bd, fL bi]] G) ba az bm bj s2 br bt bz cb ci aa ac ai ah ak al ax ay bd bi G := by
  intros
  rw [zoP]
  simp only [zdd, zrE]
def zfD {R : Type} (O : Ora R) (KN : zEe R) (K0 : zHK R) (L2 : zEe R) (ba : OG) (az : Nat) (bm : OG) (bj : Nat) (s2 : Int) (br : OG) (bt : Nat) (bz : OG) (cb : Nat) (ci : Int) (aa ac : Nat) (ai ah : Nat) (ak al : Nat) (ax ay : Nat) (bd bi : Nat) (G : GH) : Option R :=
  bif (decide (ci ≤ s2)) then
  L2 ba az bm bj s2 br bt bz cb ci aa ac ai ah ak al ax ay bd bi G
  else
  K0 s2 br bt bz cb aa ac ai ah ak al ax ay bd bi G
def zhN {R : Type} (O : Ora R) (KN : zEe R) (K0 : zHK R) (ba : OG) (az : Nat) (bm : OG) (bj : Nat) (s2 : Int) (br : OG) (bt : Nat) (bz : OG) (cb : Nat) (ci : Int) (aa ac : Nat) (ai ah : Nat) (ak al : Nat) (ax ay : Nat) (bd bi : Nat) (G : GH) : Option R :=
  KN ba az bm bj s2 br bt bz cb (IntKind.wrap .i64 (ci + (1 : Int))) aa ac ai ah ak al ax ay bd bi G
def zik {R : Type} (O : Ora R) (fuel : Nat) (KN : zEe R) (K0 : zHK R) : OG → Nat → OG → Nat → Int → OG → Nat → OG → Nat → Int → Nat → Nat → Nat → Nat → Nat → Nat → Nat → Nat → Nat → Nat → GH → Option R := fun ba az bm bj s2 br bt bz cb ci aa ac ai ah ak al ax ay bd bi G =>
  zi fuel (zdd O fuel (zhN O KN K0) ba az bm bj s2 br bt bz cb ci aa ac ai ah ak al ax ay bd bi G)
theorem znT (fuel : Nat) (ba : OG) (az : Nat) (bm : OG) (bj : Nat) (s2 : Int) (br : OG) (bt : Nat) (bz : OG) (cb : Nat) (ci : Int) (aa ac : Nat) (ai ah : Nat) (ak al : Nat) (ax ay : Nat) (bd bi : Nat) (G : GH) (k : KE R) :
  ze Tryz.prog O lo9 fuel (nav bd9 [1, 1, 1, 1, 1, 1, 0, 1, 0, 0]) [1, 0] (kpD lo9 36 3 k) .normal (mkE 220 [(0, .slice ba az), (1, .slice bm bj), (2, iL s2), (8, .loc 0 0), (9, .loc 1 0), (10, .loc 2 0), (15, .slice br bt), (16, .slice bz cb), (17, iL ci)]) [[fL aa, fL ac], [fL ai, fL ah], [fL ak, fL al, fL ax, fL ay, fL bd, fL bi]] G =
  zhN O (fun ba az bm bj s2 br bt bz cb ci aa ac ai ah ak al ax ay bd bi G => k .normal (mkE 220 [(0, .slice ba az), (1, .slice bm bj), (2, iL s2), (8, .loc 0 0), (9, .loc 1 0), (10, .loc 2 0), (15, .slice br bt), (16, .slice bz cb), (17, iL ci)]) [[fL aa, fL ac], [fL ai, fL ah], [fL ak, fL al, fL ax, fL ay, fL bd, fL bi]] G) (fun s2 br bt bz cb aa ac ai ah ak al ax ay bd bi G => k (.exit 0) (mkE 220 [(2, iL s2), (10, .loc 2 0), (15, .slice br bt), (16, .slice bz cb)]) [[fL aa, fL ac], [fL ai, fL ah], [fL ak, fL al, fL ax, fL ay, fL bd, fL bi]] G) ba az bm bj s2 br bt bz cb ci aa ac ai ah ak al ax ay bd bi G := by kernel_rfl
theorem zqv (fuel : Nat) (k : KE R) :
  (fun (ba : OG) (az : Nat) (bm : OG) (bj : Nat) (s2 : Int) (br : OG) (bt : Nat) (bz : OG) (cb : Nat) (ci : Int) (aa ac : Nat) (ai ah : Nat) (ak al : Nat) (ax ay : Nat) (bd bi : Nat) (G : GH) => zi fuel (zd Tryz.prog O lo9 fuel (nav bd9 [1, 1, 1, 1, 1, 1, 0, 1, 0, 0, 1, 0]) 43 (mkE 220 [(0, .slice ba az), (1, .slice bm bj), (2, iL s2), (8, .loc 0 0), (9, .loc 1 0), (10, .loc 2 0), (15, .slice br bt), (16, .slice bz cb), (17, iL ci)]) [[fL aa, fL ac], [fL ai, fL ah], [fL ak, fL al, fL ax, fL ay, fL bd, fL bi]] G (ze Tryz.prog O lo9 fuel (nav bd9 [1, 1, 1, 1, 1, 1, 0, 1, 0, 0]) [1, 0] (kpD lo9 36 3 k)))) = zik O fuel (fun (ba : OG) (az : Nat) (bm : OG) (bj : Nat) (s2 : Int) (br : OG) (bt : Nat) (bz : OG) (cb : Nat) (ci : Int) (aa ac : Nat) (ai ah : Nat) (ak al : Nat) (ax ay : Nat) (bd bi : Nat) (G : GH) => k .normal (mkE 220 [(0, .slice ba az), (1, .slice bm bj), (2, iL s2), (8, .loc 0 0), (9, .loc 1 0), (10, .loc 2 0), (15, .slice br bt), (16, .slice bz cb), (17, iL ci)]) [[fL aa, fL ac], [fL ai, fL ah], [fL ak, fL al, fL ax, fL ay, fL bd, fL bi]] G) (fun (s2 : Int) (br : OG) (bt : Nat) (bz : OG) (cb aa : Nat) (ac ai : Nat) (ah ak : Nat) (al ax : Nat) (ay bd bi : Nat) (G : GH) => k (.exit 0) (mkE 220 [(2, iL s2), (10, .loc 2 0), (15, .slice br bt), (16, .slice bz cb)]) [[fL aa, fL ac], [fL ai, fL ah], [fL ak, fL al, fL ax, fL ay, fL bd, fL bi]] G) := by
  funext ba az bm bj s2 br bt bz cb ci aa ac ai ah ak al ax ay bd bi G
  refine congrArg (zi fuel) ?_
  refine (zrn O fuel _ ba az bm bj s2 br bt bz cb ci aa ac ai ah ak al ax ay bd bi G).trans ?_
  refine congrFun (congrFun (congrFun (congrFun (congrFun (congrFun (congrFun (congrFun (congrFun (congrFun (congrFun (congrFun (congrFun (congrFun (congrFun (congrFun (congrFun (congrFun (congrFun (congrFun (congrFun ?_ _) _) _) _) _) _) _) _) _) _) _) _) _) _) _) _) _) _) _) _) _
  refine congrArg (zdd O fuel) ?_
  · funext ba az bm bj s2 br bt bz cb ci aa ac ai ah ak al ax ay bd bi G
    exact znT O fuel ba az bm bj s2 br bt bz cb ci aa ac ai ah ak al ax ay bd bi G k
def zam {R : Type} (O : Ora R) (fuel : Nat) (K0 : zHK R) : Nat → OG → Nat → OG → Nat → Int → OG → Nat → OG → Nat → Int → Nat → Nat → Nat → Nat → Nat → Nat → Nat → Nat → Nat → Nat → GH → Option R
  | 0, _, _, _, _, _, _, _, _, _, _, _, _, _, _, _, _, _, _, _, _, _ => none
  | n + 1, ba, az, bm, bj, s2, br, bt, bz, cb, ci, aa, ac, ai, ah, ak, al, ax, ay, bd, bi, G => zfD O (zam O fuel K0 n) K0 (zik O fuel (zam O fuel K0 n) K0) ba az bm bj s2 br bt bz cb ci aa ac ai ah ak al ax ay bd bi G
theorem zoN (fuel : Nat) (ba : OG) (az : Nat) (bm : OG) (bj : Nat) (s2 : Int) (br : OG) (bt : Nat) (bz : OG) (cb : Nat) (ci : Int) (aa ac : Nat) (ai ah : Nat) (ak al : Nat) (ax ay : Nat) (bd bi : Nat) (G : GH) (k : KE R) :
  zd Tryz.prog O lo9 fuel (nav bd9 [1, 1, 1, 1, 1, 1, 0, 1, 0, 0]) 36 (mkE 220 [(0, .slice ba az), (1, .slice bm bj), (2, iL s2), (8, .loc 0 0), (9, .loc 1 0), (10, .loc 2 0), (15, .slice br bt), (16, .slice bz cb), (17, iL ci)]) [[fL aa, fL ac], [fL ai, fL ah], [fL ak, fL al, fL ax, fL ay, fL bd, fL bi]] G k =
  zfD O (fun ba az bm bj s2 br bt bz cb ci aa ac ai ah ak al ax ay bd bi G => k .normal (mkE 220 [(0, .slice ba az), (1, .slice bm bj), (2, iL s2), (8, .loc 0 0), (9, .loc 1 0), (10, .loc 2 0), (15, .slice br bt), (16, .slice bz cb), (17, iL ci)]) [[fL aa, fL ac], [fL ai, fL ah], [fL ak, fL al, fL ax, fL ay, fL bd, fL bi]] G) (fun s2 br bt bz cb aa ac ai ah ak al ax ay bd bi G => k (.exit 0) (mkE 220 [(2, iL s2), (10, .loc 2 0), (15, .slice br bt), (16, .slice bz cb)]) [[fL aa, fL ac], [fL ai, fL ah], [fL ak, fL al, fL ax, fL ay, fL bd, fL bi]] G) (fun ba az bm bj s2 br bt bz cb ci aa ac ai ah ak al ax ay bd bi G => zi fuel (zd Tryz.prog O lo9 fuel (nav bd9 [1, 1, 1, 1, 1, 1, 0, 1, 0, 0, 1, 0]) 43 (mkE 220 [(0, .slice ba az), (1, .slice bm bj), (2, iL s2), (8, .loc 0 0), (9, .loc 1 0), (10, .loc 2 0), (15, .slice br bt), (16, .slice bz cb), (17, iL ci)]) [[fL aa, fL ac], [fL ai, fL ah], [fL ak, fL al, fL ax, fL ay, fL bd, fL bi]] G (ze Tryz.prog O lo9 fuel (nav bd9 [1, 1, 1, 1, 1, 1, 0, 1, 0, 0]) [1, 0] (kpD lo9 36 3 k)))) ba az bm bj s2 br bt bz cb ci aa ac ai ah ak al ax ay bd bi G := by kernel_rfl
theorem zrf (fuel : Nat) (k : KE R) : ∀ (n : Nat) (ba : OG) (az : Nat) (bm : OG) (bj : Nat) (s2 : Int) (br : OG) (bt : Nat) (bz : OG) (cb : Nat) (ci : Int) (aa ac : Nat) (ai ah : Nat) (ak al : Nat) (ax ay : Nat) (bd bi : Nat) (G : GH),
  zJ (zd Tryz.prog O lo9 fuel (nav bd9 [1, 1, 1, 1, 1, 1, 0, 1, 0, 0]) 36) n (mkE 220 [(0, .slice ba az), (1, .slice bm bj), (2, iL s2), (8, .loc 0 0), (9, .loc 1 0), (10, .loc 2 0), (15, .slice br bt), (16, .slice bz cb), (17, iL ci)]) [[fL aa, fL ac], [fL ai, fL ah], [fL ak, fL al, fL ax, fL ay, fL bd, fL bi]] G k = zam O fuel (fun s2 br bt bz cb aa ac ai ah ak al ax ay bd bi G => k (.exit 0) (mkE 220 [(2, iL s2), (10, .loc 2 0), (15, .slice br bt), (16, .slice bz cb)]) [[fL aa, fL ac], [fL ai, fL ah], [fL ak, fL al, fL ax, fL ay, fL bd, fL bi]] G) n ba az bm bj s2 br bt bz cb ci aa ac ai ah ak al ax ay bd bi G := by
  intro n
  induction n with
  | zero => intros; simp only [zJ, zam]
  | succ n ih =>
    intros
    rw [zaU, zoN]
    simp only [zam, zah, zaS, zbI, ih, zqv]
def zl7 {R : Type} (O : Ora R) (k : KV R) (L0 : zIL R) (dc : OG) (db : Nat) (dq : OG) (dr : Nat) (p2 : Int) (du dv : Nat) (dw dz : Nat) (G : GH) : Option R :=
  L0 dc db dq dr p2 du dv dw dz (0 : Nat) (0 : Nat) (0 : Nat) (0 : Nat) (0 : Nat) (0 : Nat) G
def zer {R : Type} (O : Ora R) (k : KV R) (L1 : zEe R) (ba : OG) (az : Nat) (bm : OG) (bj : Nat) (s2 : Int) (gw : Bool) (aa ac : Nat) (ai ah : Nat) (ak al : Nat) (ax ay : Nat) (bd bi : Nat) (G : GH) : Option R :=
  bif gw then
  k (.tuple [.agg [fL (0 : Nat), fL (0 : Nat), fL (0 : Nat), fL (0 : Nat), fL (0 : Nat), fL (0 : Nat)], iL (0 : Int), iL (110 : Int)]) G
  else
  bif decide (0 ≤ (0 : Int) ∧ (0 : Int) ≤ (IntKind.wrap .i64 (s2 + (1 : Int))) ∧ (IntKind.wrap .i64 (s2 + (1 : Int))) ≤ (az : Int)) && ztU G ba 47 then
  O zh8 [.slice (zFd ba (Int.toNat (0 : Int) * 8)) (Int.toNat (IntKind.wrap .i64 (s2 + (1 : Int))) - Int.toNat (0 : Int)), iL (bj : Int)] G fun v1 G2 =>
  (zY 2 v1).bind fun c3 =>
  (zk .i64 (c3.getD 0 za)).bind fun x4 =>
  (zk .i64 (c3.getD 1 za)).bind fun x5 =>
  bif (x5 != (0 : Int)) then
  k (.tuple [.agg [fL (0 : Nat), fL (0 : Nat), fL (0 : Nat), fL (0 : Nat), fL (0 : Nat), fL (0 : Nat)], iL (0 : Int), iL x5]) G2
  else
  bif (decide (0 ≤ (IntKind.wrap .i64 (s2 + (1 : Int))) ∧ (IntKind.wrap .i64 (s2 + (1 : Int))) ≤ (IntKind.wrap .i64 (s2 + (1 : Int))) ∧ (IntKind.wrap .i64 (s2 + (1 : Int))) * 48 ≤ zbo ∧ (IntKind.wrap .i64 (s2 + (1 : Int))) ≤ zbo) && true && true) then
  bif (decide (0 ≤ (IntKind.wrap .i64 (s2 + (1 : Int))) ∧ (IntKind.wrap .i64 (s2 + (1 : Int))) ≤ (IntKind.wrap .i64 (s2 + (1 : Int))) ∧ (IntKind.wrap .i64 (s2 + (1 : Int))) * 1 ≤ zbo ∧ (IntKind.wrap .i64 (s2 + (1 : Int))) ≤ zbo) && true && true) then
  L1 ba az bm bj s2 (some (zaA G2)) (Int.toNat (IntKind.wrap .i64 (s2 + (1 : Int)))) (some (zaA (zac G2 (List.replicate (Int.toNat (IntKind.wrap .i64 (s2 + (1 : Int)))) [fL (0 : Nat), fL (0 : Nat), fL (0 : Nat), fL (0 : Nat), fL (0 : Nat), fL (0 : Nat)]).flatten 33))) (Int.toNat (IntKind.wrap .i64 (s2 + (1 : Int)))) (0 : Int) aa ac ai ah ak al ax ay bd bi (zac (zac G2 (List.replicate (Int.toNat (IntKind.wrap .i64 (s2 + (1 : Int)))) [fL (0 : Nat), fL (0 : Nat), fL (0 : Nat), fL (0 : Nat), fL (0 : Nat), fL (0 : Nat)]).flatten 33) (List.replicate (Int.toNat (IntKind.wrap .i64 (s2 + (1 : Int)))) [.bool false]).flatten 4)
  else none
  else none
  else none
def zhg {R : Type} (O : Ora R) (k : KV R) (s2 : Int) (br : OG) (bt : Nat) (bz : OG) (cb aa : Nat) (ac ai : Nat) (ah ak : Nat) (al ax : Nat) (ay bd bi : Nat) (G : GH) : Option R :=
  (zbj bz cb s2 1).bind fun a1 =>
  (zfZ G a1).bind fun x2 =>
  bif x2 then
  (zbj br bt s2 6).bind fun a3 =>
  (zg G .f64 (GA.add a3 0)).bind fun x4 =>
  (zg G .f64 (GA.add a3 1)).bind fun x5 =>
  (zg G .f64 (GA.add a3 2)).bind fun x6 =>
  (zg G .f64 (GA.add a3 3)).bind fun x7 =>
  (zg G .f64 (GA.add a3 4)).bind fun x8 =>
  (zg G .f64 (GA.add a3 5)).bind fun x9 =>
  k (.tuple [.agg [fL x4, fL x5, fL x6, fL x7, fL x8, fL x9], iL (1 : Int), iL (0 : Int)]) G
  else
  (zbj br bt s2 6).bind fun a10 =>
  (zg G .f64 (GA.add a10 0)).bind fun x11 =>
  (zg G .f64 (GA.add a10 1)).bind fun x12 =>
  (zg G .f64 (GA.add a10 2)).bind fun x13 =>
  (zg G .f64 (GA.add a10 3)).bind fun x14 =>
  (zg G .f64 (GA.add a10 4)).bind fun x15 =>
  (zg G .f64 (GA.add a10 5)).bind fun x16 =>
  k (.tuple [.agg [fL x11, fL x12, fL x13, fL x14, fL x15, fL x16], iL (2 : Int), iL (0 : Int)]) G
def zbP {R : Type} (O : Ora R) (fuel : Nat) (k : KV R) : OG → Nat → OG → Nat → Int → OG → Nat → OG → Nat → Int → Nat → Nat → Nat → Nat → Nat → Nat → Nat → Nat → Nat → Nat → GH → Option R := fun ba az bm bj s2 br bt bz cb ci aa ac ai ah ak al ax ay bd bi G =>
  zam O fuel (zhg O k) fuel ba az bm bj s2 br bt bz cb ci aa ac ai ah ak al ax ay bd bi G
theorem znw (fuel : Nat) (s2 : Int) (br : OG) (bt : Nat) (bz : OG) (cb aa : Nat) (ac ai : Nat) (ah ak : Nat) (al ax : Nat) (ay bd bi : Nat) (G : GH) (k : KV R) :
  ze Tryz.prog O lo9 fuel bd9 [1, 1, 1, 1, 1, 1, 0, 1, 0] (rcK Tryz.f9 k) (.exit 0) (mkE 220 [(2, iL s2), (10, .loc 2 0), (15, .slice br bt), (16, .slice bz cb)]) [[fL aa, fL ac], [fL ai, fL ah], [fL ak, fL al, fL ax, fL ay, fL bd, fL bi]] G =
  zhg O k s2 br bt bz cb aa ac ai ah ak al ax ay bd bi G := by kernel_rfl
theorem zqO (fuel : Nat) (k : KV R) :
  (fun (ba : OG) (az : Nat) (bm : OG) (bj : Nat) (s2 : Int) (br : OG) (bt : Nat) (bz : OG) (cb : Nat) (ci : Int) (aa ac : Nat) (ai ah : Nat) (ak al : Nat) (ax ay : Nat) (bd bi : Nat) (G : GH) => zJ (zd Tryz.prog O lo9 fuel (nav bd9 [1, 1, 1, 1, 1, 1, 0, 1, 0, 0]) 36) fuel (mkE 220 [(0, .slice ba az), (1, .slice bm bj), (2, iL s2), (8, .loc 0 0), (9, .loc 1 0), (10, .loc 2 0), (15, .slice br bt), (16, .slice bz cb), (17, iL ci)]) [[fL aa, fL ac], [fL ai, fL ah], [fL ak, fL al, fL ax, fL ay, fL bd, fL bi]] G (ze Tryz.prog O lo9 fuel bd9 [1, 1, 1, 1, 1, 1, 0, 1, 0] (rcK Tryz.f9 k))) = zbP O fuel k := by
  funext ba az bm bj s2 br bt bz cb ci aa ac ai ah ak al ax ay bd bi G
  simp only [zbP, zrf, znw]
def zib {R : Type} (O : Ora R) (fuel : Nat) (k : KV R) : OG → Nat → OG → Nat → Int → Nat → Nat → Nat → Nat → Nat → Nat → Nat → Nat → Nat → Nat → GH → Option R := fun ba az bm bj s2 aa ac ai ah ak al ax ay bd bi G =>
  zi fuel (zdk O (zer O k (zbP O fuel k)) ba az bm bj s2 aa ac ai ah ak al ax ay bd bi G)
theorem znC (fuel : Nat) (ba : OG) (az : Nat) (bm : OG) (bj : Nat) (s2 : Int) (gw : Bool) (aa ac : Nat) (ai ah : Nat) (ak al : Nat) (ax ay : Nat) (bd bi : Nat) (G : GH) (k : KV R) :
  ze Tryz.prog O lo9 fuel bd9 [1, 0, 0] (rcK Tryz.f9 k) .normal (mkE 220 [(0, .slice ba az), (1, .slice bm bj), (2, iL s2), (8, .loc 0 0), (9, .loc 1 0), (10, .loc 2 0), (32, .bool gw)]) [[fL aa, fL ac], [fL ai, fL ah], [fL ak, fL al, fL ax, fL ay, fL bd, fL bi]] G =
  zer O k (fun ba az bm bj s2 br bt bz cb ci aa ac ai ah ak al ax ay bd bi G => zJ (zd Tryz.prog O lo9 fuel (nav bd9 [1, 1, 1, 1, 1, 1, 0, 1, 0, 0]) 36) fuel (mkE 220 [(0, .slice ba az), (1, .slice bm bj), (2, iL s2), (8, .loc 0 0), (9, .loc 1 0), (10, .loc 2 0), (15, .slice br bt), (16, .slice bz cb), (17, iL ci)]) [[fL aa, fL ac], [fL ai, fL ah], [fL ak, fL al, fL ax, fL ay, fL bd, fL bi]] G (ze Tryz.prog O lo9 fuel bd9 [1, 1, 1, 1, 1, 1, 0, 1, 0] (rcK Tryz.f9 k))) ba az bm bj s2 gw aa ac ai ah ak al ax ay bd bi G := by kernel_rfl
theorem zrv (fuel : Nat) (k : KV R) :
  (fun (ba : OG) (az : Nat) (bm : OG) (bj : Nat) (s2 : Int) (aa ac : Nat) (ai ah : Nat) (ak al : Nat) (ax ay : Nat) (bd bi : Nat) (G : GH) => zi fuel (zd Tryz.prog O lo9 fuel (nav bd9 [1, 0, 0]) 11 (mkE 220 [(0, .slice ba az), (1, .slice bm bj), (2, iL s2), (8, .loc 0 0), (9, .loc 1 0), (10, .loc 2 0)]) [[fL aa, fL ac], [fL ai, fL ah], [fL ak, fL al, fL ax, fL ay, fL bd, fL bi]] G (ze Tryz.prog O lo9 fuel bd9 [1, 0, 0] (rcK Tryz.f9 k)))) = zib O fuel k := by
  funext ba az bm bj s2 aa ac ai ah ak al ax ay bd bi G
  refine congrArg (zi fuel) ?_
  refine (zqI O fuel _ ba az bm bj s2 aa ac ai ah ak al ax ay bd bi G).trans ?_
  refine congrFun (congrFun (congrFun (congrFun (congrFun (congrFun (congrFun (congrFun (congrFun (congrFun (congrFun (congrFun (congrFun (congrFun (congrFun (congrFun ?_ _) _) _) _) _) _) _) _) _) _) _) _) _) _) _) _
  refine congrArg (zdk O) ?_
  · funext ba az bm bj s2 gw aa ac ai ah ak al ax ay bd bi G
    rw [← zqO]
    exact znC O fuel ba az bm bj s2 gw aa ac ai ah ak al ax ay bd bi G k
theorem zsd (fuel : Nat) (dc : OG) (db : Nat) (dq : OG) (dr : Nat) (p2 : Int) (du dv : Nat) (dw dz : Nat) (G : GH) (k : KV R) :
  zf Tryz.prog O lo9 fuel Tryz.f9 [.slice dc db, .slice dq dr, iL p2, .agg [fL du, fL dv], .agg [fL dw, fL dz]] G k =
  zl7 O k (fun ba az bm bj s2 aa ac ai ah ak al ax ay bd bi G => zi fuel (zd Tryz.prog O lo9 fuel (nav bd9 [1, 0, 0]) 11 (mkE 220 [(0, .slice ba az), (1, .slice bm bj), (2, iL s2), (8, .loc 0 0), (9, .loc 1 0), (10, .loc 2 0)]) [[fL aa, fL ac], [fL ai, fL ah], [fL ak, fL al, fL ax, fL ay, fL bd, fL bi]] G (ze Tryz.prog O lo9 fuel bd9 [1, 0, 0] (rcK Tryz.f9 k)))) dc db dq dr p2 du dv dw dz G := by kernel_rfl
theorem zw3 (fuel : Nat) (dc : OG) (db : Nat) (dq : OG) (dr : Nat) (p2 : Int) (du dv : Nat) (dw dz : Nat) (G : GH) (k : KV R) :
  zf Tryz.prog O lo9 fuel Tryz.f9 [.slice dc db, .slice dq dr, iL p2, .agg [fL du, fL dv], .agg [fL dw, fL dz]] G k =
  zl7 O k (zib O fuel k) dc db dq dr p2 du dv dw dz G := by
  rw [zsd, zrv]
theorem zwQ {R : Type} (fuel n : Nat) (dc : OG) (db : Nat) (dq : OG) (dr : Nat) (p2 : Int) (du dv : Nat) (dw dz : Nat) (G : GH) (k : KV R) :
  runC Tryz.prog lo0 fuel (n + 1) 9 [.slice dc db, .slice dq dr, iL p2, .agg [fL du, fL dv], .agg [fL dw, fL dz]] G k = zf Tryz.prog (runC Tryz.prog lo0 fuel n) lo9 fuel Tryz.f9 [.slice dc db, .slice dq dr, iL p2, .agg [fL du, fL dv], .agg [fL dw, fL dz]] G k := zh Tryz.func9 rfl rfl
def zbX {R : Type} (O : Ora R) (Kret : zI2 R) (KN : zHS R) (dj : OG) (dd : Nat) (dk : OG) (dl : Nat) (af : Int) (ag aj : Nat) (ar aq : Nat) (G : GH) : Option R :=
  O zjy [.slice dj dd, .slice dk dl] G fun v1 G2 =>
  (zl v1).bind fun x3 =>
  bif x3 then
  Kret true dj dd dk dl af ag aj ar aq G2
  else
  O zfB [.agg [fL ag, fL aj]] G2 fun v4 G5 =>
  (zl v4).bind fun x6 =>
  bif (!x6) then
  Kret true dj dd dk dl af ag aj ar aq G5
  else
  O zfB [.agg [fL ar, fL aq]] G5 fun v7 G8 =>
  (zl v7).bind fun x9 =>
  bif (!x9) then
  Kret true dj dd dk dl af ag aj ar aq G8
  else
  KN dj dd dk dl af ag aj ar aq G8
def zai {R : Type} (O : Ora R) (Kret : zI2 R) (KN : zHS R) : OG → Nat → OG → Nat → Int → Nat → Nat → Nat → Nat → GH → Option R := fun dj dd dk dl af ag aj ar aq G => zbX O Kret KN dj dd dk dl af ag aj ar aq G
theorem zhU (fuel : Nat) (dj : OG) (dd : Nat) (dk : OG) (dl : Nat) (af : Int) (ag aj : Nat) (ar aq : Nat) (G : GH) (k : KE R) :
  zd Tryz.prog O lo3 fuel (nav bd3 [1, 1, 0]) 23 (mkE 74 [(1, .loc 0 0)]) [[.slice dj dd, .slice dk dl, iL af, fL ag, fL aj, fL ar, fL aq]] G k =
  zbX O (fun s2 dj dd dk dl af ag aj ar aq G => k .ret (mkE 74 [(2, .bool s2)]) [[.slice dj dd, .slice dk dl, iL af, fL ag, fL aj, fL ar, fL aq]] G) (fun dj dd dk dl af ag aj ar aq G => k .normal (mkE 74 [(1, .loc 0 0)]) [[.slice dj dd, .slice dk dl, iL af, fL ag, fL aj, fL ar, fL aq]] G) dj dd dk dl af ag aj ar aq G := by kernel_rfl
theorem zig (fuel : Nat) (k : KE R) : ∀ (dj : OG) (dd : Nat) (dk : OG) (dl : Nat) (af : Int) (ag aj : Nat) (ar aq : Nat) (G : GH),
  zd Tryz.prog O lo3 fuel (nav bd3 [1, 1, 0]) 23 (mkE 74 [(1, .loc 0 0)]) [[.slice dj dd, .slice dk dl, iL af, fL ag, fL aj, fL ar, fL aq]] G k = zai O (fun s2 dj dd dk dl af ag aj ar aq G => k .ret (mkE 74 [(2, .bool s2)]) [[.slice dj dd, .slice dk dl, iL af, fL ag, fL aj, fL ar, fL aq]] G) (fun dj dd dk dl af ag aj ar aq G => k .normal (mkE 74 [(1, .loc 0 0)]) [[.slice dj dd, .slice dk dl, iL af, fL ag, fL aj, fL ar, fL aq]] G) dj dd dk dl af ag aj ar aq G := by
  intros
  rw [zhU]
  simp only [zai]
def zc1 {R : Type} (O : Ora R) (k : KV R) (L0 : zHS R) (ge : OG) (gg : Nat) (gh : OG) (gi : Nat) (bf : Int) (bh bx : Nat) (cd dn : Nat) (G : GH) : Option R :=
  O zni [] G fun v1 G2 =>
  (zl v1).bind fun x3 =>
  bif (!x3) then
  k (.bool false) G2
  else
  L0 ge gg gh gi bf bh bx cd dn G2
def zc8 {R : Type} (O : Ora R) (k : KV R) (s2 : Bool) (dj : OG) (dd : Nat) (dk : OG) (dl : Nat) (af : Int) (ag aj : Nat) (ar aq : Nat) (G : GH) : Option R :=
  k (.bool s2) G
def zaC {R : Type} (O : Ora R) (k : KV R) (dj : OG) (dd : Nat) (dk : OG) (dl : Nat) (af : Int) (ag aj : Nat) (ar aq : Nat) (G : GH) : Option R :=
  (zHl (zac G [] 47) dj dd 8).bind fun x1 =>
  (zgd (zac G [] 47) 47 8 64 (some (zaA G)) 0 x1 dd).bind fun r2 =>
  O zhy [.slice dk dl] r2.2 fun v3 G4 =>
  (zn1 v3).bind fun x5 =>
  O zem [.slice r2.1 (0 + dd), .slice x5.1 x5.2, iL af, .agg [fL ag, fL aj], .agg [fL ar, fL aq]] G4 fun v6 G7 =>
  (zY 3 v6).bind fun c8 =>
  (zr 6 (c8.getD 0 za)).bind fun c9 =>
  (zc .f64 (c9.getD 0 za)).bind fun x10 =>
  (zc .f64 (c9.getD 1 za)).bind fun x11 =>
  (zc .f64 (c9.getD 2 za)).bind fun x12 =>
  (zc .f64 (c9.getD 3 za)).bind fun x13 =>
  (zc .f64 (c9.getD 4 za)).bind fun x14 =>
  (zc .f64 (c9.getD 5 za)).bind fun x15 =>
  (zk .i64 (c8.getD 1 za)).bind fun x16 =>
  (zk .i64 (c8.getD 2 za)).bind fun x17 =>
  O zdU [.slice dj dd, .slice dk dl, iL af, .agg [fL ag, fL aj], .agg [fL ar, fL aq]] G7 fun v18 G19 =>
  (zY 3 v18).bind fun c20 =>
  (zr 6 (c20.getD 0 za)).bind fun c21 =>
  (zc .f64 (c21.getD 0 za)).bind fun x22 =>
  (zc .f64 (c21.getD 1 za)).bind fun x23 =>
  (zc .f64 (c21.getD 2 za)).bind fun x24 =>
  (zc .f64 (c21.getD 3 za)).bind fun x25 =>
  (zc .f64 (c21.getD 4 za)).bind fun x26 =>
  (zc .f64 (c21.getD 5 za)).bind fun x27 =>
  (zk .i64 (c20.getD 1 za)).bind fun x28 =>
  (zk .i64 (c20.getD 2 za)).bind fun x29 =>
  O zjR [.agg [fL x10, fL x11, fL x12, fL x13, fL x14, fL x15], .agg [fL x22, fL x23, fL x24, fL x25, fL x26, fL x27]] G19 fun v30 G31 =>
  (zl v30).bind fun x32 =>
  bif x32 then
  bif (x16 == x28) then
  k (.bool (x17 == x29)) G31
  else
  k (.bool false) G31
  else
  k (.bool false) G31
def zbZ {R : Type} (O : Ora R) (fuel : Nat) (k : KV R) : OG → Nat → OG → Nat → Int → Nat → Nat → Nat → Nat → GH → Option R := fun dj dd dk dl af ag aj ar aq G =>
  zi fuel (zai O (zc8 O k) (zaC O k) dj dd dk dl af ag aj ar aq G)
theorem zgg (fuel : Nat) (s2 : Bool) (dj : OG) (dd : Nat) (dk : OG) (dl : Nat) (af : Int) (ag aj : Nat) (ar aq : Nat) (G : GH) (k : KV R) :
  ze Tryz.prog O lo3 fuel bd3 [1, 1, 0] (rcK Tryz.f3 k) .ret (mkE 74 [(2, .bool s2)]) [[.slice dj dd, .slice dk dl, iL af, fL ag, fL aj, fL ar, fL aq]] G =
  zc8 O k s2 dj dd dk dl af ag aj ar aq G := by kernel_rfl
theorem zhu (fuel : Nat) (dj : OG) (dd : Nat) (dk : OG) (dl : Nat) (af : Int) (ag aj : Nat) (ar aq : Nat) (G : GH) (k : KV R) :
  ze Tryz.prog O lo3 fuel bd3 [1, 1, 0] (rcK Tryz.f3 k) .normal (mkE 74 [(1, .loc 0 0)]) [[.slice dj dd, .slice dk dl, iL af, fL ag, fL aj, fL ar, fL aq]] G =
  zaC O k dj dd dk dl af ag aj ar aq G := by kernel_rfl
theorem ziO (fuel : Nat) (k : KV R) :
  (fun (dj : OG) (dd : Nat) (dk : OG) (dl : Nat) (af : Int) (ag aj : Nat) (ar aq : Nat) (G : GH) => zi fuel (zd Tryz.prog O lo3 fuel (nav bd3 [1, 1, 0]) 23 (mkE 74 [(1, .loc 0 0)]) [[.slice dj dd, .slice dk dl, iL af, fL ag, fL aj, fL ar, fL aq]] G (ze Tryz.prog O lo3 fuel bd3 [1, 1, 0] (rcK Tryz.f3 k)))) = zbZ O fuel k := by
  funext dj dd dk dl af ag aj ar aq G
  refine congrArg (zi fuel) ?_
  refine (zig O fuel _ dj dd dk dl af ag aj ar aq G).trans ?_
  refine congrFun (congrFun (congrFun (congrFun (congrFun (congrFun (congrFun (congrFun (congrFun (congrFun ?_ _) _) _) _) _) _) _) _) _) _
  refine congr (congrArg (zai O) ?_) ?_
  · funext s2 dj dd dk dl af ag aj ar aq G
    exact zgg O fuel s2 dj dd dk dl af ag aj ar aq G k
  · funext dj dd dk dl af ag aj ar aq G
    exact zhu O fuel dj dd dk dl af ag aj ar aq G k
theorem zjh (fuel : Nat) (ge : OG) (gg : Nat) (gh : OG) (gi : Nat) (bf : Int) (bh bx : Nat) (cd dn : Nat) (G : GH) (k : KV R) :
  zf Tryz.prog O lo3 fuel Tryz.f3 [.agg [.slice ge gg, .slice gh gi, iL bf, fL bh, fL bx, fL cd, fL dn]] G k =
  zc1 O k (fun dj dd dk dl af ag aj ar aq G => zi fuel (zd Tryz.prog O lo3 fuel (nav bd3 [1, 1, 0]) 23 (mkE 74 [(1, .loc 0 0)]) [[.slice dj dd, .slice dk dl, iL af, fL ag, fL aj, fL ar, fL aq]] G (ze Tryz.prog O lo3 fuel bd3 [1, 1, 0] (rcK Tryz.f3 k)))) ge gg gh gi bf bh bx cd dn G := by kernel_rfl
theorem zmI (fuel : Nat) (ge : OG) (gg : Nat) (gh : OG) (gi : Nat) (bf : Int) (bh bx : Nat) (cd dn : Nat) (G : GH) (k : KV R) :
  zf Tryz.prog O lo3 fuel Tryz.f3 [.agg [.slice ge gg, .slice gh gi, iL bf, fL bh, fL bx, fL cd, fL dn]] G k =
  zc1 O k (zbZ O fuel k) ge gg gh gi bf bh bx cd dn G := by
  rw [zjh, ziO]
theorem zmR {R : Type} (fuel n : Nat) (ge : OG) (gg : Nat) (gh : OG) (gi : Nat) (bf : Int) (bh bx : Nat) (cd dn : Nat) (G : GH) (k : KV R) :
  runC Tryz.prog lo0 fuel (n + 1) 3 [.agg [.slice ge gg, .slice gh gi, iL bf, fL bh, fL bx, fL cd, fL dn]] G k = zf Tryz.prog (runC Tryz.prog lo0 fuel n) lo3 fuel Tryz.f3 [.agg [.slice ge gg, .slice gh gi, iL bf, fL bh, fL bx, fL cd, fL dn]] G k := zh Tryz.func3 rfl rfl
end
end Go.LI.Film
