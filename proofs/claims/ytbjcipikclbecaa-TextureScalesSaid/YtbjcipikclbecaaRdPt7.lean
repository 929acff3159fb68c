/- What the interpreter gives for textures: Scales (written by tex.py). -/
import Derived.Test.YtbjcipikclbecaaRdPt5
namespace Go.LI.Film
open Go.Proofs.Ytbjcipikclbecaa Go Go.Proofs Go.LI
set_option maxRecDepth 100000
set_option linter.unusedVariables false
set_option linter.unusedSimpArgs false
/-! ### lantern/lanternlaw09.TextureScales -/
def u_law09_TextureScales_0 {R : Type} (O : Ora R) (Kret : Bool → OG → Nat → OG → Nat → Int → Nat → Nat → Nat → Nat → GH → Option R) (KN : OG → Nat → OG → Nat → Int → Nat → Nat → Nat → Nat → GH → Option R) (b0_0a : OG) (b0_0n : Nat) (b0_1a : OG) (b0_1n : Nat) (b0_2 : Int) (b0_3 b0_4 : Nat) (b0_5 b0_6 : Nat) (G : GH) : Option R :=
  O fn_law09_long [.slice b0_0a b0_0n, .slice b0_1a b0_1n] G fun v1 G2 =>
  (ivBool v1).bind fun x3 =>
  bif x3 then
  Kret true b0_0a b0_0n b0_1a b0_1n b0_2 b0_3 b0_4 b0_5 b0_6 G2
  else
  O fn_ref02_Valid [.agg [.float .f64 b0_3, .float .f64 b0_4]] G2 fun v4 G5 =>
  (ivBool v4).bind fun x6 =>
  bif (!x6) then
  Kret true b0_0a b0_0n b0_1a b0_1n b0_2 b0_3 b0_4 b0_5 b0_6 G5
  else
  O fn_ref02_Valid [.agg [.float .f64 b0_5, .float .f64 b0_6]] G5 fun v7 G8 =>
  (ivBool v7).bind fun x9 =>
  bif (!x9) then
  Kret true b0_0a b0_0n b0_1a b0_1n b0_2 b0_3 b0_4 b0_5 b0_6 G8
  else
  KN b0_0a b0_0n b0_1a b0_1n b0_2 b0_3 b0_4 b0_5 b0_6 G8

def l_law09_TextureScales_0 {R : Type} (O : Ora R) (Kret : Bool → OG → Nat → OG → Nat → Int → Nat → Nat → Nat → Nat → GH → Option R) (KN : OG → Nat → OG → Nat → Int → Nat → Nat → Nat → Nat → GH → Option R) : OG → Nat → OG → Nat → Int → Nat → Nat → Nat → Nat → GH → Option R := fun b0_0a b0_0n b0_1a b0_1n b0_2 b0_3 b0_4 b0_5 b0_6 G => u_law09_TextureScales_0 O Kret KN b0_0a b0_0n b0_1a b0_1n b0_2 b0_3 b0_4 b0_5 b0_6 G

theorem u_law09_TextureScales_0_raw {R : Type} (O : Ora R) (fuel : Nat) (b0_0a : OG) (b0_0n : Nat) (b0_1a : OG) (b0_1n : Nat) (b0_2 : Int) (b0_3 b0_4 : Nat) (b0_5 b0_6 : Nat) (G : GH) (k : KE R) :
  loopD Try.prog O lo6 fuel (nav (Try.f6.body.getD .skip) [1, 1, 0]) 23 (mkE 101 [(1, .loc 0 0)]) [[.slice b0_0a b0_0n, .slice b0_1a b0_1n, .int .i64 b0_2, .float .f64 b0_3, .float .f64 b0_4, .float .f64 b0_5, .float .f64 b0_6]] G k =
  u_law09_TextureScales_0 O (fun s2 b0_0a b0_0n b0_1a b0_1n b0_2 b0_3 b0_4 b0_5 b0_6 G => k .ret (mkE 101 [(2, .bool s2)]) [[.slice b0_0a b0_0n, .slice b0_1a b0_1n, .int .i64 b0_2, .float .f64 b0_3, .float .f64 b0_4, .float .f64 b0_5, .float .f64 b0_6]] G) (fun b0_0a b0_0n b0_1a b0_1n b0_2 b0_3 b0_4 b0_5 b0_6 G => k .normal (mkE 101 [(1, .loc 0 0)]) [[.slice b0_0a b0_0n, .slice b0_1a b0_1n, .int .i64 b0_2, .float .f64 b0_3, .float .f64 b0_4, .float .f64 b0_5, .float .f64 b0_6]] G) b0_0a b0_0n b0_1a b0_1n b0_2 b0_3 b0_4 b0_5 b0_6 G := by kernel_rfl

theorem l_law09_TextureScales_0_eq {R : Type} (O : Ora R) (fuel : Nat) (k : KE R) : ∀ (b0_0a : OG) (b0_0n : Nat) (b0_1a : OG) (b0_1n : Nat) (b0_2 : Int) (b0_3 b0_4 : Nat) (b0_5 b0_6 : Nat) (G : GH),
  loopD Try.prog O lo6 fuel (nav (Try.f6.body.getD .skip) [1, 1, 0]) 23 (mkE 101 [(1, .loc 0 0)]) [[.slice b0_0a b0_0n, .slice b0_1a b0_1n, .int .i64 b0_2, .float .f64 b0_3, .float .f64 b0_4, .float .f64 b0_5, .float .f64 b0_6]] G k = l_law09_TextureScales_0 O (fun s2 b0_0a b0_0n b0_1a b0_1n b0_2 b0_3 b0_4 b0_5 b0_6 G => k .ret (mkE 101 [(2, .bool s2)]) [[.slice b0_0a b0_0n, .slice b0_1a b0_1n, .int .i64 b0_2, .float .f64 b0_3, .float .f64 b0_4, .float .f64 b0_5, .float .f64 b0_6]] G) (fun b0_0a b0_0n b0_1a b0_1n b0_2 b0_3 b0_4 b0_5 b0_6 G => k .normal (mkE 101 [(1, .loc 0 0)]) [[.slice b0_0a b0_0n, .slice b0_1a b0_1n, .int .i64 b0_2, .float .f64 b0_3, .float .f64 b0_4, .float .f64 b0_5, .float .f64 b0_6]] G) b0_0a b0_0n b0_1a b0_1n b0_2 b0_3 b0_4 b0_5 b0_6 G := by
  intros
  rw [u_law09_TextureScales_0_raw]
  simp only [l_law09_TextureScales_0]

def u_law09_TextureScales {R : Type} (O : Ora R) (k : KV R) (L0 : OG → Nat → OG → Nat → Int → Nat → Nat → Nat → Nat → GH → Option R) (p0_0a : OG) (p0_0n : Nat) (p0_1a : OG) (p0_1n : Nat) (p0_2 : Int) (p0_3 p0_4 : Nat) (p0_5 p0_6 : Nat) (G : GH) : Option R :=
  O fn_law09_Awake [] G fun v1 G2 =>
  (ivBool v1).bind fun x3 =>
  bif (!x3) then
  k (.bool false) G2
  else
  L0 p0_0a p0_0n p0_1a p0_1n p0_2 p0_3 p0_4 p0_5 p0_6 G2

noncomputable def oN_6_10 : Array Oper := match nav (Try.f6.body.getD .skip) [1, 1, 1, 1, 1, 1, 0] with | .region _ ops _ => ops | _ => #[]
/-- The region's check at its end, where 'g' blocks stood at its start. -/
noncomputable def dN_6_10 (g : Nat) (E : List IV) : Bool := drawN Try.prog lo6 (slotI lo6 oN_6_10.toList 2) (slotG lo6 10 oN_6_10.toList g) oN_6_10 E

noncomputable def a_law09_TextureScales_0ret {R : Type} (O : Ora R) (k : KV R) (s2 : Bool) (b0_0a : OG) (b0_0n : Nat) (b0_1a : OG) (b0_1n : Nat) (b0_2 : Int) (b0_3 : Nat) (b0_4 : Nat) (b0_5 : Nat) (b0_6 : Nat) (G : GH) : Option R :=
  k (.bool s2) G

noncomputable def a_law09_TextureScales_0N {R : Type} (O : Ora R) (k : KV R) (b0_0a : OG) (b0_0n : Nat) (b0_1a : OG) (b0_1n : Nat) (b0_2 : Int) (b0_3 : Nat) (b0_4 : Nat) (b0_5 : Nat) (b0_6 : Nat) (G : GH) : Option R :=
  (grdO (gnew G [] 52) b0_0a b0_0n 8).bind fun x1 =>
  (gappend (gnew G [] 52) 52 8 64 (some (gaddr G)) 0 x1 b0_0n).bind fun r2 =>
  O fn_law09_Copied [.slice b0_1a b0_1n] r2.2 fun v3 G4 =>
  (ivSlice v3).bind fun x5 =>
  O fn_texture_Eval [.slice r2.1 (0 + b0_0n), .slice x5.1 x5.2, .int .i64 b0_2, .agg [.float .f64 b0_3, .float .f64 b0_4], .agg [.float .f64 b0_5, .float .f64 b0_6]] G4 fun v6 G7 =>
  (ivTup 3 v6).bind fun c8 =>
  (ivAgg 6 (c8.getD 0 undefI)).bind fun c9 =>
  (ivFloat .f64 (c9.getD 0 undefI)).bind fun x10 =>
  (ivFloat .f64 (c9.getD 1 undefI)).bind fun x11 =>
  (ivFloat .f64 (c9.getD 2 undefI)).bind fun x12 =>
  (ivFloat .f64 (c9.getD 3 undefI)).bind fun x13 =>
  (ivFloat .f64 (c9.getD 4 undefI)).bind fun x14 =>
  (ivFloat .f64 (c9.getD 5 undefI)).bind fun x15 =>
  (ivInt .i64 (c8.getD 1 undefI)).bind fun x16 =>
  (ivInt .i64 (c8.getD 2 undefI)).bind fun x17 =>
  bif (x17 != (0 : Int)) then
  bif (x16 == (0 : Int)) then
  O fn_ref03_Same [.agg [.float .f64 x10, .float .f64 x11, .float .f64 x12, .float .f64 x13, .float .f64 x14, .float .f64 x15], .agg [.float .f64 (0 : Nat), .float .f64 (0 : Nat), .float .f64 (0 : Nat), .float .f64 (0 : Nat), .float .f64 (0 : Nat), .float .f64 (0 : Nat)]] G7 fun v18 G19 =>
  (ivBool v18).bind fun x20 =>
  k (.bool x20) G19
  else
  k (.bool false) G7
  else
  O fn_ref03_Wide [.agg [.float .f64 x10, .float .f64 x11, .float .f64 x12, .float .f64 x13, .float .f64 x14, .float .f64 x15]] G7 fun v21 G22 =>
  (ivBool v21).bind fun x23 =>
  bif x23 then
  k (.bool true) G22
  else
  if (true && Nat.ble G22.length (G22.length + 0)) = true then
  if isHoleG ((G22 ++ [holeG, holeG]))[G22.length + 0]? = true then
  if oldA G22.length b0_0a = true then
  bif decide (0 ≤ (0 : Int) ∧ (0 : Int) ≤ (IntKind.wrap .i64 (b0_2 + (1 : Int))) ∧ (IntKind.wrap .i64 (b0_2 + (1 : Int))) ≤ (b0_0n : Int)) && gcut (List.set (G22 ++ [holeG, holeG]) (G22.length + 0) ⟨[], 52, 1⟩) b0_0a 52 then
  (grdO (List.set (G22 ++ [holeG, holeG]) (G22.length + 0) ⟨[], 52, 1⟩) (cutA b0_0a (Int.toNat (0 : Int) * 8)) (Int.toNat (IntKind.wrap .i64 (b0_2 + (1 : Int))) - Int.toNat (0 : Int)) 8).bind fun x24 =>
  (gappend (List.set (G22 ++ [holeG, holeG]) (G22.length + 0) ⟨[], 52, 1⟩) 52 8 64 (some (⟨G22.length + 0, 0⟩ : GA)) 0 x24 (Int.toNat (IntKind.wrap .i64 (b0_2 + (1 : Int))) - Int.toNat (0 : Int))).bind fun r25 =>
  if (true && Nat.ble G22.length (G22.length + 1)) = true then
  if isHoleG (r25.2)[G22.length + 1]? = true then
  (grd (List.set r25.2 (G22.length + 1) ⟨[.int .i64 (5 : Int), .float .f64 (4607182418800017408 : Nat), .float .f64 (4607182418800017408 : Nat), .float .f64 (4607182418800017408 : Nat), .int .i64 b0_2, .int .i64 (0 : Int), .float .f64 (0 : Nat), .int .i64 (0 : Int), .int .i64 (9 : Int), .float .f64 (0 : Nat), .float .f64 (0 : Nat), .float .f64 (0 : Nat), .int .i64 (0 : Int), .int .i64 (0 : Int), .float .f64 (0 : Nat), .int .i64 (0 : Int)], 52, 1⟩) (⟨G22.length + 1, 0⟩ : GA) (2 * 8)).bind fun x26 =>
  (gappend (List.set r25.2 (G22.length + 1) ⟨[.int .i64 (5 : Int), .float .f64 (4607182418800017408 : Nat), .float .f64 (4607182418800017408 : Nat), .float .f64 (4607182418800017408 : Nat), .int .i64 b0_2, .int .i64 (0 : Int), .float .f64 (0 : Nat), .int .i64 (0 : Int), .int .i64 (9 : Int), .float .f64 (0 : Nat), .float .f64 (0 : Nat), .float .f64 (0 : Nat), .int .i64 (0 : Int), .int .i64 (0 : Int), .float .f64 (0 : Nat), .int .i64 (0 : Int)], 52, 1⟩) 52 8 64 r25.1 (0 + (Int.toNat (IntKind.wrap .i64 (b0_2 + (1 : Int))) - Int.toNat (0 : Int))) x26 2).bind fun r27 =>
  if (dN_6_10 G22.length (mkE 101 [(1, .loc 0 0), (3, .loc 1 0), (4, .int .i64 x16), (5, .int .i64 x17), (6, .slice r27.1 ((0 + (Int.toNat (IntKind.wrap .i64 (b0_2 + (1 : Int))) - Int.toNat (0 : Int))) + 2)), (29, .tuple [.agg [.float .f64 x10, .float .f64 x11, .float .f64 x12, .float .f64 x13, .float .f64 x14, .float .f64 x15], .int .i64 x16, .int .i64 x17]), (30, .slice (some (gaddr G)) 0), (31, .loc 0 0), (32, .slice b0_0a b0_0n), (33, .slice r2.1 (0 + b0_0n)), (34, .loc 0 1), (35, .slice b0_1a b0_1n), (36, .slice x5.1 x5.2), (37, .loc 0 2), (38, .int .i64 b0_2), (39, .loc 0 3), (40, .agg [.float .f64 b0_3, .float .f64 b0_4]), (41, .loc 0 5), (42, .agg [.float .f64 b0_5, .float .f64 b0_6]), (43, .tuple [.agg [.float .f64 x10, .float .f64 x11, .float .f64 x12, .float .f64 x13, .float .f64 x14, .float .f64 x15], .int .i64 x16, .int .i64 x17]), (44, .agg [.float .f64 x10, .float .f64 x11, .float .f64 x12, .float .f64 x13, .float .f64 x14, .float .f64 x15]), (45, .int .i64 x16), (46, .int .i64 x17), (47, .int .i64 x17), (48, .bool (x17 != (0 : Int))), (56, .agg [.float .f64 x10, .float .f64 x11, .float .f64 x12, .float .f64 x13, .float .f64 x14, .float .f64 x15]), (57, .bool x23), (58, .slice (some (⟨G22.length + 0, 0⟩ : GA)) 0), (59, .loc 0 0), (60, .slice b0_0a b0_0n), (61, .loc 0 2), (62, .int .i64 b0_2), (63, .int .i64 (IntKind.wrap .i64 (b0_2 + (1 : Int)))), (64, .slice (cutA b0_0a (Int.toNat (0 : Int) * 8)) (Int.toNat (IntKind.wrap .i64 (b0_2 + (1 : Int))) - Int.toNat (0 : Int))), (65, .slice r25.1 (0 + (Int.toNat (IntKind.wrap .i64 (b0_2 + (1 : Int))) - Int.toNat (0 : Int)))), (66, .agg [.float .f64 (4607182418800017408 : Nat), .float .f64 (4607182418800017408 : Nat), .float .f64 (4607182418800017408 : Nat)]), (67, .loc 0 2), (68, .int .i64 b0_2), (69, .agg [.int .i64 (5 : Int), .float .f64 (4607182418800017408 : Nat), .float .f64 (4607182418800017408 : Nat), .float .f64 (4607182418800017408 : Nat), .int .i64 b0_2, .int .i64 (0 : Int), .float .f64 (0 : Nat), .int .i64 (0 : Int)]), (70, .agg [.int .i64 (9 : Int), .float .f64 (0 : Nat), .float .f64 (0 : Nat), .float .f64 (0 : Nat), .int .i64 (0 : Int), .int .i64 (0 : Int), .float .f64 (0 : Nat), .int .i64 (0 : Int)]), (71, .slice (some (⟨G22.length + 1, 0⟩ : GA)) 2), (72, .slice r27.1 ((0 + (Int.toNat (IntKind.wrap .i64 (b0_2 + (1 : Int))) - Int.toNat (0 : Int))) + 2))])) = true then
  O fn_law09_Copied [.slice b0_1a b0_1n] r27.2 fun v28 G29 =>
  (ivSlice v28).bind fun x30 =>
  O fn_texture_Eval [.slice r27.1 ((0 + (Int.toNat (IntKind.wrap .i64 (b0_2 + (1 : Int))) - Int.toNat (0 : Int))) + 2), .slice x30.1 x30.2, .int .i64 (IntKind.wrap .i64 (b0_2 + (1 : Int))), .agg [.float .f64 b0_3, .float .f64 b0_4], .agg [.float .f64 b0_5, .float .f64 b0_6]] G29 fun v31 G32 =>
  (ivTup 3 v31).bind fun c33 =>
  (ivAgg 6 (c33.getD 0 undefI)).bind fun c34 =>
  (ivFloat .f64 (c34.getD 0 undefI)).bind fun x35 =>
  (ivFloat .f64 (c34.getD 1 undefI)).bind fun x36 =>
  (ivFloat .f64 (c34.getD 2 undefI)).bind fun x37 =>
  (ivFloat .f64 (c34.getD 3 undefI)).bind fun x38 =>
  (ivFloat .f64 (c34.getD 4 undefI)).bind fun x39 =>
  (ivFloat .f64 (c34.getD 5 undefI)).bind fun x40 =>
  (ivInt .i64 (c33.getD 1 undefI)).bind fun x41 =>
  (ivInt .i64 (c33.getD 2 undefI)).bind fun x42 =>
  bif (x42 == (0 : Int)) then
  bif (x16 == x41) then
  O fn_ref03_Same [.agg [.float .f64 x10, .float .f64 x11, .float .f64 x12, .float .f64 x13, .float .f64 x14, .float .f64 x15], .agg [.float .f64 x35, .float .f64 x36, .float .f64 x37, .float .f64 x38, .float .f64 x39, .float .f64 x40]] G32 fun v43 G44 =>
  (ivBool v43).bind fun x45 =>
  k (.bool x45) G44
  else
  k (.bool false) G32
  else
  k (.bool false) G32
  else none
  else none
  else none
  else none
  else none
  else none
  else none

noncomputable def L_law09_TextureScales_0 {R : Type} (O : Ora R) (fuel : Nat) (k : KV R) : OG → Nat → OG → Nat → Int → Nat → Nat → Nat → Nat → GH → Option R := fun (b0_0a : OG) (b0_0n : Nat) (b0_1a : OG) (b0_1n : Nat) (b0_2 : Int) (b0_3 b0_4 : Nat) (b0_5 b0_6 : Nat) G =>
  stepN fuel (l_law09_TextureScales_0 O (a_law09_TextureScales_0ret O k) (a_law09_TextureScales_0N O k) b0_0a b0_0n b0_1a b0_1n b0_2 b0_3 b0_4 b0_5 b0_6 G)

theorem a_law09_TextureScales_0ret_raw {R : Type} (O : Ora R) (fuel : Nat) (s2 : Bool) (b0_0a : OG) (b0_0n : Nat) (b0_1a : OG) (b0_1n : Nat) (b0_2 : Int) (b0_3 b0_4 : Nat) (b0_5 b0_6 : Nat) (G : GH) (k : KV R) :
  contC Try.prog O lo6 fuel (Try.f6.body.getD .skip) [1, 1, 0] (fun e env F G => match e with | .exit _ => none | _ => resC Try.prog Try.f6 env F G k) .ret (mkE 101 [(2, .bool s2)]) [[.slice b0_0a b0_0n, .slice b0_1a b0_1n, .int .i64 b0_2, .float .f64 b0_3, .float .f64 b0_4, .float .f64 b0_5, .float .f64 b0_6]] G =
  a_law09_TextureScales_0ret O k s2 b0_0a b0_0n b0_1a b0_1n b0_2 b0_3 b0_4 b0_5 b0_6 G := by kernel_rfl

theorem a_law09_TextureScales_0N_raw {R : Type} (O : Ora R) (fuel : Nat) (b0_0a : OG) (b0_0n : Nat) (b0_1a : OG) (b0_1n : Nat) (b0_2 : Int) (b0_3 b0_4 : Nat) (b0_5 b0_6 : Nat) (G : GH) (k : KV R) :
  contC Try.prog O lo6 fuel (Try.f6.body.getD .skip) [1, 1, 0] (fun e env F G => match e with | .exit _ => none | _ => resC Try.prog Try.f6 env F G k) .normal (mkE 101 [(1, .loc 0 0)]) [[.slice b0_0a b0_0n, .slice b0_1a b0_1n, .int .i64 b0_2, .float .f64 b0_3, .float .f64 b0_4, .float .f64 b0_5, .float .f64 b0_6]] G =
  a_law09_TextureScales_0N O k b0_0a b0_0n b0_1a b0_1n b0_2 b0_3 b0_4 b0_5 b0_6 G := by kernel_rfl

theorem L_law09_TextureScales_0_eq {R : Type} (O : Ora R) (fuel : Nat) (k : KV R) :
  (fun (b0_0a : OG) (b0_0n : Nat) (b0_1a : OG) (b0_1n : Nat) (b0_2 : Int) (b0_3 b0_4 : Nat) (b0_5 b0_6 : Nat) (G : GH) => stepN fuel (loopD Try.prog O lo6 fuel (nav (Try.f6.body.getD .skip) [1, 1, 0]) 23 (mkE 101 [(1, .loc 0 0)]) [[.slice b0_0a b0_0n, .slice b0_1a b0_1n, .int .i64 b0_2, .float .f64 b0_3, .float .f64 b0_4, .float .f64 b0_5, .float .f64 b0_6]] G (contC Try.prog O lo6 fuel (Try.f6.body.getD .skip) [1, 1, 0] (fun e env F G => match e with | .exit _ => none | _ => resC Try.prog Try.f6 env F G k)))) = L_law09_TextureScales_0 O fuel k := by
  funext b0_0a b0_0n b0_1a b0_1n b0_2 b0_3 b0_4 b0_5 b0_6 G
  refine congrArg (stepN fuel) ?_
  refine (l_law09_TextureScales_0_eq O fuel _ b0_0a b0_0n b0_1a b0_1n b0_2 b0_3 b0_4 b0_5 b0_6 G).trans ?_
  refine congrFun (congrFun (congrFun (congrFun (congrFun (congrFun (congrFun (congrFun (congrFun (congrFun ?_ _) _) _) _) _) _) _) _) _) _
  refine congr (congrArg (l_law09_TextureScales_0 O) ?_) ?_
  · funext s2 b0_0a b0_0n b0_1a b0_1n b0_2 b0_3 b0_4 b0_5 b0_6 G
    exact a_law09_TextureScales_0ret_raw O fuel s2 b0_0a b0_0n b0_1a b0_1n b0_2 b0_3 b0_4 b0_5 b0_6 G k
  · funext b0_0a b0_0n b0_1a b0_1n b0_2 b0_3 b0_4 b0_5 b0_6 G
    exact a_law09_TextureScales_0N_raw O fuel b0_0a b0_0n b0_1a b0_1n b0_2 b0_3 b0_4 b0_5 b0_6 G k

theorem e_law09_TextureScales_raw {R : Type} (O : Ora R) (fuel : Nat) (p0_0a : OG) (p0_0n : Nat) (p0_1a : OG) (p0_1n : Nat) (p0_2 : Int) (p0_3 p0_4 : Nat) (p0_5 p0_6 : Nat) (G : GH) (k : KV R) :
  bodyC Try.prog O lo6 fuel Try.f6 [.agg [.slice p0_0a p0_0n, .slice p0_1a p0_1n, .int .i64 p0_2, .float .f64 p0_3, .float .f64 p0_4, .float .f64 p0_5, .float .f64 p0_6]] G k =
  u_law09_TextureScales O k (fun b0_0a b0_0n b0_1a b0_1n b0_2 b0_3 b0_4 b0_5 b0_6 G => stepN fuel (loopD Try.prog O lo6 fuel (nav (Try.f6.body.getD .skip) [1, 1, 0]) 23 (mkE 101 [(1, .loc 0 0)]) [[.slice b0_0a b0_0n, .slice b0_1a b0_1n, .int .i64 b0_2, .float .f64 b0_3, .float .f64 b0_4, .float .f64 b0_5, .float .f64 b0_6]] G (contC Try.prog O lo6 fuel (Try.f6.body.getD .skip) [1, 1, 0] (fun e env F G => match e with | .exit _ => none | _ => resC Try.prog Try.f6 env F G k)))) p0_0a p0_0n p0_1a p0_1n p0_2 p0_3 p0_4 p0_5 p0_6 G := by kernel_rfl

theorem e_law09_TextureScales {R : Type} (O : Ora R) (fuel : Nat) (p0_0a : OG) (p0_0n : Nat) (p0_1a : OG) (p0_1n : Nat) (p0_2 : Int) (p0_3 p0_4 : Nat) (p0_5 p0_6 : Nat) (G : GH) (k : KV R) :
  bodyC Try.prog O lo6 fuel Try.f6 [.agg [.slice p0_0a p0_0n, .slice p0_1a p0_1n, .int .i64 p0_2, .float .f64 p0_3, .float .f64 p0_4, .float .f64 p0_5, .float .f64 p0_6]] G k =
  u_law09_TextureScales O k (L_law09_TextureScales_0 O fuel k) p0_0a p0_0n p0_1a p0_1n p0_2 p0_3 p0_4 p0_5 p0_6 G := by
  rw [e_law09_TextureScales_raw, L_law09_TextureScales_0_eq]

theorem r_law09_TextureScales {R : Type} (fuel n : Nat) (p0_0a : OG) (p0_0n : Nat) (p0_1a : OG) (p0_1n : Nat) (p0_2 : Int) (p0_3 p0_4 : Nat) (p0_5 p0_6 : Nat) (G : GH) (k : KV R) :
  runC Try.prog lo0 fuel (n + 1) 6 [.agg [.slice p0_0a p0_0n, .slice p0_1a p0_1n, .int .i64 p0_2, .float .f64 p0_3, .float .f64 p0_4, .float .f64 p0_5, .float .f64 p0_6]] G k = bodyC Try.prog (runC Try.prog lo0 fuel n) lo6 fuel Try.f6 [.agg [.slice p0_0a p0_0n, .slice p0_1a p0_1n, .int .i64 p0_2, .float .f64 p0_3, .float .f64 p0_4, .float .f64 p0_5, .float .f64 p0_6]] G k := run_body Try.func6 rfl rfl

end Go.LI.Film
