/- A picture of one sample as a texture: Eval, and the law. -/
import Derived.Test.YtbjcipikclbecaaTxC
import Derived.Test.YtbjcipikclbecaaRdPt3
import Derived.Test.YtbjcipikclbecaaTxN
namespace Go.LI.Film
open Go.Proofs.Ytbjcipikclbecaa Go Go.Proofs Go.LI Go.LI.Fl
set_option linter.unusedVariables false
set_option linter.unusedSimpArgs false
set_option maxRecDepth 100000
set_option exponentiation.threshold 2500
section
variable {R : Type} {O : Ora R}
theorem chk_raw (F s : Nat) (G : GH) (k : IV → GH → Option R) : bodyC Try.prog O lo22 (F + 1) Try.f22 [.agg (ts s), .int .i64 0, .int .i64 1] G k =
    O fn_round_Number [.float .f64 s] (gnew G [.int .i64 0] 3) fun v G' => (ivBool v).bind fun x => bif (!x) then k (.int .i64 10) G' else k (.int .i64 0) G' := by kernel_rfl
abbrev SChk (O : Ora R) : Prop := ∀ (s : Nat), s < 2 ^ 64 → fin s = true → ∀ (G : GH) (k : IV → GH → Option R), O fn_texture_check [.agg (ts s), .int .i64 0, .int .i64 1] G k = k (.int .i64 0) (gnew G [.int .i64 0] 3)
theorem chk_body (hN : SNumber O) {F s : Nat} (hF : 1 ≤ F) (hs : s < 2 ^ 64) (hf : fin s = true) (G : GH) (k : IV → GH → Option R) : bodyC Try.prog O lo22 F Try.f22 [.agg (ts s), .int .i64 0, .int .i64 1] G k = k (.int .i64 0) (gnew G [.int .i64 0] 3) := by
  obtain ⟨F, rfl⟩ : ∃ F', F = F' + 1 := ⟨F - 1, by omega⟩
  rw [chk_raw, hN s hs, ivB, hf, Bool.not_true, cond_false]
abbrev SCk (O : Ora R) : Prop := ∀ (s bt : Nat) (pa : Option GA) (G : GH) (k : IV → GH → Option R), s < 2 ^ 64 → fin s = true → BL G bt (ts s) 52 → O fn_texture_Check [.slice (some ⟨bt, 0⟩) 1, .slice pa 1] G k = k (.tuple [.int .i64 0, .int .i64 0]) (gnew G [.int .i64 0] 3)
theorem ck_body (hC : SChk O) {F s bt : Nat} (hF : 3 ≤ F) (pa : Option GA) (G : GH) (k : IV → GH → Option R) (hs : s < 2 ^ 64) (hf : fin s = true) (hB : BL G bt (ts s) 52) : bodyC Try.prog O lo10 F Try.f10 [.slice (some ⟨bt, 0⟩) 1, .slice pa 1] G k = k (.tuple [.int .i64 0, .int .i64 0]) (gnew G [.int .i64 0] 3) := by
  obtain ⟨F, rfl⟩ : ∃ F', F = F' + 2 := ⟨F - 2, by omega⟩
  have j0 := hB.int (i := 0) (x := 4) rfl
  have j1 := hB.flo (i := 1) (x := 0) rfl
  have j2 := hB.flo (i := 2) (x := 0) rfl
  have j3 := hB.flo (i := 3) (x := 0) rfl
  have j4 := hB.int (i := 4) (x := 0) rfl
  have j5 := hB.int (i := 5) (x := 0) rfl
  have j6 := hB.flo (i := 6) (x := s) rfl
  have j7 := hB.int (i := 7) (x := 0) rfl
  have d0 : decide ((0 : Int) < ((1 : Nat) : Int)) = true := by decide
  have d1 : decide ((1 : Int) < ((1 : Nat) : Int)) = false := by decide
  have e0 : ((0 : Int) != 0) = false := by decide
  have w : IntKind.wrap .i64 ((0 : Int) + (1 : Int)) = 1 := by decide
  have hc := fun k => hC s hs hf G k
  unfold ts at hc
  have c1 : (((1 : Nat) : Int)) = (1 : Int) := rfl
  rw [e_texture_Check]
  simp only [u_texture_Check, L_texture_Check_0, l_texture_Check_0, u_texture_Check_0, d0, d1, cond_true, cond_false, idx0, Option.bind_some, add00, j0, j1, j2, j3, j4, j5, j6, j7, c1, hc, ivI, e0, w]
  rfl

abbrev SNd (O : Ora R) : Prop := ∀ (s bt : Nat) (G : GH), BL G bt (ts s) 52 → ∃ G', BL G' G.length [.bool true] 4 ∧ Keeps G.length G G' ∧ ∀ (k : IV → GH → Option R), O fn_texture_needed [.slice (some ⟨bt, 0⟩) 1, .int .i64 0] G k = k (.slice (some ⟨G.length, 0⟩) 1) G'
theorem nd_body {F s bt : Nat} (hF : 3 ≤ F) (G : GH) (hB : BL G bt (ts s) 52) : ∃ G', BL G' G.length [.bool true] 4 ∧ Keeps G.length G G' ∧ ∀ (k : IV → GH → Option R), bodyC Try.prog O lo27 F Try.f27 [.slice (some ⟨bt, 0⟩) 1, .int .i64 0] G k = k (.slice (some ⟨G.length, 0⟩) 1) G' := by
  obtain ⟨F, rfl⟩ : ∃ F', F = F' + 2 := ⟨F - 2, by omega⟩
  obtain ⟨G1, g1, g2, g3, g4⟩ := gst_all (gnew_at G [IV.bool false] 4) (vs := [.bool true]) rfl
  have K1 : Keeps G.length G G1 := ⟨by rw [g4, gnew_length]; omega, fun i hi => by rw [g3 i (by omega), gnew_old hi]⟩
  have hB1 := hB.keep K1 hB.lt
  have hb1 : BL G1 G.length [.bool true] 4 := ⟨1, by decide, g2⟩
  have w1 : IntKind.wrap .i64 ((0 : Int) + (1 : Int)) = 1 := by decide
  have w2 : IntKind.wrap .i64 ((0 : Int) - (1 : Int)) = -1 := by decide
  have room : roomI = 1099511627776 := rfl
  have c1 : (decide (0 ≤ (1 : Int) ∧ (1 : Int) ≤ (1 : Int) ∧ (1 : Int) * 1 ≤ roomI ∧ (1 : Int) ≤ roomI) && true && true) = true := by
    rw [room]; decide
  have n1 : Int.toNat (1 : Int) = 1 := rfl
  have fl : (List.replicate 1 [IV.bool false]).flatten = [IV.bool false] := rfl
  have d0 : decide ((0 : Int) ≥ 0) = true := by decide
  have d1 : decide ((-1 : Int) ≥ 0) = false := by decide
  have b0 := hb1.boo (i := 0) (x := true) rfl
  have j0 := hB1.int (i := 0) (x := 4) rfl
  have k2 : ((4 : Int) == 2) = false := by decide
  have k3 : ((4 : Int) == 3) = false := by decide
  have k5 : ((4 : Int) == 5) = false := by decide
  have ga : gaddr G = ⟨G.length, 0⟩ := rfl
  refine ⟨G1, hb1, K1, fun k => ?_⟩
  rw [e_texture_needed]
  simp only [u_texture_needed, w1, c1, cond_true, n1, ga, idx0, Option.bind_some, fl, g1, L_texture_needed_0, l_texture_needed_0, u_texture_needed_0, d0, d1, cond_false, L_texture_needed_1, stepN_succ, l_texture_needed_1, u_texture_needed_1, b0, Bool.not_true, add00, j0, L_texture_needed_2, l_texture_needed_2, u_texture_needed_2, L_texture_needed_3, l_texture_needed_3, u_texture_needed_3,
    L_texture_needed_4, l_texture_needed_4, u_texture_needed_4, k2, k3, k5, a_texture_needed_4N, a_texture_needed_32, a_texture_needed_22, a_texture_needed_1N, w2, a_texture_needed_00]

abbrev SEv (O : Ora R) : Prop := ∀ (bt bp bx c0 c1 c2 s u0 u1 v0 v1 : Nat) (G : GH), c0 < 2 ^ 64 → c1 < 2 ^ 64 → c2 < 2 ^ 64 → fin c0 = true → fin c1 = true → fin c2 = true → s < 2 ^ 64 → fin s = true → u0 < 2 ^ 64 → u1 < 2 ^ 64 → v0 < 2 ^ 64 → v1 < 2 ^ 64 → BL G bt (ts s) 52 → BL G bx [.float .f64 c0, .float .f64 c1, .float .f64 c2] 48 →
  (∃ e, BL G bp [.int .i64 1, .int .i64 1, .slice (some ⟨bx, 0⟩) 1] e) →
  ∃ (a : Int) (G' : GH), ∀ (k : IV → GH → Option R), O fn_texture_Eval [.slice (some ⟨bt, 0⟩) 1, .slice (some ⟨bp, 0⟩) 1, .int .i64 0, .agg [.float .f64 u0, .float .f64 u1], .agg [.float .f64 v0, .float .f64 v1]] G k =
    k (.tuple [.agg [.float .f64 (zw c0), .float .f64 (zw c0), .float .f64 (zw c1), .float .f64 (zw c1), .float .f64 (zw c2), .float .f64 (zw c2)], .int .i64 a, .int .i64 0]) G'
theorem ev_body (hC : SCk O) (hN : SNd O) (h1 : SOne O) {F : Nat} (hF : 3 ≤ F) (bt bp bx c0 c1 c2 s u0 u1 v0 v1 : Nat) (G : GH) (w0 : c0 < 2 ^ 64) (w1 : c1 < 2 ^ 64) (w2 : c2 < 2 ^ 64) (f0 : fin c0 = true) (f1 : fin c1 = true) (f2 : fin c2 = true) (ws : s < 2 ^ 64) (hs : fin s = true) (hu0 : u0 < 2 ^ 64) (hu1 : u1 < 2 ^ 64) (hv0 : v0 < 2 ^ 64) (hv1 : v1 < 2 ^ 64)
    (hT : BL G bt (ts s) 52) (hX : BL G bx [.float .f64 c0, .float .f64 c1, .float .f64 c2] 48) (hP : ∃ e, BL G bp [.int .i64 1, .int .i64 1, .slice (some ⟨bx, 0⟩) 1] e) :
    ∃ (a : Int) (G' : GH), ∀ (k : IV → GH → Option R), bodyC Try.prog O lo14 F Try.f14 [.slice (some ⟨bt, 0⟩) 1, .slice (some ⟨bp, 0⟩) 1, .int .i64 0, .agg [.float .f64 u0, .float .f64 u1], .agg [.float .f64 v0, .float .f64 v1]] G k =
      k (.tuple [.agg [.float .f64 (zw c0), .float .f64 (zw c0), .float .f64 (zw c1), .float .f64 (zw c1), .float .f64 (zw c2), .float .f64 (zw c2)], .int .i64 a, .int .i64 0]) G' := by
  obtain ⟨F, rfl⟩ : ∃ F', F = F' + 2 := ⟨F - 2, by omega⟩
  obtain ⟨e, hP⟩ := hP
  -- the values
  have K0 : Keeps G.length G (gnew G [.int .i64 0] 3) := keeps_new G _ 3 (Nat.le_refl _)
  generalize hZ : ([.float .f64 0, .float .f64 0, .float .f64 0, .float .f64 0, .float .f64 0, .float .f64 0, .int .i64 0] : List IV) = Z
  have hZl : Z.length = 7 := by rw [← hZ]; rfl
  have hck := fun k => hC s bt (some ⟨bp, 0⟩) G k ws hs hT
  generalize gnew G [.int .i64 0] 3 = G1 at K0 hck
  have K1 : Keeps G.length G1 (gnew G1 Z 70) := keeps_new G1 Z 70 K0.1
  have hv := gnew_at G1 Z 70
  have K1' : Keeps G1.length G1 (gnew G1 Z 70) := keeps_new G1 Z 70 (Nat.le_refl _)
  have hl2 := gnew_length G1 Z 70
  have hT2 := (hT.keep K0 hT.lt).keep K1 hT.lt
  obtain ⟨G3, hb, K3, hnd⟩ := hN s bt (gnew G1 Z 70) hT2
  have hT3 := hT2.keep K3 hT2.lt
  have hX3 := ((hX.keep K0 hX.lt).keep K1 hX.lt).keep K3 (Nat.lt_of_lt_of_le hX.lt (Nat.le_trans K0.1 K1.1))
  have hP3 := ((hP.keep K0 hP.lt).keep K1 hP.lt).keep K3 (Nat.lt_of_lt_of_le hP.lt (Nat.le_trans K0.1 K1.1))
  have hv3 : G3[G1.length]? = some ⟨Z, 70, 1⟩ := by rw [K3.2 _ (by omega)]; exact hv
  generalize hG2 : gnew G1 Z 70 = G2 at hnd hb
  obtain ⟨a, hone⟩ := h1 bp bx c0 c1 c2 s u0 u1 v0 v1 (some ⟨G1.length, 0⟩) 1 G3 w0 w1 w2 f0 f1 f2 ws hs hu0 hu1 hv0 hv1 hX3 ⟨e, hP3⟩
  obtain ⟨G4, g1, g2, g3, g4⟩ := gst_all hv3 (vs := sp c0 c1 c2 a) (by rw [hZl]; rfl)
  have hb4 : BL G4 G1.length (sp c0 c1 c2 a) 70 := ⟨1, by decide, g2⟩
  refine ⟨a, G4, fun k => ?_⟩
  have wv1 : IntKind.wrap .i64 ((0 : Int) + (1 : Int)) = 1 := by decide
  have d0 : decide ((0 : Int) < 0) = false := by decide
  have d1 : decide ((0 : Int) ≥ ((1 : Nat) : Int)) = false := by decide
  have d2 : decide (0 ≤ (0 : Int) ∧ (0 : Int) ≤ 1 ∧ (1 : Int) ≤ ((1 : Nat) : Int)) = true := by decide
  have room : roomI = 1099511627776 := rfl
  have d3 : (decide (0 ≤ (1 : Int) ∧ (1 : Int) ≤ (1 : Int) ∧ (1 : Int) * 56 ≤ roomI ∧ (1 : Int) ≤ roomI) && true && true) = true := by
    rw [room]; decide
  have n1 : Int.toNat (1 : Int) - Int.toNat (0 : Int) = 1 := rfl
  have n1' : Int.toNat (1 : Int) = 1 := rfl
  have ca : cutA (some (⟨bt, 0⟩ : GA)) (Int.toNat (0 : Int) * 8) = some ⟨bt, 0⟩ := rfl
  have fl : (List.replicate 1 [IV.float .f64 (0 : Nat), .float .f64 (0 : Nat), .float .f64 (0 : Nat), .float .f64 (0 : Nat), .float .f64 (0 : Nat), .float .f64 (0 : Nat), .int .i64 (0 : Int)]).flatten = Z := hZ
  have e0 : ((0 : Int) != 0) = false := by decide
  have ga : gaddr G1 = ⟨G1.length, 0⟩ := rfl
  have dl0 : decide ((0 : Int) < ((1 : Nat) : Int)) = true := by decide
  have dl1 : decide ((1 : Int) < ((1 : Nat) : Int)) = false := by decide
  have b0 := hb.boo (i := 0) (x := true) rfl
  have j0 := hT3.int (i := 0) (x := 4) rfl
  have j1 := hT3.flo (i := 1) (x := 0) rfl
  have j2 := hT3.flo (i := 2) (x := 0) rfl
  have j3 := hT3.flo (i := 3) (x := 0) rfl
  have j4 := hT3.int (i := 4) (x := 0) rfl
  have j5 := hT3.int (i := 5) (x := 0) rfl
  have j6 := hT3.flo (i := 6) (x := s) rfl
  have j7 := hT3.int (i := 7) (x := 0) rfl
  have v0 := hb4.flo (i := 0) (x := zw c0) rfl
  have v1 := hb4.flo (i := 1) (x := zw c0) rfl
  have v2 := hb4.flo (i := 2) (x := zw c1) rfl
  have v3 := hb4.flo (i := 3) (x := zw c1) rfl
  have v4 := hb4.flo (i := 4) (x := zw c2) rfl
  have v5 := hb4.flo (i := 5) (x := zw c2) rfl
  have v6 := hb4.int (i := 6) (x := a) rfl
  have a00 : ∀ (b i : Nat), GA.add (GA.add ⟨b, 0⟩ 0) i = ⟨b, i⟩ := fun b i => by simp [GA.add]
  unfold ts at hone
  unfold sp at hone g1
  rw [e_texture_Eval]
  simp only [u_texture_Eval, L_texture_Eval_0, stepN_succ, l_texture_Eval_0, u_texture_Eval_0, d0, d1, cond_false, a_texture_Eval_0N, wv1, d2, hT.cut, Bool.and_self, cond_true, ca, n1]
  rw [hck, tupII, e0, cond_false, d3, cond_true, n1', fl, ga, hG2, hnd]
  have ivSc : ∀ (a : Option GA) (n : Nat), ivSlice (.slice a n) = some (a, n) := fun _ _ => rfl
  rw [ivSc, Option.bind_some]
  simp only [L_texture_Eval_1, l_texture_Eval_1, u_texture_Eval_1, dl0, cond_true, idx0, Option.bind_some, b0, add00, j0, j1, j2, j3, j4, j5, j6, j7]
  rw [hone, agg7]
  simp only [g1, Option.bind_some, wv1, dl1, cond_false, a_texture_Eval_10, idx0, a00, add00, v0, v1, v2, v3, v4, v5, v6]

theorem tup3 (x y z : IV) : ivTup 3 (.tuple [x, y, z]) = some [x, y, z] := rfl
abbrev SQAw (O : Ora R) : Prop := ∀ (G : GH) (k : IV → GH → Option R), O fn_law09_Awake [] G k = k (.bool true) G
theorem on_body (hE : SEv O) (hO : SQVOf O) (hS : SQS3 O) (c0 c1 c2 s u0 u1 v0 v1 : Nat) (w0 : c0 < 2 ^ 64) (w1 : c1 < 2 ^ 64) (w2 : c2 < 2 ^ 64) (f0 : fin c0 = true) (f1 : fin c1 = true) (f2 : fin c2 = true) (ws : s < 2 ^ 64) (hs : fin s = true) (hu0 : u0 < 2 ^ 64) (hu1 : u1 < 2 ^ 64) (hv0 : v0 < 2 ^ 64) (hv1 : v1 < 2 ^ 64) (G : GH) (k : IV → GH → Option R) :
    ∃ G', a_law09_TextureSingle_0N O k s c0 c1 c2 u0 u1 v0 v1 G = k (.bool true) G' := by
  have hT : BL (gnew G (ts s) 52) G.length (ts s) 52 := BL.new G _ 52
  have hX : BL (gnew (gnew G (ts s) 52) [.float .f64 c0, .float .f64 c1, .float .f64 c2] 48) (gnew G (ts s) 52).length [.float .f64 c0, .float .f64 c1, .float .f64 c2] 48 := BL.new _ _ 48
  have hP : BL (gnew (gnew (gnew G (ts s) 52) [.float .f64 c0, .float .f64 c1, .float .f64 c2] 48) [.int .i64 1, .int .i64 1, .slice (some ⟨(gnew G (ts s) 52).length, 0⟩) 1] 59) (gnew (gnew G (ts s) 52) [.float .f64 c0, .float .f64 c1, .float .f64 c2] 48).length [.int .i64 1, .int .i64 1, .slice (some ⟨(gnew G (ts s) 52).length, 0⟩) 1] 59 := BL.new _ _ 59
  have K1 : Keeps (gnew G (ts s) 52).length (gnew G (ts s) 52) (gnew (gnew G (ts s) 52) [.float .f64 c0, .float .f64 c1, .float .f64 c2] 48) := keeps_new _ _ 48 (Nat.le_refl _)
  have K2 : Keeps (gnew (gnew G (ts s) 52) [.float .f64 c0, .float .f64 c1, .float .f64 c2] 48).length (gnew (gnew G (ts s) 52) [.float .f64 c0, .float .f64 c1, .float .f64 c2] 48) (gnew (gnew (gnew G (ts s) 52) [.float .f64 c0, .float .f64 c1, .float .f64 c2] 48) [.int .i64 1, .int .i64 1, .slice (some ⟨(gnew G (ts s) 52).length, 0⟩) 1] 59) := keeps_new _ _ 59 (Nat.le_refl _)
  have hT1 := hT.keep K1 hT.lt
  have hT2 := hT1.keep K2 hT1.lt
  have hX2 := hX.keep K2 hX.lt
  obtain ⟨a, G', he⟩ := hE _ _ _ c0 c1 c2 s u0 u1 v0 v1 _ w0 w1 w2 f0 f1 f2 ws hs hu0 hu1 hv0 hv1 hT2 hX2 ⟨59, hP⟩
  have z0 : ((0 : Int) == 0) = true := by decide
  refine ⟨G', ?_⟩
  unfold a_law09_TextureSingle_0N
  refine (he _).trans ?_
  rw [tup3, Option.bind_some]
  simp only [List.getD_cons_zero, List.getD_cons_succ]
  rw [agg6, ivI, ivI, z0, cond_true, hO c0 c1 c2 w0 w1 w2 f0 f1 f2, agg6, hS, ivB]
/-- The law. -/
theorem single_body (hA : SQAw O) (hN : SQNs O) (hV : SQVal O) (hE : SEv O) (hO : SQVOf O) (hS : SQS3 O) {F : Nat} (hF : 1 ≤ F) (c0 c1 c2 s u0 u1 v0 v1 : Nat) (w0 : c0 < 2 ^ 64) (w1 : c1 < 2 ^ 64) (w2 : c2 < 2 ^ 64) (ws : s < 2 ^ 64) (hu0 : u0 < 2 ^ 64) (hu1 : u1 < 2 ^ 64) (hv0 : v0 < 2 ^ 64) (hv1 : v1 < 2 ^ 64) (G : GH) (k : IV → GH → Option R) :
    ∃ G', bodyC Try.prog O lo7 F Try.f7 [.agg [.float .f64 c0, .float .f64 c1, .float .f64 c2], .float .f64 s, .agg [.float .f64 u0, .float .f64 u1], .agg [.float .f64 v0, .float .f64 v1]] G k = k (.bool true) G' := by
  obtain ⟨F, rfl⟩ : ∃ F', F = F' + 1 := ⟨F - 1, by omega⟩
  rw [e_law09_TextureSingle]
  unfold u_law09_TextureSingle
  rw [hA, ivB, Bool.not_true, cond_false]
  simp only [L_law09_TextureSingle_0, stepN_succ, l_law09_TextureSingle_0]
  obtain ⟨r1, n1, n2⟩ := hN c0 c1 c2 w0 w1 w2
  obtain ⟨r2, q1, _⟩ := hV u0 u1 hu0 hu1
  obtain ⟨r3, q2, _⟩ := hV v0 v1 hv0 hv1
  unfold u_law09_TextureSingle_0
  rw [n1, ivB]
  cases r1 with
  | false => exact ⟨G, rfl⟩
  | true =>
    obtain ⟨f0, f1, f2⟩ := n2 rfl
    rw [Bool.not_true, cond_false]
    cases hs : fin s with
    | false =>
      refine ⟨G, ?_⟩
      have h := sub_ne ws
      rw [hs] at h
      refine Eq.trans (congrArg (fun b => cond b _ _) h) ?_
      rfl
    | true =>
      have h := sub_ne ws
      rw [hs] at h
      cases r2 with
      | false =>
        refine ⟨G, ?_⟩
        refine Eq.trans (congrArg (fun b => cond b _ _) h) ?_
        rw [Bool.not_true, cond_false, q1, ivB]
        rfl
      | true =>
        cases r3 with
        | false =>
          refine ⟨G, ?_⟩
          refine Eq.trans (congrArg (fun b => cond b _ _) h) ?_
          rw [Bool.not_true, cond_false, q1, ivB, Bool.not_true, cond_false, q2, ivB]
          rfl
        | true =>
          obtain ⟨G', hon⟩ := on_body hE hO hS c0 c1 c2 s u0 u1 v0 v1 w0 w1 w2 f0 f1 f2 ws hs hu0 hu1 hv0 hv1 G k
          refine ⟨G', ?_⟩
          refine Eq.trans (congrArg (fun b => cond b _ _) h) ?_
          rw [Bool.not_true, cond_false, q1, ivB, Bool.not_true, cond_false, q2, ivB, Bool.not_true, cond_false]
          exact hon
end
end Go.LI.Film
