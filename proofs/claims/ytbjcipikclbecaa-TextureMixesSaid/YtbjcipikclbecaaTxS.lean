/- Mixes: Eval, and the law. -/
import Derived.Test.YtbjcipikclbecaaTxR
namespace Go.LI.Film
open Go.Proofs.Ytbjcipikclbecaa Go Go.Proofs Go.LI Go.LI.Fl
set_option linter.unusedVariables false
set_option linter.unusedSimpArgs false
set_option maxRecDepth 100000
set_option exponentiation.threshold 2500
section
variable {R : Type} {O : Ora R}
abbrev SEv1 (O : Ora R) : Prop := ∀ (c0 c1 c2 s : Nat), Col c0 c1 c2 → Scl s → ∃ l0 h0 l1 h1 l2 h2, Mx c0 l0 h0 ∧ Mx c1 l1 h1 ∧ Mx c2 l2 h2 ∧ ∀ (bt u0 u1 v0 v1 : Nat) (G : GH), BL G bt (lst c0 c1 c2 s) 52 → ∃ G', Keeps G.length G G' ∧ ∀ (k : IV → GH → Option R), O fn_texture_Eval [.slice (some ⟨bt, 0⟩) 3, .slice none 0, .int .i64 1, S2 u0 u1, S2 v0 v1] G k = k (.tuple [S6 l0 h0 l1 h1 l2 h2, .int .i64 1, .int .i64 0]) G'
theorem ev1_body (hC : SCkq O) (hN : SNd1 O) (hOC : SOneC O) (hX : SOneM O) {F : Nat} (hF : 6 ≤ F) (c0 c1 c2 s : Nat) (hc : Col c0 c1 c2) (hs : Scl s) : ∃ l0 h0 l1 h1 l2 h2, Mx c0 l0 h0 ∧ Mx c1 l1 h1 ∧ Mx c2 l2 h2 ∧ ∀ (bt u0 u1 v0 v1 : Nat) (G : GH), BL G bt (lst c0 c1 c2 s) 52 → ∃ G', Keeps G.length G G' ∧ ∀ (k : IV → GH → Option R), bodyC Try.prog O lo14 F Try.f14 [.slice (some ⟨bt, 0⟩) 3, .slice none 0, .int .i64 1, S2 u0 u1, S2 v0 v1] G k = k (.tuple [S6 l0 h0 l1 h1 l2 h2, .int .i64 1, .int .i64 0]) G' := by
  obtain ⟨F, rfl⟩ : ∃ F', F = F' + 4 := ⟨F - 4, by omega⟩
  obtain ⟨l0, h0, l1, h1, l2, h2, m0, m1, m2, hone⟩ := hX c0 c1 c2 s hc hs
  refine ⟨l0, h0, l1, h1, l2, h2, m0, m1, m2, fun bt u0 u1 v0 v1 G hB => ?_⟩
  have hlt := hB.lt
  have hRP : RP tcs G (some ⟨bt, 0⟩) 2 [tC c0 c1 c2, tM s] := ⟨rfl, fun _ => ⟨bt, 52, tcs (tK s), rfl, hB⟩⟩
  have hw : ∀ t ∈ [tC c0 c1 c2, tM s], t.w := by
    intro t ht
    simp only [List.mem_cons, List.not_mem_nil, or_false] at ht
    have z : (0 : Nat) < 2 ^ 64 := by decide
    rcases ht with rfl | rfl
    · exact ⟨hc.w0, hc.w1, hc.w2, z⟩
    · exact ⟨z, z, z, hs.w⟩
  obtain ⟨G1, K1, hck⟩ := hC (some ⟨bt, 0⟩) none 2 0 [tC c0 c1 c2, tM s] G hRP hw (by decide)
  rw [chkA2 hc hs] at hck
  generalize hZ : (v7 0 0 0 0 0 0 0 ++ v7 0 0 0 0 0 0 0 : List IV) = Z
  have hv := gnew_at G1 Z 70
  have K2 : Keeps G1.length G1 (gnew G1 Z 70) := keeps_new G1 Z 70 (Nat.le_refl _)
  have hl2 := gnew_length G1 Z 70
  have hB1 := hB.keep K1 hlt
  have hB2 := hB1.keep K2 hB1.lt
  obtain ⟨G3, hb, K3, hnd⟩ := hN c0 c1 c2 s bt (gnew G1 Z 70) hB2
  have hB3 := hB2.keep K3 hB2.lt
  have hv3 : G3[G1.length]? = some ⟨Z, 70, 1⟩ := by rw [K3.2 _ (by omega)]; exact hv
  rw [hl2] at hb
  generalize hG2 : gnew G1 Z 70 = G2 at hnd hl2
  subst hZ
  obtain ⟨G4, g4, q4, o4, l4⟩ := gst_at (o := 0) hv3 (vs := sp c0 c1 c2 1) (by simp [sp, v7])
  have hB4 : BL G4 bt (lst c0 c1 c2 s) 52 := by
    obtain ⟨md, x1, x2⟩ := hB3
    exact ⟨md, x1, by rw [o4 _ (by have := hB1.lt; omega)]; exact x2⟩
  have hb4 : BL G4 (G1.length + 1) [.bool true, .bool true] 4 := by
    obtain ⟨md, x1, x2⟩ := hb
    exact ⟨md, x1, by rw [o4 _ (by omega)]; exact x2⟩
  have hV4 : BL G4 G1.length (sp c0 c1 c2 1 ++ (v7 0 0 0 0 0 0 0)) 70 := ⟨1, by decide, q4⟩
  obtain ⟨G5, g5, q5, o5, l5⟩ := gst_at (o := 7) q4 (vs := v7 l0 h0 l1 h1 l2 h2 1) (by simp [sp, v7, splice])
  have hV5 : BL G5 G1.length (sp c0 c1 c2 1 ++ (v7 l0 h0 l1 h1 l2 h2 1)) 70 := ⟨1, by decide, q5⟩
  refine ⟨G5, ⟨by have a1 := K1.1; have a2 := K3.1; rw [gnew_length] at a2; omega, fun i hi => ?_⟩, fun k => ?_⟩
  · have a1 := K1.1
    rw [o5 i (by omega), o4 i (by omega), K3.2 i (by rw [gnew_length]; omega), gnew_old (by omega), K1.2 i hi]
  have w1 : IntKind.wrap .i64 ((1 : Int) + (1 : Int)) = 2 := by decide
  have d0 : decide ((1 : Int) < 0) = false := by decide
  have d1 : decide ((1 : Int) ≥ ((3 : Nat) : Int)) = false := by decide
  have d2 : decide (0 ≤ (0 : Int) ∧ (0 : Int) ≤ 2 ∧ (2 : Int) ≤ ((3 : Nat) : Int)) = true := by decide
  have room : roomI = 1099511627776 := rfl
  have d3 : (decide (0 ≤ (2 : Int) ∧ (2 : Int) ≤ (2 : Int) ∧ (2 : Int) * 56 ≤ roomI ∧ (2 : Int) ≤ roomI) && true && true) = true := by
    rw [room]; decide
  have n1 : Int.toNat (2 : Int) - Int.toNat (0 : Int) = 2 := rfl
  have n1' : Int.toNat (2 : Int) = 2 := rfl
  have ca : cutA (some (⟨bt, 0⟩ : GA)) (Int.toNat (0 : Int) * 8) = some ⟨bt, 0⟩ := rfl
  have fl : (List.replicate 2 [IV.float .f64 (0 : Nat), .float .f64 (0 : Nat), .float .f64 (0 : Nat), .float .f64 (0 : Nat), .float .f64 (0 : Nat), .float .f64 (0 : Nat), .int .i64 (0 : Int)]).flatten = v7 0 0 0 0 0 0 0 ++ v7 0 0 0 0 0 0 0 := rfl
  have e0 : ((0 : Int) != 0) = false := by decide
  have ga : gaddr G1 = ⟨G1.length, 0⟩ := rfl
  have i1 : IntKind.wrap .i64 ((0 : Int) + (1 : Int)) = 1 := by decide
  have i2 : IntKind.wrap .i64 ((1 : Int) + (1 : Int)) = 2 := by decide
  have i3 : IntKind.wrap .i64 ((2 : Int) + (1 : Int)) = 3 := by decide
  have t0 : decide ((0 : Int) < ((2 : Nat) : Int)) = true := by decide
  have t1 : decide ((1 : Int) < ((2 : Nat) : Int)) = true := by decide
  have t2 : decide ((2 : Int) < ((2 : Nat) : Int)) = false := by decide
  have t3 : decide ((3 : Int) < ((2 : Nat) : Int)) = false := by decide
  have x0 : idx? (some (⟨G2.length, 0⟩ : GA)) 2 (0 : Int) 1 = some ⟨G2.length, 0⟩ := by simp [idx?, GA.add]
  have x1 : idx? (some (⟨G2.length, 0⟩ : GA)) 2 (1 : Int) 1 = some ⟨G2.length, 1⟩ := by simp [idx?, GA.add]
  have y0 : idx? (some (⟨bt, 0⟩ : GA)) 3 (0 : Int) 8 = some ⟨bt, 0⟩ := by simp [idx?, GA.add]
  have yA : idx? (some (⟨bt, 0⟩ : GA)) 3 (1 : Int) 8 = some ⟨bt, 8⟩ := by simp [idx?, GA.add]
  have z0 : idx? (some (⟨G1.length, 0⟩ : GA)) 2 (0 : Int) 7 = some ⟨G1.length, 0⟩ := by simp [idx?, GA.add]
  have zA : idx? (some (⟨G1.length, 0⟩ : GA)) 2 (1 : Int) 7 = some ⟨G1.length, 7⟩ := by simp [idx?, GA.add]
  have ad : ∀ b i j, GA.add (⟨b, i⟩ : GA) j = ⟨b, i + j⟩ := fun b i j => rfl
  have hG2l : G2.length = G1.length + 1 := hl2
  have c0' := hb.boo (i := 0) (x := true) rfl
  rw [← hG2l] at hb4 c0'
  have c1' := hb4.boo (i := 1) (x := true) rfl
  have j0 := hB3.int (i := 0) (x := 1) rfl
  have j1 := hB3.flo (i := 1) (x := c0) rfl
  have j2 := hB3.flo (i := 2) (x := c1) rfl
  have j3 := hB3.flo (i := 3) (x := c2) rfl
  have j4 := hB3.int (i := 4) (x := 0) rfl
  have j5 := hB3.int (i := 5) (x := 0) rfl
  have j6 := hB3.flo (i := 6) (x := 0) rfl
  have j7 := hB3.int (i := 7) (x := 0) rfl
  have p0 := hB4.int (i := 8) (x := 3) rfl
  have p1 := hB4.flo (i := 9) (x := 0) rfl
  have p2 := hB4.flo (i := 10) (x := 0) rfl
  have p3 := hB4.flo (i := 11) (x := 0) rfl
  have p4 := hB4.int (i := 12) (x := 0) rfl
  have p5 := hB4.int (i := 13) (x := 0) rfl
  have p6 := hB4.flo (i := 14) (x := s) rfl
  have p7 := hB4.int (i := 15) (x := 0) rfl
  have r0 := hV5.flo (i := 7) (x := l0) rfl
  have r1 := hV5.flo (i := 8) (x := h0) rfl
  have r2 := hV5.flo (i := 9) (x := l1) rfl
  have r3 := hV5.flo (i := 10) (x := h1) rfl
  have r4 := hV5.flo (i := 11) (x := l2) rfl
  have r5 := hV5.flo (i := 12) (x := h2) rfl
  have r6 := hV5.int (i := 13) (x := 1) rfl
  have hoc := fun k => hOC c0 c1 c2 hc none (some ⟨G1.length, 0⟩) 0 2 u0 u1 v0 v1 G3 k
  have hot := fun k => hone none 0 G1.length 2 u0 u1 v0 v1 70 _ G4 (by decide) hV4 k
  unfold tcs tC at hoc
  unfold tcs tM at hot
  have ivSc : ∀ (a : Option GA) (n : Nat), ivSlice (.slice a n) = some (a, n) := fun _ _ => rfl
  rw [e_texture_Eval]
  simp only [u_texture_Eval, L_texture_Eval_0, stepN_succ, l_texture_Eval_0, u_texture_Eval_0, d0, d1, cond_false, a_texture_Eval_0N, w1, d2, hB.cut, Bool.and_self, cond_true, ca, n1]
  rw [hck, tupII, e0, cond_false, d3, cond_true, n1', fl, ga, hG2, hnd, ivSc, Option.bind_some]
  simp only [L_texture_Eval_1]
  rw [l_texture_Eval_1]
  simp only [u_texture_Eval_1, t0, cond_true, x0, Option.bind_some, c0', y0, ad, Nat.add_zero, Nat.zero_add, j0, j1, j2, j3, j4, j5, j6, j7]
  rw [hoc]
  unfold sp at g4 ⊢
  rw [agg7]
  simp only [z0, Option.bind_some, g4, i1]
  rw [l_texture_Eval_1]
  simp only [u_texture_Eval_1, t1, cond_true, x1, Option.bind_some, c1', yA, ad, Nat.add_zero, Nat.reduceAdd, p0, p1, p2, p3, p4, p5, p6, p7]
  rw [hot]
  unfold v7 at g5 ⊢
  rw [agg7]
  simp only [zA, Option.bind_some, g5, i2]
  rw [l_texture_Eval_1]
  simp only [u_texture_Eval_1, t2, cond_false, a_texture_Eval_10, zA, Option.bind_some, ad, Nat.add_zero, Nat.reduceAdd, r0, r1, r2, r3, r4, r5, r6]
abbrev SEv2 (O : Ora R) : Prop := ∀ (c0 c1 c2 s u0 u1 v0 v1 : Nat), Col c0 c1 c2 → Scl s → u0 < 2 ^ 64 → u1 < 2 ^ 64 → v0 < 2 ^ 64 → v1 < 2 ^ 64 → ∃ z : Int, ∀ (bt : Nat) (G : GH), BL G bt (lst c0 c1 c2 s) 52 → ∃ G', ∀ (k : IV → GH → Option R), O fn_texture_Eval [.slice (some ⟨bt, 0⟩) 3, .slice none 0, .int .i64 2, S2 u0 u1, S2 v0 v1] G k = k (.tuple [S6 (zw c0) (zw c0) (zw c1) (zw c1) (zw c2) (zw c2), .int .i64 z, .int .i64 0]) G'
theorem ev2_body (hC : SCkq O) (hN : SNd2 O) (hOC : SOneC O) (hX : SOneK O) {F : Nat} (hF : 6 ≤ F) (c0 c1 c2 s u0 u1 v0 v1 : Nat) (hc : Col c0 c1 c2) (hs : Scl s) (hu0 : u0 < 2 ^ 64) (hu1 : u1 < 2 ^ 64) (hv0 : v0 < 2 ^ 64) (hv1 : v1 < 2 ^ 64) : ∃ z : Int, ∀ (bt : Nat) (G : GH), BL G bt (lst c0 c1 c2 s) 52 → ∃ G', ∀ (k : IV → GH → Option R), bodyC Try.prog O lo14 F Try.f14 [.slice (some ⟨bt, 0⟩) 3, .slice none 0, .int .i64 2, S2 u0 u1, S2 v0 v1] G k = k (.tuple [S6 (zw c0) (zw c0) (zw c1) (zw c1) (zw c2) (zw c2), .int .i64 z, .int .i64 0]) G' := by
  obtain ⟨F, rfl⟩ : ∃ F', F = F' + 4 := ⟨F - 4, by omega⟩
  obtain ⟨z, hone⟩ := hX s u0 u1 v0 v1 hs.w hs.f hu0 hu1 hv0 hv1
  refine ⟨z, fun bt G hB => ?_⟩
  have hlt := hB.lt
  have hRP : RP tcs G (some ⟨bt, 0⟩) 3 [tC c0 c1 c2, tM s, tK s] := ⟨rfl, fun _ => ⟨bt, 52, [], rfl, hB⟩⟩
  have hw : ∀ t ∈ [tC c0 c1 c2, tM s, tK s], t.w := by
    intro t ht
    simp only [List.mem_cons, List.not_mem_nil, or_false] at ht
    have z : (0 : Nat) < 2 ^ 64 := by decide
    rcases ht with rfl | rfl | rfl
    · exact ⟨hc.w0, hc.w1, hc.w2, z⟩
    · exact ⟨z, z, z, hs.w⟩
    · exact ⟨z, z, z, hs.w⟩
  obtain ⟨G1, K1, hck⟩ := hC (some ⟨bt, 0⟩) none 3 0 [tC c0 c1 c2, tM s, tK s] G hRP hw (by decide)
  rw [chkA3 hc hs] at hck
  generalize hZ : (v7 0 0 0 0 0 0 0 ++ v7 0 0 0 0 0 0 0 ++ v7 0 0 0 0 0 0 0 : List IV) = Z
  have hv := gnew_at G1 Z 70
  have K2 : Keeps G1.length G1 (gnew G1 Z 70) := keeps_new G1 Z 70 (Nat.le_refl _)
  have hl2 := gnew_length G1 Z 70
  have hB1 := hB.keep K1 hlt
  have hB2 := hB1.keep K2 hB1.lt
  obtain ⟨G3, hb, K3, hnd⟩ := hN c0 c1 c2 s bt (gnew G1 Z 70) hB2
  have hB3 := hB2.keep K3 hB2.lt
  have hv3 : G3[G1.length]? = some ⟨Z, 70, 1⟩ := by rw [K3.2 _ (by omega)]; exact hv
  rw [hl2] at hb
  generalize hG2 : gnew G1 Z 70 = G2 at hnd hl2
  subst hZ
  obtain ⟨G4, g4, q4, o4, l4⟩ := gst_at (o := 0) hv3 (vs := sp c0 c1 c2 1) (by simp [sp, v7])
  have hB4 : BL G4 bt (lst c0 c1 c2 s) 52 := by
    obtain ⟨md, x1, x2⟩ := hB3
    exact ⟨md, x1, by rw [o4 _ (by have := hB1.lt; omega)]; exact x2⟩
  have hb4 : BL G4 (G1.length + 1) [.bool true, .bool false, .bool true] 4 := by
    obtain ⟨md, x1, x2⟩ := hb
    exact ⟨md, x1, by rw [o4 _ (by omega)]; exact x2⟩
  have hV4 : BL G4 G1.length (sp c0 c1 c2 1 ++ (v7 0 0 0 0 0 0 0 ++ v7 0 0 0 0 0 0 0)) 70 := ⟨1, by decide, q4⟩
  obtain ⟨G5, g5, q5, o5, l5⟩ := gst_at (o := 14) q4 (vs := sp c0 c1 c2 z) (by simp [sp, v7, splice])
  have hV5 : BL G5 G1.length (sp c0 c1 c2 1 ++ (v7 0 0 0 0 0 0 0 ++ sp c0 c1 c2 z)) 70 := ⟨1, by decide, q5⟩
  refine ⟨G5, fun k => ?_⟩
  have w1 : IntKind.wrap .i64 ((2 : Int) + (1 : Int)) = 3 := by decide
  have d0 : decide ((2 : Int) < 0) = false := by decide
  have d1 : decide ((2 : Int) ≥ ((3 : Nat) : Int)) = false := by decide
  have d2 : decide (0 ≤ (0 : Int) ∧ (0 : Int) ≤ 3 ∧ (3 : Int) ≤ ((3 : Nat) : Int)) = true := by decide
  have room : roomI = 1099511627776 := rfl
  have d3 : (decide (0 ≤ (3 : Int) ∧ (3 : Int) ≤ (3 : Int) ∧ (3 : Int) * 56 ≤ roomI ∧ (3 : Int) ≤ roomI) && true && true) = true := by
    rw [room]; decide
  have n1 : Int.toNat (3 : Int) - Int.toNat (0 : Int) = 3 := rfl
  have n1' : Int.toNat (3 : Int) = 3 := rfl
  have ca : cutA (some (⟨bt, 0⟩ : GA)) (Int.toNat (0 : Int) * 8) = some ⟨bt, 0⟩ := rfl
  have fl : (List.replicate 3 [IV.float .f64 (0 : Nat), .float .f64 (0 : Nat), .float .f64 (0 : Nat), .float .f64 (0 : Nat), .float .f64 (0 : Nat), .float .f64 (0 : Nat), .int .i64 (0 : Int)]).flatten = v7 0 0 0 0 0 0 0 ++ v7 0 0 0 0 0 0 0 ++ v7 0 0 0 0 0 0 0 := rfl
  have e0 : ((0 : Int) != 0) = false := by decide
  have ga : gaddr G1 = ⟨G1.length, 0⟩ := rfl
  have i1 : IntKind.wrap .i64 ((0 : Int) + (1 : Int)) = 1 := by decide
  have i2 : IntKind.wrap .i64 ((1 : Int) + (1 : Int)) = 2 := by decide
  have i3 : IntKind.wrap .i64 ((2 : Int) + (1 : Int)) = 3 := by decide
  have t0 : decide ((0 : Int) < ((3 : Nat) : Int)) = true := by decide
  have t1 : decide ((1 : Int) < ((3 : Nat) : Int)) = true := by decide
  have t2 : decide ((2 : Int) < ((3 : Nat) : Int)) = true := by decide
  have t3 : decide ((3 : Int) < ((3 : Nat) : Int)) = false := by decide
  have x0 : idx? (some (⟨G2.length, 0⟩ : GA)) 3 (0 : Int) 1 = some ⟨G2.length, 0⟩ := by simp [idx?, GA.add]
  have x1 : idx? (some (⟨G2.length, 0⟩ : GA)) 3 (1 : Int) 1 = some ⟨G2.length, 1⟩ := by simp [idx?, GA.add]
  have x2 : idx? (some (⟨G2.length, 0⟩ : GA)) 3 (2 : Int) 1 = some ⟨G2.length, 2⟩ := by simp [idx?, GA.add]
  have y0 : idx? (some (⟨bt, 0⟩ : GA)) 3 (0 : Int) 8 = some ⟨bt, 0⟩ := by simp [idx?, GA.add]
  have yA : idx? (some (⟨bt, 0⟩ : GA)) 3 (2 : Int) 8 = some ⟨bt, 16⟩ := by simp [idx?, GA.add]
  have z0 : idx? (some (⟨G1.length, 0⟩ : GA)) 3 (0 : Int) 7 = some ⟨G1.length, 0⟩ := by simp [idx?, GA.add]
  have zA : idx? (some (⟨G1.length, 0⟩ : GA)) 3 (2 : Int) 7 = some ⟨G1.length, 14⟩ := by simp [idx?, GA.add]
  have ad : ∀ b i j, GA.add (⟨b, i⟩ : GA) j = ⟨b, i + j⟩ := fun b i j => rfl
  have hG2l : G2.length = G1.length + 1 := hl2
  have c0' := hb.boo (i := 0) (x := true) rfl
  rw [← hG2l] at hb4 c0'
  have c1' := hb4.boo (i := 1) (x := false) rfl
  have c2' := hb4.boo (i := 2) (x := true) rfl
  have j0 := hB3.int (i := 0) (x := 1) rfl
  have j1 := hB3.flo (i := 1) (x := c0) rfl
  have j2 := hB3.flo (i := 2) (x := c1) rfl
  have j3 := hB3.flo (i := 3) (x := c2) rfl
  have j4 := hB3.int (i := 4) (x := 0) rfl
  have j5 := hB3.int (i := 5) (x := 0) rfl
  have j6 := hB3.flo (i := 6) (x := 0) rfl
  have j7 := hB3.int (i := 7) (x := 0) rfl
  have p0 := hB4.int (i := 16) (x := 2) rfl
  have p1 := hB4.flo (i := 17) (x := 0) rfl
  have p2 := hB4.flo (i := 18) (x := 0) rfl
  have p3 := hB4.flo (i := 19) (x := 0) rfl
  have p4 := hB4.int (i := 20) (x := 0) rfl
  have p5 := hB4.int (i := 21) (x := 0) rfl
  have p6 := hB4.flo (i := 22) (x := s) rfl
  have p7 := hB4.int (i := 23) (x := 0) rfl
  have r0 := hV5.flo (i := 14) (x := zw c0) rfl
  have r1 := hV5.flo (i := 15) (x := zw c0) rfl
  have r2 := hV5.flo (i := 16) (x := zw c1) rfl
  have r3 := hV5.flo (i := 17) (x := zw c1) rfl
  have r4 := hV5.flo (i := 18) (x := zw c2) rfl
  have r5 := hV5.flo (i := 19) (x := zw c2) rfl
  have r6 := hV5.int (i := 20) (x := z) rfl
  have hoc := fun k => hOC c0 c1 c2 hc none (some ⟨G1.length, 0⟩) 0 3 u0 u1 v0 v1 G3 k
  have hot := fun k => hone c0 c1 c2 none 0 G1.length 3 70 _ G4 (by decide) hV4 k
  unfold tcs tC at hoc
  unfold tcs tK at hot
  have ivSc : ∀ (a : Option GA) (n : Nat), ivSlice (.slice a n) = some (a, n) := fun _ _ => rfl
  rw [e_texture_Eval]
  simp only [u_texture_Eval, L_texture_Eval_0, stepN_succ, l_texture_Eval_0, u_texture_Eval_0, d0, d1, cond_false, a_texture_Eval_0N, w1, d2, hB.cut, Bool.and_self, cond_true, ca, n1]
  rw [hck, tupII, e0, cond_false, d3, cond_true, n1', fl, ga, hG2, hnd, ivSc, Option.bind_some]
  simp only [L_texture_Eval_1]
  rw [l_texture_Eval_1]
  simp only [u_texture_Eval_1, t0, cond_true, x0, Option.bind_some, c0', y0, ad, Nat.add_zero, Nat.zero_add, j0, j1, j2, j3, j4, j5, j6, j7]
  rw [hoc]
  unfold sp at g4 ⊢
  rw [agg7]
  simp only [z0, Option.bind_some, g4, i1]
  rw [l_texture_Eval_1]
  simp only [u_texture_Eval_1, t1, cond_true, x1, Option.bind_some, c1', cond_false, i2]
  rw [l_texture_Eval_1]
  simp only [u_texture_Eval_1, t2, cond_true, x2, Option.bind_some, c2', yA, ad, Nat.add_zero, Nat.reduceAdd, p0, p1, p2, p3, p4, p5, p6, p7]
  rw [hot]
  unfold sp at g5 ⊢
  rw [agg7]
  simp only [zA, Option.bind_some, g5, i3]
  rw [l_texture_Eval_1]
  simp only [u_texture_Eval_1, t3, cond_false, a_texture_Eval_10, zA, Option.bind_some, ad, Nat.add_zero, Nat.reduceAdd, r0, r1, r2, r3, r4, r5, r6]
end
end Go.LI.Film
