/- Mixes: the list's check, what is needed, Eval, and the law. -/
import Derived.Test.YtbjcipikclbecaaTxQ
namespace Go.LI.Film
open Go.Proofs.Ytbjcipikclbecaa Go Go.Proofs Go.LI Go.LI.Fl
set_option linter.unusedVariables false
set_option linter.unusedSimpArgs false
set_option maxRecDepth 100000
set_option exponentiation.threshold 2500

/-- A slice of records at the head of a block. -/
def RP {α : Type} (f : α → List IV) (G : GH) (a : Option GA) (n : Nat) (ps : List α) : Prop := ps.length = n ∧ (0 < n → ∃ b e rest, a = some ⟨b, 0⟩ ∧ BL G b ((ps.map f).flatten ++ rest) e)
theorem RP.keep {α : Type} {f : α → List IV} {G G' : GH} {a : Option GA} {n base : Nat} {ps : List α} (h : RP f G a n ps) (k : Keeps base G G') (hb : G.length ≤ base) : RP f G' a n ps := by
  refine ⟨h.1, fun hn => ?_⟩
  obtain ⟨b, e, rest, h1, h2⟩ := h.2 hn
  exact ⟨b, e, rest, h1, h2.keep k (by have := h2.lt; omega)⟩
theorem tl_ldP {G : GH} {a : Option GA} {n i : Nat} {ts : List Tx} {t : Tx} (h : RP tcs G a n ts) (hi : ts[i]? = some t) : ∃ p, idx? a n (i : Int) 8 = some p ∧ ldInt G .i64 (GA.add p 0) = some t.k ∧ ldFloat G .f64 (GA.add p 1) = some t.c0 ∧ ldFloat G .f64 (GA.add p 2) = some t.c1 ∧ ldFloat G .f64 (GA.add p 3) = some t.c2 ∧
    ldInt G .i64 (GA.add p 4) = some t.a ∧ ldInt G .i64 (GA.add p 5) = some t.b ∧ ldFloat G .f64 (GA.add p 6) = some t.s ∧ ldInt G .i64 (GA.add p 7) = some t.im := by
  have hl := (List.getElem?_eq_some_iff.1 hi).1
  obtain ⟨b, e, rest, rfl, hB⟩ := h.2 (by have := h.1; omega)
  have hn := h.1
  have at' : ∀ j, j < 8 → ((ts.map tcs).flatten ++ rest)[i * 8 + j]? = (tcs t)[j]? := fun j hj => (List.getElem?_append_left (by rw [recs_len tcs_length]; omega)).trans (recs_at tcs_length hi j hj)
  refine ⟨⟨b, i * 8⟩, ?_, ?_, ?_, ?_, ?_, ?_, ?_, ?_, ?_⟩
  · simp only [idx?, GA.add, Int.toNat_natCast, Nat.zero_add]
    rw [if_pos ⟨by omega, by omega⟩]
  · exact hB.int (i := i * 8 + 0) (at' 0 (by omega))
  · exact hB.flo (i := i * 8 + 1) (at' 1 (by omega))
  · exact hB.flo (i := i * 8 + 2) (at' 2 (by omega))
  · exact hB.flo (i := i * 8 + 3) (at' 3 (by omega))
  · exact hB.int (i := i * 8 + 4) (at' 4 (by omega))
  · exact hB.int (i := i * 8 + 5) (at' 5 (by omega))
  · exact hB.flo (i := i * 8 + 6) (at' 6 (by omega))
  · exact hB.int (i := i * 8 + 7) (at' 7 (by omega))

section
variable {R : Type} {O : Ora R}
theorem cl_bodyP (hC : SChp O) {a : Option GA} {n : Nat} {ts : List Tx} {m : Nat} (pa : Option GA) (hw : ∀ t ∈ ts, t.w) (hn : n < 2 ^ 60) : ∀ (r i : Nat) (G : GH), i + r = n → RP tcs G a n ts → ∃ G', Keeps G.length G G' ∧ ∀ (kk : IV → GH → Option R) (j : Nat), r < j →
    l_texture_Check_0 O (a_texture_Check_0ret O kk) (a_texture_Check_00 O kk) j pa m a n (n : Int) (i : Int) G = kk (.tuple [.int .i64 (chkA (m : Int) (ts.drop i) i).1, .int .i64 (chkA (m : Int) (ts.drop i) i).2]) G' := by
  intro r
  induction r with
  | zero =>
    intro i G hi hT
    refine ⟨G, Keeps.refl _ _, fun kk j hj => ?_⟩
    obtain ⟨j, rfl⟩ : ∃ j', j = j' + 1 := ⟨j - 1, by omega⟩
    have hlen := hT.1
    rw [List.drop_eq_nil_of_le (by omega)]
    simp only [l_texture_Check_0, u_texture_Check_0]
    rw [decide_eq_false (by omega), cond_false]
    rfl
  | succ r ih =>
    intro i G hi hT
    have hlen := hT.1
    have hi' : i < ts.length := by omega
    have hg := List.getElem?_eq_getElem hi'
    obtain ⟨p, l0, l1, l2, l3, l4, l5, l6, l7, l8⟩ := tl_ldP hT hg
    have hc := hC ts[i] (i : Int) (m : Int) (hw _ (List.getElem_mem hi')) G
    unfold tcs at hc
    obtain ⟨G', k1, h1⟩ := ih (i + 1) (gnew G [.int .i64 i] 3) (by omega) (hT.keep (keeps_new G _ _ (Nat.le_refl _)) (Nat.le_refl _))
    have kn : Keeps G.length G (gnew G [.int .i64 i] 3) := keeps_new G _ _ (Nat.le_refl _)
    have step : ∀ (kk : IV → GH → Option R) (j : Nat), l_texture_Check_0 O (a_texture_Check_0ret O kk) (a_texture_Check_00 O kk) (j + 1) pa m a n (n : Int) (i : Int) G =
        bif chk ts[i] i m != 0 then kk (.tuple [.int .i64 (i : Int), .int .i64 (chk ts[i] i m)]) (gnew G [.int .i64 i] 3) else l_texture_Check_0 O (a_texture_Check_0ret O kk) (a_texture_Check_00 O kk) j pa m a n (n : Int) ((i + 1 : Nat) : Int) (gnew G [.int .i64 i] 3) := by
      intro kk j
      simp only [l_texture_Check_0, u_texture_Check_0]
      rw [decide_eq_true (by omega), cond_true, l0, Option.bind_some, l1, Option.bind_some, l2, Option.bind_some, l3, Option.bind_some, l4, Option.bind_some, l5, Option.bind_some, l6, Option.bind_some, l7, Option.bind_some, l8, Option.bind_some, hc, ivI, wrapI (by omega) (by omega), show (i : Int) + 1 = ((i + 1 : Nat) : Int) by omega]
      rfl
    rw [chkA_drop hg]
    cases hch : (chk ts[i] i m != 0) with
    | true =>
      refine ⟨_, kn, fun kk j hj => ?_⟩
      obtain ⟨j, rfl⟩ : ∃ j', j = j' + 1 := ⟨j - 1, by omega⟩
      rw [step, hch, cond_true]
      rfl
    | false =>
      refine ⟨G', kn.trans (k1.mono (by rw [gnew_length]; omega)), fun kk j hj => ?_⟩
      obtain ⟨j, rfl⟩ : ∃ j', j = j' + 1 := ⟨j - 1, by omega⟩
      rw [step, hch, cond_false, h1 kk j (by omega)]
      rfl
abbrev SCkq (O : Ora R) : Prop := ∀ (a pa : Option GA) (n m : Nat) (ts : List Tx) (G : GH), RP tcs G a n ts → (∀ t ∈ ts, t.w) → n ≤ 200 → ∃ G', Keeps G.length G G' ∧ ∀ (k : IV → GH → Option R), O fn_texture_Check [.slice a n, .slice pa m] G k = k (.tuple [.int .i64 (chkA (m : Int) ts 0).1, .int .i64 (chkA (m : Int) ts 0).2]) G'
theorem ckq_body (hC : SChp O) {F : Nat} (hF : 1000 ≤ F) (a pa : Option GA) (n m : Nat) (ts : List Tx) (G : GH) (hT : RP tcs G a n ts) (hw : ∀ t ∈ ts, t.w) (hn : n ≤ 200) : ∃ G', Keeps G.length G G' ∧ ∀ (k : IV → GH → Option R), bodyC Try.prog O lo10 F Try.f10 [.slice a n, .slice pa m] G k = k (.tuple [.int .i64 (chkA (m : Int) ts 0).1, .int .i64 (chkA (m : Int) ts 0).2]) G' := by
  obtain ⟨G', k1, h1⟩ := cl_bodyP hC (m := m) pa hw (by omega) n 0 G (by omega) hT
  refine ⟨G', k1, fun k => ?_⟩
  rw [e_texture_Check, u_texture_Check, L_texture_Check_0]
  have := h1 k F (by omega)
  rw [List.drop_zero] at this
  exact this


theorem sv_zw (x : Nat) : sv (zw x) = sv x := by
  unfold zw
  split
  · rename_i h
    rw [sv_zero']
    unfold sv
    rw [h, (mag_zero dbl).2 rfl]
    cases sg dbl x <;> rfl
  · rfl
theorem Scl.flt {s : Nat} (h : Scl s) : flt .f64 s (0 : Nat) = false := by
  have h1 := h.lo
  rw [sv_zw] at h1
  rw [flt_sv (num_fin h.w h.f) num_nil, sv_zero']
  exact decide_eq_false (by omega)
theorem Scl.fgt {s : Nat} (h : Scl s) : fgt .f64 s (4607182418800017408 : Nat) = false := by
  have h1 := h.hi
  rw [sv_zw] at h1
  rw [fgt_sv (num_fin h.w h.f) one_sv.1, one_sv.2.1]
  exact decide_eq_false (by omega)
theorem chkC {c0 c1 c2 : Nat} (h : Col c0 c1 c2) (i p : Int) : chk (tC c0 c1 c2) i p = 0 := by
  unfold chk tC
  simp only [h.f0, h.f1, h.f2]
  rfl
theorem chkM {s : Nat} (h : Scl s) (i p : Int) (hi : 0 < i) : chk (tM s) i p = 0 := by
  unfold chk tM ahd
  simp only [h.f, h.flt, h.fgt]
  rw [decide_eq_true (show (0 : Int) < i from hi)]
  rfl
theorem chkK {s : Nat} (h : Scl s) (i p : Int) (hi : 0 < i) : chk (tK s) i p = 0 := by
  unfold chk tK ahd
  simp only [h.f]
  rw [decide_eq_true (show (0 : Int) < i from hi)]
  rfl
theorem chkA2 {c0 c1 c2 s : Nat} (h : Col c0 c1 c2) (hs : Scl s) (p : Int) : chkA p [tC c0 c1 c2, tM s] 0 = (0, 0) := by
  simp only [chkA]
  rw [chkC h, chkM hs _ _ (by decide)]
  rfl
theorem chkA3 {c0 c1 c2 s : Nat} (h : Col c0 c1 c2) (hs : Scl s) (p : Int) : chkA p [tC c0 c1 c2, tM s, tK s] 0 = (0, 0) := by
  simp only [chkA]
  rw [chkC h, chkM hs _ _ (by decide), chkK hs _ _ (by decide)]
  rfl
def lst (c0 c1 c2 s : Nat) : List IV := tcs (tC c0 c1 c2) ++ (tcs (tM s) ++ tcs (tK s))

/-- Cells are written. -/
theorem gst_at {G : GH} {b o e : Nat} {cs vs : List IV} (h : G[b]? = some ⟨cs, e, 1⟩) (hl : o + vs.length ≤ cs.length) : ∃ G', gst G ⟨b, o⟩ vs = some G' ∧ G'[b]? = some ⟨splice cs o vs, e, 1⟩ ∧ (∀ i, i ≠ b → G'[i]? = G[i]?) ∧ G'.length = G.length := by
  have hb := (List.getElem?_eq_some_iff.1 h).1
  refine ⟨G.set b ⟨splice cs o vs, e, 1⟩, ?_, ?_, ?_, by simp⟩
  · simp only [gst, h]
    rw [if_pos ⟨by trivial, hl⟩]
  · rw [List.getElem?_set, if_pos rfl, if_pos hb]
  · intro i hi
    rw [List.getElem?_set, if_neg (fun h => hi h.symm)]
abbrev SNd1 (O : Ora R) : Prop := ∀ (c0 c1 c2 s bt : Nat) (G : GH), BL G bt (lst c0 c1 c2 s) 52 → ∃ G', BL G' G.length [.bool true, .bool true] 4 ∧ Keeps G.length G G' ∧ ∀ (k : IV → GH → Option R), O fn_texture_needed [.slice (some ⟨bt, 0⟩) 3, .int .i64 1] G k = k (.slice (some ⟨G.length, 0⟩) 2) G'
abbrev SNd2 (O : Ora R) : Prop := ∀ (c0 c1 c2 s bt : Nat) (G : GH), BL G bt (lst c0 c1 c2 s) 52 → ∃ G', BL G' G.length [.bool true, .bool false, .bool true] 4 ∧ Keeps G.length G G' ∧ ∀ (k : IV → GH → Option R), O fn_texture_needed [.slice (some ⟨bt, 0⟩) 3, .int .i64 2] G k = k (.slice (some ⟨G.length, 0⟩) 3) G'
theorem nd1_body {F : Nat} (hF : 5 ≤ F) (c0 c1 c2 s bt : Nat) (G : GH) (hB : BL G bt (lst c0 c1 c2 s) 52) : ∃ G', BL G' G.length [.bool true, .bool true] 4 ∧ Keeps G.length G G' ∧ ∀ (k : IV → GH → Option R), bodyC Try.prog O lo27 F Try.f27 [.slice (some ⟨bt, 0⟩) 3, .int .i64 1] G k = k (.slice (some ⟨G.length, 0⟩) 2) G' := by
  obtain ⟨F, rfl⟩ : ∃ F', F = F' + 4 := ⟨F - 4, by omega⟩
  have hlt := hB.lt
  obtain ⟨G1, g1, q1, o1, l1⟩ := gst_at (o := 1) (gnew_at G [IV.bool false, .bool false] 4) (vs := [.bool true]) (by decide)
  obtain ⟨G2, g2, q2, o2, l2⟩ := gst_at (o := 0) q1 (vs := [.bool true]) (by decide)
  obtain ⟨G3, g3, q3, o3, l3⟩ := gst_at (o := 0) q2 (vs := [.bool true]) (by decide)
  have old : ∀ i, i < G.length → G1[i]? = G[i]? ∧ G2[i]? = G[i]? ∧ G3[i]? = G[i]? := fun i hi => by
    have e1 : G1[i]? = G[i]? := by rw [o1 i (by omega), gnew_old hi]
    have e2 : G2[i]? = G[i]? := by rw [o2 i (by omega), e1]
    exact ⟨e1, e2, by rw [o3 i (by omega), e2]⟩
  have K3 : Keeps G.length G G3 := ⟨by rw [l3, l2, l1, gnew_length]; omega, fun i hi => (old i hi).2.2⟩
  have K1 : Keeps G.length G G1 := ⟨by rw [l1, gnew_length]; omega, fun i hi => (old i hi).1⟩
  have K2 : Keeps G.length G G2 := ⟨by rw [l2, l1, gnew_length]; omega, fun i hi => (old i hi).2.1⟩
  have hB1 := hB.keep K1 hlt
  have hB2 := hB.keep K2 hlt
  have hB3 := hB.keep K3 hlt
  have b1 : BL G1 G.length [.bool false, .bool true] 4 := ⟨1, by decide, q1⟩
  have b3 : BL G3 G.length [.bool true, .bool true] 4 := ⟨1, by decide, q3⟩
  have w1 : IntKind.wrap .i64 ((1 : Int) + (1 : Int)) = 2 := by decide
  have w2 : IntKind.wrap .i64 ((1 : Int) - (1 : Int)) = 0 := by decide
  have w3 : IntKind.wrap .i64 ((0 : Int) - (1 : Int)) = -1 := by decide
  have room : roomI = 1099511627776 := rfl
  have cc : (decide (0 ≤ (2 : Int) ∧ (2 : Int) ≤ (2 : Int) ∧ (2 : Int) * 1 ≤ roomI ∧ (2 : Int) ≤ roomI) && true && true) = true := by
    rw [room]; decide
  have n2 : Int.toNat (2 : Int) = 2 := rfl
  have fl : (List.replicate 2 [IV.bool false]).flatten = [IV.bool false, .bool false] := rfl
  have d0 : decide ((0 : Int) ≥ 0) = true := by decide
  have d1 : decide ((1 : Int) ≥ 0) = true := by decide
  have dm : decide ((-1 : Int) ≥ 0) = false := by decide
  have ga : gaddr G = ⟨G.length, 0⟩ := rfl
  have x1 : idx? (some (⟨G.length, 0⟩ : GA)) 2 (1 : Int) 1 = some ⟨G.length, 1⟩ := by simp [idx?, GA.add]
  have x0 : idx? (some (⟨G.length, 0⟩ : GA)) 2 (0 : Int) 1 = some ⟨G.length, 0⟩ := by simp [idx?, GA.add]
  have y1 : idx? (some (⟨bt, 0⟩ : GA)) 3 (1 : Int) 8 = some ⟨bt, 8⟩ := by simp [idx?, GA.add]
  have y0 : idx? (some (⟨bt, 0⟩ : GA)) 3 (0 : Int) 8 = some ⟨bt, 0⟩ := by simp [idx?, GA.add]
  have ad : ∀ i j, GA.add (⟨bt, i⟩ : GA) j = ⟨bt, i + j⟩ := fun i j => rfl
  have j1 := hB1.int (i := 8) (x := 3) rfl
  have jB := hB1.int (i := 13) (x := 0) rfl
  have jA := hB2.int (i := 12) (x := 0) rfl
  have j0 := hB3.int (i := 0) (x := 1) rfl
  have e1 := b1.boo (i := 1) (x := true) rfl
  have e0 := b3.boo (i := 0) (x := true) rfl
  have k32 : ((3 : Int) == 2) = false := by decide
  have k33 : ((3 : Int) == 3) = true := by decide
  have k12 : ((1 : Int) == 2) = false := by decide
  have k13 : ((1 : Int) == 3) = false := by decide
  have k15 : ((1 : Int) == 5) = false := by decide
  refine ⟨G3, b3, K3, fun k => ?_⟩
  rw [e_texture_needed]
  simp only [u_texture_needed, w1, cc, cond_true, n2, ga, x1, Option.bind_some, fl, g1, L_texture_needed_0]
  rw [l_texture_needed_0]
  simp only [u_texture_needed_0, d1, cond_true, L_texture_needed_1, stepN_succ, l_texture_needed_1, u_texture_needed_1, x1, Option.bind_some, e1, Bool.not_true, cond_false, y1, ad, Nat.add_zero, Nat.reduceAdd, j1, L_texture_needed_2, l_texture_needed_2, u_texture_needed_2, L_texture_needed_3, l_texture_needed_3, u_texture_needed_3,
    L_texture_needed_4, l_texture_needed_4, u_texture_needed_4, k32, k33, a_texture_needed_43, a_texture_needed_3N, jB, x0, g2, a_texture_needed_2N, jA, g3, a_texture_needed_1N, w2]
  rw [l_texture_needed_0]
  simp only [u_texture_needed_0, d0, cond_true, L_texture_needed_1, stepN_succ, l_texture_needed_1, u_texture_needed_1, x0, Option.bind_some, e0, Bool.not_true, cond_false, y0, ad, Nat.add_zero, Nat.reduceAdd, j0, L_texture_needed_2, l_texture_needed_2, u_texture_needed_2, L_texture_needed_3, l_texture_needed_3, u_texture_needed_3,
    L_texture_needed_4, l_texture_needed_4, u_texture_needed_4, k12, k13, k15, a_texture_needed_4N, a_texture_needed_32, a_texture_needed_22, a_texture_needed_1N, w3]
  rw [l_texture_needed_0]
  simp only [u_texture_needed_0, dm, cond_false, a_texture_needed_00]
theorem nd2_body {F : Nat} (hF : 5 ≤ F) (c0 c1 c2 s bt : Nat) (G : GH) (hB : BL G bt (lst c0 c1 c2 s) 52) : ∃ G', BL G' G.length [.bool true, .bool false, .bool true] 4 ∧ Keeps G.length G G' ∧ ∀ (k : IV → GH → Option R), bodyC Try.prog O lo27 F Try.f27 [.slice (some ⟨bt, 0⟩) 3, .int .i64 2] G k = k (.slice (some ⟨G.length, 0⟩) 3) G' := by
  obtain ⟨F, rfl⟩ : ∃ F', F = F' + 4 := ⟨F - 4, by omega⟩
  have hlt := hB.lt
  obtain ⟨G1, g1, q1, o1, l1⟩ := gst_at (o := 2) (gnew_at G [IV.bool false, .bool false, .bool false] 4) (vs := [.bool true]) (by decide)
  obtain ⟨G2, g2, q2, o2, l2⟩ := gst_at (o := 0) q1 (vs := [.bool true]) (by decide)
  obtain ⟨G3, g3, q3, o3, l3⟩ := gst_at (o := 0) q2 (vs := [.bool true]) (by decide)
  have old : ∀ i, i < G.length → G1[i]? = G[i]? ∧ G2[i]? = G[i]? ∧ G3[i]? = G[i]? := fun i hi => by
    have e1 : G1[i]? = G[i]? := by rw [o1 i (by omega), gnew_old hi]
    have e2 : G2[i]? = G[i]? := by rw [o2 i (by omega), e1]
    exact ⟨e1, e2, by rw [o3 i (by omega), e2]⟩
  have K3 : Keeps G.length G G3 := ⟨by rw [l3, l2, l1, gnew_length]; omega, fun i hi => (old i hi).2.2⟩
  have K1 : Keeps G.length G G1 := ⟨by rw [l1, gnew_length]; omega, fun i hi => (old i hi).1⟩
  have K2 : Keeps G.length G G2 := ⟨by rw [l2, l1, gnew_length]; omega, fun i hi => (old i hi).2.1⟩
  have hB1 := hB.keep K1 hlt
  have hB2 := hB.keep K2 hlt
  have hB3 := hB.keep K3 hlt
  have b1 : BL G1 G.length [.bool false, .bool false, .bool true] 4 := ⟨1, by decide, q1⟩
  have b3 : BL G3 G.length [.bool true, .bool false, .bool true] 4 := ⟨1, by decide, q3⟩
  have w0 : IntKind.wrap .i64 ((2 : Int) + (1 : Int)) = 3 := by decide
  have w1 : IntKind.wrap .i64 ((2 : Int) - (1 : Int)) = 1 := by decide
  have w2 : IntKind.wrap .i64 ((1 : Int) - (1 : Int)) = 0 := by decide
  have w3 : IntKind.wrap .i64 ((0 : Int) - (1 : Int)) = -1 := by decide
  have room : roomI = 1099511627776 := rfl
  have cc : (decide (0 ≤ (3 : Int) ∧ (3 : Int) ≤ (3 : Int) ∧ (3 : Int) * 1 ≤ roomI ∧ (3 : Int) ≤ roomI) && true && true) = true := by
    rw [room]; decide
  have n2 : Int.toNat (3 : Int) = 3 := rfl
  have fl : (List.replicate 3 [IV.bool false]).flatten = [IV.bool false, .bool false, .bool false] := rfl
  have d0 : decide ((0 : Int) ≥ 0) = true := by decide
  have d1 : decide ((1 : Int) ≥ 0) = true := by decide
  have d2 : decide ((2 : Int) ≥ 0) = true := by decide
  have dm : decide ((-1 : Int) ≥ 0) = false := by decide
  have ga : gaddr G = ⟨G.length, 0⟩ := rfl
  have x2 : idx? (some (⟨G.length, 0⟩ : GA)) 3 (2 : Int) 1 = some ⟨G.length, 2⟩ := by simp [idx?, GA.add]
  have x1 : idx? (some (⟨G.length, 0⟩ : GA)) 3 (1 : Int) 1 = some ⟨G.length, 1⟩ := by simp [idx?, GA.add]
  have x0 : idx? (some (⟨G.length, 0⟩ : GA)) 3 (0 : Int) 1 = some ⟨G.length, 0⟩ := by simp [idx?, GA.add]
  have y2 : idx? (some (⟨bt, 0⟩ : GA)) 3 (2 : Int) 8 = some ⟨bt, 16⟩ := by simp [idx?, GA.add]
  have y0 : idx? (some (⟨bt, 0⟩ : GA)) 3 (0 : Int) 8 = some ⟨bt, 0⟩ := by simp [idx?, GA.add]
  have ad : ∀ i j, GA.add (⟨bt, i⟩ : GA) j = ⟨bt, i + j⟩ := fun i j => rfl
  have j2 := hB1.int (i := 16) (x := 2) rfl
  have jB := hB1.int (i := 21) (x := 0) rfl
  have jA := hB2.int (i := 20) (x := 0) rfl
  have j0 := hB3.int (i := 0) (x := 1) rfl
  have e2 := b1.boo (i := 2) (x := true) rfl
  have e1 := b3.boo (i := 1) (x := false) rfl
  have e0 := b3.boo (i := 0) (x := true) rfl
  have k22 : ((2 : Int) == 2) = true := by decide
  have k12 : ((1 : Int) == 2) = false := by decide
  have k13 : ((1 : Int) == 3) = false := by decide
  have k15 : ((1 : Int) == 5) = false := by decide
  refine ⟨G3, b3, K3, fun k => ?_⟩
  rw [e_texture_needed]
  simp only [u_texture_needed, w0, cc, cond_true, n2, ga, x2, Option.bind_some, fl, g1, L_texture_needed_0]
  rw [l_texture_needed_0]
  simp only [u_texture_needed_0, d2, cond_true, L_texture_needed_1, stepN_succ, l_texture_needed_1, u_texture_needed_1, x2, Option.bind_some, e2, Bool.not_true, cond_false, y2, ad, Nat.add_zero, Nat.reduceAdd, j2, L_texture_needed_2, l_texture_needed_2, u_texture_needed_2, L_texture_needed_3, l_texture_needed_3, u_texture_needed_3,
    L_texture_needed_4, l_texture_needed_4, u_texture_needed_4, k22, a_texture_needed_43, a_texture_needed_3N, jB, x0, g2, a_texture_needed_2N, jA, g3, a_texture_needed_1N, w1]
  rw [l_texture_needed_0]
  simp only [u_texture_needed_0, d1, cond_true, L_texture_needed_1, stepN_succ, l_texture_needed_1, u_texture_needed_1, x1, Option.bind_some, e1, Bool.not_false, a_texture_needed_1N, w2]
  rw [l_texture_needed_0]
  simp only [u_texture_needed_0, d0, cond_true, L_texture_needed_1, stepN_succ, l_texture_needed_1, u_texture_needed_1, x0, Option.bind_some, e0, Bool.not_true, cond_false, y0, ad, Nat.add_zero, Nat.reduceAdd, j0, L_texture_needed_2, l_texture_needed_2, u_texture_needed_2, L_texture_needed_3, l_texture_needed_3, u_texture_needed_3,
    L_texture_needed_4, l_texture_needed_4, u_texture_needed_4, k12, k13, k15, a_texture_needed_4N, a_texture_needed_32, a_texture_needed_22, a_texture_needed_1N, w3]
  rw [l_texture_needed_0]
  simp only [u_texture_needed_0, dm, cond_false, a_texture_needed_00]
end
end Go.LI.Film
