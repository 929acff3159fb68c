/- Spans are in order; a product with one is the span itself. -/
import Derived.Test.YtbjcipikclbecaaTvK
namespace Go.LI.Film
open Go.Proofs.Ytbjcipikclbecaa Go Go.Proofs Go.LI Go.LI.Fl
set_option linter.unusedVariables false
set_option linter.unusedSimpArgs false
set_option maxRecDepth 100000
set_option exponentiation.threshold 2500

/-! ### Order -/
theorem mulV_le (a c : Nat) : sv (mulV a c true) ≤ sv (mulV a c false) := by
  unfold mulV
  split
  · rw [mulR_rd, mulR_rd]; exact rdP_dn_up
  · exact Int.le_refl _
theorem min_r (x y : Nat) : sv (minW x y) ≤ sv y := by rw [sv_min]; exact Int.min_le_right _ _
theorem max_r (x y : Nat) : sv y ≤ sv (maxW x y) := by rw [sv_max]; exact Int.le_max_right _ _
theorem proL_eq (a b c d : Nat) : ∃ x, proL a b c d = minW x (mulV b d true) := ⟨_, rfl⟩
theorem proH_eq (a b c d : Nat) : ∃ x, proH a b c d = maxW x (mulV b d false) := ⟨_, rfl⟩
theorem pro_le (a b c d : Nat) : sv (proL a b c d) ≤ sv (proH a b c d) := by
  obtain ⟨x, hx⟩ := proL_eq a b c d
  obtain ⟨y, hy⟩ := proH_eq a b c d
  rw [hx, hy]
  exact Int.le_trans (min_r _ _) (Int.le_trans (mulV_le b d) (max_r _ _))
theorem mul_le (a b c d : Nat) : sv (mulL a b c d) ≤ sv (mulH a b c d) := by
  unfold mulL mulH
  cases nilS a b || nilS c d with
  | true => rw [cond_true, cond_true]; exact Int.le_refl _
  | false =>
    rw [cond_false, cond_false]
    cases wideS a b || wideS c d with
    | true =>
      rw [cond_true, cond_true, inf_sv.1, inf_sv.2]
      have := MI_pos
      generalize MI = M at this ⊢
      omega
    | false =>
      rw [cond_false, cond_false]
      exact pro_le a b c d
theorem of_le {x : Nat} (h : x < 2 ^ 64) : sv (ofL x) ≤ sv (ofH x) := by
  unfold ofL ofH
  cases fin x with
  | true => rw [cond_true, cond_true]; exact Int.le_refl _
  | false =>
    rw [cond_false, cond_false, inf_sv.1, inf_sv.2]
    have := MI_pos
    generalize MI = M at this ⊢
    omega
theorem addR_rd (a b : Nat) (d : Bool) : addR a b d = rdP (sv a + sv b) 1 d := rfl
theorem low_le {a b c d : Nat} (hl : clean a) (hc : clean c) (hb : clean b) (hd : clean d) (h1 : sv a ≤ sv c) (h2 : sv b ≤ sv d) : sv (lowX a b) ≤ sv (highX c d) := by
  by_cases f1 : (fin a && fin b) = true
  · by_cases f2 : (fin c && fin d) = true
    · unfold lowX highX
      rw [if_pos f1, if_pos f2, addR_rd, addR_rd]
      have m1 := rdP_mono (B := 1) (d := true) (by decide) (show sv a + sv b ≤ sv c + sv d by omega)
      have m2 := rdP_dn_up (P := sv c + sv d) (B := 1)
      omega
    · have e : highX c d = infW := if_neg f2
      rw [e, inf_sv.1]
      exact (num_sv (clean_lowX a b).1).2
  · have e : lowX a b = ninfW := if_neg f1
    rw [e, inf_sv.2]
    exact (num_sv (clean_highX c d).1).1
/-- A value whose spans are in order. -/
structure Vl.ord (v : Vl) : Prop where
  o0 : sv v.l0 ≤ sv v.h0
  o1 : sv v.l1 ≤ sv v.h1
  o2 : sv v.l2 ≤ sv v.h2
theorem Vl.ord_nil : Vl.nil.ord := ⟨Int.le_refl _, Int.le_refl _, Int.le_refl _⟩
theorem vl_ordD {vs : List Vl} (h : ∀ v ∈ vs, v.ord) (i : Nat) : (vs.getD i Vl.nil).ord := by
  rw [List.getD_eq_getElem?_getD]
  cases hi : vs[i]? with
  | none => exact Vl.ord_nil
  | some v => exact h v (List.mem_of_getElem? hi)
theorem sampV_ord {w h : Int} {px : List Tri} (hp : ∀ c ∈ px, Tri.w c) (u0 u1 v0 v1 : Nat) : (sampV w h px u0 u1 v0 v1).ord := by
  unfold sampV
  cases lawful w h px.length with
  | false => exact ⟨Int.le_refl _, Int.le_refl _, Int.le_refl _⟩
  | true =>
    rw [cond_true]
    simp only
    generalize (wrapN _ h * w + wrapN _ w).toNat = i
    have hw : Tri.w (px.getD i (0, 0, 0)) := by
      rw [List.getD_eq_getElem?_getD]
      cases hi : px[i]? with
      | none => exact ⟨by decide, by decide, by decide⟩
      | some c => exact hp c (List.mem_of_getElem? hi)
    exact ⟨of_le hw.1, of_le hw.2.1, of_le hw.2.2⟩
theorem oneV_ord {ps : List Pi} {u0 u1 v0 v1 : Nat} {t : Tx} {x y : Vl} (hp : ∀ p ∈ ps, Pi.w' p) (ht : t.w) (hx : x.ord) (hy : y.ord) : (oneV ps u0 u1 v0 v1 t x y).ord := by
  unfold oneV
  cases t.k == 2 with
  | true =>
    rw [cond_true]
    simp only
    generalize (Int.tmod _ 2 != 0) = c
    cases c with
    | true => exact ⟨hy.o0, hy.o1, hy.o2⟩
    | false => exact ⟨hx.o0, hx.o1, hx.o2⟩
  | false =>
    rw [cond_false]
    cases t.k == 3 with
    | true =>
      rw [cond_true]
      refine ⟨?_, ?_, ?_⟩ <;> exact low_le (clean_mulL _ _ _ _) (clean_mulH _ _ _ _) (clean_mulL _ _ _ _) (clean_mulH _ _ _ _) (mul_le _ _ _ _) (mul_le _ _ _ _)
    | false =>
      rw [cond_false]
      cases t.k == 4 with
      | true =>
        rw [cond_true]
        simp only
        refine sampV_ord ?_ _ _ _ _
        rw [List.getD_eq_getElem?_getD]
        cases hi : ps[t.im.toNat]? with
        | none => intro c hc; cases hc
        | some p => exact hp p (List.mem_of_getElem? hi)
      | false =>
        rw [cond_false]
        cases t.k == 5 with
        | true => rw [cond_true]; exact ⟨mul_le _ _ _ _, mul_le _ _ _ _, mul_le _ _ _ _⟩
        | false => rw [cond_false]; exact ⟨of_le ht.1, of_le ht.2.1, of_le ht.2.2.1⟩
theorem evRun_ord {ps : List Pi} {u0 u1 v0 v1 : Nat} {ts : List Tx} {nd : List Bool} (hp : ∀ p ∈ ps, p.w') (ht : TsW ts) : ∀ (r i : Nat) (vs : List Vl), (∀ v ∈ vs, v.ord) → ∀ v ∈ evRun (oneV ps u0 u1 v0 v1) ts nd r i vs, v.ord
  | 0, i, vs, h => h
  | r + 1, i, vs, h => by
    rw [evRun]
    refine evRun_ord hp ht r (i + 1) _ ?_
    cases nd.getD i false with
    | false => rw [cond_false]; exact h
    | true =>
      rw [cond_true]
      intro v hv
      rcases List.mem_or_eq_of_mem_set hv with h1 | h1
      · exact h v h1
      · subst h1
        exact oneV_ord hp (ht.at i) (vl_ordD h _) (vl_ordD h _)
theorem evV_ord {ps : List Pi} {u0 u1 v0 v1 : Nat} {ts : List Tx} (hp : ∀ p ∈ ps, Pi.w' p) (ht : TsW ts) (n : Int) : (evV ps u0 u1 v0 v1 ts n).ord := by
  unfold evV
  cases (evE ts ps.length n == 0) with
  | false => exact Vl.ord_nil
  | true =>
    rw [cond_true]
    unfold evAll
    refine vl_ordD (evRun_ord hp ht _ _ _ ?_) _
    intro v hv
    rw [List.mem_replicate] at hv
    rw [hv.2]
    exact Vl.ord_nil

/-! ### Times one -/
theorem rnd_exact {r B : Nat} {g : Bool} (hB : 0 < B) : rndR (mag dbl r * B) B g = r := by
  have h1 : rndR (mag dbl r * B) B g ≤ r := rnd_cap hB (Nat.le_refl _)
  have h2 : r ≤ rndR (mag dbl r * B) B false := rnd_max hB (Nat.le_refl _)
  have h3 := rnd_gro (A := mag dbl r * B) (B := B)
  cases g <;> omega
theorem rd_one {x : Nat} (hf : fin x = true) (d : Bool) : sv (rdP (sv x * (one74 : Int)) one74 d) = sv x := by
  have hr : rg dbl x < 9218868437227405312 := of_decide_eq_true hf
  have hp : (0 : Int) < (one74 : Int) := by have := one74_pos; omega
  have hn : (sv x * (one74 : Int)).natAbs = mag dbl (rg dbl x) * one74 := by
    rw [Int.natAbs_mul, Int.natAbs_natCast, sv_sgnV]
    cases sg dbl x <;> simp [sgn]
  unfold rdP
  rw [hn, rnd_exact one74_pos, sv_sealC]
  unfold capR
  rw [if_pos hr]
  by_cases h : sv x < 0
  · rw [decide_eq_true (Int.mul_neg_of_neg_of_pos h hp)]
    rw [sv_sgnV] at h ⊢
    cases hs : sg dbl x with
    | true => rfl
    | false => rw [hs] at h; simp only [sgn, Bool.false_eq_true, if_false] at h; omega
  · have h1 : 0 ≤ sv x * (one74 : Int) := Int.mul_nonneg (by omega) (by omega)
    rw [decide_eq_false (by omega)]
    rw [sv_sgnV] at h ⊢
    cases hs : sg dbl x with
    | false => rfl
    | true =>
      rw [hs] at h
      simp only [sgn, if_true] at h ⊢
      simp only [Bool.false_eq_true, if_false]
      omega
theorem mmB {M A B : Int} (h : A ≤ B) (h1 : -M < A) (h2 : B < M) : min M (min A B) = A ∧ max (-M) (max A B) = B := by omega
/-- A span of numbers times one. -/
theorem mul_one' {a b : Nat} (ha : clean a) (hb : clean b) (hw : wideS a b = false) (h : sv a ≤ sv b) : mulL a b (ofL 4607182418800017408) (ofH 4607182418800017408) = a ∧ mulH a b (ofL 4607182418800017408) (ofH 4607182418800017408) = b := by
  rw [(of_fin one_sv.2.2).1, (of_fin one_sv.2.2).2, zw_one]
  have hf : (fin a && fin b) = true := by unfold wideS at hw; simpa using hw
  obtain ⟨p1, -, -⟩ := mul_sv ha.1 hb.1 one_sv.1 one_sv.2.2
  obtain ⟨q1, q2⟩ := p1 hf
  rw [Bool.and_eq_true] at hf
  rw [one_sv.2.1, rd_one hf.1, rd_one hf.2] at q1 q2
  have ga := (fin_iff ha.1).1 hf.1
  have gb := (fin_iff hb.1).1 hf.2
  obtain ⟨e1, e2⟩ := mmB h ga.1 gb.2
  exact ⟨clean_eq (clean_mulL _ _ _ _) ha (q1.trans e1), clean_eq (clean_mulH _ _ _ _) hb (q2.trans e2)⟩
theorem oneV_tS {ps : List Pi} {u0 u1 v0 v1 m : Nat} {x y : Vl} (hx : x.ok) (ho : x.ord) (w0 : wideS x.l0 x.h0 = false) (w1 : wideS x.l1 x.h1 = false) (w2 : wideS x.l2 x.h2 = false) : oneV ps u0 u1 v0 v1 (tS m) x y = x := by
  unfold oneV tS
  simp only [show ((5 : Int) == 2) = false from rfl, show ((5 : Int) == 3) = false from rfl, show ((5 : Int) == 4) = false from rfl, show ((5 : Int) == 5) = true from rfl, cond_false, cond_true]
  rw [(mul_one' hx.a0 hx.b0 w0 ho.o0).1, (mul_one' hx.a0 hx.b0 w0 ho.o0).2, (mul_one' hx.a1 hx.b1 w1 ho.o1).1, (mul_one' hx.a1 hx.b1 w1 ho.o1).2, (mul_one' hx.a2 hx.b2 w2 ho.o2).1, (mul_one' hx.a2 hx.b2 w2 ho.o2).2]
/-- Not wide at all. -/
def wideV (v : Vl) : Bool := wideS v.l0 v.h0 || (wideS v.l1 v.h1 || wideS v.l2 v.h2)
/-- The longer list gives the same. -/
theorem evV_more {ps : List Pi} {u0 u1 v0 v1 : Nat} {ts : List Tx} {m : Nat} (hp : ∀ p ∈ ps, Pi.w' p) (ht : TsW ts) (h : m < ts.length) (he : evE ts ps.length (m : Int) = 0) (hw : wideV (evV ps u0 u1 v0 v1 ts (m : Int)) = false) : evV ps u0 u1 v0 v1 (moreT ts m) ((m + 1 : Nat) : Int) = evV ps u0 u1 v0 v1 ts (m : Int) := by
  have ok := evV_ok (u0 := u0) (u1 := u1) (v0 := v0) (v1 := v1) hp ht (m : Int)
  have ord := evV_ord (u0 := u0) (u1 := u1) (v0 := v0) (v1 := v1) hp ht (m : Int)
  obtain ⟨y, hy⟩ := all_more (ps := ps) (u0 := u0) (u1 := u1) (v0 := v0) (v1 := v1) h he
  have e1 : evV ps u0 u1 v0 v1 ts (m : Int) = evAll (oneV ps u0 u1 v0 v1) ts m := by
    unfold evV
    rw [he, Int.toNat_natCast]
    rfl
  have e2 : evV ps u0 u1 v0 v1 (moreT ts m) ((m + 1 : Nat) : Int) = evAll (oneV ps u0 u1 v0 v1) (moreT ts m) (m + 1) := by
    unfold evV
    rw [ev_more h he, Int.toNat_natCast]
    rfl
  rw [e1] at ok ord hw
  rw [e1, e2, hy]
  unfold wideV at hw
  rw [Bool.or_eq_false_iff, Bool.or_eq_false_iff] at hw
  exact oneV_tS ok ord hw.1 hw.2.1 hw.2.2
end Go.LI.Film
