/- All textures evaluated, or only those that are needed; a list made longer by a scaled texture. -/
import Derived.Test.YtbjcipikclbecaaTvJ
namespace Go.LI.Film
open Go.Proofs.Ytbjcipikclbecaa Go Go.Proofs Go.LI Go.LI.Fl
set_option linter.unusedVariables false
set_option linter.unusedSimpArgs false
set_option maxRecDepth 100000
set_option exponentiation.threshold 2500

/-! ### Only those that are needed -/
theorem getD_true {nd : List Bool} {o j : Nat} (h : nd.getD j false = true) : (nd.set o true).getD j false = true := by
  by_cases hoj : o = j
  · subst hoj
    by_cases hl : o < nd.length
    · exact getD_set_self hl
    · rw [List.set_eq_of_length_le (by omega)]; exact h
  · rw [getD_set_ne hoj]; exact h
theorem ndStep_mono {t : Tx} {i j : Nat} {nd : List Bool} (h : nd.getD j false = true) : (ndStep t i nd).getD j false = true := by
  unfold ndStep
  cases nd.getD i false with
  | false => exact h
  | true =>
    rw [cond_true]
    cases t.k == 2 || t.k == 3 with
    | true => exact getD_true (getD_true h)
    | false =>
      rw [cond_false]
      cases t.k == 5 with
      | true => exact getD_true h
      | false => exact h
theorem ndRun_mono (ts : List Tx) {j : Nat} : ∀ (i : Nat) {nd : List Bool}, nd.getD j false = true → (ndRun ts i nd).getD j false = true
  | 0, nd, h => h
  | i + 1, nd, h => by rw [ndRun]; exact ndRun_mono ts i (ndStep_mono h)
/-- What a needed texture leans on is needed. -/
def Leans (t : Tx) (nd : List Bool) : Prop := (t.k = 2 ∨ t.k = 3 → nd.getD t.a.toNat false = true ∧ nd.getD t.b.toNat false = true) ∧ (t.k = 5 → nd.getD t.a.toNat false = true)
/-- All lean on what stands ahead of them. -/
def Ahead (ts : List Tx) (n : Nat) : Prop := ∀ i, i < n → ChkOk (ts.getD i Tx.nil) (i : Int) (0 : Int) ∨ ∃ p : Int, ChkOk (ts.getD i Tx.nil) (i : Int) p
theorem Ahead.two {ts : List Tx} {n i : Nat} (h : Ahead ts n) (hi : i < n) (hk : (ts.getD i Tx.nil).k = 2 ∨ (ts.getD i Tx.nil).k = 3) : (0 ≤ (ts.getD i Tx.nil).a ∧ (ts.getD i Tx.nil).a < (i : Int)) ∧ (0 ≤ (ts.getD i Tx.nil).b ∧ (ts.getD i Tx.nil).b < (i : Int)) := by
  rcases h i hi with h | ⟨p, h⟩ <;> exact h.two hk
theorem Ahead.sc {ts : List Tx} {n i : Nat} (h : Ahead ts n) (hi : i < n) (hk : (ts.getD i Tx.nil).k = 5) : 0 ≤ (ts.getD i Tx.nil).a ∧ (ts.getD i Tx.nil).a < (i : Int) := by
  rcases h i hi with h | ⟨p, h⟩ <;> exact h.sc hk
theorem ndStep_at {ts : List Tx} {n i : Nat} (h : Ahead ts n) (hi : i < n) {nd : List Bool} {j : Nat} (hj : i ≤ j) : (ndStep (ts.getD i Tx.nil) i nd).getD j false = nd.getD j false := by
  unfold ndStep
  cases nd.getD i false with
  | false => rfl
  | true =>
    rw [cond_true]
    cases h2 : (ts.getD i Tx.nil).k == 2 || (ts.getD i Tx.nil).k == 3 with
    | true =>
      have := h.two hi (by simpa using h2)
      rw [cond_true, getD_set_ne (by omega), getD_set_ne (by omega)]
    | false =>
      rw [cond_false]
      cases h5 : (ts.getD i Tx.nil).k == 5 with
      | true =>
        have := h.sc hi (by simpa using h5)
        rw [cond_true, getD_set_ne (by omega)]
      | false => rfl
theorem ndRun_at {ts : List Tx} {n : Nat} (h : Ahead ts n) {j : Nat} : ∀ (i : Nat) {nd : List Bool}, i ≤ n → i ≤ j + 1 → (ndRun ts i nd).getD j false = true → i ≤ j → nd.getD j false = true
  | 0, nd, _, _, hr, _ => hr
  | i + 1, nd, hi, hj, hr, hij => by
    rw [ndRun] at hr
    have := ndRun_at h i (by omega) (by omega) hr (by omega)
    rwa [ndStep_at h (by omega) (by omega)] at this
theorem nd_closed {ts : List Tx} {n : Nat} (h : Ahead ts n) : ∀ (i : Nat) {nd : List Bool}, i ≤ n → n ≤ nd.length → ∀ j, j < i → (ndRun ts i nd).getD j false = true → Leans (ts.getD j Tx.nil) (ndRun ts i nd)
  | 0, nd, _, _, j, hj, _ => by omega
  | i + 1, nd, hi, hl, j, hj, hr => by
    rw [ndRun] at hr ⊢
    by_cases hji : j = i
    · subst hji
      have h1 := ndRun_at h j (by omega) (by omega) hr (Nat.le_refl _)
      rw [ndStep_at h (by omega) (Nat.le_refl _)] at h1
      refine ⟨fun hk => ?_, fun hk => ?_⟩
      · have hh := h.two (by omega) hk
        have e : ndStep (ts.getD j Tx.nil) j nd = (nd.set (ts.getD j Tx.nil).b.toNat true).set (ts.getD j Tx.nil).a.toNat true := by
          unfold ndStep
          rw [h1, cond_true, show ((ts.getD j Tx.nil).k == 2 || (ts.getD j Tx.nil).k == 3) = true by simpa using hk, cond_true]
        rw [e]
        exact ⟨ndRun_mono ts j (getD_set_self (by rw [List.length_set]; omega)), ndRun_mono ts j (getD_true (getD_set_self (by omega)))⟩
      · have hh := h.sc (by omega) hk
        have e : ndStep (ts.getD j Tx.nil) j nd = nd.set (ts.getD j Tx.nil).a.toNat true := by
          unfold ndStep
          rw [h1, cond_true, hk]
          rfl
        rw [e]
        exact ndRun_mono ts j (getD_set_self (by omega))
    · exact nd_closed h i (by omega) (by rw [ndStep_length]; exact hl) j (by omega) hr
/-- A texture's value hangs on what it leans on alone. -/
theorem oneV_lean {ps : List Pi} {u0 u1 v0 v1 : Nat} {t : Tx} {x y x' y' : Vl} (h2 : t.k = 2 ∨ t.k = 3 → x' = x ∧ y' = y) (h5 : t.k = 5 → x' = x) : oneV ps u0 u1 v0 v1 t x' y' = oneV ps u0 u1 v0 v1 t x y := by
  by_cases k2 : t.k = 2 ∨ t.k = 3
  · obtain ⟨e1, e2⟩ := h2 k2
    rw [e1, e2]
  · by_cases k5 : t.k = 5
    · have e1 := h5 k5
      have q2 : (t.k == 2) = false := by rw [k5]; rfl
      have q3 : (t.k == 3) = false := by rw [k5]; rfl
      rw [e1]
      unfold oneV
      simp only [q2, q3, cond_false]
    · have q2 : (t.k == 2) = false := by rw [beq_eq_false_iff_ne]; exact fun h => k2 (.inl h)
      have q3 : (t.k == 3) = false := by rw [beq_eq_false_iff_ne]; exact fun h => k2 (.inr h)
      have q5 : (t.k == 5) = false := by rw [beq_eq_false_iff_ne]; exact k5
      unfold oneV
      simp only [q2, q3, q5, cond_false]
theorem run_same {ps : List Pi} {u0 u1 v0 v1 : Nat} {ts : List Tx} {n : Nat} {nd ndT : List Bool} (hl : ∀ j, j < n → nd.getD j false = true → Leans (ts.getD j Tx.nil) nd) (hT : ∀ j, j < n → ndT.getD j false = true) :
    ∀ (r i : Nat) (vs ws : List Vl), i + r = n → vs.length = n → ws.length = n → (∀ j, nd.getD j false = true → vs.getD j Vl.nil = ws.getD j Vl.nil) →
      ∀ j, nd.getD j false = true → (evRun (oneV ps u0 u1 v0 v1) ts nd r i vs).getD j Vl.nil = (evRun (oneV ps u0 u1 v0 v1) ts ndT r i ws).getD j Vl.nil
  | 0, i, vs, ws, hi, hv, hw, h => h
  | r + 1, i, vs, ws, hi, hv, hw, h => by
    rw [evRun, evRun, hT i (by omega), cond_true]
    cases hn : nd.getD i false with
    | false =>
      rw [cond_false]
      refine run_same hl hT r (i + 1) _ _ (by omega) hv (by rw [List.length_set, hw]) fun j hj => ?_
      have hne : i ≠ j := fun hc => by subst hc; rw [hn] at hj; cases hj
      rw [getD_set_ne hne]
      exact h j hj
    | true =>
      rw [cond_true]
      have hL := hl i (by omega) hn
      refine run_same hl hT r (i + 1) _ _ (by omega) (by rw [List.length_set, hv]) (by rw [List.length_set, hw]) fun j hj => ?_
      by_cases hij : i = j
      · subst hij
        rw [getD_set_self (by omega), getD_set_self (by omega)]
        exact oneV_lean (fun hk => ⟨h _ (hL.1 hk).1, h _ (hL.1 hk).2⟩) (fun hk => h _ (hL.2 hk))
      · rw [getD_set_ne hij, getD_set_ne hij]
        exact h j hj
/-- Yes or Unsure. -/
def yu (v : Vl) : Prop := v.s = 1 ∨ v.s = 2
theorem both_yu (a b : Int) : both a b = 1 ∨ both a b = 2 := by
  unfold both
  cases (a == 1 && b == 1)
  · exact .inr rfl
  · exact .inl rfl
theorem sampV_yu (w h : Int) (px : List Tri) (u0 u1 v0 v1 : Nat) : yu (sampV w h px u0 u1 v0 v1) := by
  unfold sampV yu
  cases lawful w h px.length with
  | false => rw [cond_false]; exact .inr rfl
  | true => rw [cond_true]; exact both_yu _ _
theorem oneV_yu {ps : List Pi} {u0 u1 v0 v1 : Nat} {t : Tx} {x y : Vl} (h5 : t.k = 5 → yu x) : yu (oneV ps u0 u1 v0 v1 t x y) := by
  unfold oneV
  cases k2 : t.k == 2 with
  | true => rw [cond_true]; exact both_yu _ _
  | false =>
    rw [cond_false]
    cases k3 : t.k == 3 with
    | true => rw [cond_true]; exact both_yu _ _
    | false =>
      rw [cond_false]
      cases k4 : t.k == 4 with
      | true => rw [cond_true]; exact sampV_yu _ _ _ _ _ _ _
      | false =>
        rw [cond_false]
        cases k5 : t.k == 5 with
        | true => rw [cond_true]; exact h5 (by simpa using k5)
        | false => rw [cond_false]; exact .inl rfl
theorem run_yu {ps : List Pi} {u0 u1 v0 v1 : Nat} {ts : List Tx} {n : Nat} {ndT : List Bool} (hA : Ahead ts n) (hT : ∀ j, j < n → ndT.getD j false = true) :
    ∀ (r i : Nat) (ws : List Vl), i + r = n → ws.length = n → (∀ j, j < i → yu (ws.getD j Vl.nil)) → ∀ j, j < n → yu ((evRun (oneV ps u0 u1 v0 v1) ts ndT r i ws).getD j Vl.nil)
  | 0, i, ws, hi, hw, h, j, hj => h j (by omega)
  | r + 1, i, ws, hi, hw, h, j, hj => by
    rw [evRun, hT i (by omega), cond_true]
    refine run_yu hA hT r (i + 1) _ (by omega) (by rw [List.length_set, hw]) (fun j hj => ?_) j hj
    by_cases hij : i = j
    · subst hij
      rw [getD_set_self (by omega)]
      refine oneV_yu fun hk => ?_
      have := hA.sc (by omega) hk
      exact h _ (by omega)
    · rw [getD_set_ne hij]
      exact h j (by omega)

theorem rep_true {n j : Nat} (h : j < n) : (List.replicate n true).getD j false = true := by
  rw [List.getD_eq_getElem?_getD, List.getElem?_replicate, if_pos h]; rfl
theorem ahead_of {ts : List Tx} {m : Nat} {p : Int} (hl : m ≤ ts.length) (h : ∀ (j : Nat) (t : Tx), j < m → ts[j]? = some t → chk t (j : Int) p = 0) : Ahead ts m := fun i hi => by
  have hg := List.getElem?_eq_getElem (show i < ts.length by omega)
  have hgd : ts.getD i Tx.nil = ts[i]'(by omega) := by rw [List.getD_eq_getElem?_getD, hg]; rfl
  rw [hgd]
  exact .inr ⟨p, chk_ok (h i _ hi hg)⟩
/-- All evaluated, or only what is needed: the same. -/
theorem all_same {ps : List Pi} {u0 u1 v0 v1 : Nat} {ts : List Tx} {m : Nat} (hA : Ahead ts (m + 1)) :
    (evRun (oneV ps u0 u1 v0 v1) ts (List.replicate (m + 1) true) (m + 1) 0 (List.replicate (m + 1) Vl.nil)).getD m Vl.nil = evAll (oneV ps u0 u1 v0 v1) ts m ∧ yu (evAll (oneV ps u0 u1 v0 v1) ts m) := by
  have hlen : (List.replicate (m + 1) Vl.nil).length = m + 1 := List.length_replicate
  have h1 := run_same (ps := ps) (u0 := u0) (u1 := u1) (v0 := v0) (v1 := v1) (ts := ts) (n := m + 1) (nd := evNd ts m) (ndT := List.replicate (m + 1) true)
    (fun j hj hr => nd_closed hA (m + 1) (Nat.le_refl _) (by rw [List.length_set, List.length_replicate]; omega) j hj hr) (fun j hj => rep_true hj) (m + 1) 0 (List.replicate (m + 1) Vl.nil) (List.replicate (m + 1) Vl.nil) (by omega) hlen hlen (fun j _ => rfl) m
    (ndRun_mono ts (m + 1) (getD_set_self (by rw [List.length_replicate]; omega)))
  have h2 := run_yu (ps := ps) (u0 := u0) (u1 := u1) (v0 := v0) (v1 := v1) hA (fun j hj => rep_true hj) (m + 1) 0 (List.replicate (m + 1) Vl.nil) (by omega) hlen (fun j hj => by omega) m (by omega)
  unfold evAll
  rw [h1]
  exact ⟨rfl, h2⟩

/-! ### A longer list -/
theorem run_succ (f : Tx → Vl → Vl → Vl) (ts : List Tx) (nd : List Bool) : ∀ (r i : Nat) (vs : List Vl), evRun f ts nd (r + 1) i vs =
    bif nd.getD (i + r) false then (evRun f ts nd r i vs).set (i + r) (f (ts.getD (i + r) Tx.nil) ((evRun f ts nd r i vs).getD (ts.getD (i + r) Tx.nil).a.toNat Vl.nil) ((evRun f ts nd r i vs).getD (ts.getD (i + r) Tx.nil).b.toNat Vl.nil)) else evRun f ts nd r i vs
  | 0, i, vs => rfl
  | r + 1, i, vs => by
    rw [evRun, run_succ f ts nd r (i + 1)]
    rw [show evRun f ts nd (r + 1) i vs = evRun f ts nd r (i + 1) (bif nd.getD i false then vs.set i (f (ts.getD i Tx.nil) (vs.getD (ts.getD i Tx.nil).a.toNat Vl.nil) (vs.getD (ts.getD i Tx.nil).b.toNat Vl.nil)) else vs) from rfl]
    rw [show i + 1 + r = i + (r + 1) by omega]
/-- Two lists that begin alike. -/
theorem run_pre {ps : List Pi} {u0 u1 v0 v1 : Nat} {ts ts' : List Tx} {n : Nat} {nd nd' : List Bool} (hA : Ahead ts n) (hts : ∀ j, j < n → ts'.getD j Tx.nil = ts.getD j Tx.nil) (h1 : ∀ j, j < n → nd.getD j false = true) (h2 : ∀ j, j < n → nd'.getD j false = true) :
    ∀ (r i : Nat) (vs ws : List Vl), i + r = n → n ≤ vs.length → n ≤ ws.length → (∀ j, j < n → ws.getD j Vl.nil = vs.getD j Vl.nil) →
      ∀ j, j < n → (evRun (oneV ps u0 u1 v0 v1) ts' nd' r i ws).getD j Vl.nil = (evRun (oneV ps u0 u1 v0 v1) ts nd r i vs).getD j Vl.nil
  | 0, i, vs, ws, hi, hv, hw, h => h
  | r + 1, i, vs, ws, hi, hv, hw, h => by
    rw [evRun, evRun, h1 i (by omega), h2 i (by omega), cond_true, cond_true]
    refine run_pre hA hts h1 h2 r (i + 1) _ _ (by omega) (by rw [List.length_set]; exact hv) (by rw [List.length_set]; exact hw) fun j hj => ?_
    by_cases hij : i = j
    · subst hij
      rw [getD_set_self (by omega), getD_set_self (by omega), hts i hj]
      refine oneV_lean (fun hk => ?_) (fun hk => ?_)
      · have := hA.two hj hk
        exact ⟨h _ (by omega), h _ (by omega)⟩
      · have := hA.sc hj hk
        exact h _ (by omega)
    · rw [getD_set_ne hij, getD_set_ne hij]
      exact h j hj
/-- A texture scaled by one, and one that is none. -/
def tS (m : Nat) : Tx := ⟨5, 4607182418800017408, 4607182418800017408, 4607182418800017408, (m : Int), 0, 0, 0⟩
def t9 : Tx := ⟨9, 0, 0, 0, 0, 0, 0, 0⟩
def moreT (ts : List Tx) (m : Nat) : List Tx := ts.take (m + 1) ++ [tS m, t9]
theorem more_length {ts : List Tx} {m : Nat} (h : m < ts.length) : (moreT ts m).length = m + 3 := by
  unfold moreT
  rw [List.length_append, List.length_take, Nat.min_eq_left (by omega)]
  rfl
theorem more_at {ts : List Tx} {m : Nat} (h : m < ts.length) {j : Nat} (hj : j < m + 1) : (moreT ts m).getD j Tx.nil = ts.getD j Tx.nil := by
  unfold moreT
  rw [List.getD_eq_getElem?_getD, List.getElem?_append_left (by rw [List.length_take]; omega), List.getElem?_take, if_pos hj, List.getD_eq_getElem?_getD]
theorem more_s {ts : List Tx} {m : Nat} (h : m < ts.length) : (moreT ts m).getD (m + 1) Tx.nil = tS m := by
  unfold moreT
  rw [List.getD_eq_getElem?_getD, List.getElem?_append_right (by rw [List.length_take]; omega), List.length_take, Nat.min_eq_left (by omega), Nat.sub_self]
  rfl
theorem more_w {ts : List Tx} {m : Nat} (h : TsW ts) : TsW (moreT ts m) := fun t ht => by
  unfold moreT at ht
  rw [List.mem_append] at ht
  rcases ht with ht | ht
  · exact h t (List.mem_of_mem_take ht)
  · simp only [List.mem_cons, List.not_mem_nil, or_false] at ht
    rcases ht with rfl | rfl
    · exact ⟨show 4607182418800017408 < 2 ^ 64 by decide, show 4607182418800017408 < 2 ^ 64 by decide, show 4607182418800017408 < 2 ^ 64 by decide, show 0 < 2 ^ 64 by decide⟩
    · exact ⟨by decide, by decide, by decide, by decide⟩
theorem chkA_app {p : Int} (t : Tx) : ∀ {l : List Tx} {i : Nat}, (chkA p l i).2 = 0 → chk t ((i + l.length : Nat) : Int) p = 0 → (chkA p (l ++ [t]) i).2 = 0
  | [], i, _, h => by
    rw [List.nil_append, chkA, show (i : Int) = ((i + ([] : List Tx).length : Nat) : Int) from rfl, h]
    rfl
  | x :: l, i, h, ht => by
    rw [List.cons_append, chkA]
    rw [chkA] at h
    cases hc : (chk x i p != 0) with
    | true =>
      rw [hc, cond_true] at h
      rw [show chk x i p = 0 from h] at hc
      cases hc
    | false =>
      rw [hc, cond_false] at h
      rw [cond_false]
      refine chkA_app t h ?_
      rw [List.length_cons] at ht
      rw [show i + 1 + l.length = i + (l.length + 1) by omega]
      exact ht
theorem chk_tS (m : Nat) (p : Int) : chk (tS m) ((m + 1 : Nat) : Int) p = 0 := by
  unfold chk tS ahd
  rw [decide_eq_true (show (m : Int) ≥ 0 by omega), decide_eq_true (show (m : Int) < ((m + 1 : Nat) : Int) by omega), one_sv.2.2]
  rfl
theorem rep_nil (n j : Nat) : (List.replicate n Vl.nil).getD j Vl.nil = Vl.nil := by
  rw [List.getD_eq_getElem?_getD, List.getElem?_replicate]
  split <;> rfl
theorem more_take {ts : List Tx} {m : Nat} (h : m < ts.length) : (moreT ts m).take (m + 2) = ts.take (m + 1) ++ [tS m] := by
  unfold moreT
  rw [List.take_append, List.take_of_length_le (by rw [List.length_take]; omega), List.length_take, Nat.min_eq_left (by omega), show m + 2 - (m + 1) = 1 by omega]
  rfl
theorem ev_more {ts : List Tx} {m : Nat} {p : Nat} (h : m < ts.length) (he : evE ts p (m : Int) = 0) : evE (moreT ts m) p ((m + 1 : Nat) : Int) = 0 := by
  unfold evE at he ⊢
  rw [decide_eq_false (by omega), decide_eq_false (by omega), Bool.or_self, cond_false, Int.toNat_natCast] at he
  rw [more_length h, decide_eq_false (by omega), decide_eq_false (by omega), Bool.or_self, cond_false, Int.toNat_natCast, more_take h]
  refine chkA_app _ he ?_
  rw [List.length_take, Nat.min_eq_left (by omega), Nat.zero_add]
  exact chk_tS m p
/-- What the longer list gives. -/
theorem all_more {ps : List Pi} {u0 u1 v0 v1 : Nat} {ts : List Tx} {m p : Nat} (h : m < ts.length) (he : evE ts p (m : Int) = 0) : ∃ y, evAll (oneV ps u0 u1 v0 v1) (moreT ts m) (m + 1) = oneV ps u0 u1 v0 v1 (tS m) (evAll (oneV ps u0 u1 v0 v1) ts m) y := by
  have he2 := ev_more h he
  unfold evE at he he2
  rw [decide_eq_false (by omega), decide_eq_false (by omega), Bool.or_self, cond_false, Int.toNat_natCast] at he
  rw [more_length h, decide_eq_false (by omega), decide_eq_false (by omega), Bool.or_self, cond_false, Int.toNat_natCast] at he2
  have A1 : Ahead ts (m + 1) := ahead_of (p := (p : Int)) (by omega) fun j t hj hjt => by
    have := chkA_all he j t (by rw [List.getElem?_take, if_pos hj]; exact hjt)
    rwa [Nat.zero_add] at this
  have A2 : Ahead (moreT ts m) (m + 1 + 1) := ahead_of (p := (p : Int)) (by rw [more_length h]; omega) fun j t hj hjt => by
    have := chkA_all he2 j t (by rw [List.getElem?_take, if_pos hj]; exact hjt)
    rwa [Nat.zero_add] at this
  have e1 := (all_same (ps := ps) (u0 := u0) (u1 := u1) (v0 := v0) (v1 := v1) A1).1
  have e2 := (all_same (ps := ps) (u0 := u0) (u1 := u1) (v0 := v0) (v1 := v1) A2).1
  have e3 := run_pre (ps := ps) (u0 := u0) (u1 := u1) (v0 := v0) (v1 := v1) (ts' := moreT ts m) (nd := List.replicate (m + 1) true) (nd' := List.replicate (m + 1 + 1) true) A1 (fun j hj => more_at h hj) (fun j hj => rep_true hj) (fun j hj => rep_true (by omega)) (m + 1) 0 (List.replicate (m + 1) Vl.nil) (List.replicate (m + 1 + 1) Vl.nil) (by omega) (by rw [List.length_replicate]; exact Nat.le_refl _) (by rw [List.length_replicate]; omega)
    (fun j hj => by rw [rep_nil, rep_nil]) m (by omega)
  rw [e1] at e3
  rw [← e2, run_succ, Nat.zero_add, rep_true (by omega), cond_true, getD_set_self (by rw [evRun_length, List.length_replicate]; omega), more_s h]
  rw [show (tS m).a.toNat = m from Int.toNat_natCast m, e3]
  exact ⟨_, rfl⟩
end Go.LI.Film
