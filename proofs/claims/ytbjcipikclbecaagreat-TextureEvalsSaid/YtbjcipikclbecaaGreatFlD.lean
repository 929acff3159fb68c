/- Rounding to the nearest: which rung is met. -/
import Derived.Test.YtbjcipikclbecaaGreatFlC
set_option linter.unusedVariables false
namespace Go.LI.Fl
open Ieee
def zwC (f : Format) (V S r : Nat) : Prop :=
  (r = 0 ∨ (mag f (r - 1) + mag f r) * S < 2 * V ∨ ((mag f (r - 1) + mag f r) * S = 2 * V ∧ r % 2 = 0)) ∧
  (2 * V < (mag f r + mag f (r + 1)) * S ∨ (2 * V = (mag f r + mag f (r + 1)) * S ∧ r % 2 = 0))
theorem zDE (neg : Bool) (n drop : Nat) :
    (2 * (Toward.even.cut neg n drop) * 2 ^ drop < 2 * n + 2 ^ drop ∨ (2 * (Toward.even.cut neg n drop) * 2 ^ drop = 2 * n + 2 ^ drop ∧ Toward.even.cut neg n drop % 2 = 0)) ∧
    (2 * n < 2 * (Toward.even.cut neg n drop) * 2 ^ drop + 2 ^ drop ∨ (2 * n = 2 * (Toward.even.cut neg n drop) * 2 ^ drop + 2 ^ drop ∧ Toward.even.cut neg n drop % 2 = 0)) := by
  have hD := Nat.two_pow_pos drop
  unfold Toward.cut
  simp only [Nat.shiftLeft_eq, Nat.one_mul]
  rcases Nat.le_total drop (n.log2 + 2) with hd | hd
  · rw [Nat.min_eq_left hd]
    generalize 2 ^ drop = D at hD
    have h1 := Nat.div_add_mod n D
    have h2 := Nat.mod_lt n hD
    generalize n / D = low at h1
    generalize n % D = rest at h1 h2
    have e1 : 2 * (low + 0) * D = 2 * (D * low) := by rw [Nat.add_zero, Nat.mul_assoc, Nat.mul_comm low]
    have e2 : 2 * (low + 1) * D = 2 * (D * low) + 2 * D := by rw [Nat.mul_assoc, Nat.mul_comm (low + 1), Nat.mul_add, Nat.mul_add, Nat.mul_one]
    generalize D * low = P at h1 e1 e2
    by_cases c1 : D < 2 * rest
    · rw [decide_eq_true c1, Bool.true_or, Bool.toNat_true, e2]
      omega
    · rw [decide_eq_false c1, Bool.false_or]
      by_cases c2 : D = 2 * rest
      · rw [show (D == 2 * rest) = true by simpa using c2, Bool.true_and]
        by_cases c3 : low % 2 = 1
        · rw [show (low % 2 == 1) = true by simpa using c3, Bool.toNat_true, e2]
          omega
        · rw [show (low % 2 == 1) = false by simpa using c3, Bool.toNat_false, e1]
          omega
      · rw [show (D == 2 * rest) = false by simpa using c2, Bool.false_and, Bool.toNat_false, e1]
        omega
  · rw [Nat.min_eq_right hd]
    have hn : n < 2 ^ (n.log2 + 1) := Nat.lt_log2_self
    have hg : 2 ^ (n.log2 + 2) = 2 * 2 ^ (n.log2 + 1) := by rw [Nat.pow_succ 2 (n.log2 + 1), Nat.mul_comm]
    have hle : 2 ^ (n.log2 + 2) ≤ 2 ^ drop := Nat.pow_le_pow_right (by decide) hd
    rw [hg] at hle ⊢
    generalize 2 ^ (n.log2 + 1) = g at hn hle
    rw [Nat.div_eq_of_lt (by omega), Nat.mod_eq_of_lt (by omega), decide_eq_false (by omega), Bool.false_or, show (2 * g == 2 * n) = false by rw [beq_eq_false_iff_ne]; omega, Bool.false_and, Bool.toNat_false]
    omega
theorem ziY (f : Format) {q k : Nat} (h1 : k ≤ 2 * f.binade) (h2 : q = 0 ∨ f.binade ≤ k) : mag f (q * f.binade + k) = k * 2 ^ q := by
  have hB := zjz f
  have main : ∀ {q k : Nat}, k < 2 * f.binade → (q = 0 ∨ f.binade ≤ k) → mag f (q * f.binade + k) = k * 2 ^ q := by
    intro q k h1 h2
    rcases Nat.lt_or_ge k f.binade with hk | hk
    · have : q = 0 := by omega
      subst this
      rw [Nat.zero_mul, Nat.zero_add, zhk f hk, Nat.pow_zero, Nat.mul_one]
    · obtain ⟨j, rfl⟩ : ∃ j, k = f.binade + j := ⟨k - f.binade, by omega⟩
      have e : q * f.binade + (f.binade + j) = j + f.binade * (q + 1) := by rw [Nat.mul_add, Nat.mul_one, Nat.mul_comm q]; omega
      rw [zqu f (by omega), e, Nat.add_mul_mod_self_left, Nat.mod_eq_of_lt (by omega), Nat.add_mul_div_left _ _ hB, Nat.div_eq_of_lt (by omega)]
      rw [show 0 + (q + 1) - 1 = q by omega]
  rcases Nat.lt_or_ge k (2 * f.binade) with h | h
  · exact main h h2
  · have hk : k = 2 * f.binade := by omega
    have := main (q := q + 1) (k := f.binade) (by omega) (.inr (Nat.le_refl _))
    rw [Nat.add_mul, Nat.one_mul] at this
    rw [hk, show q * f.binade + 2 * f.binade = q * f.binade + f.binade + f.binade by omega, this, Nat.pow_succ 2 q]
    rw [Nat.mul_comm 2, Nat.mul_assoc, Nat.mul_comm 2]
theorem zBg (f : Format) (r : Nat) : ∃ q k, r = q * f.binade + k ∧ k < 2 * f.binade ∧ (q = 0 ∨ f.binade ≤ k) := by
  have hB := zjz f
  rcases Nat.lt_or_ge r f.binade with h | h
  · exact ⟨0, r, by omega, by omega, .inl rfl⟩
  · have h1 := Nat.div_add_mod r f.binade
    have h2 := Nat.mod_lt r hB
    have h3 : 1 ≤ r / f.binade := (Nat.le_div_iff_mul_le hB).2 (by omega)
    refine ⟨r / f.binade - 1, f.binade + r % f.binade, ?_, by omega, .inr (by omega)⟩
    have : (r / f.binade - 1) * f.binade + f.binade = f.binade * (r / f.binade) := by
      obtain ⟨j, hj⟩ : ∃ j, r / f.binade = j + 1 := ⟨r / f.binade - 1, by omega⟩
      rw [hj, Nat.add_sub_cancel, Nat.mul_add, Nat.mul_one, Nat.mul_comm j]
    omega
theorem zpc (f : Format) (r : Nat) : mag f r < mag f (r + 1) := by
  obtain ⟨q, k, rfl, h1, h2⟩ := zBg f r
  rw [ziY f (by omega) h2, show q * f.binade + k + 1 = q * f.binade + (k + 1) by omega, ziY f (by omega) (by omega)]
  exact Nat.mul_lt_mul_of_pos_right (by omega) (Nat.two_pow_pos q)
theorem zwa (f : Format) {r s : Nat} (h : r < s) : mag f r < mag f s := by
  induction s with
  | zero => omega
  | succ s ih =>
    rcases Nat.lt_or_ge r s with hr | hr
    · exact Nat.lt_trans (ih hr) (zpc f s)
    · have : r = s := by omega
      subst this; exact zpc f r
theorem zwk (f : Format) {r s : Nat} (h : r ≤ s) : mag f r ≤ mag f s := by
  rcases Nat.lt_or_ge r s with hr | hr
  · exact Nat.le_of_lt (zwa f hr)
  · have : r = s := by omega
    subst this; exact Nat.le_refl _
theorem tri {V N D X Y : Nat} (hD : 0 < D) (hX : 0 < X) (h : V * D = N * X) : (2 * N < Y * D → 2 * V < Y * X) ∧ (2 * N = Y * D → 2 * V = Y * X) ∧ (Y * D < 2 * N → Y * X < 2 * V) ∧ (Y * D ≤ 2 * N → Y * X ≤ 2 * V) := by
  have e : 2 * V * D = 2 * N * X := by rw [Nat.mul_assoc, h, Nat.mul_assoc]
  have e2 : Y * X * D = Y * D * X := by rw [Nat.mul_assoc, Nat.mul_comm X, Nat.mul_assoc]
  refine ⟨fun k => ?_, fun k => ?_, fun k => ?_, fun k => ?_⟩
  · refine Nat.lt_of_mul_lt_mul_right (a := D) ?_
    rw [e, e2]; exact Nat.mul_lt_mul_of_pos_right k hX
  · refine Nat.eq_of_mul_eq_mul_right hD ?_
    rw [e, e2, k]
  · refine Nat.lt_of_mul_lt_mul_right (a := D) ?_
    rw [e, e2]; exact Nat.mul_lt_mul_of_pos_right k hX
  · refine Nat.le_of_mul_le_mul_right (c := D) ?_ hD
    rw [e, e2]; exact Nat.mul_le_mul_right _ k
theorem zrW (f : Format) (hB2 : f.binade % 2 = 0) (neg : Bool) (m : Nat) (e : Int) :
    ∃ r, f.nearest neg m e = f.word neg (min r f.infRung) ∧ zwC f (m * 2 ^ (e - f.leastPlace).toNat) (2 ^ (f.leastPlace - e).toNat) r := by
  have hB := zjz f
  have hS := Nat.two_pow_pos (f.leastPlace - e).toNat
  by_cases hm : m = 0
  · subst hm
    refine ⟨0, ?_, .inl rfl, .inl ?_⟩
    · unfold Format.nearest
      rw [if_pos rfl, Nat.zero_min]
    · rw [Nat.zero_mul, Nat.mul_zero]
      have := zpc f 0
      exact Nat.mul_pos (by omega) hS
  · unfold Format.nearest
    rw [if_neg hm]
    obtain ⟨hl1, hl2⟩ := zBS hm
    obtain ⟨last, hlast⟩ : ∃ last, last = max (e + (m.log2 : Int) - (f.fractionBits : Int)) f.leastPlace := ⟨_, rfl⟩
    have hgoal : max (e + (m.log2 : Int) - (f.fractionBits : Int)) f.leastPlace = last := hlast.symm
    simp only [hgoal, Nat.shiftLeft_eq]
    obtain ⟨q, hq⟩ : ∃ q, q = (last - f.leastPlace).toNat := ⟨_, rfl⟩
    obtain ⟨drop, hdr⟩ : ∃ d, d = (last - e).toNat := ⟨_, rfl⟩
    obtain ⟨up, hup⟩ : ∃ u, u = (e - last).toNat := ⟨_, rfl⟩
    rw [← hq, ← hdr, ← hup]
    have hk := zDE neg (m * 2 ^ up) drop
    have hbf : f.binade = 2 ^ f.fractionBits := rfl
    have hNlt : m * 2 ^ up < 2 * f.binade * 2 ^ drop := by
      have : m * 2 ^ up < 2 ^ (m.log2 + 1) * 2 ^ up := Nat.mul_lt_mul_of_pos_right hl2 (Nat.two_pow_pos _)
      refine Nat.lt_of_lt_of_le this ?_
      rw [← Nat.pow_add, hbf, show 2 * 2 ^ f.fractionBits = 2 ^ (f.fractionBits + 1) by rw [Nat.pow_succ, Nat.mul_comm], ← Nat.pow_add]
      exact Nat.pow_le_pow_right (by decide) (by omega)
    have hNge : q = 0 ∨ f.binade * 2 ^ drop ≤ m * 2 ^ up := by
      rcases Nat.eq_zero_or_pos q with h0 | h0
      · exact .inl h0
      · refine .inr ?_
        have : 2 ^ m.log2 * 2 ^ up ≤ m * 2 ^ up := Nat.mul_le_mul_right _ hl1
        refine Nat.le_trans ?_ this
        rw [hbf, ← Nat.pow_add, ← Nat.pow_add]
        exact Nat.pow_le_pow_right (by decide) (by omega)
    have hVD : (m * 2 ^ (e - f.leastPlace).toNat) * 2 ^ drop = (m * 2 ^ up) * (2 ^ (f.leastPlace - e).toNat * 2 ^ q) := by
      rw [Nat.mul_assoc, Nat.mul_assoc, ← Nat.pow_add, ← Nat.pow_add, ← Nat.pow_add]
      congr 2
      omega
    have hkle : Toward.even.cut neg (m * 2 ^ up) drop ≤ 2 * f.binade := zHB _ _ hNlt (by omega)
    have hD := Nat.two_pow_pos drop
    have hT := Nat.two_pow_pos q
    generalize Toward.even.cut neg (m * 2 ^ up) drop = k at hk hkle
    generalize m * 2 ^ up = N at hk hNlt hNge hVD
    generalize m * 2 ^ (e - f.leastPlace).toNat = V at hVD
    generalize hTq : 2 ^ q = T at hT hVD
    generalize 2 ^ (f.leastPlace - e).toNat = S at hS hVD
    generalize 2 ^ drop = D at hk hNlt hNge hVD hD
    have hX : 0 < S * T := Nat.mul_pos hS hT
    have hkB : q = 0 ∨ f.binade ≤ k := by
      rcases hNge with h | h
      · exact .inl h
      · refine .inr (Nat.le_of_not_lt fun hc => ?_)
        have h1 : (k + 1) * D ≤ f.binade * D := Nat.mul_le_mul_right _ hc
        rw [Nat.add_mul, Nat.one_mul] at h1
        have h2 := hk.2
        rw [Nat.mul_assoc] at h2
        omega
    have hr : mag f (q * f.binade + k) = k * T := by rw [← hTq]; exact ziY f hkle hkB
    have par : (q * f.binade + k) % 2 = k % 2 := by
      have : q * f.binade % 2 = 0 := by rw [Nat.mul_mod, hB2, Nat.mul_zero, Nat.zero_mod]
      omega
    refine ⟨q * f.binade + k, rfl, ?_, ?_⟩
    · -- below
      rcases Nat.eq_zero_or_pos (q * f.binade + k) with h0 | h0
      · exact .inl h0
      · refine .inr ?_
        by_cases hc : q ≠ 0 ∧ k = f.binade
        · -- the lower neighbour is nearer
          obtain ⟨hq0, rfl⟩ := hc
          refine .inl ?_
          have hge : f.binade * D ≤ N := hNge.resolve_left hq0
          have h1 := (tri (Y := 2 * f.binade) hD hX hVD).2.2.2 (by rw [Nat.mul_assoc]; omega)
          have h2 := zwa f (r := q * f.binade + f.binade - 1) (s := q * f.binade + f.binade) (by omega)
          rw [hr] at h2 ⊢
          have h3 : (mag f (q * f.binade + f.binade - 1) + f.binade * T) * S < (2 * (f.binade * T)) * S := Nat.mul_lt_mul_of_pos_right (by omega) hS
          refine Nat.lt_of_lt_of_le h3 (Nat.le_trans (Nat.le_of_eq ?_) h1)
          ac_rfl
        · have hk1 : 1 ≤ k := by
            rcases hkB with h | h
            · subst h; omega
            · omega
          have hm1 : mag f (q * f.binade + k - 1) = (k - 1) * T := by
            rw [show q * f.binade + k - 1 = q * f.binade + (k - 1) by omega, ← hTq]
            refine ziY f (by omega) ?_
            rcases hkB with h | h
            · exact .inl h
            · by_cases hq0 : q = 0
              · exact .inl hq0
              · exact .inr (by have : k ≠ f.binade := fun h' => hc ⟨hq0, h'⟩; omega)
          have he : (mag f (q * f.binade + k - 1) + mag f (q * f.binade + k)) * S = (2 * k - 1) * (S * T) := by
            rw [hm1, hr, ← Nat.add_mul, show k - 1 + k = 2 * k - 1 by omega, Nat.mul_assoc, Nat.mul_comm T]
          rw [he, par]
          have h1 := hk.1
          have ed : (2 * k - 1) * D + D = 2 * k * D := by
            obtain ⟨j, rfl⟩ : ∃ j, k = j + 1 := ⟨k - 1, by omega⟩
            rw [show 2 * (j + 1) - 1 = 2 * j + 1 by omega, show 2 * (j + 1) = (2 * j + 1) + 1 by omega, Nat.add_mul (2 * j + 1) 1, Nat.one_mul]
          have ht := tri (Y := 2 * k - 1) hD hX hVD
          rcases h1 with h1 | ⟨h1, h2⟩
          · exact .inl (ht.2.2.1 (by omega))
          · exact .inr ⟨(ht.2.1 (by omega)).symm, h2⟩
    · -- above
      have hge : (k + 1) * T ≤ mag f (q * f.binade + k + 1) ∧ (k < 2 * f.binade → mag f (q * f.binade + k + 1) = (k + 1) * T) := by
        rcases Nat.lt_or_ge k (2 * f.binade) with h | h
        · have : mag f (q * f.binade + k + 1) = (k + 1) * T := by
            rw [show q * f.binade + k + 1 = q * f.binade + (k + 1) by omega, ← hTq]
            exact ziY f (by omega) (by omega)
          exact ⟨Nat.le_of_eq this.symm, fun _ => this⟩
        · have hk2 : k = 2 * f.binade := by omega
          refine ⟨?_, fun h' => absurd h' (by omega)⟩
          have h3 := ziY f (q := q + 1) (k := f.binade + 1) (by omega) (.inr (by omega))
          rw [hk2, show q * f.binade + 2 * f.binade + 1 = (q + 1) * f.binade + (f.binade + 1) by rw [Nat.add_mul]; omega, h3, Nat.pow_succ, hTq]
          rw [Nat.mul_comm T 2, ← Nat.mul_assoc]
          exact Nat.mul_le_mul_right _ (by omega)
      have hle : (2 * k + 1) * (S * T) ≤ (mag f (q * f.binade + k) + mag f (q * f.binade + k + 1)) * S := by
        have h3 : (2 * k + 1) * T ≤ mag f (q * f.binade + k) + mag f (q * f.binade + k + 1) := by
          rw [hr, show 2 * k + 1 = k + (k + 1) by omega, Nat.add_mul k (k + 1)]
          exact Nat.add_le_add_left hge.1 _
        have := Nat.mul_le_mul_right S h3
        rw [Nat.mul_assoc, Nat.mul_comm T] at this
        exact this
      have ed : (2 * k + 1) * D = 2 * k * D + D := by rw [Nat.add_mul, Nat.one_mul]
      have ht := tri (Y := 2 * k + 1) hD hX hVD
      rw [par]
      rcases hk.2 with h1 | ⟨h1, h2⟩
      · exact .inl (Nat.lt_of_lt_of_le (ht.1 (by omega)) hle)
      · have hklt : k < 2 * f.binade := by
          rcases Nat.lt_or_ge k (2 * f.binade) with h | h
          · exact h
          · exfalso
            have : 2 * f.binade * D ≤ k * D := Nat.mul_le_mul_right _ h
            rw [Nat.mul_assoc 2 k] at h1
            omega
        refine .inr ⟨?_, h2⟩
        rw [ht.2.1 (by omega), hr, hge.2 hklt, ← Nat.add_mul, show k + (k + 1) = 2 * k + 1 by omega, Nat.mul_assoc, Nat.mul_comm T]
theorem zwC.mono {f : Format} {V V' S r r' : Nat} (hS : 0 < S) (h : zwC f V S r) (h' : zwC f V' S r') (hV : V ≤ V') : r ≤ r' := by
  refine Nat.le_of_not_lt fun hc => ?_
  have a := h.1
  have b := h'.2
  have l1 : (mag f r' + mag f (r' + 1)) * S ≤ (mag f (r - 1) + mag f r) * S := Nat.mul_le_mul_right _ (Nat.add_le_add (zwk f (by omega)) (zwk f (by omega)))
  rcases a with a | a | ⟨a, ae⟩
  · omega
  · omega
  · rcases b with b | ⟨b, be⟩
    · omega
    · have heq : (mag f r' + mag f (r' + 1)) * S = (mag f (r - 1) + mag f r) * S := by omega
      have heq2 := Nat.eq_of_mul_eq_mul_right hS heq
      have l2 := zwk f (r := r') (s := r - 1) (by omega)
      have l3 := zwk f (r := r' + 1) (s := r) (by omega)
      have : r' = r - 1 := by
        rcases Nat.lt_or_ge r' (r - 1) with h1 | h1
        · have := zwa f h1; omega
        · omega
      omega
theorem zwC.uniq {f : Format} {V S r r' : Nat} (hS : 0 < S) (h : zwC f V S r) (h' : zwC f V S r') : r = r' :=
  Nat.le_antisymm (h.mono hS h' (Nat.le_refl _)) (h'.mono hS h (Nat.le_refl _))
theorem zwC.exact {f : Format} {S r : Nat} (hS : 0 < S) : zwC f (mag f r * S) S r := by
  constructor
  · rcases Nat.eq_zero_or_pos r with h | h
    · exact .inl h
    · refine .inr (.inl ?_)
      rw [← Nat.mul_assoc]
      have := zwa f (r := r - 1) (s := r) (by omega)
      exact Nat.mul_lt_mul_of_pos_right (by omega) hS
  · refine .inl ?_
    rw [← Nat.mul_assoc]
    have := zpc f r
    exact Nat.mul_lt_mul_of_pos_right (by omega) hS
end Go.LI.Fl
