/- Words of middling numbers; quotients of whole numbers. -/
import Derived.Test.YtbjcipikclbecaaFlB
set_option linter.unusedVariables false
set_option exponentiation.threshold 2000
namespace Go.LI.Fl
open Ieee

variable (f : Format)

theorem cut_le (way : Toward) (neg : Bool) {n drop B : Nat} (h : n < B * 2 ^ drop) (hB : 0 < B) : way.cut neg n drop ≤ B := by
  unfold Toward.cut
  simp only [Nat.shiftLeft_eq, Nat.one_mul]
  have hlow : n / 2 ^ min drop (n.log2 + 2) < B := by
    rcases Nat.le_total drop (n.log2 + 2) with hd | hd
    · rw [Nat.min_eq_left hd]
      exact Nat.div_lt_of_lt_mul (by rw [Nat.mul_comm]; exact h)
    · rw [Nat.min_eq_right hd]
      have : n < 2 ^ (n.log2 + 2) := Nat.lt_trans Nat.lt_log2_self (Nat.pow_lt_pow_right (by decide) (by omega))
      rw [Nat.div_eq_of_lt this]; exact hB
  exact Nat.le_trans (Nat.add_le_add_left (Bool.toNat_le _) _) hlow

theorem cut_ge (way : Toward) (neg : Bool) {n drop : Nat} (h : 2 ^ drop ≤ n) : 1 ≤ way.cut neg n drop := by
  unfold Toward.cut
  simp only [Nat.shiftLeft_eq, Nat.one_mul]
  have hn : n ≠ 0 := by have := Nat.two_pow_pos drop; omega
  have hd : drop ≤ n.log2 := (Nat.le_log2 hn).2 h
  rw [Nat.min_eq_left (by omega)]
  have : 1 ≤ n / 2 ^ drop := (Nat.le_div_iff_mul_le (Nat.two_pow_pos _)).2 (by omega)
  omega

/-- A number that is neither too small nor too great. -/
theorem nearest_mid {neg : Bool} {m : Nat} {e : Int} (hm : m ≠ 0) (h1 : dbl.leastPlace ≤ e + m.log2) (h2 : e + m.log2 < 1022) : ∃ r, dbl.nearest neg m e = dbl.word neg r ∧ r ≠ 0 ∧ r < dbl.infRung := by
  unfold Format.nearest
  rw [if_neg hm]
  have hfb : dbl.fractionBits = 52 := rfl
  rw [dbl_L] at h1 ⊢
  rw [hfb, dbl_B]
  simp only
  obtain ⟨hl1, hl2⟩ := log2_le hm
  have hcut : ∀ (last : Int), e + m.log2 - 52 ≤ last → Toward.even.cut neg (m <<< (e - last).toNat) (last - e).toNat ≤ 2 ^ 53 := by
    intro last hlast
    refine cut_le _ _ ?_ (by decide)
    rw [Nat.shiftLeft_eq]
    have : m * 2 ^ (e - last).toNat < 2 ^ (m.log2 + 1 + (e - last).toNat) := by rw [Nat.pow_add]; exact Nat.mul_lt_mul_of_pos_right hl2 (Nat.two_pow_pos _)
    refine Nat.lt_of_lt_of_le this ?_
    rw [← Nat.pow_add]
    exact Nat.pow_le_pow_right (by decide) (by omega)
  generalize hlast : max (e + (m.log2 : Int) - (52 : Nat)) (-1074) = last
  have hb := hcut last (by omega)
  have hinf : dbl.infRung = 2047 * 2 ^ 52 := by decide +kernel
  have hpos : (last - -1074).toNat * 2 ^ 52 + Toward.even.cut neg (m <<< (e - last).toNat) (last - e).toNat ≠ 0 := by
    rcases (by omega : last > -1074 ∨ last = -1074) with h | h
    · have : 1 ≤ (last - -1074).toNat := by omega
      omega
    · have : 1 ≤ Toward.even.cut neg (m <<< (e - last).toNat) (last - e).toNat := by
        refine cut_ge _ _ ?_
        rw [Nat.shiftLeft_eq]
        rcases (by omega : e ≥ last ∨ e < last) with h3 | h3
        · rw [show (last - e).toNat = 0 by omega, Nat.pow_zero]
          exact Nat.mul_pos (Nat.pos_of_ne_zero hm) (Nat.two_pow_pos _)
        · rw [show (e - last).toNat = 0 by omega, Nat.pow_zero, Nat.mul_one]
          exact Nat.le_trans (Nat.pow_le_pow_right (by decide) (by omega)) hl1
      omega
  have hlt : (last - -1074).toNat * 2 ^ 52 + Toward.even.cut neg (m <<< (e - last).toNat) (last - e).toNat < dbl.infRung := by
    rw [hinf]
    have : (last - -1074).toNat ≤ 2044 := by omega
    omega
  refine ⟨_, rfl, ?_, ?_⟩
  · rw [Nat.min_eq_left (by omega)]; exact hpos
  · rw [Nat.min_eq_left (by omega)]; exact hlt

/-- A number of few digits has a rung. -/
theorem has_rung {m : Nat} {e : Int} (hm : m < 2 * f.binade) (he : f.leastPlace ≤ e) (hmax : (m.log2 : Int) + e - f.leastPlace - f.fractionBits + 2 < (2 ^ f.exponentBits : Nat) - 1) (h2 : 2 < 2 ^ f.exponentBits) : ∃ r, r < f.infRung ∧ mag f r = m * 2 ^ (e - f.leastPlace).toNat := by
  have hB := bin_pos f
  have hinf : f.infRung = (2 ^ f.exponentBits - 1) * f.binade := rfl
  by_cases h0 : m = 0
  · subst h0
    refine ⟨0, ?_, by rw [mag_small f hB, Nat.zero_mul]⟩
    rw [hinf]; exact Nat.mul_pos (by omega) hB
  · obtain ⟨hl1, hl2⟩ := log2_le h0
    by_cases hs : m.log2 + (e - f.leastPlace).toNat < f.fractionBits
    · have hlt : m * 2 ^ (e - f.leastPlace).toNat < f.binade := by
        refine Nat.lt_of_lt_of_le (Nat.mul_lt_mul_of_pos_right hl2 (Nat.two_pow_pos _)) ?_
        rw [← Nat.pow_add]
        exact Nat.pow_le_pow_right (by decide) (by omega)
      refine ⟨m * 2 ^ (e - f.leastPlace).toNat, ?_, mag_small f hlt⟩
      rw [hinf]
      exact Nat.lt_of_lt_of_le hlt (Nat.le_mul_of_pos_left _ (by omega))
    · have hfb : m.log2 ≤ f.fractionBits := by
        have : 2 ^ m.log2 < 2 ^ (f.fractionBits + 1) := by
          refine Nat.lt_of_le_of_lt hl1 ?_
          rw [Nat.pow_succ, Nat.mul_comm]; exact hm
        have := (Nat.pow_lt_pow_iff_right (by decide : 1 < 2)).1 this
        omega
      have hs' : f.fractionBits ≤ m.log2 + (e - f.leastPlace).toNat := by omega
      generalize ht : m.log2 + (e - f.leastPlace).toNat - f.fractionBits = t
      have hte : t ≤ (e - f.leastPlace).toNat := by omega
      generalize hq : m * 2 ^ ((e - f.leastPlace).toNat - t) = q
      have hq1 : f.binade ≤ q := by
        rw [← hq]
        refine Nat.le_trans ?_ (Nat.mul_le_mul_right _ hl1)
        rw [← Nat.pow_add]
        exact Nat.pow_le_pow_right (by decide) (by omega)
      have hq2 : q < 2 * f.binade := by
        rw [← hq]
        refine Nat.lt_of_lt_of_le (Nat.mul_lt_mul_of_pos_right hl2 (Nat.two_pow_pos _)) ?_
        rw [← Nat.pow_add]
        have : 2 * f.binade = 2 ^ (f.fractionBits + 1) := by rw [Nat.pow_succ, Nat.mul_comm]; rfl
        rw [this]
        exact Nat.pow_le_pow_right (by decide) (by omega)
      have hdm : (t * f.binade + q) / f.binade = t + 1 ∧ (t * f.binade + q) % f.binade = q - f.binade := by
        have : t * f.binade + q = (q - f.binade) + f.binade * (t + 1) := by rw [Nat.mul_add, Nat.mul_one, Nat.mul_comm f.binade t]; omega
        rw [this, Nat.add_mul_div_left _ _ hB, Nat.add_mul_mod_self_left, Nat.div_eq_of_lt (by omega), Nat.mod_eq_of_lt (by omega)]
        omega
      refine ⟨t * f.binade + q, ?_, ?_⟩
      · rw [hinf]
        have h3 : t + 2 < 2 ^ f.exponentBits - 1 := by omega
        refine Nat.lt_of_lt_of_le ?_ (Nat.mul_le_mul_right f.binade (show t + 2 ≤ _ by omega))
        rw [Nat.add_mul]; omega
      · rw [mag_big f (by omega), hdm.1, hdm.2, Nat.add_sub_cancel]
        rw [show f.binade + (q - f.binade) = q by omega, ← hq, Nat.mul_assoc, ← Nat.pow_add]
        congr 2; omega

/-- A whole number below 2 ^ 53 is read as it is. -/
theorem nat_reads {n : Nat} (h : n < 2 ^ 53) : ∃ m e, dbl.read (dbl.nearest false n 0) = .number false m e ∧ dbl.leastPlace ≤ e ∧ m * 2 ^ (e - dbl.leastPlace).toNat = n * 2 ^ 1074 := by
  have hlog : n.log2 < 53 := by
    by_cases h0 : n = 0
    · subst h0; decide
    · exact (Nat.log2_lt h0).2 h
  obtain ⟨r, h1, h2⟩ := has_rung dbl (m := n) (e := 0) (by rw [dbl_B]; omega) (by rw [dbl_L]; decide) (by rw [dbl_L, show dbl.fractionBits = 52 from rfl, show dbl.exponentBits = 11 from rfl]; omega) (by decide)
  have h3 : n * 2 ^ (0 - dbl.leastPlace).toNat = mag dbl r * 2 ^ (dbl.leastPlace - 0).toNat := by
    rw [h2, show (dbl.leastPlace - 0).toNat = 0 by rw [dbl_L]; rfl, Nat.pow_zero, Nat.mul_one]
  rw [nearest_exact dbl (Nat.le_of_lt h1) h3]
  obtain ⟨m, e, q1, q2, q3⟩ := read_word dbl (neg := false) h1
  refine ⟨m, e, q1, q2, ?_⟩
  rw [q3, h2]
  rfl

/-- The quotient of two whole numbers that are not nothing is a word of the middle. -/
theorem nat_div {n d : Nat} (hn : n < 2 ^ 53) (hd : d < 2 ^ 53) (hn0 : n ≠ 0) (hd0 : d ≠ 0) : ∃ r, dbl.div (dbl.nearest false n 0) (dbl.nearest false d 0) = some (dbl.word false r) ∧ r ≠ 0 ∧ r < dbl.infRung := by
  obtain ⟨m1, e1, a1, a2, a3⟩ := nat_reads hn
  obtain ⟨m2, e2, b1, b2, b3⟩ := nat_reads hd
  have nz : ∀ {m n : Nat} {e : Int}, n ≠ 0 → m * 2 ^ (e - dbl.leastPlace).toNat = n * 2 ^ 1074 → m ≠ 0 := by
    intro m n e h0 h hc
    subst hc
    rw [Nat.zero_mul] at h
    have := Nat.mul_pos (Nat.pos_of_ne_zero h0) (Nat.two_pow_pos 1074)
    omega
  have hm1 := nz hn0 a3
  have hm2 := nz hd0 b3
  have lg : ∀ {m n : Nat} {e : Int}, dbl.leastPlace ≤ e → m ≠ 0 → n ≠ 0 → m * 2 ^ (e - dbl.leastPlace).toNat = n * 2 ^ 1074 → (m.log2 : Int) + e = n.log2 := by
    intro m n e he h0 h1 h
    have := congrArg Nat.log2 h
    rw [log2_mul_pow h0, log2_mul_pow h1] at this
    rw [dbl_L] at this he
    omega
  have l1 := lg a2 hm1 hn0 a3
  have l2 := lg b2 hm2 hd0 b3
  have k1 : n.log2 < 53 := (Nat.log2_lt hn0).2 hn
  have k2 : d.log2 < 53 := (Nat.log2_lt hd0).2 hd
  unfold Format.div
  rw [a1, b1]
  simp only [Datum.quotient, hm2, if_false, Option.map_some, Format.write, Bool.xor_false]
  rw [show dbl.fractionBits + 2 = 54 from rfl]
  generalize hmore : 54 + m2.log2 - m1.log2 = more
  rw [Nat.shiftLeft_eq]
  obtain ⟨p1, p2⟩ := log2_le hm1
  obtain ⟨q1, q2⟩ := log2_le hm2
  -- how many digits the quotient has
  have hQ1 : 2 ^ (m1.log2 + more - (m2.log2 + 1)) ≤ m1 * 2 ^ more / m2 := by
    refine (Nat.le_div_iff_mul_le (Nat.pos_of_ne_zero hm2)).2 ?_
    refine Nat.le_trans (Nat.mul_le_mul_left _ (Nat.le_of_lt q2)) ?_
    rw [← Nat.pow_add]
    refine Nat.le_trans ?_ (Nat.mul_le_mul_right _ p1)
    rw [← Nat.pow_add]
    exact Nat.pow_le_pow_right (by decide) (by omega)
  have hQ2 : m1 * 2 ^ more / m2 < 2 ^ (m1.log2 + more + 1 - m2.log2) := by
    refine Nat.div_lt_of_lt_mul ?_
    refine Nat.lt_of_lt_of_le (Nat.mul_lt_mul_of_pos_right p2 (Nat.two_pow_pos more)) ?_
    refine Nat.le_trans ?_ (Nat.mul_le_mul_right _ q1)
    rw [← Nat.pow_add, ← Nat.pow_add]
    exact Nat.pow_le_pow_right (by decide) (by omega)
  generalize m1 * 2 ^ more / m2 = Q at hQ1 hQ2 ⊢
  generalize hb : (m1 * 2 ^ more % m2 != 0).toNat = b
  have hb1 : b ≤ 1 := by rw [← hb]; exact Bool.toNat_le _
  have hQ0 : 0 < Q := Nat.lt_of_lt_of_le (Nat.two_pow_pos _) hQ1
  have g1 : m1.log2 + more - (m2.log2 + 1) + 1 ≤ (2 * Q + b).log2 := by
    refine (Nat.le_log2 (by omega)).2 ?_
    rw [Nat.pow_succ]; omega
  have g2 : (2 * Q + b).log2 < m1.log2 + more + 1 - m2.log2 + 1 := by
    refine (Nat.log2_lt (by omega)).2 ?_
    rw [Nat.pow_succ]; omega
  obtain ⟨r, r1, r2, r3⟩ := nearest_mid (neg := false) (m := 2 * Q + b) (e := e1 - e2 - more - 1) (by omega) (by rw [dbl_L]; omega) (by omega)
  exact ⟨r, by rw [← r1], r2, r3⟩
end Go.LI.Fl
