/- Words of floating point: their rungs and what these stand for. -/
import Derived.Laws.FloatBits
set_option linter.unusedVariables false
namespace Go.LI.Fl
open Ieee

variable (f : Format)

theorem bin_pos : 0 < f.binade := Nat.two_pow_pos _

/-- What a rung stands for, in units of the least number. -/
def mag (r : Nat) : Nat := if r < f.binade then r else (f.binade + r % f.binade) * 2 ^ (r / f.binade - 1)

theorem log2_of {n a : Nat} (h1 : 2 ^ a ≤ n) (h2 : n < 2 ^ (a + 1)) : n.log2 = a :=
  (Nat.log2_eq_iff (by have := Nat.two_pow_pos a; omega)).2 ⟨h1, h2⟩

theorem log2_le {n : Nat} (h : n ≠ 0) : 2 ^ n.log2 ≤ n ∧ n < 2 ^ (n.log2 + 1) := ⟨Nat.log2_self_le h, Nat.lt_log2_self⟩

theorem log2_mul_pow {n : Nat} (h : n ≠ 0) (k : Nat) : (n * 2 ^ k).log2 = n.log2 + k := by
  obtain ⟨h1, h2⟩ := log2_le h
  refine log2_of ?_ ?_
  · rw [Nat.pow_add]; exact Nat.mul_le_mul_right _ h1
  · rw [show n.log2 + k + 1 = (n.log2 + 1) + k by omega, Nat.pow_add]; exact Nat.mul_lt_mul_of_pos_right h2 (Nat.two_pow_pos k)

/-- A great rung's digits. -/
theorem mag_big {r : Nat} (h : f.binade ≤ r) : mag f r = (f.binade + r % f.binade) * 2 ^ (r / f.binade - 1) := by
  unfold mag; rw [if_neg (by omega)]
theorem mag_small {r : Nat} (h : r < f.binade) : mag f r = r := by
  unfold mag; rw [if_pos h]

theorem mag_log {r : Nat} (h : f.binade ≤ r) : (mag f r).log2 = f.fractionBits + (r / f.binade - 1) := by
  have hm := Nat.mod_lt r (bin_pos f)
  rw [mag_big f h, log2_mul_pow (by have := bin_pos f; omega)]
  congr 1
  refine log2_of ?_ ?_
  · show f.binade ≤ _; omega
  · rw [Nat.pow_succ]
    show _ < f.binade * 2
    omega
theorem mag_log_small {r : Nat} (h : r < f.binade) (h0 : r ≠ 0) : (mag f r).log2 < f.fractionBits := by
  rw [mag_small f h]
  exact (Nat.log2_lt h0).2 h
theorem mag_zero {r : Nat} : mag f r = 0 ↔ r = 0 := by
  constructor
  · intro h
    rcases Nat.lt_or_ge r f.binade with hr | hr
    · rwa [mag_small f hr] at h
    · rw [mag_big f hr] at h
      rcases Nat.mul_eq_zero.1 h with h | h
      · have := bin_pos f; omega
      · have := Nat.two_pow_pos (r / f.binade - 1); omega
  · intro h; subst h; rw [mag_small f (bin_pos f)]

/-- A quotient without a rest is cut to itself. -/
theorem cut_exact (way : Toward) (neg : Bool) {n q drop : Nat} (h : n = q * 2 ^ drop) : way.cut neg n drop = q := by
  unfold Toward.cut
  simp only [Nat.shiftLeft_eq, Nat.one_mul]
  by_cases hq : q = 0
  · subst hq
    rw [Nat.zero_mul] at h
    subst h
    rw [Nat.zero_div, Nat.zero_mod]
    have := Nat.two_pow_pos (min drop (Nat.log2 0 + 2))
    cases way <;> simp
  · have hn : n ≠ 0 := by
      rw [h]; exact Nat.mul_ne_zero hq (by have := Nat.two_pow_pos drop; omega)
    have hd : drop ≤ n.log2 := by
      rw [h, log2_mul_pow hq]; omega
    rw [Nat.min_eq_left (by omega), h, Nat.mul_div_cancel _ (Nat.two_pow_pos drop), Nat.mul_mod_left]
    have := Nat.two_pow_pos drop
    cases way <;> simp

/-- 'm * 2 ^ e', in units of 2 ^ base. -/
theorem nearest_exact {neg : Bool} {m : Nat} {e : Int} {r : Nat} (hr : r ≤ f.infRung) (h : m * 2 ^ (e - f.leastPlace).toNat = mag f r * 2 ^ (f.leastPlace - e).toNat) : f.nearest neg m e = f.word neg r := by
  unfold Format.nearest
  by_cases hm : m = 0
  · rw [if_pos hm]
    subst hm
    rw [Nat.zero_mul] at h
    have : mag f r = 0 := by
      rcases Nat.mul_eq_zero.1 h.symm with h | h
      · exact h
      · have := Nat.two_pow_pos (f.leastPlace - e).toNat; omega
    rw [(mag_zero f).1 this]
  · rw [if_neg hm]
    have hM : mag f r ≠ 0 := by
      intro hc
      rw [hc, Nat.zero_mul] at h
      rcases Nat.mul_eq_zero.1 h with h | h
      · exact hm h
      · have := Nat.two_pow_pos (e - f.leastPlace).toNat; omega
    have hr0 : r ≠ 0 := fun hc => hM ((mag_zero f).2 hc)
    have hlog : (m.log2 : Int) + e = (mag f r).log2 + f.leastPlace := by
      have := congrArg Nat.log2 h
      rw [log2_mul_pow hm, log2_mul_pow hM] at this
      omega
    -- the last place that is kept, and what is kept
    have key : ∃ t q : Nat, max (e + m.log2 - f.fractionBits) f.leastPlace = f.leastPlace + t ∧ mag f r = q * 2 ^ t ∧ t * f.binade + q = r := by
      rcases Nat.lt_or_ge r f.binade with hb | hb
      · refine ⟨0, r, ?_, by rw [mag_small f hb, Nat.pow_zero, Nat.mul_one], by omega⟩
        have := mag_log_small f hb hr0
        omega
      · refine ⟨r / f.binade - 1, f.binade + r % f.binade, ?_, mag_big f hb, ?_⟩
        · have := mag_log f hb
          omega
        · have h1 : 1 ≤ r / f.binade := (Nat.le_div_iff_mul_le (bin_pos f)).2 (by omega)
          have h2 := Nat.div_add_mod r f.binade
          have h3 : (r / f.binade - 1) * f.binade + f.binade = r / f.binade * f.binade := by
            rw [Nat.sub_mul, Nat.one_mul]
            have := Nat.mul_le_mul_right f.binade h1
            omega
          rw [Nat.mul_comm f.binade] at h2
          omega
    obtain ⟨t, q, k1, k2, k3⟩ := key
    simp only
    rw [k1]
    have hk : Toward.even.cut neg (m <<< (e - (f.leastPlace + t)).toNat) (f.leastPlace + t - e).toNat = q := by
      refine cut_exact _ _ ?_
      rw [Nat.shiftLeft_eq]
      rw [k2] at h
      rcases (by omega : e < f.leastPlace + t ∨ f.leastPlace + t ≤ e) with hlt | hge
      · rw [show (e - (f.leastPlace + t)).toNat = 0 by omega, Nat.pow_zero, Nat.mul_one]
        rcases (by omega : e < f.leastPlace ∨ f.leastPlace ≤ e) with h1 | h1
        · rw [show (e - f.leastPlace).toNat = 0 by omega, Nat.pow_zero, Nat.mul_one, Nat.mul_assoc, ← Nat.pow_add] at h
          rw [h]; congr 2; omega
        · rw [show (f.leastPlace - e).toNat = 0 by omega, Nat.pow_zero, Nat.mul_one] at h
          have : t = (f.leastPlace + t - e).toNat + (e - f.leastPlace).toNat := by omega
          rw [this, Nat.pow_add, ← Nat.mul_assoc] at h
          have := Nat.eq_of_mul_eq_mul_right (Nat.two_pow_pos _) h
          rw [this]
      · rw [show (f.leastPlace + t - e).toNat = 0 by omega, Nat.pow_zero, Nat.mul_one]
        rw [show (f.leastPlace - e).toNat = 0 by omega, Nat.pow_zero, Nat.mul_one] at h
        have : (e - f.leastPlace).toNat = (e - (f.leastPlace + t)).toNat + t := by omega
        rw [this, Nat.pow_add, ← Nat.mul_assoc] at h
        exact Nat.eq_of_mul_eq_mul_right (Nat.two_pow_pos _) h
    rw [hk]
    congr 1
    rw [show (f.leastPlace + ↑t - f.leastPlace).toNat = t by omega]
    omega

/-- A finite word is read. -/
theorem read_finite {w : Nat} (h : w % f.signWeight < f.infRung) : ∃ m e, f.read w = .number (w / f.signWeight % 2 == 1) m e ∧ f.leastPlace ≤ e ∧ m * 2 ^ (e - f.leastPlace).toNat = mag f (w % f.signWeight) := by
  unfold Format.read
  simp only
  split
  · rename_i hb
    exact ⟨_, _, rfl, Int.le_refl _, by rw [mag_small f hb]; simp⟩
  · rename_i hb
    refine ⟨_, _, rfl, by omega, ?_⟩
    rw [mag_big f (by omega)]
    congr 2
    omega

theorem word_split {neg : Bool} {r : Nat} (h : r < f.signWeight) : f.word neg r % f.signWeight = r ∧ (f.word neg r / f.signWeight % 2 == 1) = neg ∧ f.word neg r < 2 * f.signWeight := by
  have hp : 0 < f.signWeight := Nat.two_pow_pos _
  unfold Format.word
  cases neg
  · simp only [Bool.false_eq_true, if_false]
    rw [Nat.mod_eq_of_lt h, Nat.div_eq_of_lt h]
    refine ⟨rfl, rfl, by omega⟩
  · simp only [if_true]
    rw [Nat.add_mod_left, Nat.mod_eq_of_lt h, Nat.add_div_left _ hp, Nat.div_eq_of_lt h]
    refine ⟨rfl, rfl, by omega⟩
theorem word_of {w : Nat} (h : w < 2 * f.signWeight) : f.word (w / f.signWeight % 2 == 1) (w % f.signWeight) = w := by
  have hp : 0 < f.signWeight := Nat.two_pow_pos _
  have hd := Nat.div_add_mod w f.signWeight
  have hk : w / f.signWeight < 2 := Nat.div_lt_of_lt_mul (by omega)
  generalize w / f.signWeight = k at hd hk ⊢
  generalize w % f.signWeight = r at hd ⊢
  unfold Format.word
  rcases (by omega : k = 0 ∨ k = 1) with h0 | h0
  · subst h0; simpa using hd
  · subst h0; simpa using hd

theorem read_inf (hI : f.binade ≤ f.infRung) (neg : Bool) : f.read (f.word neg f.infRung) = .infinity neg := by
  obtain ⟨h1, h2, h3⟩ := word_split f (neg := neg) f.infRung_lt
  unfold Format.read
  simp only [h1, h2]
  rw [if_neg (by omega), if_neg (by omega)]
  simp
end Go.LI.Fl
