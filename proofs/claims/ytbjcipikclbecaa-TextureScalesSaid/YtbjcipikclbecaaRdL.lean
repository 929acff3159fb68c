/- A whole number times a power of two, as a word. -/
import Derived.Test.YtbjcipikclbecaaRdO
set_option linter.unusedVariables false
set_option maxRecDepth 100000
namespace Go.LI.Fl
open Go Go.LI Ieee

/-- The 53 digits. -/
theorem digits53 {m : Nat} (h0 : m ≠ 0) (hm : m ≤ 2 ^ 53) : ∃ f, 2 ^ 52 ≤ f ∧ f < 2 ^ 53 ∧ f * 2 ^ blen m = m * 2 ^ 53 ∧ blen m ≤ 54 ∧ 1 ≤ blen m := by
  obtain ⟨h1, h2, h3⟩ := blen_pos h0
  have h54 : blen m ≤ 54 := blen_lt.2 (by omega)
  rcases (by omega : blen m ≤ 53 ∨ blen m = 54) with h | h
  · refine ⟨m * 2 ^ (53 - blen m), ?_, ?_, ?_, h54, h3⟩
    · have := Nat.mul_le_mul_right (2 ^ (53 - blen m)) h1
      rw [← Nat.pow_add, show blen m - 1 + (53 - blen m) = 52 by omega] at this
      exact this
    · have := Nat.mul_lt_mul_of_pos_right h2 (Nat.two_pow_pos (53 - blen m))
      rw [← Nat.pow_add, show blen m + (53 - blen m) = 53 by omega] at this
      exact this
    · rw [Nat.mul_assoc, ← Nat.pow_add]; congr 2; omega
  · have hm2 : m = 2 ^ 53 := by rw [h] at h1; exact Nat.le_antisymm hm h1
    refine ⟨2 ^ 52, Nat.le_refl _, by decide, ?_, h54, h3⟩
    rw [h, hm2]

theorem pow_swap {f b m t q : Nat} (h : f * 2 ^ b = m * 2 ^ 53) (hq : q + 53 = t + b) : f * 2 ^ q = m * 2 ^ t := by
  have : f * 2 ^ q * 2 ^ 53 = m * 2 ^ t * 2 ^ 53 := by
    rw [Nat.mul_assoc, ← Nat.pow_add, hq, Nat.add_comm t b, Nat.pow_add, ← Nat.mul_assoc, h, Nat.mul_right_comm]
  exact Nat.eq_of_mul_eq_mul_right (by decide) this

/-- The rung of a number that is not below the normal ones. -/
theorem rung_normal {m t f q : Nat} (hf1 : 2 ^ 52 ≤ f) (hf2 : f < 2 ^ 53) (hf : f * 2 ^ blen m = m * 2 ^ 53) (hq : q + 53 = t + blen m) : floorR (m * 2 ^ t) = q * 2 ^ 52 + f := by
  have := pow_swap hf hq
  refine floorR_of ?_ ?_ hf2 (.inr hf1)
  · rw [this]; exact Nat.le_refl _
  · rw [← this]; exact Nat.mul_lt_mul_of_pos_right (by omega) (Nat.two_pow_pos q)

theorem min_inf {M : Nat} : min (floorR M) 9218868437227405312 = if blen M ≤ 2098 then floorR M else 9218868437227405312 := by
  have := @floorR_inf M
  split
  · rename_i h; have := this.2 h; omega
  · rename_i h
    have : ¬ floorR M < 9218868437227405312 := fun hh => h (this.1 hh)
    omega

theorem mag_pow (q : Nat) : mag dbl (q * 2 ^ 52 + 4503599627370496) = 4503599627370496 * 2 ^ q := mag_form (q := q) (m := 4503599627370496) (by decide) (.inr (by decide))
theorem mul_one_gen {q x : Nat} (hq : q = 1022) (hx : x < 9218868437227405312) : dbl.mul (q * 2 ^ 52 + 4503599627370496) x = some x := by
  refine mul_exact (by omega) hx hx ?_
  rw [mag_pow, Nat.mul_comm, show (4503599627370496 : Nat) = 2 ^ 52 from rfl, ← Nat.pow_add, show 52 + q = 1074 by omega]
theorem mul_one_word {x : Nat} (hx : x < 9218868437227405312) : dbl.mul 4607182418800017408 x = some x := mul_one_gen (q := 1022) rfl hx

/-- A small one by 2 ^ -53. -/
theorem mul_small_gen {f q r s : Nat} (hs : s = 969) (hf1 : 2 ^ 52 ≤ f) (hf2 : f < 2 ^ 53) (hq : q ≤ 2044) (hr : r < 2 ^ 52) (h : f * 2 ^ q = r * 2 ^ 53) : dbl.mul (s * 2 ^ 52 + 4503599627370496) (q * 2 ^ 52 + f) = some r := by
  refine mul_exact (by omega) (by omega) (by omega) ?_
  rw [mag_pow, mag_form (by omega) (.inr hf1), h, mag_small dbl (by rw [dbl_B]; exact hr), show (4503599627370496 : Nat) = 2 ^ 52 from rfl, Nat.mul_comm (2 ^ 52 * 2 ^ s), Nat.mul_assoc, ← Nat.pow_add, ← Nat.pow_add, show 53 + (52 + s) = 1074 by omega]
theorem mul_small {f q r : Nat} (hf1 : 2 ^ 52 ≤ f) (hf2 : f < 2 ^ 53) (hq : q ≤ 2044) (hr : r < 2 ^ 52) (h : f * 2 ^ q = r * 2 ^ 53) : dbl.mul 4368491638549381120 (q * 2 ^ 52 + f) = some r := mul_small_gen (s := 969) rfl hf1 hf2 hq hr h
end Go.LI.Fl
