/- A whole number times a power of two, as a word. -/
import Derived.Test.YtbjcipikclbecaaGreatRdO
set_option linter.unusedVariables false
set_option maxRecDepth 100000
namespace Go.LI.Fl
open Go Go.LI Ieee
theorem zDS {m : Nat} (h0 : m ≠ 0) (hm : m ≤ 2 ^ 53) : ∃ f, 2 ^ 52 ≤ f ∧ f < 2 ^ 53 ∧ f * 2 ^ zE m = m * 2 ^ 53 ∧ zE m ≤ 54 ∧ 1 ≤ zE m := by
  obtain ⟨h1, h2, h3⟩ := zh3 h0
  have h54 : zE m ≤ 54 := zP.2 (by omega)
  rcases (by omega : zE m ≤ 53 ∨ zE m = 54) with h | h
  · refine ⟨m * 2 ^ (53 - zE m), ?_, ?_, ?_, h54, h3⟩
    · have := Nat.mul_le_mul_right (2 ^ (53 - zE m)) h1
      rw [← Nat.pow_add, show zE m - 1 + (53 - zE m) = 52 by omega] at this
      exact this
    · have := Nat.mul_lt_mul_of_pos_right h2 (Nat.two_pow_pos (53 - zE m))
      rw [← Nat.pow_add, show zE m + (53 - zE m) = 53 by omega] at this
      exact this
    · rw [Nat.mul_assoc, ← Nat.pow_add]; congr 2; omega
  · have hm2 : m = 2 ^ 53 := by rw [h] at h1; exact Nat.le_antisymm hm h1
    refine ⟨2 ^ 52, Nat.le_refl _, by decide, ?_, h54, h3⟩
    rw [h, hm2]
theorem zAk {f b m t q : Nat} (h : f * 2 ^ b = m * 2 ^ 53) (hq : q + 53 = t + b) : f * 2 ^ q = m * 2 ^ t := by
  have : f * 2 ^ q * 2 ^ 53 = m * 2 ^ t * 2 ^ 53 := by
    rw [Nat.mul_assoc, ← Nat.pow_add, hq, Nat.add_comm t b, Nat.pow_add, ← Nat.mul_assoc, h, Nat.mul_right_comm]
  exact Nat.eq_of_mul_eq_mul_right (by decide) this
theorem ztx {m t f q : Nat} (hf1 : 2 ^ 52 ≤ f) (hf2 : f < 2 ^ 53) (hf : f * 2 ^ zE m = m * 2 ^ 53) (hq : q + 53 = t + zE m) : zU (m * 2 ^ t) = q * 2 ^ 52 + f := by
  have := zAk hf hq
  refine zi9 ?_ ?_ hf2 (.inr hf1)
  · rw [this]; exact Nat.le_refl _
  · rw [← this]; exact Nat.mul_lt_mul_of_pos_right (by omega) (Nat.two_pow_pos q)
theorem zGn {M : Nat} : min (zU M) 9218868437227405312 = if zE M ≤ 2098 then zU M else 9218868437227405312 := by
  have := @zjx M
  split
  · rename_i h; have := this.2 h; omega
  · rename_i h
    have : ¬ zU M < 9218868437227405312 := fun hh => h (this.1 hh)
    omega
theorem zBO (q : Nat) : mag dbl (q * 2 ^ 52 + 4503599627370496) = 4503599627370496 * 2 ^ q := zdm (q := q) (m := 4503599627370496) (by decide) (.inr (by decide))
theorem zyu {q x : Nat} (hq : q = 1022) (hx : x < 9218868437227405312) : dbl.mul (q * 2 ^ 52 + 4503599627370496) x = some x := by
  refine ztX (by omega) hx hx ?_
  rw [zBO, Nat.mul_comm, show (4503599627370496 : Nat) = 2 ^ 52 from rfl, ← Nat.pow_add, show 52 + q = 1074 by omega]
theorem zw0 {x : Nat} (hx : x < 9218868437227405312) : dbl.mul 4607182418800017408 x = some x := zyu (q := 1022) rfl hx
theorem zvQ {f q r s : Nat} (hs : s = 969) (hf1 : 2 ^ 52 ≤ f) (hf2 : f < 2 ^ 53) (hq : q ≤ 2044) (hr : r < 2 ^ 52) (h : f * 2 ^ q = r * 2 ^ 53) : dbl.mul (s * 2 ^ 52 + 4503599627370496) (q * 2 ^ 52 + f) = some r := by
  refine ztX (by omega) (by omega) (by omega) ?_
  rw [zBO, zdm (by omega) (.inr hf1), h, zhk dbl (by rw [zxS]; exact hr), show (4503599627370496 : Nat) = 2 ^ 52 from rfl, Nat.mul_comm (2 ^ 52 * 2 ^ s), Nat.mul_assoc, ← Nat.pow_add, ← Nat.pow_add, show 53 + (52 + s) = 1074 by omega]
theorem zBT {f q r : Nat} (hf1 : 2 ^ 52 ≤ f) (hf2 : f < 2 ^ 53) (hq : q ≤ 2044) (hr : r < 2 ^ 52) (h : f * 2 ^ q = r * 2 ^ 53) : dbl.mul 4368491638549381120 (q * 2 ^ 52 + f) = some r := zvQ (s := 969) rfl hf1 hf2 hq hr h
end Go.LI.Fl
