/- Words of middling numbers; quotients of whole numbers. -/
import Derived.Test.YtbjcipikclbecaaGreatFlB
set_option linter.unusedVariables false
set_option exponentiation.threshold 2000
namespace Go.LI.Fl
open Ieee
variable (f : Format)
theorem zHB (way : Toward) (neg : Bool) {n drop B : Nat} (h : n < B * 2 ^ drop) (hB : 0 < B) : way.cut neg n drop ≤ B := by
  unfold Toward.cut
  simp only [Nat.shiftLeft_eq, Nat.one_mul]
  have hlow : n / 2 ^ min drop (n.log2 + 2) < B := by
    rcases Nat.le_total drop (n.log2 + 2) with hd | hd
    · rw [Nat.min_eq_left hd]
      exact Nat.div_lt_of_lt_mul (by rw [Nat.mul_comm]; exact h)
    · rw [Nat.min_eq_right hd]
      have : n < 2 ^ (n.log2 + 2) := Nat.lt_trans Nat.lt_log2_self (Nat.pow_lt_pow_right (by decide) (by omega))
      rw [Nat.div_eq_of_lt this]; exact hB
  exact Nat.le_trans (Nat.add_le_add_left (Bool.toNat_le _) _) hlow
end Go.LI.Fl
