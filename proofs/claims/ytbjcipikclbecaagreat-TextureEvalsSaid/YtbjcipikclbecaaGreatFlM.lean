/- Rounded down is not above, rounded up is not below: sums and products. -/
import Derived.Test.YtbjcipikclbecaaGreatRdO
set_option linter.unusedVariables false
set_option maxRecDepth 100000
set_option exponentiation.threshold 2500
namespace Go.LI.Fl
open Go Go.LI Ieee
theorem zzg : 0 < mag dbl 9218868437227405312 := by
  have h0 : mag dbl 0 = 0 := (zaE dbl).2 rfl
  have := zlV (r := 0) (s := 9218868437227405312) (by decide)
  omega
theorem zo4 {n : Bool} {r : Nat} (h : r ≤ 9218868437227405312) : sv (dbl.word n r) = sgn n (mag dbl r) := by
  have hlt : r < dbl.signWeight := by rw [zbp]; omega
  unfold sv sgn
  rw [znx dbl hlt, zyY dbl hlt]
theorem zzB : sv 0 = 0 := by
  have := zo4 (n := false) (r := 0) (by decide)
  rw [show dbl.word false 0 = 0 from rfl] at this
  rw [this, show mag dbl 0 = 0 from (zaE dbl).2 rfl]
  rfl
theorem zAg (z : Int) : sgn (decide (z < 0)) z.natAbs = z := by
  unfold sgn
  by_cases h : z < 0
  · simp [h]; omega
  · simp [h]; omega
end Go.LI.Fl
