/- A mix of a colour with itself: sums, what is left of 1, and the real numbers. -/
import Derived.Test.YtbjcipikclbecaaGreatTxM
import Derived.Test.YtbjcipikclbecaaGreatRdPt2
set_option linter.unusedVariables false
set_option maxRecDepth 100000
set_option exponentiation.threshold 2500
namespace Go.LI.Fl
open Go Go.LI Ieee
theorem zGv : mag dbl 4607182418800017408 = zt4 := by decide +kernel
theorem zzv : num 4607182418800017408 ∧ sv 4607182418800017408 = (zt4 : Int) ∧ fin 4607182418800017408 = true := by
  obtain ⟨h1, h2⟩ := zdj (r := 4607182418800017408) (by decide)
  rw [zGv] at h2
  exact ⟨h1, h2, by decide +kernel⟩
def zuW (a b : Nat) : Nat := if (fin a && fin b) = true then zEW a b true else 18442240474082181120
def zhS (a b : Nat) : Nat := if (fin a && fin b) = true then zEW a b false else 9218868437227405312
end Go.LI.Fl
