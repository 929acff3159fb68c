/- A mix of a colour with itself: sums, what is left of 1, and the real numbers. -/
import Derived.Test.YtbjcipikclbecaaTxM
import Derived.Test.YtbjcipikclbecaaRdPt2
namespace Go.LI.Fl
open Go Go.LI Ieee
set_option linter.unusedVariables false
set_option maxRecDepth 100000
set_option exponentiation.threshold 2500

theorem one_mag : mag dbl 4607182418800017408 = one74 := by decide +kernel
theorem one_sv : num 4607182418800017408 ∧ sv 4607182418800017408 = (one74 : Int) ∧ fin 4607182418800017408 = true := by
  obtain ⟨h1, h2⟩ := num_small (r := 4607182418800017408) (by decide)
  rw [one_mag] at h2
  exact ⟨h1, h2, by decide +kernel⟩
def lowX (a b : Nat) : Nat := if (fin a && fin b) = true then addR a b true else 18442240474082181120
def highX (a b : Nat) : Nat := if (fin a && fin b) = true then addR a b false else 9218868437227405312
end Go.LI.Fl
