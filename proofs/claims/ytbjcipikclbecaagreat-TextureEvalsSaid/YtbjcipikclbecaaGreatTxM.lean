/- Products of spans with numbers of at most 1: what they hold. -/
import Derived.Test.YtbjcipikclbecaaGreatTxB
import Derived.Test.YtbjcipikclbecaaGreatFlM
set_option linter.unusedVariables false
set_option maxRecDepth 100000
set_option exponentiation.threshold 2500
set_option linter.unusedSimpArgs false
namespace Go.LI.Fl
open Go Go.LI Ieee
theorem zFR : sv 18442240474082181120 = -(mag dbl 9218868437227405312 : Int) := by
  have h := zo4 (n := true) (r := 9218868437227405312) (Nat.le_refl _)
  rw [show dbl.word true 9218868437227405312 = 18442240474082181120 by decide +kernel] at h
  rw [h]; rfl
theorem zFv : sv 9218868437227405312 = (mag dbl 9218868437227405312 : Int) := by
  have h := zo4 (n := false) (r := 9218868437227405312) (Nat.le_refl _)
  rw [show dbl.word false 9218868437227405312 = 9218868437227405312 by decide +kernel] at h
  rw [h]; rfl
end Go.LI.Fl
namespace Go.LI.Film
open Go.Proofs.YtbjcipikclbecaaGreat Go Go.Proofs Go.LI Go.LI.Fl
structure MB (a b c d l h : Nat) : Prop where
  nl : num l
  nh : num h
  lo : ∀ x y, (x = a ∨ x = b) → (y = c ∨ y = d) → sv l * (zt4 : Int) ≤ sv x * sv y
  hi : ∀ x y, (x = a ∨ x = b) → (y = c ∨ y = d) → sv x * sv y ≤ sv h * (zt4 : Int)
section
variable {R : Type} {O : Ora R}
end
end Go.LI.Film
