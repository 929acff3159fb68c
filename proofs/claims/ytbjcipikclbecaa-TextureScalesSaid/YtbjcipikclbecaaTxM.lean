/- Products of spans with numbers of at most 1: what they hold. -/
import Derived.Test.YtbjcipikclbecaaTxB
import Derived.Test.YtbjcipikclbecaaFlM
namespace Go.LI.Fl
open Go Go.LI Ieee
set_option linter.unusedVariables false
set_option maxRecDepth 100000
set_option exponentiation.threshold 2500

theorem rnd_cap {A B r : Nat} {g : Bool} (hB : 0 < B) (h : A ≤ mag dbl r * B) : rndR A B g ≤ r := by
  have h1 := (floorR_leZ (A / B)).1
  have h2 : mag dbl (floorR (A / B)) * B ≤ A := Nat.le_trans (Nat.mul_le_mul_right _ h1) (Nat.div_mul_le_self _ _)
  have h3 : floorR (A / B) ≤ r := by
    rcases Nat.lt_or_ge r (floorR (A / B)) with hh | hh
    · have h4 := Nat.mul_lt_mul_of_pos_right (mag_lt hh) hB
      omega
    · exact hh
  unfold rndR
  split
  · rename_i hg
    rcases Nat.lt_or_ge (floorR (A / B)) r with hh | hh
    · omega
    · have e : floorR (A / B) = r := by omega
      rw [e] at h2 hg
      exact absurd (by omega) hg.2
  · omega
theorem sv_mul' (a b : Nat) : sgn (sg dbl a != sg dbl b) (mag dbl (rg dbl a) * mag dbl (rg dbl b)) = sv a * sv b := by
  unfold sv sgn
  cases sg dbl a <;> cases sg dbl b <;> simp [Int.neg_mul, Int.mul_neg]
theorem sv_ninf : sv 18442240474082181120 = -(mag dbl 9218868437227405312 : Int) := by
  have h := sv_word' (n := true) (r := 9218868437227405312) (Nat.le_refl _)
  rw [show dbl.word true 9218868437227405312 = 18442240474082181120 by decide +kernel] at h
  rw [h]; rfl
theorem sv_pinf : sv 9218868437227405312 = (mag dbl 9218868437227405312 : Int) := by
  have h := sv_word' (n := false) (r := 9218868437227405312) (Nat.le_refl _)
  rw [show dbl.word false 9218868437227405312 = 9218868437227405312 by decide +kernel] at h
  rw [h]; rfl
end Go.LI.Fl
namespace Go.LI.Film
open Go.Proofs.Ytbjcipikclbecaa Go Go.Proofs Go.LI Go.LI.Fl
set_option linter.unusedVariables false
set_option linter.unusedSimpArgs false
set_option maxRecDepth 100000
set_option exponentiation.threshold 2500

/-- What a product of spans holds. -/
structure MB (a b c d l h : Nat) : Prop where
  nl : num l
  nh : num h
  lo : ∀ x y, (x = a ∨ x = b) → (y = c ∨ y = d) → sv l * (one74 : Int) ≤ sv x * sv y
  hi : ∀ x y, (x = a ∨ x = b) → (y = c ∨ y = d) → sv x * sv y ≤ sv h * (one74 : Int)
section
variable {R : Type} {O : Ora R}
end
end Go.LI.Film
