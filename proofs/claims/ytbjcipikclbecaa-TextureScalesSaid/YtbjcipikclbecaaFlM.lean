/- Rounded down is not above, rounded up is not below: sums and products. -/
import Derived.Test.YtbjcipikclbecaaRdO
namespace Go.LI.Fl
open Go Go.LI Ieee
set_option linter.unusedVariables false
set_option maxRecDepth 100000
set_option exponentiation.threshold 2500

theorem floorR_leZ (M : Nat) : mag dbl (floorR M) ≤ M ∧ M < mag dbl (floorR M + 1) := by
  have hd := blen_div_pow M (blen M - 53)
  have h1 : M / 2 ^ (blen M - 53) < 2 ^ 53 := blen_lt.1 (by omega)
  have h2 : blen M - 53 = 0 ∨ 2 ^ 52 ≤ M / 2 ^ (blen M - 53) := by
    by_cases h : blen M ≤ 53
    · exact .inl (by omega)
    · exact .inr (blen_ge.1 (by omega))
  have hp : 0 < 2 ^ (blen M - 53) := Nat.two_pow_pos _
  unfold floorR
  refine ⟨?_, ?_⟩
  · rw [mag_form (by omega) h2]
    exact Nat.div_mul_le_self _ _
  · rw [Nat.add_assoc, mag_form (by omega) (h2.imp id fun h => by omega), Nat.add_mul, Nat.one_mul]
    have := Nat.div_add_mod M (2 ^ (blen M - 53))
    have hm := Nat.mod_lt M hp
    rw [Nat.mul_comm] at this
    omega
/-- Rounded down: not above. -/
theorem rnd_dn {A B : Nat} (hB : 0 < B) : mag dbl (rndR A B false) * B ≤ A := by
  unfold rndR
  rw [if_neg (by simp), Nat.add_zero]
  have := (floorR_leZ (A / B)).1
  exact Nat.le_trans (Nat.mul_le_mul_right _ this) (Nat.div_mul_le_self _ _)
/-- Rounded up: not below. -/
theorem rnd_up {A B : Nat} (hB : 0 < B) : A ≤ mag dbl (rndR A B true) * B := by
  unfold rndR
  by_cases h : mag dbl (floorR (A / B)) * B = A
  · rw [if_neg (by simp [h]), Nat.add_zero, h]
    exact Nat.le_refl _
  · rw [if_pos ⟨rfl, h⟩]
    have h2 := (floorR_leZ (A / B)).2
    have h3 : A / B + 1 ≤ mag dbl (floorR (A / B) + 1) := h2
    have h4 := Nat.mul_le_mul_right B h3
    have h5 := Nat.div_add_mod A B
    have h6 := Nat.mod_lt A hB
    rw [Nat.add_mul, Nat.one_mul, Nat.mul_comm (A / B) B] at h4
    omega

theorem inf_mag_pos : 0 < mag dbl 9218868437227405312 := by
  have h0 : mag dbl 0 = 0 := (mag_zero dbl).2 rfl
  have := mag_lt (r := 0) (s := 9218868437227405312) (by decide)
  omega
theorem sv_word' {n : Bool} {r : Nat} (h : r ≤ 9218868437227405312) : sv (dbl.word n r) = sgn n (mag dbl r) := by
  have hlt : r < dbl.signWeight := by rw [dbl_sw]; omega
  unfold sv sgn
  rw [rg_word dbl hlt, sg_word dbl hlt]
theorem sv_zero' : sv 0 = 0 := by
  have := sv_word' (n := false) (r := 0) (by decide)
  rw [show dbl.word false 0 = 0 from rfl] at this
  rw [this, show mag dbl 0 = 0 from (mag_zero dbl).2 rfl]
  rfl
theorem sgn_zeroZ (s : Bool) : sgn s 0 = 0 := by cases s <;> rfl
/-- What a sealed rung is worth. -/
theorem sv_seal (n : Bool) (r : Nat) (g : Bool) : sv (sealW n r g) = sgn n (mag dbl (if r < 9218868437227405312 then r else if g then 9218868437227405312 else 9218868437227405311)) := by
  unfold sealW
  simp only
  have hr : (if r < 9218868437227405312 then r else if g then 9218868437227405312 else 9218868437227405311) ≤ 9218868437227405312 := by
    split
    · omega
    · split <;> omega
  by_cases h : (if r < 9218868437227405312 then r else if g then 9218868437227405312 else 9218868437227405311) = 0
  · rw [if_pos h, h, sv_zero', show mag dbl 0 = 0 from (mag_zero dbl).2 rfl, sgn_zeroZ]
  · rw [if_neg h, sv_word' hr]

end Go.LI.Fl
