/- A number of 128 bits with a rest, rounded. -/
import Derived.Test.YtbjcipikclbecaaRdL
set_option linter.unusedVariables false
set_option maxRecDepth 100000
namespace Go.LI.Fl
open Go Go.LI Ieee

/-- N * 2^p / 2^s (and less than one of its last bit more, if 'more') is A/B. -/
def RepN (N p s : Nat) (more : Bool) (A B : Nat) : Prop :=
  N * 2 ^ p * B ≤ A * 2 ^ s ∧ A * 2 ^ s < (N + 1) * 2 ^ p * B ∧ (more = true ↔ N * 2 ^ p * B ≠ A * 2 ^ s)

theorem RepN.shift {N p s : Nat} {more : Bool} {A B : Nat} (hB : 0 < B) (h : RepN N p s more A B) (n : Nat) : RepN (N / 2 ^ n) (p + n) s (more || decide (N % 2 ^ n ≠ 0)) A B := by
  obtain ⟨h1, h2, h3⟩ := h
  have hd := Nat.div_add_mod N (2 ^ n)
  have hm := Nat.mod_lt N (Nat.two_pow_pos n)
  have e1 : N / 2 ^ n * 2 ^ (p + n) * B = 2 ^ n * (N / 2 ^ n) * 2 ^ p * B := by rw [Nat.pow_add]; ac_rfl
  have e2 : (N / 2 ^ n + 1) * 2 ^ (p + n) * B = (2 ^ n * (N / 2 ^ n) + 2 ^ n) * 2 ^ p * B := by
    have e0 : 2 ^ n * (N / 2 ^ n) + 2 ^ n = 2 ^ n * (N / 2 ^ n + 1) := by rw [Nat.mul_add, Nat.mul_one]
    rw [Nat.pow_add, e0]
    generalize N / 2 ^ n + 1 = z
    ac_rfl
  have hp : 0 < 2 ^ p * B := Nat.mul_pos (Nat.two_pow_pos p) hB
  refine ⟨?_, ?_, ?_⟩
  · rw [e1]
    refine Nat.le_trans ?_ h1
    exact Nat.mul_le_mul_right _ (Nat.mul_le_mul_right _ (by omega))
  · rw [e2]
    refine Nat.lt_of_lt_of_le h2 ?_
    exact Nat.mul_le_mul_right _ (Nat.mul_le_mul_right _ (by omega))
  · rw [e1]
    by_cases hz : N % 2 ^ n = 0
    · rw [show 2 ^ n * (N / 2 ^ n) = N by omega, decide_eq_false (by omega), Bool.or_false]
      exact h3
    · rw [decide_eq_true hz, Bool.or_true]
      refine ⟨fun _ => ?_, fun _ => rfl⟩
      have : 2 ^ n * (N / 2 ^ n) * 2 ^ p * B < N * 2 ^ p * B := Nat.mul_lt_mul_of_pos_right (Nat.mul_lt_mul_of_pos_right (by omega) (Nat.two_pow_pos p)) hB
      omega
theorem RepN.cancel {N q s : Nat} {more : Bool} {A B : Nat} (h : RepN N (q + s) s more A B) : RepN N q 0 more A B := by
  obtain ⟨h1, h2, h3⟩ := h
  have hs := Nat.two_pow_pos s
  have e1 : N * 2 ^ (q + s) * B = N * 2 ^ q * B * 2 ^ s := by rw [Nat.pow_add]; ac_rfl
  have e2 : (N + 1) * 2 ^ (q + s) * B = (N + 1) * 2 ^ q * B * 2 ^ s := by rw [Nat.pow_add]; ac_rfl
  rw [e1] at h1 h3
  rw [e2] at h2
  refine ⟨?_, ?_, ?_⟩
  · rw [Nat.pow_zero, Nat.mul_one]; exact Nat.le_of_mul_le_mul_right h1 hs
  · rw [Nat.pow_zero, Nat.mul_one]; exact Nat.lt_of_mul_lt_mul_right h2
  · rw [Nat.pow_zero, Nat.mul_one, h3]
    refine not_congr ⟨fun h => Nat.eq_of_mul_eq_mul_right hs h, fun h => by rw [h]⟩

theorem floorR_inv (r : Nat) : floorR (mag dbl r) = r := by
  obtain ⟨q, m, rfl, h1, h2⟩ := rung_form r
  rw [mag_form (by omega) h2]
  exact floorR_of (Nat.le_refl _) (Nat.mul_lt_mul_of_pos_right (by omega) (Nat.two_pow_pos q)) h1 h2

/-- What is kept, and what it is rounded to. -/
theorem rndR_of {N q : Nat} {more : Bool} {A B : Nat} (hB : 0 < B) (h : RepN N q 0 more A B) (hN : N < 2 ^ 53) (hc : (q = 0 ∨ 2 ^ 52 ≤ N) ∨ more = false) (grow : Bool) :
    rndR A B grow = floorR ((N + if more = true ∧ grow = true then 1 else 0) * 2 ^ q) := by
  obtain ⟨h1, h2, h3⟩ := h
  rw [Nat.pow_zero, Nat.mul_one] at h1 h2 h3
  have d1 : N * 2 ^ q ≤ A / B := (Nat.le_div_iff_mul_le hB).2 h1
  have d2 : A / B < (N + 1) * 2 ^ q := (Nat.div_lt_iff_lt_mul hB).2 h2
  unfold rndR
  rcases hc with hc | hc
  · have hf := floorR_of d1 d2 hN hc
    have hm := mag_form (q := q) (m := N) (by omega) hc
    rw [hf, hm]
    cases hmo : more with
    | false =>
      have : ¬ (N * 2 ^ q * B ≠ A) := fun hh => by have := h3.2 hh; rw [hmo] at this; cases this
      rw [if_neg (by rintro ⟨_, hh⟩; exact this hh), if_neg (by rintro ⟨hh, _⟩; cases hh), Nat.add_zero, Nat.add_zero, ← hm, floorR_inv]
    | true =>
      have hne := h3.1 hmo
      cases grow with
      | false =>
        rw [if_neg (by rintro ⟨hh, _⟩; cases hh), if_neg (by rintro ⟨_, hh⟩; cases hh), Nat.add_zero, Nat.add_zero, ← hm, floorR_inv]
      | true =>
        have hm1 := mag_form (q := q) (m := N + 1) (by omega) (by omega)
        rw [if_pos ⟨rfl, hne⟩, if_pos ⟨rfl, rfl⟩, ← hm1, floorR_inv]
        omega
  · subst hc
    have heq : N * 2 ^ q * B = A := by
      rcases Nat.decEq (N * 2 ^ q * B) A with hh | hh
      · have := h3.2 hh; cases this
      · exact hh
    have hdiv : A / B = N * 2 ^ q := by rw [← heq, Nat.mul_div_cancel _ hB]
    rw [hdiv, floorR_mul (by omega), if_neg (by rintro ⟨_, hh⟩; exact hh heq), if_neg (by rintro ⟨hh, _⟩; cases hh), Nat.add_zero, Nat.add_zero]
end Go.LI.Fl
