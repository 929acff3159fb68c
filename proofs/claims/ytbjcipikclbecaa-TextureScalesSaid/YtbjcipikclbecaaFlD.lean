/- Rounding to the nearest: which rung is met. -/
import Derived.Test.YtbjcipikclbecaaFlC
set_option linter.unusedVariables false
namespace Go.LI.Fl
open Ieee

/-- r is the rung nearest to V, where S is one unit. -/
def Near (f : Format) (V S r : Nat) : Prop :=
  (r = 0 ∨ (mag f (r - 1) + mag f r) * S < 2 * V ∨ ((mag f (r - 1) + mag f r) * S = 2 * V ∧ r % 2 = 0)) ∧
  (2 * V < (mag f r + mag f (r + 1)) * S ∨ (2 * V = (mag f r + mag f (r + 1)) * S ∧ r % 2 = 0))

theorem mag_formF (f : Format) {q k : Nat} (h1 : k ≤ 2 * f.binade) (h2 : q = 0 ∨ f.binade ≤ k) : mag f (q * f.binade + k) = k * 2 ^ q := by
  have hB := bin_pos f
  have main : ∀ {q k : Nat}, k < 2 * f.binade → (q = 0 ∨ f.binade ≤ k) → mag f (q * f.binade + k) = k * 2 ^ q := by
    intro q k h1 h2
    rcases Nat.lt_or_ge k f.binade with hk | hk
    · have : q = 0 := by omega
      subst this
      rw [Nat.zero_mul, Nat.zero_add, mag_small f hk, Nat.pow_zero, Nat.mul_one]
    · obtain ⟨j, rfl⟩ : ∃ j, k = f.binade + j := ⟨k - f.binade, by omega⟩
      have e : q * f.binade + (f.binade + j) = j + f.binade * (q + 1) := by rw [Nat.mul_add, Nat.mul_one, Nat.mul_comm q]; omega
      rw [mag_big f (by omega), e, Nat.add_mul_mod_self_left, Nat.mod_eq_of_lt (by omega), Nat.add_mul_div_left _ _ hB, Nat.div_eq_of_lt (by omega)]
      rw [show 0 + (q + 1) - 1 = q by omega]
  rcases Nat.lt_or_ge k (2 * f.binade) with h | h
  · exact main h h2
  · have hk : k = 2 * f.binade := by omega
    have := main (q := q + 1) (k := f.binade) (by omega) (.inr (Nat.le_refl _))
    rw [Nat.add_mul, Nat.one_mul] at this
    rw [hk, show q * f.binade + 2 * f.binade = q * f.binade + f.binade + f.binade by omega, this, Nat.pow_succ 2 q]
    rw [Nat.mul_comm 2, Nat.mul_assoc, Nat.mul_comm 2]
theorem rung_formF (f : Format) (r : Nat) : ∃ q k, r = q * f.binade + k ∧ k < 2 * f.binade ∧ (q = 0 ∨ f.binade ≤ k) := by
  have hB := bin_pos f
  rcases Nat.lt_or_ge r f.binade with h | h
  · exact ⟨0, r, by omega, by omega, .inl rfl⟩
  · have h1 := Nat.div_add_mod r f.binade
    have h2 := Nat.mod_lt r hB
    have h3 : 1 ≤ r / f.binade := (Nat.le_div_iff_mul_le hB).2 (by omega)
    refine ⟨r / f.binade - 1, f.binade + r % f.binade, ?_, by omega, .inr (by omega)⟩
    have : (r / f.binade - 1) * f.binade + f.binade = f.binade * (r / f.binade) := by
      obtain ⟨j, hj⟩ : ∃ j, r / f.binade = j + 1 := ⟨r / f.binade - 1, by omega⟩
      rw [hj, Nat.add_sub_cancel, Nat.mul_add, Nat.mul_one, Nat.mul_comm j]
    omega
theorem mag_succF (f : Format) (r : Nat) : mag f r < mag f (r + 1) := by
  obtain ⟨q, k, rfl, h1, h2⟩ := rung_formF f r
  rw [mag_formF f (by omega) h2, show q * f.binade + k + 1 = q * f.binade + (k + 1) by omega, mag_formF f (by omega) (by omega)]
  exact Nat.mul_lt_mul_of_pos_right (by omega) (Nat.two_pow_pos q)
theorem mag_ltF (f : Format) {r s : Nat} (h : r < s) : mag f r < mag f s := by
  induction s with
  | zero => omega
  | succ s ih =>
    rcases Nat.lt_or_ge r s with hr | hr
    · exact Nat.lt_trans (ih hr) (mag_succF f s)
    · have : r = s := by omega
      subst this; exact mag_succF f r
theorem mag_leF (f : Format) {r s : Nat} (h : r ≤ s) : mag f r ≤ mag f s := by
  rcases Nat.lt_or_ge r s with hr | hr
  · exact Nat.le_of_lt (mag_ltF f hr)
  · have : r = s := by omega
    subst this; exact Nat.le_refl _

theorem tri {V N D X Y : Nat} (hD : 0 < D) (hX : 0 < X) (h : V * D = N * X) : (2 * N < Y * D → 2 * V < Y * X) ∧ (2 * N = Y * D → 2 * V = Y * X) ∧ (Y * D < 2 * N → Y * X < 2 * V) ∧ (Y * D ≤ 2 * N → Y * X ≤ 2 * V) := by
  have e : 2 * V * D = 2 * N * X := by rw [Nat.mul_assoc, h, Nat.mul_assoc]
  have e2 : Y * X * D = Y * D * X := by rw [Nat.mul_assoc, Nat.mul_comm X, Nat.mul_assoc]
  refine ⟨fun k => ?_, fun k => ?_, fun k => ?_, fun k => ?_⟩
  · refine Nat.lt_of_mul_lt_mul_right (a := D) ?_
    rw [e, e2]; exact Nat.mul_lt_mul_of_pos_right k hX
  · refine Nat.eq_of_mul_eq_mul_right hD ?_
    rw [e, e2, k]
  · refine Nat.lt_of_mul_lt_mul_right (a := D) ?_
    rw [e, e2]; exact Nat.mul_lt_mul_of_pos_right k hX
  · refine Nat.le_of_mul_le_mul_right (c := D) ?_ hD
    rw [e, e2]; exact Nat.mul_le_mul_right _ k

theorem Near.mono {f : Format} {V V' S r r' : Nat} (hS : 0 < S) (h : Near f V S r) (h' : Near f V' S r') (hV : V ≤ V') : r ≤ r' := by
  refine Nat.le_of_not_lt fun hc => ?_
  have a := h.1
  have b := h'.2
  have l1 : (mag f r' + mag f (r' + 1)) * S ≤ (mag f (r - 1) + mag f r) * S := Nat.mul_le_mul_right _ (Nat.add_le_add (mag_leF f (by omega)) (mag_leF f (by omega)))
  rcases a with a | a | ⟨a, ae⟩
  · omega
  · omega
  · rcases b with b | ⟨b, be⟩
    · omega
    · have heq : (mag f r' + mag f (r' + 1)) * S = (mag f (r - 1) + mag f r) * S := by omega
      have heq2 := Nat.eq_of_mul_eq_mul_right hS heq
      have l2 := mag_leF f (r := r') (s := r - 1) (by omega)
      have l3 := mag_leF f (r := r' + 1) (s := r) (by omega)
      have : r' = r - 1 := by
        rcases Nat.lt_or_ge r' (r - 1) with h1 | h1
        · have := mag_ltF f h1; omega
        · omega
      omega
theorem Near.exact {f : Format} {S r : Nat} (hS : 0 < S) : Near f (mag f r * S) S r := by
  constructor
  · rcases Nat.eq_zero_or_pos r with h | h
    · exact .inl h
    · refine .inr (.inl ?_)
      rw [← Nat.mul_assoc]
      have := mag_ltF f (r := r - 1) (s := r) (by omega)
      exact Nat.mul_lt_mul_of_pos_right (by omega) hS
  · refine .inl ?_
    rw [← Nat.mul_assoc]
    have := mag_succF f r
    exact Nat.mul_lt_mul_of_pos_right (by omega) hS
end Go.LI.Fl
