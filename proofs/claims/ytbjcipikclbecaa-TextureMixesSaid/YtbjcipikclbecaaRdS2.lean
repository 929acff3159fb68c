/- Package round: to the right, splitting, numbers. -/
import Derived.Test.YtbjcipikclbecaaRdS1
namespace Go.LI.Film
open Go.Proofs.Ytbjcipikclbecaa Go Go.Proofs Go.LI Go.LI.Fl
set_option linter.unusedVariables false
set_option linter.unusedSimpArgs false
set_option maxRecDepth 100000
section
variable {R : Type}

theorem split128 (N : Nat) : ∃ hi lo, N = hi * 2 ^ 64 + lo ∧ lo < 2 ^ 64 ∧ N / 2 ^ 64 = hi ∧ N % 2 ^ 64 = lo := ⟨N / 2 ^ 64, N % 2 ^ 64, by omega, by omega, rfl, rfl⟩

theorem dm64 {A X : Nat} (h : X < 2 ^ 64) : (A * 2 ^ 64 + X) / 2 ^ 64 = A ∧ (A * 2 ^ 64 + X) % 2 ^ 64 = X := by omega
/-- What falls out of a word of 64 bits. -/
theorem shl_out {x m : Nat} (hx : x < 2 ^ 64) (hm : m ≤ 64) : (x * 2 ^ (64 - m) % 2 ^ 64 = 0) ↔ x % 2 ^ m = 0 := by
  have hp : (2 : Nat) ^ 64 = 2 ^ m * 2 ^ (64 - m) := by rw [← Nat.pow_add]; congr 1; omega
  rw [hp, Nat.mul_mod_mul_right]
  constructor
  · intro h
    rcases Nat.mul_eq_zero.1 h with h | h
    · exact h
    · have := Nat.two_pow_pos (64 - m); omega
  · intro h; rw [h, Nat.zero_mul]

theorem wRight {F n : Nat} (hF : 1 ≤ F) (hn : 2 ≤ n) : SRight (runC (R := R) Try.prog lo0 F n) := by
  obtain ⟨n, rfl⟩ : ∃ j, n = j + 2 := ⟨n - 2, by omega⟩
  intro neg N s e more hN he1 he2 hs1 hs2 G k
  have hzero := wZero (R := R) (F := F) (n := n + 1) (by omega)
  unfold W
  rw [r_round_exact_right, e_round_exact_right]
  simp only [u_round_exact_right]
  rw [wrapI (v := e + s) (by omega) (by omega)]
  by_cases h0 : s ≤ 0
  · have ht : s.toNat = 0 := by omega
    rw [decide_eq_true h0, cond_true, wrapI (by omega) (by omega), ht]
    simp only [Nat.pow_zero, Nat.div_one, Nat.mod_one]
    rw [show e + s - s = e by omega]
    simp
  obtain ⟨m, rfl⟩ : ∃ m : Nat, s = m := ⟨s.toNat, by omega⟩
  rw [decide_eq_false h0, cond_false, Int.toNat_natCast]
  obtain ⟨hi, lo, hhl, hlo, d1, d2⟩ := split128 N
  have hhi : hi < 2 ^ 64 := by omega
  rw [d1, d2]
  by_cases h128 : (m : Int) ≥ 128
  · rw [decide_eq_true h128, cond_true]
    simp only [L_round_exact_right_0]
    rw [stepF hF]
    have hNm : N < 2 ^ m := Nat.lt_of_lt_of_le hN (Nat.pow_le_pow_right (by decide) (by omega))
    have q1 : N / 2 ^ m = 0 := Nat.div_eq_of_lt hNm
    have q2 : N % 2 ^ m = N := Nat.mod_eq_of_lt hNm
    simp only [l_round_exact_right_0, u_round_exact_right_0, a_round_exact_right_0N]
    rw [q1, q2]
    cases more with
    | true => rw [cond_true]; simp
    | false =>
      have hz := hzero neg N (e + m) false G
      unfold W at hz
      rw [d1, d2] at hz
      rw [cond_false, hz, ivB]
      simp
  rw [decide_eq_false h128, cond_false]
  by_cases h64 : (m : Int) ≥ 64
  · rw [decide_eq_true h64, cond_true]
    simp only [L_round_exact_right_1]
    rw [stepF hF]
    simp only [l_round_exact_right_1, u_round_exact_right_1, a_round_exact_right_1N]
    obtain ⟨j, rfl⟩ : ∃ j, m = 64 + j := ⟨m - 64, by omega⟩
    have q1 : N / 2 ^ (64 + j) = hi / 2 ^ j := by rw [Nat.pow_add, ← Nat.div_div_eq_div_mul, d1]
    have q2 : hi / 2 ^ j < 2 ^ 64 := Nat.lt_of_le_of_lt (Nat.div_le_self _ _) hhi
    have q3 : N % 2 ^ (64 + j) = hi % 2 ^ j * 2 ^ 64 + lo := by
      rw [Nat.pow_add, Nat.mod_mul, d1, d2]; omega
    have w1 : IntKind.wrap .i64 (((64 + j : Nat) : Int) - 64) = (j : Nat) := by rw [wrapI (by omega) (by omega)]; omega
    have w2 : IntKind.wrap .i64 ((128 : Int) - ((64 + j : Nat) : Int)) = ((64 - j : Nat) : Int) := by rw [wrapI (by omega) (by omega)]; omega
    rw [w1, w2, decide_eq_false (show ¬ ((j : Nat) : Int) < 0 by omega), cond_false, decide_eq_false (show ¬ ((64 - j : Nat) : Int) < 0 by omega), cond_false, shr_nat hhi, shl_nat, ibn, ibn, q1, q3]
    have fin : ∀ (b : Bool), b = (more || decide (hi % 2 ^ j * 2 ^ 64 + lo ≠ 0)) →
        k (.agg [.bool neg, .int .u64 (0 : Int), .int .u64 ((hi / 2 ^ j : Nat) : Int), .int .i64 (e + ((64 + j : Nat) : Int)), .bool b]) G = k (.agg [.bool neg, .int .u64 ((hi / 2 ^ j / 2 ^ 64 : Nat) : Int), .int .u64 ((hi / 2 ^ j % 2 ^ 64 : Nat) : Int), .int .i64 (e + ((64 + j : Nat) : Int)), .bool (more || decide (hi % 2 ^ j * 2 ^ 64 + lo ≠ 0))]) G := by
      intro b hb
      rw [hb, Nat.div_eq_of_lt q2, Nat.mod_eq_of_lt q2]
      rfl
    cases more with
    | true => rw [cond_true]; exact fin true rfl
    | false =>
      rw [cond_false]
      by_cases hl0 : lo = 0
      · rw [decide_eq_false (by omega), cond_false]
        have ho := shl_out (x := hi) (m := j) hhi (by omega)
        by_cases hh : hi * 2 ^ (64 - j) % 2 ^ 64 = 0
        · rw [decide_eq_false (by omega), cond_false]
          refine fin false ?_
          rw [ho.1 hh, hl0]; rfl
        · rw [decide_eq_true hh, cond_true]
          have hj : j ≠ 0 := by
            rintro rfl
            exact hh (ho.2 (Nat.mod_one _))
          refine fin _ ?_
          have hne : hi % 2 ^ j ≠ 0 := fun h => hh (ho.2 h)
          rw [decide_eq_true (show ((64 + j : Nat) : Int) > 64 by omega), Bool.false_or, decide_eq_true (by omega)]
      · rw [decide_eq_true hl0, cond_true]
        refine fin true ?_
        rw [Bool.false_or, decide_eq_true (by omega)]
  · rw [decide_eq_false h64, cond_false]
    simp only [L_round_exact_right_2]
    rw [stepF hF]
    simp only [l_round_exact_right_2, u_round_exact_right_2, a_round_exact_right_2N]
    have hm0 : 0 < m := by omega
    have w2 : IntKind.wrap .i64 ((64 : Int) - (m : Int)) = ((64 - m : Nat) : Int) := by rw [wrapI (by omega) (by omega)]; omega
    rw [w2, decide_eq_false (show ¬ ((m : Nat) : Int) < 0 by omega), decide_eq_false (show ¬ ((64 - m : Nat) : Int) < 0 by omega), shr_nat hhi, shr_nat hlo, shl_nat, shl_nat, ibn]
    have hp : 2 ^ (64 - m) * 2 ^ m = 2 ^ 64 := by rw [← Nat.pow_add]; congr 1; omega
    have hp' : 2 ^ m * 2 ^ (64 - m) = 2 ^ 64 := by rw [Nat.mul_comm]; exact hp
    have hq : lo / 2 ^ m < 2 ^ (64 - m) := by rw [Nat.div_lt_iff_lt_mul (Nat.two_pow_pos _), hp]; exact hlo
    have hdm := Nat.div_add_mod hi (2 ^ m)
    have e1 : hi * 2 ^ (64 - m) = hi / 2 ^ m * 2 ^ 64 + hi % 2 ^ m * 2 ^ (64 - m) := by
      conv => lhs; rw [← hdm]
      rw [Nat.add_mul, Nat.mul_comm (2 ^ m), Nat.mul_assoc, hp']
    have hr : hi % 2 ^ m * 2 ^ (64 - m) < 2 ^ 64 := by
      rw [← hp']; exact Nat.mul_lt_mul_of_pos_right (Nat.mod_lt _ (Nat.two_pow_pos _)) (Nat.two_pow_pos _)
    have e2 : hi * 2 ^ (64 - m) % 2 ^ 64 = hi % 2 ^ m * 2 ^ (64 - m) := by rw [e1]; exact (dm64 hr).2
    have q1 : N / 2 ^ m = hi / 2 ^ m * 2 ^ 64 + (hi % 2 ^ m * 2 ^ (64 - m) + lo / 2 ^ m) := by
      have : N = (hi / 2 ^ m * 2 ^ 64 + hi % 2 ^ m * 2 ^ (64 - m)) * 2 ^ m + lo := by
        rw [← e1, Nat.mul_assoc, hp]; exact hhl
      rw [this, Nat.mul_comm _ (2 ^ m), Nat.mul_add_div (Nat.two_pow_pos m)]; omega
    have q3 : N % 2 ^ m = lo % 2 ^ m := by
      have : N = 2 ^ m * (hi * 2 ^ (64 - m)) + lo := by rw [hhl, ← Nat.mul_assoc, Nat.mul_comm (2 ^ m) hi, Nat.mul_assoc, hp']
      rw [this, Nat.mul_add_mod]
    have hsum : hi % 2 ^ m * 2 ^ (64 - m) + lo / 2 ^ m < 2 ^ 64 := by
      have h1 : (hi % 2 ^ m + 1) * 2 ^ (64 - m) ≤ 2 ^ m * 2 ^ (64 - m) := Nat.mul_le_mul_right _ (Nat.mod_lt _ (Nat.two_pow_pos m))
      rw [Nat.add_mul, hp'] at h1
      omega
    have hor : orI .u64 ((lo / 2 ^ m : Nat) : Int) ((hi * 2 ^ (64 - m) % 2 ^ 64 : Nat) : Int) = ((hi % 2 ^ m * 2 ^ (64 - m) + lo / 2 ^ m : Nat) : Int) := by
      rw [e2, or_nat (Nat.lt_of_le_of_lt (Nat.div_le_self _ _) hlo) hr, Nat.or_comm, or_add hq]
    rw [hor, q1, q3]
    obtain ⟨f1, f2⟩ := dm64 (A := hi / 2 ^ m) hsum
    rw [f1, f2]
    have ho := shl_out (x := lo) (m := m) hlo (by omega)
    have hdec : decide (lo * 2 ^ (64 - m) % 2 ^ 64 ≠ 0) = decide (lo % 2 ^ m ≠ 0) := by
      rw [decide_eq_decide]; exact not_congr ho
    rw [hdec]
    cases more <;> simp only [cond_true, cond_false, Bool.true_or, Bool.false_or]
end
end Go.LI.Film
