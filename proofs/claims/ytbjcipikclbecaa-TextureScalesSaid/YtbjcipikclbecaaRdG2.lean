/- Several texts of this claim in one. -/
import Derived.Test.YtbjcipikclbecaaRdY
import Derived.Test.YtbjcipikclbecaaRdPa
import Derived.Test.YtbjcipikclbecaaRdPb
import Derived.Test.YtbjcipikclbecaaRdO
import Derived.Test.YtbjcipikclbecaaRdL
import Derived.Test.YtbjcipikclbecaaRdT
import Derived.Test.YtbjcipikclbecaaRdU

/-! Package round and math/bits: the small functions. -/
namespace Go.LI.Film
open Go.Proofs.Ytbjcipikclbecaa Go Go.Proofs Go.LI Go.LI.Fl
set_option linter.unusedVariables false
set_option linter.unusedSimpArgs false
set_option maxRecDepth 100000

/-- A number of 128 bits with its sign, place and rest. -/
def W (neg : Bool) (N : Nat) (e : Int) (more : Bool) : IV := .agg [.bool neg, .int .u64 ((N / 2 ^ 64 : Nat) : Int), .int .u64 ((N % 2 ^ 64 : Nat) : Int), .int .i64 e, .bool more]

section
variable {R : Type}
abbrev SLen64 (O : Ora R) : Prop := ∀ (x : Nat), x < 2 ^ 64 → ∀ (G : GH) (k : IV → GH → Option R), O fn_bits_Len64 [.int .u64 (x : Int)] G k = k (.int .i64 (blen x : Nat)) G
abbrev SZero (O : Ora R) : Prop := ∀ (neg : Bool) (N : Nat) (e : Int) (more : Bool) (G : GH) (k : IV → GH → Option R), O fn_round_exact_zero [W neg N e more] G k = k (.bool (decide (N = 0))) G
abbrev SLength (O : Ora R) : Prop := ∀ (neg : Bool) (N : Nat) (e : Int) (more : Bool), N < 2 ^ 128 → ∀ (G : GH) (k : IV → GH → Option R), O fn_round_exact_length [W neg N e more] G k = k (.int .i64 (blen N : Nat)) G
abbrev SLeft (O : Ora R) : Prop := ∀ (neg : Bool) (N n : Nat) (e : Int) (more : Bool), N ≠ 0 → N * 2 ^ n < 2 ^ 128 → -100000 ≤ e → e ≤ 100000 → ∀ (G : GH) (k : IV → GH → Option R),
  O fn_round_exact_left [W neg N e more, .int .i64 (n : Int)] G k = k (W neg (N * 2 ^ n) (e - n) more) G
abbrev SRight (O : Ora R) : Prop := ∀ (neg : Bool) (N : Nat) (n e : Int) (more : Bool), N < 2 ^ 128 → -100000 ≤ e → e ≤ 100000 → -100000 ≤ n → n ≤ 100000 → ∀ (G : GH) (k : IV → GH → Option R),
  O fn_round_exact_right [W neg N e more, .int .i64 n] G k = k (W neg (N / 2 ^ n.toNat) (e + n.toNat) (more || decide (N % 2 ^ n.toNat ≠ 0))) G

theorem ivB (b : Bool) {β : Type} (f : Bool → Option β) : (ivBool (.bool b)).bind f = f b := rfl
theorem ivI (n : Int) {β : Type} (f : Int → Option β) : (ivInt .i64 (.int .i64 n)).bind f = f n := rfl
theorem ivU (n : Int) {β : Type} (f : Int → Option β) : (ivInt .u64 (.int .u64 n)).bind f = f n := rfl
theorem ivF (n : Nat) {β : Type} (f : Nat → Option β) : (ivFloat .f64 (.float .f64 n)).bind f = f n := rfl
theorem stepF {F : Nat} (hF : 1 ≤ F) {x : Option R} : stepN F x = x := by
  obtain ⟨f, rfl⟩ : ∃ f, F = f + 1 := ⟨F - 1, by omega⟩
  rfl

theorem len8 : ∀ x : Fin 256, (([0, 1, 2, 2, 3, 3, 3, 3, 4, 4, 4, 4, 4, 4, 4, 4, 5, 5, 5, 5, 5, 5, 5, 5, 5, 5, 5, 5, 5, 5, 5, 5, 6, 6, 6, 6, 6, 6, 6, 6, 6, 6, 6, 6, 6, 6, 6, 6, 6, 6, 6, 6, 6, 6, 6, 6, 6, 6, 6, 6, 6, 6, 6, 6, 7, 7, 7, 7, 7, 7, 7, 7, 7, 7, 7, 7, 7, 7, 7, 7, 7, 7, 7, 7, 7, 7, 7, 7, 7, 7, 7, 7, 7, 7, 7, 7, 7, 7, 7, 7, 7, 7, 7, 7, 7, 7, 7, 7, 7, 7, 7, 7, 7, 7, 7, 7, 7, 7, 7, 7, 7, 7, 7, 7, 7, 7, 7, 7, 8, 8, 8, 8, 8, 8, 8, 8, 8, 8, 8, 8, 8, 8, 8, 8, 8, 8, 8, 8, 8, 8, 8, 8, 8, 8, 8, 8, 8, 8, 8, 8, 8, 8, 8, 8, 8, 8, 8, 8, 8, 8, 8, 8, 8, 8, 8, 8, 8, 8, 8, 8, 8, 8, 8, 8, 8, 8, 8, 8, 8, 8, 8, 8, 8, 8, 8, 8, 8, 8, 8, 8, 8, 8, 8, 8, 8, 8, 8, 8, 8, 8, 8, 8, 8, 8, 8, 8, 8, 8, 8, 8, 8, 8, 8, 8, 8, 8, 8, 8, 8, 8, 8, 8, 8, 8, 8, 8, 8, 8, 8, 8, 8, 8, 8, 8, 8, 8, 8, 8, 8, 8, 8, 8, 8, 8, 8, 8] : List UInt8).getD x.val 0).toNat = blen x.val := by decide +kernel

theorem len_step {x s c : Nat} (hc : 2 ^ s ≤ x) : blen (x / 2 ^ s) + s = blen x := by
  have h1 := blen_div_pow x s
  have h2 := blen_ge.2 hc
  omega

theorem wLen64 {F n : Nat} (hF : 1 ≤ F) (hn : 1 ≤ n) : SLen64 (runC (R := R) Try.prog lo0 F n) := by
  obtain ⟨n, rfl⟩ : ∃ j, n = j + 1 := ⟨n - 1, by omega⟩
  intro x hx G k
  rw [r_bits_Len64, e_bits_Len64]
  have fin : ∀ (y s : Nat), y < 256 → s ≤ 56 → a_bits_Len64_2N (runC (R := R) Try.prog lo0 F n) k (y : Int) (s : Int) G = k (.int .i64 ((blen y + s : Nat) : Int)) G := by
    intro y s hy hs
    have h8 := len8 ⟨y, hy⟩
    have w1 : IntKind.wrap .u8 (y : Int) = (y : Int) := by
      have e1 : IntKind.u8.bits = 8 := rfl
      unfold IntKind.wrap
      simp only [IntKind.signed, Bool.false_and, Bool.false_eq_true, if_false, e1]
      omega
    simp only [a_bits_Len64_2N]
    rw [w1, decide_eq_true (by
      refine ⟨by omega, ?_⟩
      have : (y : Int) < 256 := by omega
      exact this), cond_true, Int.toNat_natCast, h8]
    have hb : blen y ≤ 8 := blen_lt.2 hy
    rw [wrapI (v := ((blen y : Nat) : Int)) (by omega) (by omega), wrapI (by omega) (by omega)]
    congr 3
    omega
  have st2 : ∀ (y s : Nat), y < 2 ^ 16 → s ≤ 48 → L_bits_Len64_2 (runC (R := R) Try.prog lo0 F n) F k (y : Int) (s : Int) G = k (.int .i64 ((blen y + s : Nat) : Int)) G := by
    intro y s hy hs
    simp only [L_bits_Len64_2]
    rw [stepF hF]
    simp only [l_bits_Len64_2, u_bits_Len64_2]
    by_cases hc : (y : Int) ≥ 256
    · rw [decide_eq_true hc, cond_true, show (8 : Int) = ((8 : Nat) : Int) from rfl, shr_nat (by omega), wrapI (by omega) (by omega)]
      rw [show (s : Int) + ((8 : Nat) : Int) = ((s + 8 : Nat) : Int) by omega, fin _ _ (by omega) (by omega)]
      have := len_step (x := y) (s := 8) (c := 0) (by omega)
      congr 3; omega
    · rw [decide_eq_false hc, cond_false]
      exact fin y s (by omega) (by omega)
  have st1 : ∀ (y s : Nat), y < 2 ^ 32 → s ≤ 32 → L_bits_Len64_1 (runC (R := R) Try.prog lo0 F n) F k (y : Int) (s : Int) G = k (.int .i64 ((blen y + s : Nat) : Int)) G := by
    intro y s hy hs
    simp only [L_bits_Len64_1]
    rw [stepF hF]
    simp only [l_bits_Len64_1, u_bits_Len64_1, a_bits_Len64_1N]
    by_cases hc : (y : Int) ≥ 65536
    · rw [decide_eq_true hc, cond_true, show (16 : Int) = ((16 : Nat) : Int) from rfl, shr_nat (by omega), wrapI (by omega) (by omega)]
      rw [show (s : Int) + ((16 : Nat) : Int) = ((s + 16 : Nat) : Int) by omega, st2 _ _ (by omega) (by omega)]
      have := len_step (x := y) (s := 16) (c := 0) (by omega)
      congr 3; omega
    · rw [decide_eq_false hc, cond_false]
      exact st2 y s (by omega) (by omega)
  simp only [u_bits_Len64, L_bits_Len64_0]
  rw [stepF hF]
  simp only [l_bits_Len64_0, u_bits_Len64_0, a_bits_Len64_0N]
  by_cases hc : (x : Int) ≥ 4294967296
  · rw [decide_eq_true hc, cond_true, show (32 : Int) = ((32 : Nat) : Int) from rfl, shr_nat hx, st1 _ _ (by omega) (by omega)]
    have := len_step (x := x) (s := 32) (c := 0) (by omega)
    congr 3
  · rw [decide_eq_false hc, cond_false, show (0 : Int) = ((0 : Nat) : Int) from rfl, st1 x 0 (by omega) (by omega)]
    rfl

theorem wZero {F n : Nat} (hn : 1 ≤ n) : SZero (runC (R := R) Try.prog lo0 F n) := by
  obtain ⟨n, rfl⟩ : ∃ j, n = j + 1 := ⟨n - 1, by omega⟩
  intro neg N e more G k
  unfold W
  rw [r_round_exact_zero, e_round_exact_zero]
  rw [ib, ib]
  by_cases h1 : N / 2 ^ 64 = 0
  · rw [decide_eq_true h1, cond_true]
    congr 3
    exact propext (by omega)
  · rw [decide_eq_false h1, cond_false, decide_eq_false (by rintro rfl; exact h1 rfl)]

theorem wLength {F n : Nat} (hF : 1 ≤ F) (hn : 2 ≤ n) : SLength (runC (R := R) Try.prog lo0 F n) := by
  obtain ⟨n, rfl⟩ : ∃ j, n = j + 2 := ⟨n - 2, by omega⟩
  intro neg N e more hN G k
  unfold W
  rw [r_round_exact_length, e_round_exact_length]
  by_cases h1 : N / 2 ^ 64 = 0
  · rw [ibn, decide_eq_false (by omega), cond_false, wLen64 hF (by omega) _ (Nat.mod_lt _ (by decide)), ivI, show N % 2 ^ 64 = N by omega]
  · rw [ibn, decide_eq_true h1, cond_true, wLen64 hF (by omega) _ (by omega), ivI]
    have h2 := len_step (x := N) (s := 64) (c := 0) (by omega)
    have h3 : blen N ≤ 128 := blen_lt.2 hN
    rw [wrapI (by omega) (by omega)]
    congr 2; omega

theorem wLeft {F n : Nat} (hF : 1 ≤ F) (hn : 1 ≤ n) : SLeft (runC (R := R) Try.prog lo0 F n) := by
  obtain ⟨n, rfl⟩ : ∃ j, n = j + 1 := ⟨n - 1, by omega⟩
  intro neg N m e more h0 hN he1 he2 G k
  unfold W
  rw [r_round_exact_left, e_round_exact_left]
  have hm : m < 128 := by
    rcases Nat.lt_or_ge m 128 with h | h
    · exact h
    · have h1 : 2 ^ 128 ≤ 2 ^ m := Nat.pow_le_pow_right (by decide) h
      have h2 : 1 * 2 ^ m ≤ N * 2 ^ m := Nat.mul_le_mul_right _ (by omega)
      omega
  simp only [u_round_exact_left, L_round_exact_left_0]
  rw [stepF hF]
  simp only [l_round_exact_left_0, u_round_exact_left_0, a_round_exact_left_0N]
  by_cases h64 : (m : Int) ≥ 64
  · rw [decide_eq_true h64, cond_true, wrapI (v := (m : Int) - 64) (by omega) (by omega), decide_eq_false (by omega), cond_false, show (m : Int) - 64 = ((m - 64 : Nat) : Int) by omega, shl_nat, wrapI (by omega) (by omega)]
    have hN64 : N < 2 ^ 64 := by
      rcases Nat.lt_or_ge N (2 ^ 64) with h | h
      · exact h
      · have h1 : 2 ^ 64 ≤ 2 ^ m := Nat.pow_le_pow_right (by decide) (by omega)
        have h2 : 2 ^ 64 * 2 ^ 64 ≤ N * 2 ^ m := Nat.mul_le_mul h h1
        omega
    have e1 : N * 2 ^ m = N * 2 ^ (m - 64) * 2 ^ 64 := by rw [Nat.mul_assoc, ← Nat.pow_add]; congr 2; omega
    have hlt : N * 2 ^ (m - 64) < 2 ^ 64 := by
      rw [e1] at hN
      have : N * 2 ^ (m - 64) * 2 ^ 64 < 2 ^ 64 * 2 ^ 64 := by omega
      exact Nat.lt_of_mul_lt_mul_right this
    rw [e1, Nat.mul_div_cancel _ (by decide), Nat.mul_mod_left, Nat.mod_eq_of_lt hN64, Nat.mod_eq_of_lt hlt]
    rfl
  · rw [decide_eq_false h64, cond_false]
    by_cases hz : (m : Int) > 0
    · rw [decide_eq_true hz, cond_true, decide_eq_false (by omega), cond_false, wrapI (v := (64 : Int) - m) (by omega) (by omega), decide_eq_false (by omega), cond_false, cond_false, show (64 : Int) - m = ((64 - m : Nat) : Int) by omega,
        shl_nat, shl_nat, shr_nat (Nat.mod_lt _ (by decide)), wrapI (by omega) (by omega)]
      obtain ⟨hi, lo, hhl, hlo⟩ : ∃ hi lo, N = hi * 2 ^ 64 + lo ∧ lo < 2 ^ 64 := ⟨N / 2 ^ 64, N % 2 ^ 64, by omega, by omega⟩
      have d1 : N / 2 ^ 64 = hi := by omega
      have d2 : N % 2 ^ 64 = lo := by omega
      rw [d1, d2]
      have hp : 2 ^ (64 - m) * 2 ^ m = 2 ^ 64 := by rw [← Nat.pow_add]; congr 1; omega
      have hq : lo / 2 ^ (64 - m) < 2 ^ m := by rw [Nat.div_lt_iff_lt_mul (Nat.two_pow_pos _), Nat.mul_comm, hp]; exact hlo
      have hdm := Nat.div_add_mod lo (2 ^ (64 - m))
      have e1 : lo * 2 ^ m = lo / 2 ^ (64 - m) * 2 ^ 64 + lo % 2 ^ (64 - m) * 2 ^ m := by
        conv => lhs; rw [← hdm]
        rw [Nat.add_mul, Nat.mul_comm (2 ^ (64 - m)), Nat.mul_assoc, hp]
      have hr : lo % 2 ^ (64 - m) * 2 ^ m < 2 ^ 64 := by
        rw [← hp]; exact Nat.mul_lt_mul_of_pos_right (Nat.mod_lt _ (Nat.two_pow_pos _)) (Nat.two_pow_pos _)
      have e2 : N * 2 ^ m = (hi * 2 ^ m + lo / 2 ^ (64 - m)) * 2 ^ 64 + lo % 2 ^ (64 - m) * 2 ^ m := by
        rw [hhl, Nat.add_mul, e1, Nat.add_mul, Nat.mul_right_comm, Nat.add_assoc]
      have hb : hi * 2 ^ m + lo / 2 ^ (64 - m) < 2 ^ 64 := by
        rw [e2] at hN
        omega
      have hhi : hi * 2 ^ m < 2 ^ 64 := by omega
      rw [Nat.mod_eq_of_lt hhi, or_nat_add hhi hq (by omega), e2]
      have f1 : ((hi * 2 ^ m + lo / 2 ^ (64 - m)) * 2 ^ 64 + lo % 2 ^ (64 - m) * 2 ^ m) / 2 ^ 64 = hi * 2 ^ m + lo / 2 ^ (64 - m) := by omega
      have f2 : ((hi * 2 ^ m + lo / 2 ^ (64 - m)) * 2 ^ 64 + lo % 2 ^ (64 - m) * 2 ^ m) % 2 ^ 64 = lo * 2 ^ m % 2 ^ 64 := by rw [e1]; omega
      rw [f1, f2]
    · have hm0 : m = 0 := by omega
      subst hm0
      rw [decide_eq_false hz, cond_false, wrapI (by omega) (by omega)]
      simp
end
end Go.LI.Film

/-! Package round: to the right, splitting, numbers. -/
namespace Go.LI.Film
open Go.Proofs.Ytbjcipikclbecaa Go Go.Proofs Go.LI Go.LI.Fl
set_option linter.unusedVariables false
set_option linter.unusedSimpArgs false
set_option maxRecDepth 100000
section
variable {R : Type}

theorem split128 (N : Nat) : ∃ hi lo, N = hi * 2 ^ 64 + lo ∧ lo < 2 ^ 64 ∧ N / 2 ^ 64 = hi ∧ N % 2 ^ 64 = lo := ⟨N / 2 ^ 64, N % 2 ^ 64, by omega, by omega, rfl, rfl⟩

theorem dm64 {A X : Nat} (h : X < 2 ^ 64) : (A * 2 ^ 64 + X) / 2 ^ 64 = A ∧ (A * 2 ^ 64 + X) % 2 ^ 64 = X := by omega
/-- What falls out of a word of 64 bits. -/
theorem shl_out {x m : Nat} (hx : x < 2 ^ 64) (hm : m ≤ 64) : (x * 2 ^ (64 - m) % 2 ^ 64 = 0) ↔ x % 2 ^ m = 0 := by
  have hp : (2 : Nat) ^ 64 = 2 ^ m * 2 ^ (64 - m) := by rw [← Nat.pow_add]; congr 1; omega
  rw [hp, Nat.mul_mod_mul_right]
  constructor
  · intro h
    rcases Nat.mul_eq_zero.1 h with h | h
    · exact h
    · have := Nat.two_pow_pos (64 - m); omega
  · intro h; rw [h, Nat.zero_mul]

theorem wRight {F n : Nat} (hF : 1 ≤ F) (hn : 2 ≤ n) : SRight (runC (R := R) Try.prog lo0 F n) := by
  obtain ⟨n, rfl⟩ : ∃ j, n = j + 2 := ⟨n - 2, by omega⟩
  intro neg N s e more hN he1 he2 hs1 hs2 G k
  have hzero := wZero (R := R) (F := F) (n := n + 1) (by omega)
  unfold W
  rw [r_round_exact_right, e_round_exact_right]
  simp only [u_round_exact_right]
  rw [wrapI (v := e + s) (by omega) (by omega)]
  by_cases h0 : s ≤ 0
  · have ht : s.toNat = 0 := by omega
    rw [decide_eq_true h0, cond_true, wrapI (by omega) (by omega), ht]
    simp only [Nat.pow_zero, Nat.div_one, Nat.mod_one]
    rw [show e + s - s = e by omega]
    simp
  obtain ⟨m, rfl⟩ : ∃ m : Nat, s = m := ⟨s.toNat, by omega⟩
  rw [decide_eq_false h0, cond_false, Int.toNat_natCast]
  obtain ⟨hi, lo, hhl, hlo, d1, d2⟩ := split128 N
  have hhi : hi < 2 ^ 64 := by omega
  rw [d1, d2]
  by_cases h128 : (m : Int) ≥ 128
  · rw [decide_eq_true h128, cond_true]
    simp only [L_round_exact_right_0]
    rw [stepF hF]
    have hNm : N < 2 ^ m := Nat.lt_of_lt_of_le hN (Nat.pow_le_pow_right (by decide) (by omega))
    have q1 : N / 2 ^ m = 0 := Nat.div_eq_of_lt hNm
    have q2 : N % 2 ^ m = N := Nat.mod_eq_of_lt hNm
    simp only [l_round_exact_right_0, u_round_exact_right_0, a_round_exact_right_0N]
    rw [q1, q2]
    cases more with
    | true => rw [cond_true]; simp
    | false =>
      have hz := hzero neg N (e + m) false G
      unfold W at hz
      rw [d1, d2] at hz
      rw [cond_false, hz, ivB]
      simp
  rw [decide_eq_false h128, cond_false]
  by_cases h64 : (m : Int) ≥ 64
  · rw [decide_eq_true h64, cond_true]
    simp only [L_round_exact_right_1]
    rw [stepF hF]
    simp only [l_round_exact_right_1, u_round_exact_right_1, a_round_exact_right_1N]
    obtain ⟨j, rfl⟩ : ∃ j, m = 64 + j := ⟨m - 64, by omega⟩
    have q1 : N / 2 ^ (64 + j) = hi / 2 ^ j := by rw [Nat.pow_add, ← Nat.div_div_eq_div_mul, d1]
    have q2 : hi / 2 ^ j < 2 ^ 64 := Nat.lt_of_le_of_lt (Nat.div_le_self _ _) hhi
    have q3 : N % 2 ^ (64 + j) = hi % 2 ^ j * 2 ^ 64 + lo := by
      rw [Nat.pow_add, Nat.mod_mul, d1, d2]; omega
    have w1 : IntKind.wrap .i64 (((64 + j : Nat) : Int) - 64) = (j : Nat) := by rw [wrapI (by omega) (by omega)]; omega
    have w2 : IntKind.wrap .i64 ((128 : Int) - ((64 + j : Nat) : Int)) = ((64 - j : Nat) : Int) := by rw [wrapI (by omega) (by omega)]; omega
    rw [w1, w2, decide_eq_false (show ¬ ((j : Nat) : Int) < 0 by omega), cond_false, decide_eq_false (show ¬ ((64 - j : Nat) : Int) < 0 by omega), cond_false, shr_nat hhi, shl_nat, ibn, ibn, q1, q3]
    have fin : ∀ (b : Bool), b = (more || decide (hi % 2 ^ j * 2 ^ 64 + lo ≠ 0)) →
        k (.agg [.bool neg, .int .u64 (0 : Int), .int .u64 ((hi / 2 ^ j : Nat) : Int), .int .i64 (e + ((64 + j : Nat) : Int)), .bool b]) G = k (.agg [.bool neg, .int .u64 ((hi / 2 ^ j / 2 ^ 64 : Nat) : Int), .int .u64 ((hi / 2 ^ j % 2 ^ 64 : Nat) : Int), .int .i64 (e + ((64 + j : Nat) : Int)), .bool (more || decide (hi % 2 ^ j * 2 ^ 64 + lo ≠ 0))]) G := by
      intro b hb
      rw [hb, Nat.div_eq_of_lt q2, Nat.mod_eq_of_lt q2]
      rfl
    cases more with
    | true => rw [cond_true]; exact fin true rfl
    | false =>
      rw [cond_false]
      by_cases hl0 : lo = 0
      · rw [decide_eq_false (by omega), cond_false]
        have ho := shl_out (x := hi) (m := j) hhi (by omega)
        by_cases hh : hi * 2 ^ (64 - j) % 2 ^ 64 = 0
        · rw [decide_eq_false (by omega), cond_false]
          refine fin false ?_
          rw [ho.1 hh, hl0]; rfl
        · rw [decide_eq_true hh, cond_true]
          have hj : j ≠ 0 := by
            rintro rfl
            exact hh (ho.2 (Nat.mod_one _))
          refine fin _ ?_
          have hne : hi % 2 ^ j ≠ 0 := fun h => hh (ho.2 h)
          rw [decide_eq_true (show ((64 + j : Nat) : Int) > 64 by omega), Bool.false_or, decide_eq_true (by omega)]
      · rw [decide_eq_true hl0, cond_true]
        refine fin true ?_
        rw [Bool.false_or, decide_eq_true (by omega)]
  · rw [decide_eq_false h64, cond_false]
    simp only [L_round_exact_right_2]
    rw [stepF hF]
    simp only [l_round_exact_right_2, u_round_exact_right_2, a_round_exact_right_2N]
    have hm0 : 0 < m := by omega
    have w2 : IntKind.wrap .i64 ((64 : Int) - (m : Int)) = ((64 - m : Nat) : Int) := by rw [wrapI (by omega) (by omega)]; omega
    rw [w2, decide_eq_false (show ¬ ((m : Nat) : Int) < 0 by omega), decide_eq_false (show ¬ ((64 - m : Nat) : Int) < 0 by omega), shr_nat hhi, shr_nat hlo, shl_nat, shl_nat, ibn]
    have hp : 2 ^ (64 - m) * 2 ^ m = 2 ^ 64 := by rw [← Nat.pow_add]; congr 1; omega
    have hp' : 2 ^ m * 2 ^ (64 - m) = 2 ^ 64 := by rw [Nat.mul_comm]; exact hp
    have hq : lo / 2 ^ m < 2 ^ (64 - m) := by rw [Nat.div_lt_iff_lt_mul (Nat.two_pow_pos _), hp]; exact hlo
    have hdm := Nat.div_add_mod hi (2 ^ m)
    have e1 : hi * 2 ^ (64 - m) = hi / 2 ^ m * 2 ^ 64 + hi % 2 ^ m * 2 ^ (64 - m) := by
      conv => lhs; rw [← hdm]
      rw [Nat.add_mul, Nat.mul_comm (2 ^ m), Nat.mul_assoc, hp']
    have hr : hi % 2 ^ m * 2 ^ (64 - m) < 2 ^ 64 := by
      rw [← hp']; exact Nat.mul_lt_mul_of_pos_right (Nat.mod_lt _ (Nat.two_pow_pos _)) (Nat.two_pow_pos _)
    have e2 : hi * 2 ^ (64 - m) % 2 ^ 64 = hi % 2 ^ m * 2 ^ (64 - m) := by rw [e1]; exact (dm64 hr).2
    have q1 : N / 2 ^ m = hi / 2 ^ m * 2 ^ 64 + (hi % 2 ^ m * 2 ^ (64 - m) + lo / 2 ^ m) := by
      have : N = (hi / 2 ^ m * 2 ^ 64 + hi % 2 ^ m * 2 ^ (64 - m)) * 2 ^ m + lo := by
        rw [← e1, Nat.mul_assoc, hp]; exact hhl
      rw [this, Nat.mul_comm _ (2 ^ m), Nat.mul_add_div (Nat.two_pow_pos m)]; omega
    have q3 : N % 2 ^ m = lo % 2 ^ m := by
      have : N = 2 ^ m * (hi * 2 ^ (64 - m)) + lo := by rw [hhl, ← Nat.mul_assoc, Nat.mul_comm (2 ^ m) hi, Nat.mul_assoc, hp']
      rw [this, Nat.mul_add_mod]
    have hsum : hi % 2 ^ m * 2 ^ (64 - m) + lo / 2 ^ m < 2 ^ 64 := by
      have h1 : (hi % 2 ^ m + 1) * 2 ^ (64 - m) ≤ 2 ^ m * 2 ^ (64 - m) := Nat.mul_le_mul_right _ (Nat.mod_lt _ (Nat.two_pow_pos m))
      rw [Nat.add_mul, hp'] at h1
      omega
    have hor : orI .u64 ((lo / 2 ^ m : Nat) : Int) ((hi * 2 ^ (64 - m) % 2 ^ 64 : Nat) : Int) = ((hi % 2 ^ m * 2 ^ (64 - m) + lo / 2 ^ m : Nat) : Int) := by
      rw [e2, or_nat (Nat.lt_of_le_of_lt (Nat.div_le_self _ _) hlo) hr, Nat.or_comm, or_add hq]
    rw [hor, q1, q3]
    obtain ⟨f1, f2⟩ := dm64 (A := hi / 2 ^ m) hsum
    rw [f1, f2]
    have ho := shl_out (x := lo) (m := m) hlo (by omega)
    have hdec : decide (lo * 2 ^ (64 - m) % 2 ^ 64 ≠ 0) = decide (lo % 2 ^ m ≠ 0) := by
      rw [decide_eq_decide]; exact not_congr ho
    rw [hdec]
    cases more <;> simp only [cond_true, cond_false, Bool.true_or, Bool.false_or]
end
end Go.LI.Film

/-! Package math: words and numbers. -/
namespace Go.LI.Film
open Go.Proofs.Ytbjcipikclbecaa Go Go.Proofs Go.LI Go.LI.Fl
set_option linter.unusedVariables false
set_option linter.unusedSimpArgs false
set_option maxRecDepth 100000
section
variable {R : Type}
abbrev SBits (O : Ora R) : Prop := ∀ (x : Nat) (G : GH) (k : IV → GH → Option R), O fn_math_Float64bits [.float .f64 x] G k = k (.int .u64 (x : Int)) G
abbrev SFrom (O : Ora R) : Prop := ∀ (x : Nat) (G : GH) (k : IV → GH → Option R), O fn_math_Float64frombits [.int .u64 (x : Int)] G k = k (.float .f64 x) G
abbrev SAbs (O : Ora R) : Prop := ∀ (x : Nat), x < 2 ^ 64 → ∀ (G : GH) (k : IV → GH → Option R), O fn_math_Abs [.float .f64 x] G k = k (.float .f64 (rg dbl x)) G
abbrev SIsInf (O : Ora R) : Prop := ∀ (x : Nat), x < 2 ^ 64 → ∀ (G : GH) (k : IV → GH → Option R), O fn_math_IsInf [.float .f64 x, .int .i64 0] G k = k (.bool (decide (rg dbl x = 9218868437227405312))) G
abbrev SIsNaN (O : Ora R) : Prop := ∀ (x : Nat), x < 2 ^ 64 → ∀ (G : GH) (k : IV → GH → Option R), O fn_math_IsNaN [.float .f64 x] G k = k (.bool (decide (¬ rg dbl x ≤ 9218868437227405312))) G
abbrev SInf (O : Ora R) : Prop := ∀ (G : GH) (k : IV → GH → Option R), O fn_math_Inf [.int .i64 1] G k = k (.float .f64 9218868437227405312) G ∧ O fn_math_Inf [.int .i64 (-1)] G k = k (.float .f64 18442240474082181120) G

theorem wBits {F n : Nat} (hn : 1 ≤ n) : SBits (runC (R := R) Try.prog lo0 F n) := by
  obtain ⟨n, rfl⟩ : ∃ j, n = j + 1 := ⟨n - 1, by omega⟩
  intro x G k
  kernel_rfl
theorem wFrom {F n : Nat} (hn : 1 ≤ n) : SFrom (runC (R := R) Try.prog lo0 F n) := by
  obtain ⟨n, rfl⟩ : ∃ j, n = j + 1 := ⟨n - 1, by omega⟩
  intro x G k
  kernel_rfl

theorem not_top {x : Nat} (hx : x < 2 ^ 64) : notI .u64 (x : Int) 9223372036854775808 = ((x % 2 ^ 63 : Nat) : Int) := by
  have e1 : IntKind.u64.bits = 64 := rfl
  unfold notI
  rw [e1, show (9223372036854775808 : Int) = ((2 ^ 63 : Nat) : Int) from rfl]
  have h : (BitVec.ofInt 64 (x : Int) &&& ~~~BitVec.ofInt 64 ((2 ^ 63 : Nat) : Int)).toNat = x % 2 ^ 63 := by
    apply Nat.eq_of_testBit_eq
    intro i
    rw [BitVec.testBit_toNat, BitVec.getLsbD_and, BitVec.getLsbD_not, ← BitVec.testBit_toNat, ← BitVec.testBit_toNat, bv_nat hx, bv_nat (by decide), Nat.testBit_mod_two_pow, Nat.testBit_two_pow]
    by_cases h1 : i < 63
    · rw [decide_eq_true h1, decide_eq_true (show i < 64 by omega), decide_eq_false (show ¬ 63 = i by omega)]
      simp
    · rw [decide_eq_false h1]
      rcases (by omega : i = 63 ∨ 64 ≤ i) with h2 | h2
      · subst h2; simp
      · rw [decide_eq_false (show ¬ i < 64 by omega)]; simp
  rw [h]
  exact wrapU_small (by omega)
/-- The exponent's bits are struck. -/
theorem not_mid {x : Nat} (hx : x < 2 ^ 63) : notI .u64 (x : Int) 9218868437227405312 = ((x % 2 ^ 52 : Nat) : Int) := by
  have e1 : IntKind.u64.bits = 64 := rfl
  unfold notI
  rw [e1, show (9218868437227405312 : Int) = ((2047 * 2 ^ 52 : Nat) : Int) from rfl]
  have h : (BitVec.ofInt 64 (x : Int) &&& ~~~BitVec.ofInt 64 ((2047 * 2 ^ 52 : Nat) : Int)).toNat = x % 2 ^ 52 := by
    apply Nat.eq_of_testBit_eq
    intro i
    rw [BitVec.testBit_toNat, BitVec.getLsbD_and, BitVec.getLsbD_not, ← BitVec.testBit_toNat, ← BitVec.testBit_toNat, bv_nat (by omega), bv_nat (by decide), Nat.testBit_mod_two_pow]
    rw [show (2047 * 2 ^ 52 : Nat) = (2 ^ 11 - 1) * 2 ^ 52 from rfl, ← Nat.shiftLeft_eq, Nat.testBit_shiftLeft, Nat.testBit_two_pow_sub_one]
    by_cases h1 : i < 52
    · rw [decide_eq_true h1, decide_eq_true (show i < 64 by omega), decide_eq_false (show ¬ i ≥ 52 by omega)]
      simp
    · rw [decide_eq_false h1]
      by_cases h2 : i < 63
      · rw [decide_eq_true (show i ≥ 52 by omega), decide_eq_true (show i - 52 < 11 by omega)]; simp
      · have : x.testBit i = false := Nat.testBit_lt_two_pow (Nat.lt_of_lt_of_le hx (Nat.pow_le_pow_right (by decide) (by omega)))
        rw [this]; simp
  rw [h]
  exact wrapU_small (by omega)

theorem wAbs {F n : Nat} (hn : 2 ≤ n) : SAbs (runC (R := R) Try.prog lo0 F n) := by
  obtain ⟨n, rfl⟩ : ∃ j, n = j + 2 := ⟨n - 2, by omega⟩
  intro x hx G k
  rw [r_math_Abs, e_math_Abs, wBits (by omega), ivU, not_top hx, wFrom (by omega), ivF]
  have : rg dbl x = x % 2 ^ 63 := by unfold rg; rw [dbl_sw]
  rw [this]

theorem wIsInf {F n : Nat} (hF : 1 ≤ F) (hn : 3 ≤ n) : SIsInf (runC (R := R) Try.prog lo0 F n) := by
  obtain ⟨n, rfl⟩ : ∃ j, n = j + 3 := ⟨n - 3, by omega⟩
  intro x hx G k
  rw [r_math_IsInf, e_math_IsInf]
  simp only [u_math_IsInf, L_math_IsInf_0]
  rw [stepF hF]
  simp only [l_math_IsInf_0, u_math_IsInf_0, a_math_IsInf_0N]
  rw [show ((0 : Int) == 0) = true from rfl, cond_true, wAbs (by omega) x hx, ivF]
  congr 2
  have hr : rg dbl x < 2 ^ 63 := by unfold rg; rw [dbl_sw]; exact Nat.mod_lt _ (by decide)
  obtain ⟨n2, s2⟩ := num_small (r := 9218868437227405311) (by decide)
  by_cases hi : rg dbl x ≤ 9218868437227405312
  · obtain ⟨n1, s1⟩ := num_small hi
    rw [fgt_sv n1 n2, s1, s2]
    by_cases he : rg dbl x = 9218868437227405312
    · rw [decide_eq_true he, he]
      have := mag_lt (r := 9218868437227405311) (s := 9218868437227405312) (by decide)
      exact decide_eq_true (by omega)
    · rw [decide_eq_false he]
      have := mag_le (r := rg dbl x) (s := 9218868437227405311) (by omega)
      exact decide_eq_false (by omega)
  · have hg := rg_small hr
    unfold fgt
    rw [show FloatKind.f64.format = dbl from rfl, order_nan (by rw [hg.1]; omega), decide_eq_false (by omega)]
    rfl
theorem wIsNaN {F n : Nat} (hn : 1 ≤ n) : SIsNaN (runC (R := R) Try.prog lo0 F n) := by
  obtain ⟨n, rfl⟩ : ∃ j, n = j + 1 := ⟨n - 1, by omega⟩
  intro x hx G k
  rw [r_math_IsNaN, e_math_IsNaN, feq_self' hx]
  congr 2
  by_cases h : rg dbl x ≤ 9218868437227405312
  · rw [decide_eq_true h, decide_eq_false (by omega)]; rfl
  · rw [decide_eq_false h, decide_eq_true h]; rfl
theorem wInf {F n : Nat} (hn : 2 ≤ n) : SInf (runC (R := R) Try.prog lo0 (F + 1) n) := by
  obtain ⟨n, rfl⟩ : ∃ j, n = j + 2 := ⟨n - 2, by omega⟩
  intro G k
  constructor
  · rw [r_math_Inf, e_math_Inf]
    simp only [u_math_Inf, L_math_Inf_0]
    rw [stepF (by omega)]
    simp only [l_math_Inf_0, u_math_Inf_0, a_math_Inf_0N]
    rw [show decide ((1 : Int) ≥ 0) = true from rfl, cond_true, show (9218868437227405312 : Int) = ((9218868437227405312 : Nat) : Int) from rfl, wFrom (by omega), ivF]
  · rw [r_math_Inf, e_math_Inf]
    simp only [u_math_Inf, L_math_Inf_0]
    rw [stepF (by omega)]
    simp only [l_math_Inf_0, u_math_Inf_0, a_math_Inf_0N]
    rw [show decide ((-1 : Int) ≥ 0) = false from rfl, cond_false, show (18442240474082181120 : Int) = ((18442240474082181120 : Nat) : Int) from rfl, wFrom (by omega), ivF]
end
end Go.LI.Film

/-! Package math: Ldexp. -/
namespace Go.LI.Film
open Go.Proofs.Ytbjcipikclbecaa Go Go.Proofs Go.LI Go.LI.Fl
set_option linter.unusedVariables false
set_option linter.unusedSimpArgs false
set_option maxRecDepth 100000
section
variable {R : Type}
abbrev SNormal (O : Ora R) : Prop := ∀ (x : Nat), x < 2 ^ 63 → 2 ^ 52 ≤ x → x < 9218868437227405312 → ∀ (G : GH) (k : IV → GH → Option R), O fn_math_normalize [.float .f64 x] G k = k (.tuple [.float .f64 x, .int .i64 0]) G
/-- m times 2 to the e. -/
abbrev SLdexp (O : Ora R) : Prop := ∀ (m t : Nat), m ≤ 2 ^ 53 → t ≤ 100000 → ∀ (G : GH) (k : IV → GH → Option R),
  O fn_math_Ldexp [.float .f64 (FloatKind.nearest .f64 (m : Int)), .int .i64 ((t : Int) - 1074)] G k = k (.float .f64 (min (floorR (m * 2 ^ t)) 9218868437227405312)) G

abbrev Sldexp' (O : Ora R) : Prop := ∀ (m t : Nat), m ≤ 2 ^ 53 → t ≤ 100000 → ∀ (G : GH) (k : IV → GH → Option R),
  O fn_math_ldexp [.float .f64 (FloatKind.nearest .f64 (m : Int)), .int .i64 ((t : Int) - 1074)] G k = k (.float .f64 (min (floorR (m * 2 ^ t)) 9218868437227405312)) G

theorem pairFI {β : Type} (x : Nat) (n : Int) (f : Nat → Int → Option β) : ((ivTup 2 (.tuple [.float .f64 x, .int .i64 n])).bind fun c => (ivFloat .f64 (c.getD 0 undefI)).bind fun a => (ivInt .i64 (c.getD 1 undefI)).bind fun b => f a b) = f x n := rfl

theorem wNormal {F n : Nat} (hn : 3 ≤ n) : SNormal (runC (R := R) Try.prog lo0 F n) := by
  obtain ⟨n, rfl⟩ : ∃ j, n = j + 3 := ⟨n - 3, by omega⟩
  intro x hx h1 h2 G k
  have hr := rg_small hx
  rw [r_math_normalize, e_math_normalize, wAbs (by omega) x (by omega), ivF, hr.1]
  obtain ⟨n1, s1⟩ := num_small (r := x) (by omega)
  obtain ⟨n2, s2⟩ := num_small (r := 4503599627370496) (by decide)
  have := mag_le (r := 4503599627370496) (s := x) h1
  rw [flt_sv n1 n2, s1, s2, decide_eq_false (by omega), cond_false]

theorem and_natI {a b : Nat} (ha : a < 2 ^ 63) (hb : b < 2 ^ 63) : andI .i64 (a : Int) (b : Int) = ((a &&& b : Nat) : Int) := by
  have e1 : IntKind.i64.bits = 64 := rfl
  unfold andI
  rw [e1, BitVec.toNat_and, bv_nat (by omega), bv_nat (by omega)]
  have : a &&& b ≤ a := Nat.and_le_left
  exact wrapI (by omega) (by omega)

theorem ldexp_end {O : Ora R} {F : Nat} (hF : 1 ≤ F) (hfrom : SFrom O) {m t f : Nat} (h0 : m ≠ 0) (hf1 : 2 ^ 52 ≤ f) (hf2 : f < 2 ^ 53) (hf : f * 2 ^ blen m = m * 2 ^ 53) (hb1 : 1 ≤ blen m) (hbt : blen m + t ≤ 2098) {x : Nat} (hx : x < 2 ^ 63) (hxf : x % 2 ^ 52 = f - 2 ^ 52) (G : GH) (k : IV → GH → Option R) :
    L_math_ldexp_1 O F k ((t : Int) - 1074 + (blen m : Nat) - 1) (x : Int) 4607182418800017408 G = k (.float .f64 (floorR (m * 2 ^ t))) G := by
  simp only [L_math_ldexp_1]
  rw [stepF hF]
  simp only [l_math_ldexp_1, u_math_ldexp_1]
  have word : ∀ (E : Nat), 1 ≤ E → E ≤ 2046 → orI .u64 (notI .u64 (x : Int) 9218868437227405312) (shlI .u64 (IntKind.wrap .u64 (IntKind.wrap .i64 ((E : Int) - 1023 + 1023))) 52) = (((E - 1) * 2 ^ 52 + f : Nat) : Int) := by
    intro E hE1 hE2
    rw [not_mid hx, hxf, show (E : Int) - 1023 + 1023 = (E : Int) by omega, wrapI (by omega) (by omega), wrapU_small (by omega), show (52 : Int) = ((52 : Nat) : Int) from rfl, shl_nat, Nat.mod_eq_of_lt (show E * 2 ^ 52 < 2 ^ 64 by omega),
      or_nat (by omega) (by omega)]
    have h : (f - 2 ^ 52) ||| (E * 2 ^ 52) = (E - 1) * 2 ^ 52 + f := by
      rw [Nat.or_comm, or_add (by omega)]; omega
    rw [h]
  by_cases hs : (t : Int) - 1074 + (blen m : Nat) - 1 < -1022
  · rw [decide_eq_true hs, cond_true]
    simp only [a_math_ldexp_1N]
    have hlt : m * 2 ^ t < 2 ^ 52 := blen_lt.1 (by rw [blen_mul_pow h0]; omega)
    rw [wrapI (v := (t : Int) - 1074 + (blen m : Nat) - 1 + 53) (by omega) (by omega), show (t : Int) - 1074 + (blen m : Nat) - 1 + 53 = ((t + blen m + 1 : Nat) : Int) - 1023 by omega, word _ (by omega) (by omega), hfrom, ivF]
    have hr : floorR (m * 2 ^ t) = m * 2 ^ t := floorR_small (by omega)
    rw [show FloatKind.f64.format = dbl from rfl, hr, mul_small hf1 hf2 (by omega) hlt (by rw [pow_swap (t := t + 53) hf (q := t + blen m + 1 - 1) (by omega), Nat.pow_add, ← Nat.mul_assoc]), Option.bind_some]
  · rw [decide_eq_false hs, cond_false]
    simp only [a_math_ldexp_1N]
    rw [show (t : Int) - 1074 + (blen m : Nat) - 1 = ((t + blen m - 52 : Nat) : Int) - 1023 by omega, word _ (by omega) (by omega), hfrom, ivF]
    have hr : floorR (m * 2 ^ t) = (t + blen m - 53) * 2 ^ 52 + f := rung_normal hf1 hf2 hf (by omega)
    rw [show FloatKind.f64.format = dbl from rfl, show t + blen m - 52 - 1 = t + blen m - 53 by omega, ← hr, mul_one_word (floorR_inf.2 (by rw [blen_mul_pow h0]; exact hbt)), Option.bind_some]

theorem ldexp_body {O : Ora R} {F : Nat} (hF : 1 ≤ F) (hI : SIsInf O) (hN : SIsNaN O) (hM : SNormal O) (hB : SBits O) (hFr : SFrom O) (hT : SInf O) {m t : Nat} (hm : m ≤ 2 ^ 53) (ht : t ≤ 100000) (G : GH) (k : IV → GH → Option R) :
    u_math_ldexp O k (L_math_ldexp_0 O F k) (FloatKind.nearest .f64 (m : Int)) ((t : Int) - 1074) G = k (.float .f64 (min (floorR (m * 2 ^ t)) 9218868437227405312)) G := by
  obtain ⟨K, hK⟩ : ∃ K : Nat, K = 1074 := ⟨_, rfl⟩
  obtain ⟨w1, w2⟩ := nat_word' (m := m) (q := K) hm hK
  rw [w1]
  have hxs := rg_small (r := floorR (m * 2 ^ K)) (by omega)
  simp only [u_math_ldexp]
  rw [feq_zero (by omega) (by rw [hxs.1]; omega), hxs.1]
  by_cases h0 : m = 0
  · subst h0
    rw [Nat.zero_mul, Nat.zero_mul, floorR_small (by decide), decide_eq_true rfl, cond_true, Nat.min_eq_left (by omega)]
  · obtain ⟨f, hf1, hf2, hf, hb2, hb1⟩ := digits53 h0 hm
    have hx : floorR (m * 2 ^ K) = (K + blen m - 53) * 2 ^ 52 + f := rung_normal hf1 hf2 hf (by omega)
    have hx2 : (K + blen m - 53) * 2 ^ 52 + f < 9218868437227405312 := by omega
    rw [hx]
    have hr := rg_small (r := (K + blen m - 53) * 2 ^ 52 + f) (by omega)
    rw [decide_eq_false (by omega), cond_false]
    simp only [L_math_ldexp_0]
    rw [stepF hF]
    simp only [l_math_ldexp_0, u_math_ldexp_0]
    rw [hI _ (by omega), ivB, hr.1, decide_eq_false (by omega), cond_false, hN _ (by omega), ivB, hr.1, decide_eq_false (by omega)]
    simp only [a_math_ldexp_0N, cond_false]
    rw [hM _ (by omega) (by omega) hx2, pairFI, hB, ivU]
    have he : IntKind.wrap .i64 ((t : Int) - 1074 + 0) = (t : Int) - 1074 := by rw [wrapI (by omega) (by omega)]; omega
    have hsh : shrI .u64 (((K + blen m - 53) * 2 ^ 52 + f : Nat) : Int) 52 = ((K + blen m - 52 : Nat) : Int) := by
      rw [show (52 : Int) = ((52 : Nat) : Int) from rfl, shr_nat (by omega)]
      congr 1
      omega
    have hand : andI .i64 ((K + blen m - 52 : Nat) : Int) 2047 = ((K + blen m - 52 : Nat) : Int) := by
      rw [show (2047 : Int) = ((2047 : Nat) : Int) from rfl, and_natI (by omega) (by omega)]
      congr 1
      rw [show (2047 : Nat) = 2 ^ 11 - 1 from rfl, Nat.and_two_pow_sub_one_eq_mod]
      omega
    rw [he, hsh, wrapI (v := ((K + blen m - 52 : Nat) : Int)) (by omega) (by omega), hand, wrapI (v := ((K + blen m - 52 : Nat) : Int) - 1023) (by omega) (by omega), wrapI (v := (t : Int) - 1074 + (((K + blen m - 52 : Nat) : Int) - 1023)) (by omega) (by omega)]
    have hexp : (t : Int) - 1074 + (((K + blen m - 52 : Nat) : Int) - 1023) = (t : Int) - 1074 + (blen m : Nat) - 1 := by omega
    rw [hexp, decide_eq_false (by omega), cond_false, min_inf, blen_mul_pow h0]
    by_cases hbig : blen m + t ≤ 2098
    · rw [if_pos hbig, decide_eq_false (by omega), cond_false, ldexp_end hF hFr h0 hf1 hf2 hf hb1 hbig (by omega) (by omega)]
    · rw [if_neg hbig, decide_eq_true (by omega), cond_true]
      obtain ⟨n1, s1⟩ := num_small (r := (K + blen m - 53) * 2 ^ 52 + f) (by omega)
      obtain ⟨n2, s2⟩ := num_small (r := 0) (by decide)
      rw [flt_sv n1 n2, s1, s2, decide_eq_false (by have := mag_le (r := 0) (s := (K + blen m - 53) * 2 ^ 52 + f) (by omega); omega), cond_false]
      rw [(hT G _).1, ivF]

theorem wldexp' {F n : Nat} (hF : 1 ≤ F) (hn : 5 ≤ n) : Sldexp' (runC (R := R) Try.prog lo0 F n) := by
  obtain ⟨n, rfl⟩ : ∃ j, n = j + 5 := ⟨n - 5, by omega⟩
  intro m t hm ht G k
  rw [r_math_ldexp, e_math_ldexp]
  obtain ⟨F, rfl⟩ : ∃ F', F = F' + 1 := ⟨F - 1, by omega⟩
  exact ldexp_body hF (wIsInf hF (by omega)) (wIsNaN (by omega)) (wNormal (by omega)) (wBits (by omega)) (wFrom (by omega)) (wInf (by omega)) hm ht G k

theorem wLdexp {F n : Nat} (hF : 1 ≤ F) (hn : 6 ≤ n) : SLdexp (runC (R := R) Try.prog lo0 F n) := by
  obtain ⟨n, rfl⟩ : ∃ j, n = j + 6 := ⟨n - 6, by omega⟩
  intro m t hm ht G k
  rw [r_math_Ldexp, e_math_Ldexp, wldexp' hF (by omega) m t hm ht, ivF]
end
end Go.LI.Film

/-! Package round: the number at or next to a number of 128 bits. -/
namespace Go.LI.Film
open Go.Proofs.Ytbjcipikclbecaa Go Go.Proofs Go.LI Go.LI.Fl
set_option linter.unusedVariables false
set_option linter.unusedSimpArgs false
set_option maxRecDepth 100000
section
variable {R : Type}
abbrev SPlain (O : Ora R) : Prop := ∀ (x : Nat), num x → ∀ (G : GH) (k : IV → GH → Option R), O fn_round_plain [.float .f64 x] G k = k (.float .f64 (if rg dbl x = 0 then 0 else x)) G
abbrev STo (O : Ora R) : Prop := ∀ (neg : Bool) (N p s : Nat) (e : Int) (more down : Bool) (A B : Nat), N < 2 ^ 128 → -20000 ≤ e → e ≤ 20000 → 0 < B → (p : Int) - s = e + 1074 → RepN N p s more A B → (more = true → 54 ≤ blen N) → ∀ (G : GH) (k : IV → GH → Option R),
  O fn_round_exact_to [W neg N e more, .bool down] G k = k (.float .f64 (sealW neg (rndR A B (neg == down)) (neg == down))) G

theorem wPlain {F n : Nat} (hn : 1 ≤ n) : SPlain (runC (R := R) Try.prog lo0 F n) := by
  obtain ⟨n, rfl⟩ : ∃ j, n = j + 1 := ⟨n - 1, by omega⟩
  intro x hx G k
  rw [r_round_plain, e_round_plain]
  rw [show FloatKind.f64.format = dbl from rfl, add_zero' hx.1 hx.2, Option.bind_some]

theorem W_open {β : Type} (neg : Bool) (N : Nat) (e : Int) (more : Bool) (f : Bool → Int → Int → Int → Bool → Option β) :
    ((ivAgg 5 (W neg N e more)).bind fun c3 => (ivBool (c3.getD 0 undefI)).bind fun x4 => (ivInt .u64 (c3.getD 1 undefI)).bind fun x5 => (ivInt .u64 (c3.getD 2 undefI)).bind fun x6 => (ivInt .i64 (c3.getD 3 undefI)).bind fun x7 => (ivBool (c3.getD 4 undefI)).bind fun x8 => f x4 x5 x6 x7 x8) =
      f neg ((N / 2 ^ 64 : Nat) : Int) ((N % 2 ^ 64 : Nat) : Int) e more := rfl

theorem negW {r : Nat} (h : r < 2 ^ 63) : Op.negFloat .f64 r = dbl.word true r := by
  have := negFloat_word (k := .f64) (s := false) (r := r) (by rw [show FloatKind.f64.format = dbl from rfl, dbl_sw]; exact h)
  exact this

/-- The end: what is infinite, the sign. -/
theorem to_end {O : Ora R} {F : Nat} (hF : 1 ≤ F) (hI : SIsInf O) (hP : SPlain O) (neg grow : Bool) (r : Nat) (b1 b2 b3 : Int) (b4 : Bool) (G : GH) (k : IV → GH → Option R) :
    L_round_exact_to_3 O F k grow (min r 9218868437227405312) neg b1 b2 b3 b4 G = k (.float .f64 (sealW neg r grow)) G := by
  simp only [L_round_exact_to_3]
  rw [stepF hF]
  simp only [l_round_exact_to_3, u_round_exact_to_3]
  have hr := rg_small (r := min r 9218868437227405312) (by omega)
  rw [hI _ (by omega), ivB, hr.1]
  have fin : ∀ (f : Nat), f ≤ 9218868437227405312 → (f = if r < 9218868437227405312 then r else if grow then 9218868437227405312 else 9218868437227405311) →
      a_round_exact_to_3N O k (L_round_exact_to_4 O F k) f neg b1 b2 b3 b4 G = k (.float .f64 (sealW neg r grow)) G := by
    intro f hf hfe
    simp only [a_round_exact_to_3N, L_round_exact_to_4]
    rw [stepF hF]
    simp only [l_round_exact_to_4, u_round_exact_to_4, a_round_exact_to_4N]
    have hseal : sealW neg r grow = if f = 0 then 0 else dbl.word neg f := by unfold sealW; rw [← hfe]
    have hfr := rg_small (r := f) (by omega)
    cases neg with
    | false =>
      rw [cond_false, hP _ ⟨by omega, by omega⟩, ivF, hseal, hfr.1]
      rfl
    | true =>
      have hw : rg dbl (dbl.word true f) = f := rg_word dbl (by rw [dbl_sw]; omega)
      have hlt : dbl.word true f < 2 ^ 64 := by
        unfold Ieee.Format.word
        rw [dbl_sw]
        simp only [if_true]
        omega
      rw [cond_true, negW (by omega), hP _ ⟨hlt, by rw [hw]; omega⟩, ivF, hseal, hw]
  by_cases hi : r < 9218868437227405312
  · rw [decide_eq_false (by omega), cond_false]
    exact fin _ (by omega) (by rw [if_pos hi]; omega)
  · rw [decide_eq_true (by omega), cond_true]
    cases grow with
    | true => rw [Bool.not_true, cond_false]; exact fin _ (by omega) (by rw [if_neg hi]; simp; omega)
    | false => rw [Bool.not_false, cond_true]; exact fin _ (by omega) (by rw [if_neg hi]; simp)

theorem to_body {O : Ora R} {F : Nat} (hF : 1 ≤ F) (hLen : SLength O) (hR : SRight O) (hLd : SLdexp O) (hI : SIsInf O) (hP : SPlain O) {neg more down : Bool} {N p s A B : Nat} {e : Int} (hN : N < 2 ^ 128) (he1 : -20000 ≤ e) (he2 : e ≤ 20000) (hB : 0 < B) (hps : (p : Int) - s = e + 1074) (hrep : RepN N p s more A B) (hmore : more = true → 54 ≤ blen N) (G : GH) (k : IV → GH → Option R) :
    u_round_exact_to O k (L_round_exact_to_0 O F k) neg ((N / 2 ^ 64 : Nat) : Int) ((N % 2 ^ 64 : Nat) : Int) e more down G = k (.float .f64 (sealW neg (rndR A B (neg == down)) (neg == down))) G := by
  simp only [u_round_exact_to]
  have hL := hLen neg N e more hN (gfreeze G)
  unfold W at hL
  rw [hL, ivI]
  have hb : blen N ≤ 128 := blen_lt.2 hN
  rw [wrapI (v := -1074 - e) (by omega) (by omega), wrapI (v := ((blen N : Nat) : Int) - 53) (by omega) (by omega)]
  generalize hg : (neg == down) = grow
  -- behind the shift
  have fin : ∀ (n : Nat) (M : Nat) (mo : Bool), M = N / 2 ^ n → mo = (more || decide (N % 2 ^ n ≠ 0)) → M < 2 ^ 53 → 0 ≤ e + n + 1074 → ((e + n + 1074 = 0 ∨ 2 ^ 52 ≤ M) ∨ mo = false) → n ≤ 40000 →
      a_round_exact_to_0N O k (L_round_exact_to_1 O F k) grow neg ((M / 2 ^ 64 : Nat) : Int) ((M % 2 ^ 64 : Nat) : Int) (e + n) mo G = k (.float .f64 (sealW neg (rndR A B grow) grow)) G := by
    intro n M mo hM hmo hM53 hq hc hn
    obtain ⟨t, ht⟩ : ∃ t : Nat, (t : Int) = e + n + 1074 := ⟨(e + n + 1074).toNat, by omega⟩
    have hsh := hrep.shift hB n
    rw [← hM, ← hmo] at hsh
    have hcan : RepN M t 0 mo A B := by
      refine RepN.cancel (s := s) ?_
      rw [show t + s = p + n by omega]
      exact hsh
    have hround := rndR_of hB hcan hM53 (hc.imp (fun h => h.imp (fun h => by omega) id) id) grow
    simp only [a_round_exact_to_0N, L_round_exact_to_1]
    rw [stepF hF]
    simp only [l_round_exact_to_1, u_round_exact_to_1, L_round_exact_to_2]
    rw [stepF hF]
    simp only [l_round_exact_to_2, u_round_exact_to_2]
    have hlo : M % 2 ^ 64 = M := Nat.mod_eq_of_lt (by omega)
    rw [hlo]
    have go : ∀ (b : Bool), (b = true ↔ mo = true ∧ grow = true) →
        a_round_exact_to_2N O (a_round_exact_to_1N O k (L_round_exact_to_3 O F k)) grow (M : Int) b neg ((M / 2 ^ 64 : Nat) : Int) (M : Int) (e + n) mo G = k (.float .f64 (sealW neg (rndR A B grow) grow)) G := by
      intro b hbb
      have fin2 : ∀ (m : Nat), m ≤ 2 ^ 53 → m = M + (if mo = true ∧ grow = true then 1 else 0) → a_round_exact_to_1N O k (L_round_exact_to_3 O F k) grow (m : Int) neg ((M / 2 ^ 64 : Nat) : Int) (M : Int) (e + n) mo G = k (.float .f64 (sealW neg (rndR A B grow) grow)) G := by
        intro m hm1 hm2
        simp only [a_round_exact_to_1N]
        rw [show e + (n : Int) = (t : Int) - 1074 by omega, hLd m t hm1 (by omega), ivF, hround, ← hm2]
        exact to_end hF hI hP neg grow _ _ _ _ _ G k
      simp only [a_round_exact_to_2N]
      cases b with
      | true =>
        rw [cond_true, show (M : Int) + 1 = ((M + 1 : Nat) : Int) by omega, wrapU_small (by omega)]
        exact fin2 (M + 1) (by omega) (by rw [if_pos (hbb.1 rfl)])
      | false =>
        rw [cond_false]
        exact fin2 M (by omega) (by rw [if_neg (fun h => by have := hbb.2 h; cases this)]; rfl)
    cases mo with
    | true => rw [cond_true]; exact go grow (by simp)
    | false => rw [cond_false]; exact go false (by simp)
  simp only [L_round_exact_to_0]
  rw [stepF hF]
  simp only [l_round_exact_to_0, u_round_exact_to_0]
  obtain ⟨v, hv⟩ : ∃ v : Int, v = (if (-1074 : Int) - e > ((blen N : Nat) : Int) - 53 then -1074 - e else ((blen N : Nat) : Int) - 53) := ⟨_, rfl⟩
  rw [← hv]
  by_cases h0 : v > 0
  · obtain ⟨n, hn⟩ : ∃ n : Nat, v = n := ⟨v.toNat, by omega⟩
    rw [hn] at h0 ⊢
    rw [hn] at hv
    have hRR := hR neg N (n : Int) e more hN (by omega) (by omega) (by omega) (by split at hv <;> omega) G
    rw [Int.toNat_natCast] at hRR
    rw [decide_eq_true h0, cond_true]
    have hRR' := hRR
    unfold W at hRR'
    rw [hRR']
    have hop := fun f => W_open (β := R) neg (N / 2 ^ n) (e + n) (more || decide (N % 2 ^ n ≠ 0)) f
    unfold W at hop
    rw [hop]
    have hbl := blen_div_pow N n
    refine fin n (N / 2 ^ n) _ rfl rfl (blen_lt.1 ?_) ?_ ?_ ?_
    · split at hv <;> omega
    · split at hv <;> omega
    · split at hv
      · exact .inl (.inl (by omega))
      · exact .inl (.inr (blen_ge.1 (by omega)))
    · split at hv <;> omega
  · rw [decide_eq_false h0, cond_false]
    have hm0 : more = false := by
      cases more with
      | false => rfl
      | true => have := hmore rfl; exfalso; split at hv <;> omega
    have := fin 0 N more (by simp) (by simp [Nat.mod_one]) (blen_lt.1 (by split at hv <;> omega)) (by split at hv <;> omega) (.inr hm0) (by omega)
    rw [show e + ((0 : Nat) : Int) = e by omega] at this
    exact this

theorem wTo {F n : Nat} (hF : 1 ≤ F) (hn : 8 ≤ n) : STo (runC (R := R) Try.prog lo0 F n) := by
  obtain ⟨n, rfl⟩ : ∃ j, n = j + 8 := ⟨n - 8, by omega⟩
  intro neg N p s e more down A B hN he1 he2 hB hps hrep hmore G k
  unfold W
  rw [r_round_exact_to, e_round_exact_to]
  exact to_body hF (wLength hF (by omega)) (wRight hF (by omega)) (wLdexp hF (by omega)) (wIsInf hF (by omega)) (wPlain (by omega)) hN he1 he2 hB hps hrep hmore G k
end
end Go.LI.Film

/-! Package round: sums. -/
namespace Go.LI.Film
open Go.Proofs.Ytbjcipikclbecaa Go Go.Proofs Go.LI Go.LI.Fl
set_option linter.unusedVariables false
set_option linter.unusedSimpArgs false
set_option maxRecDepth 100000
section
variable {R : Type}
abbrev SAdd64 (O : Ora R) : Prop := ∀ (x y c : Nat), c ≤ 1 → ∀ (G : GH) (k : IV → GH → Option R), O fn_bits_Add64 [.int .u64 (x : Int), .int .u64 (y : Int), .int .u64 (c : Int)] G k = k (.tuple [.int .u64 (((x + y + c) % 2 ^ 64 : Nat) : Int), .int .u64 (((x + y + c) / 2 ^ 64 : Nat) : Int)]) G
abbrev SSub64 (O : Ora R) : Prop := ∀ (x y c : Nat), c ≤ 1 → ∀ (G : GH) (k : IV → GH → Option R), O fn_bits_Sub64 [.int .u64 (x : Int), .int .u64 (y : Int), .int .u64 (c : Int)] G k = k (.tuple [.int .u64 (((x + 2 ^ 64 - y - c) % 2 ^ 64 : Nat) : Int), .int .u64 (((if x < y + c then 1 else 0) : Nat) : Int)]) G
abbrev SSum (O : Ora R) : Prop := ∀ (na nb : Bool) (Na Nb : Nat) (ea eb va vb : Int), FOk na Na ea va → FOk nb Nb eb vb → ∃ n N e m, WOk n N e m (va + vb) ∧ ∀ (G : GH) (k : IV → GH → Option R), O fn_round_sum [W na Na ea false, W nb Nb eb false] G k = k (W n N e m) G

theorem add64_raw {F n : Nat} (x y c : Nat) (G : GH) (k : IV → GH → Option R) : runC (R := R) Try.prog lo0 F (n + 1) fn_bits_Add64 [.int .u64 (x : Int), .int .u64 (y : Int), .int .u64 (c : Int)] G k =
    if c > 1 then none else k (.tuple [.int .u64 (((x + y + c) % 2 ^ 64 : Nat) : Int), .int .u64 (((x + y + c) / 2 ^ 64 : Nat) : Int)]) G := by kernel_rfl
theorem sub64_raw {F n : Nat} (x y c : Nat) (G : GH) (k : IV → GH → Option R) : runC (R := R) Try.prog lo0 F (n + 1) fn_bits_Sub64 [.int .u64 (x : Int), .int .u64 (y : Int), .int .u64 (c : Int)] G k =
    if c > 1 then none else k (.tuple [.int .u64 (((x + 2 ^ 64 - y - c) % 2 ^ 64 : Nat) : Int), .int .u64 (((if x < y + c then 1 else 0) : Nat) : Int)]) G := by kernel_rfl
theorem wAdd64 {F n : Nat} (hn : 1 ≤ n) : SAdd64 (runC (R := R) Try.prog lo0 F n) := by
  obtain ⟨n, rfl⟩ : ∃ j, n = j + 1 := ⟨n - 1, by omega⟩
  intro x y c hc G k
  rw [add64_raw, if_neg (by omega)]
theorem wSub64 {F n : Nat} (hn : 1 ≤ n) : SSub64 (runC (R := R) Try.prog lo0 F n) := by
  obtain ⟨n, rfl⟩ : ∃ j, n = j + 1 := ⟨n - 1, by omega⟩
  intro x y c hc G k
  rw [sub64_raw, if_neg (by omega)]
theorem pairUU {β : Type} (x y : Int) (f : Int → Int → Option β) : ((ivTup 2 (.tuple [.int .u64 x, .int .u64 y])).bind fun c => (ivInt .u64 (c.getD 0 undefI)).bind fun a => (ivInt .u64 (c.getD 1 undefI)).bind fun b => f a b) = f x y := rfl

/-- What an operation with a word does. -/
theorem sum_end {O : Ora R} {F : Nat} (hF : 1 ≤ F) (hA : SAdd64 O) (hSb : SSub64 O) {n n2 : Bool} {N M p s V U : Nat} {e eb : Int} {more : Bool} (hps : (p : Int) - s = e + 1074) (he1 : -20000 ≤ e) (he2 : e ≤ 20000) (h : N * 2 ^ p = V * 2 ^ s) (k : RepN M p s more U 1) (hN : 2 ^ 125 ≤ N) (hN2 : N < 2 ^ 126) (hM : M < 2 ^ 126) (hmo : more = true → M < 2 ^ 53) (b20 : Bool) (b21 b22 b23 : Int) (b24 : Bool) :
    ∃ n' N' m', WOk n' N' e m' (sgn n V + sgn n2 U) ∧ ∀ (G : GH) (K : IV → GH → Option R),
      a_round_sum_2N O K (L_round_sum_3 O F K) n ((N / 2 ^ 64 : Nat) : Int) ((N % 2 ^ 64 : Nat) : Int) e false n2 ((M / 2 ^ 64 : Nat) : Int) ((M % 2 ^ 64 : Nat) : Int) eb more b20 b21 b22 b23 b24 G = K (W n' N' e m') G := by
  by_cases hs : n = n2
  · subst hs
    refine ⟨n, N + M, more, sum_same hps he1 he2 h k hN hN2 hM, fun G K => ?_⟩
    obtain ⟨q1, q2⟩ := add128 (N := N) (M := M) (by omega)
    simp only [a_round_sum_2N]
    have h01 : (N % 2 ^ 64 + M % 2 ^ 64 + 0) / 2 ^ 64 ≤ 1 := by omega
    rw [show (n == n) = true by simp, cond_true, show (0 : Int) = ((0 : Nat) : Int) from rfl, hA _ _ _ (by omega), pairUU, hA _ _ _ h01, pairUU, q1, q2]
    rfl
  · obtain rfl : n2 = !n := by cases n <;> cases n2 <;> simp_all
    obtain ⟨c1, c2⟩ := sum_diff (n := n) hps he1 he2 h k hN hN2 hM hmo
    obtain ⟨c, hc⟩ : ∃ c : Nat, c = if more = true then 1 else 0 := ⟨_, rfl⟩
    rw [← hc] at c1 c2
    have hc1 : c ≤ 1 := by rw [hc]; split <;> omega
    have step : ∀ (G : GH) (K : IV → GH → Option R), a_round_sum_2N O K (L_round_sum_3 O F K) n ((N / 2 ^ 64 : Nat) : Int) ((N % 2 ^ 64 : Nat) : Int) e false (!n) ((M / 2 ^ 64 : Nat) : Int) ((M % 2 ^ 64 : Nat) : Int) eb more b20 b21 b22 b23 b24 G =
        a_round_sum_3N O K (c : Int) n ((N / 2 ^ 64 : Nat) : Int) ((N % 2 ^ 64 : Nat) : Int) e false (!n) ((M / 2 ^ 64 : Nat) : Int) ((M % 2 ^ 64 : Nat) : Int) eb more b20 b21 b22 b23 b24 G := by
      intro G K
      simp only [a_round_sum_2N]
      rw [show (n == !n) = false by cases n <;> rfl, cond_false]
      simp only [L_round_sum_3]
      rw [stepF hF]
      simp only [l_round_sum_3, u_round_sum_3]
      cases more with
      | true => rw [cond_true, hc]; rfl
      | false => rw [cond_false, hc]; rfl
    have hb1 : (if N % 2 ^ 64 < M % 2 ^ 64 + c then 1 else 0) ≤ 1 := by split <;> omega
    by_cases hd : M + c ≤ N
    · refine ⟨n, N - M - c, more, c1 hd, fun G K => ?_⟩
      rw [step]
      simp only [a_round_sum_3N]
      rw [hSb _ _ _ hc1, pairUU, hSb _ _ _ hb1, pairUU]
      have q0 : (if N / 2 ^ 64 < M / 2 ^ 64 + (if N % 2 ^ 64 < M % 2 ^ 64 + c then 1 else 0) then 1 else 0) = 0 := by
        rw [if_neg]
        split <;> omega
      have q1 : (N % 2 ^ 64 + 2 ^ 64 - M % 2 ^ 64 - c) % 2 ^ 64 = (N - M - c) % 2 ^ 64 := by omega
      have q2 : (N / 2 ^ 64 + 2 ^ 64 - M / 2 ^ 64 - (if N % 2 ^ 64 < M % 2 ^ 64 + c then 1 else 0)) % 2 ^ 64 = (N - M - c) / 2 ^ 64 := by split <;> omega
      rw [q0, q1, q2, show (((0 : Nat) : Int) != 0) = false from rfl, cond_false]
      rfl
    · obtain ⟨hmf, hw⟩ := c2 (by omega)
      subst hmf
      have hc0 : c = 0 := by rw [hc]; rfl
      subst hc0
      refine ⟨!n, M - N, false, hw, fun G K => ?_⟩
      rw [step]
      simp only [a_round_sum_3N]
      rw [hSb _ _ _ hc1, pairUU, hSb _ _ _ hb1, pairUU]
      have q0 : (if N / 2 ^ 64 < M / 2 ^ 64 + (if N % 2 ^ 64 < M % 2 ^ 64 + 0 then 1 else 0) then 1 else 0) = 1 := by
        rw [if_pos]
        split <;> omega
      obtain ⟨X, hX⟩ : ∃ X, X = (N % 2 ^ 64 + 2 ^ 64 - M % 2 ^ 64 - 0) % 2 ^ 64 := ⟨_, rfl⟩
      obtain ⟨Y, hY⟩ : ∃ Y, Y = (N / 2 ^ 64 + 2 ^ 64 - M / 2 ^ 64 - (if N % 2 ^ 64 < M % 2 ^ 64 + 0 then 1 else 0)) % 2 ^ 64 := ⟨_, rfl⟩
      have hb2 : (if 0 < X + 0 then 1 else 0) ≤ 1 := by split <;> omega
      have q1 : (0 + 2 ^ 64 - X - 0) % 2 ^ 64 = (M - N) % 2 ^ 64 := by rw [hX]; omega
      have q2 : (0 + 2 ^ 64 - Y - (if 0 < X + 0 then 1 else 0)) % 2 ^ 64 = (M - N) / 2 ^ 64 := by
        rw [hY, hX]; split <;> split <;> omega
      rw [q0, ← hX, ← hY, show (((1 : Nat) : Int) != 0) = true from rfl, cond_true, show (0 : Int) = ((0 : Nat) : Int) from rfl, hSb 0 X 0 (by omega), pairUU, hSb 0 Y _ hb2, pairUU, q1, q2]
      rfl
end
end Go.LI.Film

/-! Package round: sums, whole. -/
namespace Go.LI.Film
open Go.Proofs.Ytbjcipikclbecaa Go Go.Proofs Go.LI Go.LI.Fl
set_option linter.unusedVariables false
set_option linter.unusedSimpArgs false
set_option maxRecDepth 100000
section
variable {R : Type}

theorem fok_rep {n : Bool} {N : Nat} {e v : Int} (h : FOk n N e v) : WOk n N e false v := by
  obtain ⟨h1, h2, h3, h4⟩ := h
  refine ⟨by omega, by omega, by omega, ⟨(e + 1074).toNat, 0, by omega, ?_⟩, fun hm => (by cases hm), fun h0 => ?_⟩
  · rw [h4, sgn_abs]
    exact rep_exact (by rw [Nat.pow_zero, Nat.mul_one])
  · rw [h4] at h0 ⊢
    unfold sgn at h0 ⊢
    cases n
    · simp only [Bool.false_eq_true, if_false] at h0 ⊢; exact (decide_eq_false (by omega)).symm
    · simp only [if_true] at h0 ⊢; exact (decide_eq_true (by omega)).symm

/-- The sum when the greater one stands first. -/
theorem sum_ord {O : Ora R} {F : Nat} (hF : 1 ≤ F) (hZ : SZero O) (hL : SLength O) (hLe : SLeft O) (hR : SRight O) (hA : SAdd64 O) (hSb : SSub64 O) {na nb : Bool} {Na Nb : Nat} {ea eb va vb : Int} (ha : FOk na Na ea va) (hb : FOk nb Nb eb vb) (ho : Nb = 0 ∨ (Na ≠ 0 ∧ eb + (blen Nb : Nat) ≤ ea + (blen Na : Nat))) (b20 : Bool) (b21 b22 b23 : Int) (b24 : Bool) :
    ∃ n N e m, WOk n N e m (va + vb) ∧ ∀ (G : GH) (k : IV → GH → Option R),
      a_round_sum_0N O k (L_round_sum_2 O F k) na ((Na / 2 ^ 64 : Nat) : Int) ((Na % 2 ^ 64 : Nat) : Int) ea false nb ((Nb / 2 ^ 64 : Nat) : Int) ((Nb % 2 ^ 64 : Nat) : Int) eb false b20 b21 b22 b23 b24 G = k (W n N e m) G := by
  have hzb : ∀ (G : GH) (k : IV → GH → Option R), O fn_round_exact_zero [.agg [.bool nb, .int .u64 ((Nb / 2 ^ 64 : Nat) : Int), .int .u64 ((Nb % 2 ^ 64 : Nat) : Int), .int .i64 eb, .bool false]] G k = k (.bool (decide (Nb = 0))) G := fun G k => hZ nb Nb eb false G k
  by_cases h0 : Nb = 0
  · refine ⟨na, Na, ea, false, ?_, fun G k => ?_⟩
    · have : vb = 0 := by rw [hb.hv, h0, Nat.zero_mul]; unfold sgn; split <;> rfl
      rw [this, Int.add_zero]
      exact fok_rep ha
    · simp only [a_round_sum_0N]
      rw [hzb, ivB, decide_eq_true h0, cond_true]
      rfl
  obtain ⟨ha0, hle⟩ := ho.resolve_left h0
  have hb1 : blen Na ≤ 53 := blen_lt.2 ha.hN
  have hb2 : blen Nb ≤ 53 := blen_lt.2 hb.hN
  have hba := (blen_pos ha0)
  have hbb := (blen_pos h0)
  obtain ⟨h1, h2, h3, h4⟩ := ha
  obtain ⟨k1, k2, k3, k4⟩ := hb
  obtain ⟨j, hj⟩ : ∃ j : Nat, j = 126 - blen Na := ⟨_, rfl⟩
  obtain ⟨pa, hpa⟩ : ∃ pa : Nat, pa = (ea + 1074).toNat := ⟨_, rfl⟩
  obtain ⟨pb, hpb⟩ : ∃ pb : Nat, pb = (eb + 1074).toNat := ⟨_, rfl⟩
  rw [← hpa] at h4
  rw [← hpb] at k4
  have hNj : blen (Na * 2 ^ j) = 126 := by rw [blen_mul_pow ha0]; omega
  have hN1 : 2 ^ 125 ≤ Na * 2 ^ j := blen_ge.1 (by omega)
  have hN2 : Na * 2 ^ j < 2 ^ 126 := blen_lt.1 (by omega)
  have hV : Na * 2 ^ j * 2 ^ pa = Na * 2 ^ pa * 2 ^ j := Nat.mul_right_comm _ _ _
  have hlen : ∀ (G : GH) (k : IV → GH → Option R), O fn_round_exact_length [.agg [.bool na, .int .u64 ((Na / 2 ^ 64 : Nat) : Int), .int .u64 ((Na % 2 ^ 64 : Nat) : Int), .int .i64 ea, .bool false]] G k = k (.int .i64 (blen Na : Nat)) G := fun G k => hL na Na ea false (by omega) G k
  have hleft : ∀ (G : GH) (k : IV → GH → Option R), O fn_round_exact_left [.agg [.bool na, .int .u64 ((Na / 2 ^ 64 : Nat) : Int), .int .u64 ((Na % 2 ^ 64 : Nat) : Int), .int .i64 ea, .bool false], .int .i64 (j : Int)] G k = k (W na (Na * 2 ^ j) (ea - j) false) G := fun G k => hLe na Na j ea false ha0 (by omega) (by omega) (by omega) G k
  have start : ∀ (G : GH) (k : IV → GH → Option R), a_round_sum_0N O k (L_round_sum_2 O F k) na ((Na / 2 ^ 64 : Nat) : Int) ((Na % 2 ^ 64 : Nat) : Int) ea false nb ((Nb / 2 ^ 64 : Nat) : Int) ((Nb % 2 ^ 64 : Nat) : Int) eb false b20 b21 b22 b23 b24 G =
      u_round_sum_2 O (a_round_sum_2N O k (L_round_sum_3 O F k)) na ((Na * 2 ^ j / 2 ^ 64 : Nat) : Int) ((Na * 2 ^ j % 2 ^ 64 : Nat) : Int) (ea - j) false nb ((Nb / 2 ^ 64 : Nat) : Int) ((Nb % 2 ^ 64 : Nat) : Int) eb false b20 b21 b22 b23 b24 G := by
    intro G k
    simp only [a_round_sum_0N]
    rw [hzb, ivB, decide_eq_false h0, cond_false, hlen, ivI, wrapI (v := 126 - ((blen Na : Nat) : Int)) (by omega) (by omega), show 126 - ((blen Na : Nat) : Int) = (j : Int) by omega, hleft, W_open]
    simp only [L_round_sum_2]
    rw [stepF hF]
    simp only [l_round_sum_2]
  by_cases hc : eb > ea - j
  · obtain ⟨i, hi⟩ : ∃ i : Nat, (i : Int) = eb - (ea - j) := ⟨(eb - (ea - j)).toNat, by omega⟩
    have hMb : blen (Nb * 2 ^ i) ≤ 126 := by rw [blen_mul_pow h0]; omega
    have hM : Nb * 2 ^ i < 2 ^ 126 := blen_lt.1 hMb
    have hrep : RepN (Nb * 2 ^ i) pa j false (Nb * 2 ^ pb) 1 := rep_exact (pow_comm (by omega))
    obtain ⟨n', N', m', hw, hend⟩ := sum_end (n := na) (n2 := nb) (e := ea - j) (eb := eb - i) hF hA hSb (by omega) (by omega) (by omega) hV hrep hN1 hN2 hM (fun h => (by cases h)) b20 b21 b22 b23 b24
    refine ⟨n', N', ea - j, m', by rw [h4, k4]; exact hw, fun G k => ?_⟩
    rw [start]
    simp only [u_round_sum_2]
    have hlb : ∀ (G : GH) (k : IV → GH → Option R), O fn_round_exact_left [.agg [.bool nb, .int .u64 ((Nb / 2 ^ 64 : Nat) : Int), .int .u64 ((Nb % 2 ^ 64 : Nat) : Int), .int .i64 eb, .bool false], .int .i64 (i : Int)] G k = k (W nb (Nb * 2 ^ i) (eb - i) false) G := fun G k => hLe nb Nb i eb false h0 (by omega) (by omega) (by omega) G k
    rw [decide_eq_true hc, cond_true, wrapI (v := eb - (ea - j)) (by omega) (by omega), ← hi, hlb, W_open]
    exact hend G k
  · obtain ⟨i, hi⟩ : ∃ i : Nat, (i : Int) = ea - j - eb := ⟨(ea - j - eb).toNat, by omega⟩
    have hM : Nb / 2 ^ i < 2 ^ 53 := Nat.lt_of_le_of_lt (Nat.div_le_self _ _) k1
    have hrep : RepN (Nb / 2 ^ i) pa j (decide (Nb % 2 ^ i ≠ 0)) (Nb * 2 ^ pb) 1 := lay_right (by omega)
    obtain ⟨n', N', m', hw, hend⟩ := sum_end (n := na) (n2 := nb) (e := ea - j) (eb := eb + i) hF hA hSb (by omega) (by omega) (by omega) hV hrep hN1 hN2 (by omega) (fun _ => hM) b20 b21 b22 b23 b24
    refine ⟨n', N', ea - j, m', by rw [h4, k4]; exact hw, fun G k => ?_⟩
    rw [start]
    simp only [u_round_sum_2]
    have hrb : ∀ (G : GH) (k : IV → GH → Option R), O fn_round_exact_right [.agg [.bool nb, .int .u64 ((Nb / 2 ^ 64 : Nat) : Int), .int .u64 ((Nb % 2 ^ 64 : Nat) : Int), .int .i64 eb, .bool false], .int .i64 (i : Int)] G k = k (W nb (Nb / 2 ^ i) (eb + i) (decide (Nb % 2 ^ i ≠ 0))) G := fun G k => by
      have := hR nb Nb (i : Int) eb false (by omega) (by omega) (by omega) (by omega) (by omega) G k
      rw [Int.toNat_natCast, Bool.false_or] at this
      exact this
    rw [decide_eq_false hc, cond_false, wrapI (v := ea - j - eb) (by omega) (by omega), ← hi, hrb, W_open]
    exact hend G k

theorem sum_body {O : Ora R} {F : Nat} (hF : 1 ≤ F) (hZ : SZero O) (hL : SLength O) (hLe : SLeft O) (hR : SRight O) (hA : SAdd64 O) (hSb : SSub64 O) {na nb : Bool} {Na Nb : Nat} {ea eb va vb : Int} (ha : FOk na Na ea va) (hb : FOk nb Nb eb vb) :
    ∃ n N e m, WOk n N e m (va + vb) ∧ ∀ (G : GH) (k : IV → GH → Option R),
      u_round_sum O k (L_round_sum_0 O F k) na ((Na / 2 ^ 64 : Nat) : Int) ((Na % 2 ^ 64 : Nat) : Int) ea false nb ((Nb / 2 ^ 64 : Nat) : Int) ((Nb % 2 ^ 64 : Nat) : Int) eb false G = k (W n N e m) G := by
  have hza : ∀ (G : GH) (k : IV → GH → Option R), O fn_round_exact_zero [.agg [.bool na, .int .u64 ((Na / 2 ^ 64 : Nat) : Int), .int .u64 ((Na % 2 ^ 64 : Nat) : Int), .int .i64 ea, .bool false]] G k = k (.bool (decide (Na = 0))) G := fun G k => hZ na Na ea false G k
  have hzb : ∀ (G : GH) (k : IV → GH → Option R), O fn_round_exact_zero [.agg [.bool nb, .int .u64 ((Nb / 2 ^ 64 : Nat) : Int), .int .u64 ((Nb % 2 ^ 64 : Nat) : Int), .int .i64 eb, .bool false]] G k = k (.bool (decide (Nb = 0))) G := fun G k => hZ nb Nb eb false G k
  have hla : ∀ (G : GH) (k : IV → GH → Option R), O fn_round_exact_length [.agg [.bool na, .int .u64 ((Na / 2 ^ 64 : Nat) : Int), .int .u64 ((Na % 2 ^ 64 : Nat) : Int), .int .i64 ea, .bool false]] G k = k (.int .i64 (blen Na : Nat)) G := fun G k => hL na Na ea false (by have := ha.hN; omega) G k
  have hlb : ∀ (G : GH) (k : IV → GH → Option R), O fn_round_exact_length [.agg [.bool nb, .int .u64 ((Nb / 2 ^ 64 : Nat) : Int), .int .u64 ((Nb % 2 ^ 64 : Nat) : Int), .int .i64 eb, .bool false]] G k = k (.int .i64 (blen Nb : Nat)) G := fun G k => hL nb Nb eb false (by have := hb.hN; omega) G k
  have hb1 : blen Na ≤ 53 := blen_lt.2 ha.hN
  have hb2 : blen Nb ≤ 53 := blen_lt.2 hb.hN
  obtain ⟨sw, hsw⟩ : ∃ sw : Bool, sw = if Na = 0 then true else if Nb ≠ 0 then decide (ea + ((blen Na : Nat) : Int) < eb + ((blen Nb : Nat) : Int)) else false := ⟨_, rfl⟩
  have start : ∀ (G : GH) (k : IV → GH → Option R), u_round_sum O k (L_round_sum_0 O F k) na ((Na / 2 ^ 64 : Nat) : Int) ((Na % 2 ^ 64 : Nat) : Int) ea false nb ((Nb / 2 ^ 64 : Nat) : Int) ((Nb % 2 ^ 64 : Nat) : Int) eb false G =
      a_round_sum_1N O (a_round_sum_0N O k (L_round_sum_2 O F k)) sw na ((Na / 2 ^ 64 : Nat) : Int) ((Na % 2 ^ 64 : Nat) : Int) ea false nb ((Nb / 2 ^ 64 : Nat) : Int) ((Nb % 2 ^ 64 : Nat) : Int) eb false false 0 0 0 false G := by
    intro G k
    simp only [u_round_sum, L_round_sum_0]
    rw [stepF hF]
    simp only [l_round_sum_0, u_round_sum_0, L_round_sum_1]
    rw [stepF hF]
    simp only [l_round_sum_1, u_round_sum_1]
    rw [hza, ivB]
    by_cases h1 : Na = 0
    · rw [decide_eq_true h1, cond_true, hsw, if_pos h1]
    · rw [decide_eq_false h1, cond_false, hzb, ivB]
      by_cases h2 : Nb = 0
      · rw [decide_eq_true h2, Bool.not_true, cond_false, hsw, if_neg h1, if_neg (by simpa using h2)]
      · rw [decide_eq_false h2, Bool.not_false, cond_true, hla, ivI, hlb, ivI, wrapI (v := ea + ((blen Na : Nat) : Int)) (by have := ha.e1; have := ha.e2; omega) (by have := ha.e1; have := ha.e2; omega), wrapI (v := eb + ((blen Nb : Nat) : Int)) (by have := hb.e1; have := hb.e2; omega) (by have := hb.e1; have := hb.e2; omega), hsw, if_neg h1, if_pos h2]
  by_cases hs : sw = true
  · have ho : Na = 0 ∨ (Nb ≠ 0 ∧ ea + ((blen Na : Nat) : Int) ≤ eb + ((blen Nb : Nat) : Int)) := by
      rw [hs] at hsw
      by_cases h1 : Na = 0
      · exact .inl h1
      · rw [if_neg h1] at hsw
        by_cases h2 : Nb = 0
        · rw [if_neg (by simpa using h2)] at hsw; cases hsw
        · rw [if_pos h2] at hsw
          have := of_decide_eq_true hsw.symm
          exact .inr ⟨h2, by omega⟩
    obtain ⟨n, N, e, m, hw, hend⟩ := sum_ord (F := F) hF hZ hL hLe hR hA hSb hb ha ho false 0 0 0 false
    refine ⟨n, N, e, m, by rw [Int.add_comm]; exact hw, fun G k => ?_⟩
    rw [start]
    simp only [a_round_sum_1N]
    rw [hs, cond_true]
    exact hend G k
  · have hs' : sw = false := by simpa using hs
    have ho : Nb = 0 ∨ (Na ≠ 0 ∧ eb + ((blen Nb : Nat) : Int) ≤ ea + ((blen Na : Nat) : Int)) := by
      rw [hs'] at hsw
      by_cases h1 : Na = 0
      · rw [if_pos h1] at hsw; cases hsw
      · rw [if_neg h1] at hsw
        by_cases h2 : Nb = 0
        · exact .inl h2
        · rw [if_pos h2] at hsw
          have := of_decide_eq_false hsw.symm
          exact .inr ⟨h1, by omega⟩
    obtain ⟨n, N, e, m, hw, hend⟩ := sum_ord (F := F) hF hZ hL hLe hR hA hSb ha hb ho false 0 0 0 false
    refine ⟨n, N, e, m, hw, fun G k => ?_⟩
    rw [start]
    simp only [a_round_sum_1N]
    rw [hs', cond_false]
    exact hend G k

theorem wSum {F n : Nat} (hF : 1 ≤ F) (hn : 4 ≤ n) : SSum (runC (R := R) Try.prog lo0 F n) := by
  obtain ⟨n, rfl⟩ : ∃ j, n = j + 4 := ⟨n - 4, by omega⟩
  intro na nb Na Nb ea eb va vb ha hb
  obtain ⟨n', N, e, m, hw, h⟩ := sum_body (O := runC (R := R) Try.prog lo0 F (n + 3)) hF (wZero (by omega)) (wLength hF (by omega)) (wLeft hF (by omega)) (wRight hF (by omega)) (wAdd64 (by omega)) (wSub64 (by omega)) ha hb
  refine ⟨n', N, e, m, hw, fun G k => ?_⟩
  unfold W
  rw [r_round_sum, e_round_sum]
  exact h G k
end
end Go.LI.Film

/-! Package round: words apart, numbers, Add. -/
namespace Go.LI.Film
open Go.Proofs.Ytbjcipikclbecaa Go Go.Proofs Go.LI Go.LI.Fl
set_option linter.unusedVariables false
set_option linter.unusedSimpArgs false
set_option maxRecDepth 100000
section
variable {R : Type}
abbrev SSplit (O : Ora R) : Prop := ∀ (x : Nat), x < 2 ^ 64 → fin x = true → ∃ N e, FOk (sg dbl x) N e (sv x) ∧ ∀ (G : GH) (k : IV → GH → Option R), O fn_round_split [.float .f64 x] G k = k (W (sg dbl x) N e false) G
abbrev SNumber (O : Ora R) : Prop := ∀ (x : Nat), x < 2 ^ 64 → ∀ (G : GH) (k : IV → GH → Option R), O fn_round_Number [.float .f64 x] G k = k (.bool (fin x)) G
abbrev STwo (O : Ora R) : Prop := ∀ (x y : Nat), x < 2 ^ 64 → y < 2 ^ 64 → ∀ (G : GH) (k : IV → GH → Option R), O fn_round_two [.float .f64 x, .float .f64 y] G k = k (.bool (fin x && fin y)) G
abbrev SAdd (O : Ora R) : Prop := ∀ (x y : Nat) (down : Bool), x < 2 ^ 64 → y < 2 ^ 64 → ∀ (G : GH) (k : IV → GH → Option R), O fn_round_Add [.float .f64 x, .float .f64 y, .bool down] G k = k (.tuple [.float .f64 (if (fin x && fin y) = true then addR x y down else 0), .int .i64 (if (fin x && fin y) = true then 0 else 10)]) G

theorem wNumber {F n : Nat} (hF : 1 ≤ F) (hn : 4 ≤ n) : SNumber (runC (R := R) Try.prog lo0 F n) := by
  obtain ⟨n, rfl⟩ : ∃ j, n = j + 4 := ⟨n - 4, by omega⟩
  have h1 := wIsNaN (R := R) (F := F) (n := n + 3) (by omega)
  have h2 := wIsInf (R := R) (F := F) (n := n + 3) hF (by omega)
  intro x hx G k
  rw [r_round_Number, e_round_Number, h1 x hx, ivB]
  unfold fin
  by_cases h : rg dbl x ≤ 9218868437227405312
  · rw [decide_eq_false (by simpa using h), Bool.not_false, cond_true, h2 x hx, ivB]
    by_cases h3 : rg dbl x = 9218868437227405312
    · rw [decide_eq_true h3, decide_eq_false (by omega)]; rfl
    · rw [decide_eq_false h3, decide_eq_true (by omega)]; rfl
  · rw [decide_eq_true h, Bool.not_true, cond_false, decide_eq_false (by omega)]

theorem wTwo {F n : Nat} (hF : 1 ≤ F) (hn : 5 ≤ n) : STwo (runC (R := R) Try.prog lo0 F n) := by
  obtain ⟨n, rfl⟩ : ∃ j, n = j + 5 := ⟨n - 5, by omega⟩
  have h1 := wNumber (R := R) (F := F) (n := n + 4) hF (by omega)
  intro x y hx hy G k
  rw [r_round_two, e_round_two, h1 x hx, ivB]
  cases fin x with
  | true => rw [cond_true, h1 y hy, ivB, Bool.true_and]
  | false => rw [cond_false, Bool.false_and]

theorem parts {x : Nat} (hx : x < 2 ^ 64) : ∃ E m : Nat, m < 2 ^ 52 ∧ E < 2048 ∧ rg dbl x = E * 2 ^ 52 + m ∧ x % 2 ^ 52 = m ∧ x / 2 ^ 52 % 2 ^ 11 = E ∧ sg dbl x = decide (x / 2 ^ 63 ≠ 0) := by
  refine ⟨x / 2 ^ 52 % 2 ^ 11, x % 2 ^ 52, by omega, by omega, ?_, rfl, rfl, ?_⟩
  · unfold rg; rw [dbl_sw]; omega
  · unfold sg; rw [dbl_sw]
    by_cases h : x / 2 ^ 63 = 0
    · have : x / 9223372036854775808 = 0 := h
      simp [this]
    · have h1 : x / 9223372036854775808 = 1 := by omega
      have h2 : x / 2 ^ 63 = 1 := by omega
      simp [h1]

theorem wSplit {F n : Nat} (hF : 1 ≤ F) (hn : 2 ≤ n) : SSplit (runC (R := R) Try.prog lo0 F n) := by
  obtain ⟨n, rfl⟩ : ∃ j, n = j + 2 := ⟨n - 2, by omega⟩
  have h1 := wBits (R := R) (F := F) (n := n + 1) (by omega)
  intro x hx hf
  obtain ⟨E, m, hm, hE, hr, q1, q2, q3⟩ := parts hx
  have hf' : rg dbl x < 9218868437227405312 := of_decide_eq_true hf
  have hE2 : E < 2047 := by omega
  have a1 : andI .u64 (x : Int) 4503599627370495 = (m : Int) := by
    have := and_low hx 52 (by omega)
    rw [q1] at this
    exact this
  have a2 : andI .u64 (shrI .u64 (x : Int) 52) 2047 = (E : Int) := by
    have := shr_nat hx 52
    rw [show (52 : Int) = ((52 : Nat) : Int) from rfl, this]
    have h := and_low (a := x / 2 ^ 52) (Nat.lt_of_le_of_lt (Nat.div_le_self _ _) hx) 11 (by omega)
    rw [q2] at h
    exact h
  have a3 : (shrI .u64 (x : Int) 63 != 0) = sg dbl x := by
    rw [show (63 : Int) = ((63 : Nat) : Int) from rfl, shr_nat hx, ibn, q3]
  have hsv : ∀ (q M : Nat), rg dbl x = q * 2 ^ 52 + M → M ≤ 2 ^ 53 → (q = 0 ∨ 2 ^ 52 ≤ M) → sv x = sgn (sg dbl x) (M * 2 ^ q) := by
    intro q M h h' h''
    rw [sv_sgn, h, mag_form h' h'']
  have start : ∀ (G : GH) (k : IV → GH → Option R), runC Try.prog lo0 F (n + 2) fn_round_split [.float .f64 x] G k = bif ((E : Int) == (0 : Int)) then k (.agg [.bool (sg dbl x), .int .u64 0, .int .u64 (m : Int), .int .i64 (-1074), .bool false]) G else k (.agg [.bool (sg dbl x), .int .u64 0, .int .u64 (orI .u64 (m : Int) 4503599627370496), .int .i64 (IntKind.wrap .i64 ((E : Int) - 1075)), .bool false]) G := by
    intro G k
    rw [r_round_split, e_round_split, h1 x, ivU, a1, a2, a3, wrapI (v := (E : Int)) (by omega) (by omega)]
  by_cases h0 : E = 0
  · refine ⟨m, -1074, ⟨by omega, by omega, by omega, ?_⟩, fun G k => ?_⟩
    · rw [hsv 0 m (by rw [hr, h0]) (by omega) (.inl rfl), show ((-1074 : Int) + 1074).toNat = 0 from rfl]
    · rw [start, ib, decide_eq_true h0, cond_true]
      unfold W
      rw [show m / 2 ^ 64 = 0 by omega, show m % 2 ^ 64 = m by omega]
      rfl
  · refine ⟨2 ^ 52 + m, (E : Int) - 1075, ⟨by omega, by omega, by omega, ?_⟩, fun G k => ?_⟩
    · have hq : ((E : Int) - 1075 + 1074).toNat = E - 1 := by omega
      have hq' : E = E - 1 + 1 := by omega
      rw [hsv (E - 1) (2 ^ 52 + m) (by rw [hr]; conv => lhs; rw [hq', Nat.add_mul, Nat.one_mul, Nat.add_assoc]) (by omega) (.inr (Nat.le_add_right _ _)), hq]
    · rw [start, ib, decide_eq_false h0, cond_false, wrapI (v := (E : Int) - 1075) (by omega) (by omega)]
      have hor : orI .u64 (m : Int) 4503599627370496 = ((2 ^ 52 + m : Nat) : Int) := by
        have := or_nat (a := m) (b := 2 ^ 52) (by omega) (by omega)
        rw [Nat.or_comm, show (2 : Nat) ^ 52 = 1 * 2 ^ 52 from rfl, or_add hm, Nat.one_mul] at this
        exact this
      rw [hor]
      unfold W
      rw [show (2 ^ 52 + m) / 2 ^ 64 = 0 by omega, show (2 ^ 52 + m) % 2 ^ 64 = 2 ^ 52 + m by omega]
      rfl

theorem floorR_zero : floorR 0 = 0 := rfl
theorem rndR_zero (g : Bool) : rndR 0 1 g = 0 := by
  unfold rndR
  rw [Nat.div_one, floorR_zero, if_neg]
  rintro ⟨_, h⟩
  exact h (by rw [Nat.mul_one]; rfl)
theorem sealW_zero (n g : Bool) : sealW n 0 g = 0 := rfl

theorem add_body {O : Ora R} {F : Nat} (hT : STwo O) (hSp : SSplit O) (hS : SSum O) (hTo : STo O) {x y : Nat} {down : Bool} (hx : x < 2 ^ 64) (hy : y < 2 ^ 64) (G : GH) (k : IV → GH → Option R) :
    bodyC Try.prog O [777777] F Try.f74 [.float .f64 x, .float .f64 y, .bool down] G k = k (.tuple [.float .f64 (if (fin x && fin y) = true then addR x y down else 0), .int .i64 (if (fin x && fin y) = true then 0 else 10)]) G := by
  rw [e_round_Add, hT x y hx hy, ivB]
  by_cases hf : (fin x && fin y) = true
  · rw [hf, Bool.not_true, cond_false, if_pos rfl, if_pos rfl]
    rw [Bool.and_eq_true] at hf
    obtain ⟨Nx, ex, fx, hsx⟩ := hSp x hx hf.1
    obtain ⟨Ny, ey, fy, hsy⟩ := hSp y hy hf.2
    rw [hsx, W_open, hsy, W_open]
    obtain ⟨n, N, e, m, hw, hsum⟩ := hS _ _ _ _ _ _ _ _ fx fy
    have hsum' := hsum
    unfold W at hsum'
    rw [hsum']
    have hop := fun f => W_open (β := R) n N e m f
    unfold W at hop
    rw [hop]
    obtain ⟨h1, h2, h3, ⟨p, s, h4, h5⟩, h6, h7⟩ := hw
    have hto := hTo n N p s e m down _ 1 h1 h2 h3 (by omega) h4 h5 h6 G
    unfold W at hto
    rw [hto, ivF]
    congr 4
    unfold addR
    by_cases h0 : sv x + sv y = 0
    · rw [h0, show (0 : Int).natAbs = 0 from rfl, rndR_zero, rndR_zero, sealW_zero, sealW_zero]
    · rw [h7 h0]
  · have hf' : (fin x && fin y) = false := by simpa using hf
    rw [hf', Bool.not_false, cond_true, if_neg (by simp), if_neg (by simp)]

theorem wAdd {F n : Nat} (hF : 1 ≤ F) (hn : 9 ≤ n) : SAdd (runC (R := R) Try.prog lo0 F n) := by
  obtain ⟨n, rfl⟩ : ∃ j, n = j + 9 := ⟨n - 9, by omega⟩
  intro x y down hx hy G k
  rw [r_round_Add]
  exact add_body (wTwo hF (by omega)) (wSplit hF (by omega)) (wSum hF (by omega)) (wTo hF (by omega)) hx hy G k
end
end Go.LI.Film
