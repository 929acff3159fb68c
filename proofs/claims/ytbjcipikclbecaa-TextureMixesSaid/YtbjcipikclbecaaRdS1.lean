/- Package round and math/bits: the small functions. -/
import Derived.Test.YtbjcipikclbecaaRdY
import Derived.Test.YtbjcipikclbecaaRdPa
import Derived.Test.YtbjcipikclbecaaRdPb
namespace Go.LI.Film
open Go.Proofs.Ytbjcipikclbecaa Go Go.Proofs Go.LI Go.LI.Fl
set_option linter.unusedVariables false
set_option linter.unusedSimpArgs false
set_option maxRecDepth 100000

/-- A number of 128 bits with its sign, place and rest. -/
def W (neg : Bool) (N : Nat) (e : Int) (more : Bool) : IV := .agg [.bool neg, .int .u64 ((N / 2 ^ 64 : Nat) : Int), .int .u64 ((N % 2 ^ 64 : Nat) : Int), .int .i64 e, .bool more]

section
variable {R : Type}
abbrev SLen64 (O : Ora R) : Prop := ∀ (x : Nat), x < 2 ^ 64 → ∀ (G : GH) (k : IV → GH → Option R), O fn_bits_Len64 [.int .u64 (x : Int)] G k = k (.int .i64 (blen x : Nat)) G
abbrev SZero (O : Ora R) : Prop := ∀ (neg : Bool) (N : Nat) (e : Int) (more : Bool) (G : GH) (k : IV → GH → Option R), O fn_round_exact_zero [W neg N e more] G k = k (.bool (decide (N = 0))) G
abbrev SLength (O : Ora R) : Prop := ∀ (neg : Bool) (N : Nat) (e : Int) (more : Bool), N < 2 ^ 128 → ∀ (G : GH) (k : IV → GH → Option R), O fn_round_exact_length [W neg N e more] G k = k (.int .i64 (blen N : Nat)) G
abbrev SLeft (O : Ora R) : Prop := ∀ (neg : Bool) (N n : Nat) (e : Int) (more : Bool), N ≠ 0 → N * 2 ^ n < 2 ^ 128 → -100000 ≤ e → e ≤ 100000 → ∀ (G : GH) (k : IV → GH → Option R),
  O fn_round_exact_left [W neg N e more, .int .i64 (n : Int)] G k = k (W neg (N * 2 ^ n) (e - n) more) G
abbrev SRight (O : Ora R) : Prop := ∀ (neg : Bool) (N : Nat) (n e : Int) (more : Bool), N < 2 ^ 128 → -100000 ≤ e → e ≤ 100000 → -100000 ≤ n → n ≤ 100000 → ∀ (G : GH) (k : IV → GH → Option R),
  O fn_round_exact_right [W neg N e more, .int .i64 n] G k = k (W neg (N / 2 ^ n.toNat) (e + n.toNat) (more || decide (N % 2 ^ n.toNat ≠ 0))) G

theorem ivB (b : Bool) {β : Type} (f : Bool → Option β) : (ivBool (.bool b)).bind f = f b := rfl
theorem ivI (n : Int) {β : Type} (f : Int → Option β) : (ivInt .i64 (.int .i64 n)).bind f = f n := rfl
theorem ivU (n : Int) {β : Type} (f : Int → Option β) : (ivInt .u64 (.int .u64 n)).bind f = f n := rfl
theorem ivF (n : Nat) {β : Type} (f : Nat → Option β) : (ivFloat .f64 (.float .f64 n)).bind f = f n := rfl
theorem stepF {F : Nat} (hF : 1 ≤ F) {x : Option R} : stepN F x = x := by
  obtain ⟨f, rfl⟩ : ∃ f, F = f + 1 := ⟨F - 1, by omega⟩
  rfl

theorem len8 : ∀ x : Fin 256, (([0, 1, 2, 2, 3, 3, 3, 3, 4, 4, 4, 4, 4, 4, 4, 4, 5, 5, 5, 5, 5, 5, 5, 5, 5, 5, 5, 5, 5, 5, 5, 5, 6, 6, 6, 6, 6, 6, 6, 6, 6, 6, 6, 6, 6, 6, 6, 6, 6, 6, 6, 6, 6, 6, 6, 6, 6, 6, 6, 6, 6, 6, 6, 6, 7, 7, 7, 7, 7, 7, 7, 7, 7, 7, 7, 7, 7, 7, 7, 7, 7, 7, 7, 7, 7, 7, 7, 7, 7, 7, 7, 7, 7, 7, 7, 7, 7, 7, 7, 7, 7, 7, 7, 7, 7, 7, 7, 7, 7, 7, 7, 7, 7, 7, 7, 7, 7, 7, 7, 7, 7, 7, 7, 7, 7, 7, 7, 7, 8, 8, 8, 8, 8, 8, 8, 8, 8, 8, 8, 8, 8, 8, 8, 8, 8, 8, 8, 8, 8, 8, 8, 8, 8, 8, 8, 8, 8, 8, 8, 8, 8, 8, 8, 8, 8, 8, 8, 8, 8, 8, 8, 8, 8, 8, 8, 8, 8, 8, 8, 8, 8, 8, 8, 8, 8, 8, 8, 8, 8, 8, 8, 8, 8, 8, 8, 8, 8, 8, 8, 8, 8, 8, 8, 8, 8, 8, 8, 8, 8, 8, 8, 8, 8, 8, 8, 8, 8, 8, 8, 8, 8, 8, 8, 8, 8, 8, 8, 8, 8, 8, 8, 8, 8, 8, 8, 8, 8, 8, 8, 8, 8, 8, 8, 8, 8, 8, 8, 8, 8, 8, 8, 8, 8, 8, 8, 8] : List UInt8).getD x.val 0).toNat = blen x.val := by decide +kernel

theorem len_step {x s c : Nat} (hc : 2 ^ s ≤ x) : blen (x / 2 ^ s) + s = blen x := by
  have h1 := blen_div_pow x s
  have h2 := blen_ge.2 hc
  omega

theorem wLen64 {F n : Nat} (hF : 1 ≤ F) (hn : 1 ≤ n) : SLen64 (runC (R := R) Try.prog lo0 F n) := by
  obtain ⟨n, rfl⟩ : ∃ j, n = j + 1 := ⟨n - 1, by omega⟩
  intro x hx G k
  rw [r_bits_Len64, e_bits_Len64]
  have fin : ∀ (y s : Nat), y < 256 → s ≤ 56 → a_bits_Len64_2N (runC (R := R) Try.prog lo0 F n) k (y : Int) (s : Int) G = k (.int .i64 ((blen y + s : Nat) : Int)) G := by
    intro y s hy hs
    have h8 := len8 ⟨y, hy⟩
    have w1 : IntKind.wrap .u8 (y : Int) = (y : Int) := by
      have e1 : IntKind.u8.bits = 8 := rfl
      unfold IntKind.wrap
      simp only [IntKind.signed, Bool.false_and, Bool.false_eq_true, if_false, e1]
      omega
    simp only [a_bits_Len64_2N]
    rw [w1, decide_eq_true (by
      refine ⟨by omega, ?_⟩
      have : (y : Int) < 256 := by omega
      exact this), cond_true, Int.toNat_natCast, h8]
    have hb : blen y ≤ 8 := blen_lt.2 hy
    rw [wrapI (v := ((blen y : Nat) : Int)) (by omega) (by omega), wrapI (by omega) (by omega)]
    congr 3
    omega
  have st2 : ∀ (y s : Nat), y < 2 ^ 16 → s ≤ 48 → L_bits_Len64_2 (runC (R := R) Try.prog lo0 F n) F k (y : Int) (s : Int) G = k (.int .i64 ((blen y + s : Nat) : Int)) G := by
    intro y s hy hs
    simp only [L_bits_Len64_2]
    rw [stepF hF]
    simp only [l_bits_Len64_2, u_bits_Len64_2]
    by_cases hc : (y : Int) ≥ 256
    · rw [decide_eq_true hc, cond_true, show (8 : Int) = ((8 : Nat) : Int) from rfl, shr_nat (by omega), wrapI (by omega) (by omega)]
      rw [show (s : Int) + ((8 : Nat) : Int) = ((s + 8 : Nat) : Int) by omega, fin _ _ (by omega) (by omega)]
      have := len_step (x := y) (s := 8) (c := 0) (by omega)
      congr 3; omega
    · rw [decide_eq_false hc, cond_false]
      exact fin y s (by omega) (by omega)
  have st1 : ∀ (y s : Nat), y < 2 ^ 32 → s ≤ 32 → L_bits_Len64_1 (runC (R := R) Try.prog lo0 F n) F k (y : Int) (s : Int) G = k (.int .i64 ((blen y + s : Nat) : Int)) G := by
    intro y s hy hs
    simp only [L_bits_Len64_1]
    rw [stepF hF]
    simp only [l_bits_Len64_1, u_bits_Len64_1, a_bits_Len64_1N]
    by_cases hc : (y : Int) ≥ 65536
    · rw [decide_eq_true hc, cond_true, show (16 : Int) = ((16 : Nat) : Int) from rfl, shr_nat (by omega), wrapI (by omega) (by omega)]
      rw [show (s : Int) + ((16 : Nat) : Int) = ((s + 16 : Nat) : Int) by omega, st2 _ _ (by omega) (by omega)]
      have := len_step (x := y) (s := 16) (c := 0) (by omega)
      congr 3; omega
    · rw [decide_eq_false hc, cond_false]
      exact st2 y s (by omega) (by omega)
  simp only [u_bits_Len64, L_bits_Len64_0]
  rw [stepF hF]
  simp only [l_bits_Len64_0, u_bits_Len64_0, a_bits_Len64_0N]
  by_cases hc : (x : Int) ≥ 4294967296
  · rw [decide_eq_true hc, cond_true, show (32 : Int) = ((32 : Nat) : Int) from rfl, shr_nat hx, st1 _ _ (by omega) (by omega)]
    have := len_step (x := x) (s := 32) (c := 0) (by omega)
    congr 3
  · rw [decide_eq_false hc, cond_false, show (0 : Int) = ((0 : Nat) : Int) from rfl, st1 x 0 (by omega) (by omega)]
    rfl

theorem wZero {F n : Nat} (hn : 1 ≤ n) : SZero (runC (R := R) Try.prog lo0 F n) := by
  obtain ⟨n, rfl⟩ : ∃ j, n = j + 1 := ⟨n - 1, by omega⟩
  intro neg N e more G k
  unfold W
  rw [r_round_exact_zero, e_round_exact_zero]
  rw [ib, ib]
  by_cases h1 : N / 2 ^ 64 = 0
  · rw [decide_eq_true h1, cond_true]
    congr 3
    exact propext (by omega)
  · rw [decide_eq_false h1, cond_false, decide_eq_false (by rintro rfl; exact h1 rfl)]

theorem wLength {F n : Nat} (hF : 1 ≤ F) (hn : 2 ≤ n) : SLength (runC (R := R) Try.prog lo0 F n) := by
  obtain ⟨n, rfl⟩ : ∃ j, n = j + 2 := ⟨n - 2, by omega⟩
  intro neg N e more hN G k
  unfold W
  rw [r_round_exact_length, e_round_exact_length]
  by_cases h1 : N / 2 ^ 64 = 0
  · rw [ibn, decide_eq_false (by omega), cond_false, wLen64 hF (by omega) _ (Nat.mod_lt _ (by decide)), ivI, show N % 2 ^ 64 = N by omega]
  · rw [ibn, decide_eq_true h1, cond_true, wLen64 hF (by omega) _ (by omega), ivI]
    have h2 := len_step (x := N) (s := 64) (c := 0) (by omega)
    have h3 : blen N ≤ 128 := blen_lt.2 hN
    rw [wrapI (by omega) (by omega)]
    congr 2; omega

theorem wLeft {F n : Nat} (hF : 1 ≤ F) (hn : 1 ≤ n) : SLeft (runC (R := R) Try.prog lo0 F n) := by
  obtain ⟨n, rfl⟩ : ∃ j, n = j + 1 := ⟨n - 1, by omega⟩
  intro neg N m e more h0 hN he1 he2 G k
  unfold W
  rw [r_round_exact_left, e_round_exact_left]
  have hm : m < 128 := by
    rcases Nat.lt_or_ge m 128 with h | h
    · exact h
    · have h1 : 2 ^ 128 ≤ 2 ^ m := Nat.pow_le_pow_right (by decide) h
      have h2 : 1 * 2 ^ m ≤ N * 2 ^ m := Nat.mul_le_mul_right _ (by omega)
      omega
  simp only [u_round_exact_left, L_round_exact_left_0]
  rw [stepF hF]
  simp only [l_round_exact_left_0, u_round_exact_left_0, a_round_exact_left_0N]
  by_cases h64 : (m : Int) ≥ 64
  · rw [decide_eq_true h64, cond_true, wrapI (v := (m : Int) - 64) (by omega) (by omega), decide_eq_false (by omega), cond_false, show (m : Int) - 64 = ((m - 64 : Nat) : Int) by omega, shl_nat, wrapI (by omega) (by omega)]
    have hN64 : N < 2 ^ 64 := by
      rcases Nat.lt_or_ge N (2 ^ 64) with h | h
      · exact h
      · have h1 : 2 ^ 64 ≤ 2 ^ m := Nat.pow_le_pow_right (by decide) (by omega)
        have h2 : 2 ^ 64 * 2 ^ 64 ≤ N * 2 ^ m := Nat.mul_le_mul h h1
        omega
    have e1 : N * 2 ^ m = N * 2 ^ (m - 64) * 2 ^ 64 := by rw [Nat.mul_assoc, ← Nat.pow_add]; congr 2; omega
    have hlt : N * 2 ^ (m - 64) < 2 ^ 64 := by
      rw [e1] at hN
      have : N * 2 ^ (m - 64) * 2 ^ 64 < 2 ^ 64 * 2 ^ 64 := by omega
      exact Nat.lt_of_mul_lt_mul_right this
    rw [e1, Nat.mul_div_cancel _ (by decide), Nat.mul_mod_left, Nat.mod_eq_of_lt hN64, Nat.mod_eq_of_lt hlt]
    rfl
  · rw [decide_eq_false h64, cond_false]
    by_cases hz : (m : Int) > 0
    · rw [decide_eq_true hz, cond_true, decide_eq_false (by omega), cond_false, wrapI (v := (64 : Int) - m) (by omega) (by omega), decide_eq_false (by omega), cond_false, cond_false, show (64 : Int) - m = ((64 - m : Nat) : Int) by omega,
        shl_nat, shl_nat, shr_nat (Nat.mod_lt _ (by decide)), wrapI (by omega) (by omega)]
      obtain ⟨hi, lo, hhl, hlo⟩ : ∃ hi lo, N = hi * 2 ^ 64 + lo ∧ lo < 2 ^ 64 := ⟨N / 2 ^ 64, N % 2 ^ 64, by omega, by omega⟩
      have d1 : N / 2 ^ 64 = hi := by omega
      have d2 : N % 2 ^ 64 = lo := by omega
      rw [d1, d2]
      have hp : 2 ^ (64 - m) * 2 ^ m = 2 ^ 64 := by rw [← Nat.pow_add]; congr 1; omega
      have hq : lo / 2 ^ (64 - m) < 2 ^ m := by rw [Nat.div_lt_iff_lt_mul (Nat.two_pow_pos _), Nat.mul_comm, hp]; exact hlo
      have hdm := Nat.div_add_mod lo (2 ^ (64 - m))
      have e1 : lo * 2 ^ m = lo / 2 ^ (64 - m) * 2 ^ 64 + lo % 2 ^ (64 - m) * 2 ^ m := by
        conv => lhs; rw [← hdm]
        rw [Nat.add_mul, Nat.mul_comm (2 ^ (64 - m)), Nat.mul_assoc, hp]
      have hr : lo % 2 ^ (64 - m) * 2 ^ m < 2 ^ 64 := by
        rw [← hp]; exact Nat.mul_lt_mul_of_pos_right (Nat.mod_lt _ (Nat.two_pow_pos _)) (Nat.two_pow_pos _)
      have e2 : N * 2 ^ m = (hi * 2 ^ m + lo / 2 ^ (64 - m)) * 2 ^ 64 + lo % 2 ^ (64 - m) * 2 ^ m := by
        rw [hhl, Nat.add_mul, e1, Nat.add_mul, Nat.mul_right_comm, Nat.add_assoc]
      have hb : hi * 2 ^ m + lo / 2 ^ (64 - m) < 2 ^ 64 := by
        rw [e2] at hN
        omega
      have hhi : hi * 2 ^ m < 2 ^ 64 := by omega
      rw [Nat.mod_eq_of_lt hhi, or_nat_add hhi hq (by omega), e2]
      have f1 : ((hi * 2 ^ m + lo / 2 ^ (64 - m)) * 2 ^ 64 + lo % 2 ^ (64 - m) * 2 ^ m) / 2 ^ 64 = hi * 2 ^ m + lo / 2 ^ (64 - m) := by omega
      have f2 : ((hi * 2 ^ m + lo / 2 ^ (64 - m)) * 2 ^ 64 + lo % 2 ^ (64 - m) * 2 ^ m) % 2 ^ 64 = lo * 2 ^ m % 2 ^ 64 := by rw [e1]; omega
      rw [f1, f2]
    · have hm0 : m = 0 := by omega
      subst hm0
      rw [decide_eq_false hz, cond_false, wrapI (by omega) (by omega)]
      simp
end
end Go.LI.Film
