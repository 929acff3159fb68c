/- Words of 64 bits as natural numbers. -/
import Derived.Test.YtbjcipikclbecaaFlC
set_option linter.unusedVariables false
set_option maxRecDepth 100000
namespace Go.LI.Fl
open Go Go.LI

theorem wrapU (n : Nat) : IntKind.wrap .u64 (n : Int) = ((n % 2 ^ 64 : Nat) : Int) := by
  have e1 : IntKind.u64.bits = 64 := rfl
  unfold IntKind.wrap
  simp only [IntKind.signed, Bool.false_and, Bool.false_eq_true, if_false, e1]
  norm_cast
theorem wrapU_small {n : Nat} (h : n < 2 ^ 64) : IntKind.wrap .u64 (n : Int) = (n : Int) := by rw [wrapU, Nat.mod_eq_of_lt h]
theorem wrapI {v : Int} (h1 : -9223372036854775808 ≤ v) (h2 : v < 9223372036854775808) : IntKind.wrap .i64 v = v := by
  have e1 : IntKind.i64.bits = 64 := rfl
  unfold IntKind.wrap
  simp only [IntKind.signed, Bool.true_and, decide_eq_true_eq, ge_iff_le, e1]
  split <;> omega

theorem ib (a : Nat) : (((a : Nat) : Int) == 0) = decide (a = 0) := by by_cases h : a = 0 <;> simp [h]
theorem ibn (a : Nat) : (((a : Nat) : Int) != 0) = decide (a ≠ 0) := by by_cases h : a = 0 <;> simp [h]
theorem shl_nat (x n : Nat) : shlI .u64 (x : Int) (n : Int) = ((x * 2 ^ n % 2 ^ 64 : Nat) : Int) := by
  have e1 : IntKind.u64.bits = 64 := rfl
  unfold shlI
  rw [e1, Int.toNat_natCast]
  have h : (x : Int) * 2 ^ (min n 64) = ((x * 2 ^ (min n 64) : Nat) : Int) := by push_cast; rfl
  rw [h, wrapU]
  congr 1
  rcases Nat.le_total n 64 with hn | hn
  · rw [Nat.min_eq_left hn]
  · rw [Nat.min_eq_right hn, Nat.mul_mod_left]
    obtain ⟨d, rfl⟩ := Nat.le.dest hn
    rw [Nat.pow_add, Nat.mul_comm (2 ^ 64), ← Nat.mul_assoc, Nat.mul_mod_left]
theorem shr_nat {x : Nat} (hx : x < 2 ^ 64) (n : Nat) : shrI .u64 (x : Int) (n : Int) = ((x / 2 ^ n : Nat) : Int) := by
  have e1 : IntKind.u64.bits = 64 := rfl
  unfold shrI
  rw [e1, Int.toNat_natCast]
  have h : ((2 : Int) ^ (min n 64)) = ((2 ^ (min n 64) : Nat) : Int) := by push_cast; rfl
  rw [h, Int.fdiv_eq_ediv_of_nonneg _ (Int.natCast_nonneg _), ← Int.natCast_ediv]
  congr 1
  rcases Nat.le_total n 64 with hn | hn
  · rw [Nat.min_eq_left hn]
  · rw [Nat.min_eq_right hn, Nat.div_eq_of_lt hx, Nat.div_eq_of_lt (Nat.lt_of_lt_of_le hx (Nat.pow_le_pow_right (by decide) hn))]

theorem bv_nat {a : Nat} (ha : a < 2 ^ 64) : (BitVec.ofInt 64 (a : Int)).toNat = a := by
  rw [BitVec.ofInt_natCast, BitVec.toNat_ofNat, Nat.mod_eq_of_lt ha]
theorem and_nat {a b : Nat} (ha : a < 2 ^ 64) (hb : b < 2 ^ 64) : andI .u64 (a : Int) (b : Int) = ((a &&& b : Nat) : Int) := by
  have e1 : IntKind.u64.bits = 64 := rfl
  unfold andI
  rw [e1, BitVec.toNat_and, bv_nat ha, bv_nat hb]
  exact wrapU_small (Nat.lt_of_le_of_lt Nat.and_le_left ha)
theorem or_nat {a b : Nat} (ha : a < 2 ^ 64) (hb : b < 2 ^ 64) : orI .u64 (a : Int) (b : Int) = ((a ||| b : Nat) : Int) := by
  have e1 : IntKind.u64.bits = 64 := rfl
  unfold orI
  rw [e1, BitVec.toNat_or, bv_nat ha, bv_nat hb]
  exact wrapU_small (Nat.or_lt_two_pow ha hb)
/-- Above and below. -/
theorem or_add {a k b : Nat} (hb : b < 2 ^ k) : (a * 2 ^ k) ||| b = a * 2 ^ k + b := by
  rw [Nat.mul_comm, Nat.two_pow_add_eq_or_of_lt hb]
theorem or_nat_add {a k b : Nat} (ha : a * 2 ^ k < 2 ^ 64) (hb : b < 2 ^ k) (hk : k ≤ 64) : orI .u64 ((a * 2 ^ k : Nat) : Int) (b : Int) = ((a * 2 ^ k + b : Nat) : Int) := by
  rw [or_nat ha (Nat.lt_of_lt_of_le hb (Nat.pow_le_pow_right (by decide) hk)), or_add hb]
theorem and_low {a : Nat} (ha : a < 2 ^ 64) (k : Nat) (hk : k ≤ 63) : andI .u64 (a : Int) ((2 ^ k - 1 : Nat) : Int) = ((a % 2 ^ k : Nat) : Int) := by
  have : 2 ^ k ≤ 2 ^ 63 := Nat.pow_le_pow_right (by decide) hk
  rw [and_nat ha (by omega), Nat.and_two_pow_sub_one_eq_mod]

/-- How many bits. -/
def blen (n : Nat) : Nat := if n = 0 then 0 else n.log2 + 1
theorem blen_zero : blen 0 = 0 := rfl
theorem blen_lt {n k : Nat} : blen n ≤ k ↔ n < 2 ^ k := by
  unfold blen
  split
  · rename_i h; subst h; simp [Nat.two_pow_pos]
  · rename_i h
    rw [← Nat.log2_lt h]
    omega
theorem blen_ge {n k : Nat} : k < blen n ↔ 2 ^ k ≤ n := by
  have := @blen_lt n k
  omega
theorem blen_pos {n : Nat} (h : n ≠ 0) : 2 ^ (blen n - 1) ≤ n ∧ n < 2 ^ blen n ∧ 1 ≤ blen n := by
  have h1 : 1 ≤ blen n := by unfold blen; rw [if_neg h]; omega
  exact ⟨blen_ge.1 (by omega), blen_lt.1 (Nat.le_refl _), h1⟩
theorem blen_of {n k : Nat} (h1 : 2 ^ k ≤ n) (h2 : n < 2 ^ (k + 1)) : blen n = k + 1 := by
  have a := blen_ge.2 h1
  have b := blen_lt.2 h2
  omega
theorem blen_mul_pow {n : Nat} (h : n ≠ 0) (k : Nat) : blen (n * 2 ^ k) = blen n + k := by
  obtain ⟨h1, h2, h3⟩ := blen_pos h
  have : blen (n * 2 ^ k) = (blen n - 1 + k) + 1 := by
    refine blen_of ?_ ?_
    · rw [Nat.pow_add]; exact Nat.mul_le_mul_right _ h1
    · rw [show blen n - 1 + k + 1 = blen n + k by omega, Nat.pow_add]
      exact Nat.mul_lt_mul_of_pos_right h2 (Nat.two_pow_pos k)
  omega
theorem blen_div_pow (n k : Nat) : blen (n / 2 ^ k) = blen n - k := by
  by_cases hz : n < 2 ^ k
  · rw [Nat.div_eq_of_lt hz, blen_zero]
    have := blen_lt.2 hz; omega
  · have hk : 2 ^ k ≤ n := by omega
    have hn : n ≠ 0 := by have := Nat.two_pow_pos k; omega
    obtain ⟨h1, h2, h3⟩ := blen_pos hn
    have hkb := blen_ge.2 hk
    have : blen (n / 2 ^ k) = (blen n - 1 - k) + 1 := by
      refine blen_of ?_ ?_
      · rw [Nat.le_div_iff_mul_le (Nat.two_pow_pos k), ← Nat.pow_add, show blen n - 1 - k + k = blen n - 1 by omega]; exact h1
      · rw [Nat.div_lt_iff_lt_mul (Nat.two_pow_pos k), ← Nat.pow_add, show blen n - 1 - k + 1 + k = blen n by omega]; exact h2
    omega

/-- The greatest rung whose number is not above M (in units of the least number). -/
def floorR (M : Nat) : Nat := (blen M - 53) * 2 ^ 52 + M / 2 ^ (blen M - 53)
theorem floorR_of {M q m : Nat} (h1 : m * 2 ^ q ≤ M) (h2 : M < (m + 1) * 2 ^ q) (h3 : m < 2 ^ 53) (h4 : q = 0 ∨ 2 ^ 52 ≤ m) : floorR M = q * 2 ^ 52 + m := by
  have hdiv : M / 2 ^ q = m := by
    rw [Nat.div_eq_iff (Nat.two_pow_pos q)]
    rw [Nat.add_mul, Nat.one_mul] at h2
    omega
  have hb : blen M - 53 = q := by
    have h5 := blen_div_pow M q
    rw [hdiv] at h5
    have h6 := blen_lt.2 h3
    rcases h4 with h4 | h4
    · omega
    · have h7 := blen_ge.2 h4
      omega
  unfold floorR
  rw [hb, hdiv]
theorem floorR_mag {M q m : Nat} (h3 : m < 2 ^ 53) (h4 : q = 0 ∨ 2 ^ 52 ≤ m) : mag dbl (q * 2 ^ 52 + m) = m * 2 ^ q := by
  unfold mag
  rw [dbl_B]
  by_cases hm : m < 2 ^ 52
  · have hq : q = 0 := by omega
    subst hq
    rw [if_pos (by omega)]; simp
  · rw [if_neg (by omega)]
    have h1 : (q * 2 ^ 52 + m) / 2 ^ 52 = q + 1 := by
      rw [show q * 2 ^ 52 + m = (m - 2 ^ 52) + 2 ^ 52 * (q + 1) by omega, Nat.add_mul_div_left _ _ (by decide), Nat.div_eq_of_lt (by omega)]; omega
    have h2 : (q * 2 ^ 52 + m) % 2 ^ 52 = m - 2 ^ 52 := by
      rw [show q * 2 ^ 52 + m = (m - 2 ^ 52) + 2 ^ 52 * (q + 1) by omega, Nat.add_mul_mod_self_left, Nat.mod_eq_of_lt (by omega)]
    rw [h1, h2, show 2 ^ 52 + (m - 2 ^ 52) = m by omega, show q + 1 - 1 = q by omega]

/-- A/B (in units of the least number), rounded to a rung: down, or up if 'grow'. -/
def rndR (A B : Nat) (grow : Bool) : Nat := floorR (A / B) + (if grow = true ∧ mag dbl (floorR (A / B)) * B ≠ A then 1 else 0)
/-- A rung and a sign as a word: not beyond the greatest number, but where it grows; no -0. -/
def sealW (neg : Bool) (r : Nat) (grow : Bool) : Nat :=
  let r' := if r < 9218868437227405312 then r else if grow then 9218868437227405312 else 9218868437227405311
  if r' = 0 then 0 else dbl.word neg r'

/-- A word's number, in units of the least number. -/
def sv (x : Nat) : Int := if sg dbl x then -(mag dbl (rg dbl x) : Int) else (mag dbl (rg dbl x) : Int)
def fin (x : Nat) : Bool := decide (rg dbl x < 9218868437227405312)
/-- The sum, rounded down or up. -/
def addR (a b : Nat) (down : Bool) : Nat := sealW (decide (sv a + sv b < 0)) (rndR (sv a + sv b).natAbs 1 (decide (sv a + sv b < 0) == down)) (decide (sv a + sv b < 0) == down)
end Go.LI.Fl
