/- Words of 64 bits as natural numbers. -/
import Derived.Test.YtbjcipikclbecaaGreatFlC
set_option linter.unusedVariables false
set_option maxRecDepth 100000
namespace Go.LI.Fl
open Go Go.LI
theorem zyG (n : Nat) : IntKind.wrap .u64 (n : Int) = ((n % 2 ^ 64 : Nat) : Int) := by
  have e1 : IntKind.u64.bits = 64 := rfl
  unfold IntKind.wrap
  simp only [IntKind.signed, Bool.false_and, Bool.false_eq_true, if_false, e1]
  norm_cast
theorem zu {n : Nat} (h : n < 2 ^ 64) : IntKind.wrap .u64 (n : Int) = (n : Int) := by rw [zyG, Nat.mod_eq_of_lt h]
theorem zF {v : Int} (h1 : -9223372036854775808 ≤ v) (h2 : v < 9223372036854775808) : IntKind.wrap .i64 v = v := by
  have e1 : IntKind.i64.bits = 64 := rfl
  unfold IntKind.wrap
  simp only [IntKind.signed, Bool.true_and, decide_eq_true_eq, ge_iff_le, e1]
  split <;> omega
theorem ib (a : Nat) : (((a : Nat) : Int) == 0) = decide (a = 0) := by by_cases h : a = 0 <;> simp [h]
theorem ibn (a : Nat) : (((a : Nat) : Int) != 0) = decide (a ≠ 0) := by by_cases h : a = 0 <;> simp [h]
theorem zdH (x n : Nat) : zvg .u64 (x : Int) (n : Int) = ((x * 2 ^ n % 2 ^ 64 : Nat) : Int) := by
  have e1 : IntKind.u64.bits = 64 := rfl
  unfold zvg
  rw [e1, Int.toNat_natCast]
  have h : (x : Int) * 2 ^ (min n 64) = ((x * 2 ^ (min n 64) : Nat) : Int) := by push_cast; rfl
  rw [h, zyG]
  congr 1
  rcases Nat.le_total n 64 with hn | hn
  · rw [Nat.min_eq_left hn]
  · rw [Nat.min_eq_right hn, Nat.mul_mod_left]
    obtain ⟨d, rfl⟩ := Nat.le.dest hn
    rw [Nat.pow_add, Nat.mul_comm (2 ^ 64), ← Nat.mul_assoc, Nat.mul_mod_left]
theorem zao {x : Nat} (hx : x < 2 ^ 64) (n : Nat) : zeg .u64 (x : Int) (n : Int) = ((x / 2 ^ n : Nat) : Int) := by
  have e1 : IntKind.u64.bits = 64 := rfl
  unfold zeg
  rw [e1, Int.toNat_natCast]
  have h : ((2 : Int) ^ (min n 64)) = ((2 ^ (min n 64) : Nat) : Int) := by push_cast; rfl
  rw [h, Int.fdiv_eq_ediv_of_nonneg _ (Int.natCast_nonneg _), ← Int.natCast_ediv]
  congr 1
  rcases Nat.le_total n 64 with hn | hn
  · rw [Nat.min_eq_left hn]
  · rw [Nat.min_eq_right hn, Nat.div_eq_of_lt hx, Nat.div_eq_of_lt (Nat.lt_of_lt_of_le hx (Nat.pow_le_pow_right (by decide) hn))]
theorem zng {a : Nat} (ha : a < 2 ^ 64) : (BitVec.ofInt 64 (a : Int)).toNat = a := by
  rw [BitVec.ofInt_natCast, BitVec.toNat_ofNat, Nat.mod_eq_of_lt ha]
theorem zFz {a b : Nat} (ha : a < 2 ^ 64) (hb : b < 2 ^ 64) : ziI .u64 (a : Int) (b : Int) = ((a &&& b : Nat) : Int) := by
  have e1 : IntKind.u64.bits = 64 := rfl
  unfold ziI
  rw [e1, BitVec.toNat_and, zng ha, zng hb]
  exact zu (Nat.lt_of_le_of_lt Nat.and_le_left ha)
theorem zu5 {a b : Nat} (ha : a < 2 ^ 64) (hb : b < 2 ^ 64) : orI .u64 (a : Int) (b : Int) = ((a ||| b : Nat) : Int) := by
  have e1 : IntKind.u64.bits = 64 := rfl
  unfold orI
  rw [e1, BitVec.toNat_or, zng ha, zng hb]
  exact zu (Nat.or_lt_two_pow ha hb)
theorem zvj {a k b : Nat} (hb : b < 2 ^ k) : (a * 2 ^ k) ||| b = a * 2 ^ k + b := by
  rw [Nat.mul_comm, Nat.two_pow_add_eq_or_of_lt hb]
theorem zvm {a k b : Nat} (ha : a * 2 ^ k < 2 ^ 64) (hb : b < 2 ^ k) (hk : k ≤ 64) : orI .u64 ((a * 2 ^ k : Nat) : Int) (b : Int) = ((a * 2 ^ k + b : Nat) : Int) := by
  rw [zu5 ha (Nat.lt_of_lt_of_le hb (Nat.pow_le_pow_right (by decide) hk)), zvj hb]
theorem zia {a : Nat} (ha : a < 2 ^ 64) (k : Nat) (hk : k ≤ 63) : ziI .u64 (a : Int) ((2 ^ k - 1 : Nat) : Int) = ((a % 2 ^ k : Nat) : Int) := by
  have : 2 ^ k ≤ 2 ^ 63 := Nat.pow_le_pow_right (by decide) hk
  rw [zFz ha (by omega), Nat.and_two_pow_sub_one_eq_mod]
def zE (n : Nat) : Nat := if n = 0 then 0 else n.log2 + 1
theorem zB0 : zE 0 = 0 := rfl
theorem zP {n k : Nat} : zE n ≤ k ↔ n < 2 ^ k := by
  unfold zE
  split
  · rename_i h; subst h; simp [Nat.two_pow_pos]
  · rename_i h
    rw [← Nat.log2_lt h]
    omega
theorem ze2 {n k : Nat} : k < zE n ↔ 2 ^ k ≤ n := by
  have := @zP n k
  omega
theorem zh3 {n : Nat} (h : n ≠ 0) : 2 ^ (zE n - 1) ≤ n ∧ n < 2 ^ zE n ∧ 1 ≤ zE n := by
  have h1 : 1 ≤ zE n := by unfold zE; rw [if_neg h]; omega
  exact ⟨ze2.1 (by omega), zP.1 (Nat.le_refl _), h1⟩
theorem zwh {n k : Nat} (h1 : 2 ^ k ≤ n) (h2 : n < 2 ^ (k + 1)) : zE n = k + 1 := by
  have a := ze2.2 h1
  have b := zP.2 h2
  omega
theorem zag {n : Nat} (h : n ≠ 0) (k : Nat) : zE (n * 2 ^ k) = zE n + k := by
  obtain ⟨h1, h2, h3⟩ := zh3 h
  have : zE (n * 2 ^ k) = (zE n - 1 + k) + 1 := by
    refine zwh ?_ ?_
    · rw [Nat.pow_add]; exact Nat.mul_le_mul_right _ h1
    · rw [show zE n - 1 + k + 1 = zE n + k by omega, Nat.pow_add]
      exact Nat.mul_lt_mul_of_pos_right h2 (Nat.two_pow_pos k)
  omega
theorem zf0 (n k : Nat) : zE (n / 2 ^ k) = zE n - k := by
  by_cases hz : n < 2 ^ k
  · rw [Nat.div_eq_of_lt hz, zB0]
    have := zP.2 hz; omega
  · have hk : 2 ^ k ≤ n := by omega
    have hn : n ≠ 0 := by have := Nat.two_pow_pos k; omega
    obtain ⟨h1, h2, h3⟩ := zh3 hn
    have hkb := ze2.2 hk
    have : zE (n / 2 ^ k) = (zE n - 1 - k) + 1 := by
      refine zwh ?_ ?_
      · rw [Nat.le_div_iff_mul_le (Nat.two_pow_pos k), ← Nat.pow_add, show zE n - 1 - k + k = zE n - 1 by omega]; exact h1
      · rw [Nat.div_lt_iff_lt_mul (Nat.two_pow_pos k), ← Nat.pow_add, show zE n - 1 - k + 1 + k = zE n by omega]; exact h2
    omega
def zU (M : Nat) : Nat := (zE M - 53) * 2 ^ 52 + M / 2 ^ (zE M - 53)
theorem zi9 {M q m : Nat} (h1 : m * 2 ^ q ≤ M) (h2 : M < (m + 1) * 2 ^ q) (h3 : m < 2 ^ 53) (h4 : q = 0 ∨ 2 ^ 52 ≤ m) : zU M = q * 2 ^ 52 + m := by
  have hdiv : M / 2 ^ q = m := by
    rw [Nat.div_eq_iff (Nat.two_pow_pos q)]
    rw [Nat.add_mul, Nat.one_mul] at h2
    omega
  have hb : zE M - 53 = q := by
    have h5 := zf0 M q
    rw [hdiv] at h5
    have h6 := zP.2 h3
    rcases h4 with h4 | h4
    · omega
    · have h7 := ze2.2 h4
      omega
  unfold zU
  rw [hb, hdiv]
theorem zmw {M q m : Nat} (h3 : m < 2 ^ 53) (h4 : q = 0 ∨ 2 ^ 52 ≤ m) : mag dbl (q * 2 ^ 52 + m) = m * 2 ^ q := by
  unfold mag
  rw [zxS]
  by_cases hm : m < 2 ^ 52
  · have hq : q = 0 := by omega
    subst hq
    rw [if_pos (by omega)]; simp
  · rw [if_neg (by omega)]
    have h1 : (q * 2 ^ 52 + m) / 2 ^ 52 = q + 1 := by
      rw [show q * 2 ^ 52 + m = (m - 2 ^ 52) + 2 ^ 52 * (q + 1) by omega, Nat.add_mul_div_left _ _ (by decide), Nat.div_eq_of_lt (by omega)]; omega
    have h2 : (q * 2 ^ 52 + m) % 2 ^ 52 = m - 2 ^ 52 := by
      rw [show q * 2 ^ 52 + m = (m - 2 ^ 52) + 2 ^ 52 * (q + 1) by omega, Nat.add_mul_mod_self_left, Nat.mod_eq_of_lt (by omega)]
    rw [h1, h2, show 2 ^ 52 + (m - 2 ^ 52) = m by omega, show q + 1 - 1 = q by omega]
def ztB (A B : Nat) (grow : Bool) : Nat := zU (A / B) + (if grow = true ∧ mag dbl (zU (A / B)) * B ≠ A then 1 else 0)
def zjH (neg : Bool) (r : Nat) (grow : Bool) : Nat :=
  let r' := if r < 9218868437227405312 then r else if grow then 9218868437227405312 else 9218868437227405311
  if r' = 0 then 0 else dbl.word neg r'
def sv (x : Nat) : Int := if sg dbl x then -(mag dbl (rg dbl x) : Int) else (mag dbl (rg dbl x) : Int)
def fin (x : Nat) : Bool := decide (rg dbl x < 9218868437227405312)
def zEW (a b : Nat) (down : Bool) : Nat := zjH (decide (sv a + sv b < 0)) (ztB (sv a + sv b).natAbs 1 (decide (sv a + sv b < 0) == down)) (decide (sv a + sv b < 0) == down)
end Go.LI.Fl
