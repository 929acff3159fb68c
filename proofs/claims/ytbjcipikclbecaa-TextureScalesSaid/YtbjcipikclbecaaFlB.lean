/- Sums with zero; opposites. -/
import Derived.Test.YtbjcipikclbecaaFlA
import Derived.Test.YtbjcipikclbecaaLiAll3
set_option linter.unusedVariables false
namespace Go.LI.Fl
open Ieee

abbrev dbl : Format := FloatKind.format .f64
theorem dbl_I : dbl.binade ≤ dbl.infRung := by decide +kernel
theorem dbl_sw : dbl.signWeight = 2 ^ 63 := by decide +kernel
theorem dbl_inf : dbl.infRung = 9218868437227405312 := by decide +kernel
theorem dbl_L : dbl.leastPlace = -1074 := by decide +kernel
theorem dbl_B : dbl.binade = 2 ^ 52 := by decide +kernel

variable (f : Format)

/-- A finite word: its sign and its rung. -/
def sg (w : Nat) : Bool := w / f.signWeight % 2 == 1
def rg (w : Nat) : Nat := w % f.signWeight
theorem word_sr {w : Nat} (h : w < 2 * f.signWeight) : f.word (sg f w) (rg f w) = w := word_of f h
theorem sg_word {s : Bool} {r : Nat} (h : r < f.signWeight) : sg f (f.word s r) = s := (word_split f h).2.1
theorem rg_word {s : Bool} {r : Nat} (h : r < f.signWeight) : rg f (f.word s r) = r := (word_split f h).1

theorem signed_natAbs (s : Bool) (m k : Nat) : (signed s m k).natAbs = m * 2 ^ k := by
  unfold signed
  rw [Nat.shiftLeft_eq]
  split
  · rw [Int.natAbs_neg, Int.natAbs_natCast]
  · rw [Int.natAbs_natCast]

/-- 0 - x of a number that is not nothing. -/
theorem sub_zero {x : Nat} (hx : rg f x < f.infRung) (h0 : rg f x ≠ 0) : f.sub 0 x = some (f.word (!sg f x) (rg f x)) := by
  obtain ⟨m, e, h1, h2, h3⟩ := read_finite f hx
  have hz : ∃ s, f.read 0 = .number s 0 f.leastPlace := by
    unfold Format.read
    simp only [Nat.zero_mod, bin_pos f, if_true]
    exact ⟨_, rfl⟩
  obtain ⟨s, hz⟩ := hz
  have hm : m ≠ 0 := by
    intro hc
    subst hc
    rw [Nat.zero_mul] at h3
    exact h0 ((mag_zero f).1 h3.symm)
  unfold Format.sub
  rw [hz, h1]
  simp only [Datum.opposite, Datum.sum, Option.map_some, Format.write]
  rw [Int.min_eq_left h2]
  have hs0 : signed s 0 (f.leastPlace - f.leastPlace).toNat = 0 := by unfold signed; simp
  rw [hs0, Int.zero_add]
  have hne : signed (!(x / f.signWeight % 2 == 1)) m (e - f.leastPlace).toNat ≠ 0 := by
    intro hc
    have := signed_natAbs (!(x / f.signWeight % 2 == 1)) m (e - f.leastPlace).toNat
    rw [hc] at this
    have h4 : m * 2 ^ (e - f.leastPlace).toNat = 0 := by simpa using this.symm
    rcases Nat.mul_eq_zero.1 h4 with h | h
    · exact hm h
    · have := Nat.two_pow_pos (e - f.leastPlace).toNat; omega
  rw [if_neg hne, signed_natAbs]
  have hcast : ((m * 2 ^ (e - f.leastPlace).toNat : Nat) : Int) = (m : Int) * 2 ^ (e - f.leastPlace).toNat := by simp
  have hpos : 0 < m * 2 ^ (e - f.leastPlace).toNat := Nat.mul_pos (Nat.pos_of_ne_zero hm) (Nat.two_pow_pos _)
  have hsign : decide (signed (!(x / f.signWeight % 2 == 1)) m (e - f.leastPlace).toNat < 0) = !sg f x := by
    unfold signed sg
    rw [Nat.shiftLeft_eq]
    generalize m * 2 ^ (e - f.leastPlace).toNat = y at hpos
    cases (x / f.signWeight % 2 == 1)
    · simp; omega
    · simp
  rw [hsign, nearest_exact f (r := rg f x) (by omega) (by rw [Int.sub_self]; simpa [rg] using h3)]

theorem xor_pow {n r : Nat} (h : r < 2 ^ n) : r ^^^ 2 ^ n = 2 ^ n + r := by
  apply Nat.eq_of_testBit_eq
  intro i
  rw [Nat.testBit_xor, Nat.testBit_two_pow]
  rcases Nat.lt_trichotomy i n with hi | hi | hi
  · rw [Nat.testBit_two_pow_add_gt hi, decide_eq_false (by omega), Bool.xor_false]
  · subst hi
    rw [Nat.testBit_two_pow_add_eq, Nat.testBit_lt_two_pow h]
    simp
  · have h1 : 2 ^ (n + 1) ≤ 2 ^ i := Nat.pow_le_pow_right (by decide) hi
    have h2 : 2 ^ (n + 1) = 2 ^ n + 2 ^ n := by rw [Nat.pow_succ]; omega
    rw [Nat.testBit_lt_two_pow (show r < 2 ^ i by omega), Nat.testBit_lt_two_pow (show 2 ^ n + r < 2 ^ i by omega), decide_eq_false (by omega)]
    rfl
theorem negFloat_word {k : FloatKind} {s : Bool} {r : Nat} (h : r < k.format.signWeight) : Op.negFloat k (k.format.word s r) = k.format.word (!s) r := by
  unfold Op.negFloat Format.word
  unfold Format.signWeight at h ⊢
  cases s
  · simp only [Bool.false_eq_true, if_false, Bool.not_false, if_true]
    exact xor_pow h
  · simp only [if_true, Bool.not_true, Bool.false_eq_true, if_false]
    rw [← xor_pow h, Nat.xor_assoc, Nat.xor_self, Nat.xor_zero]

end Go.LI.Fl
