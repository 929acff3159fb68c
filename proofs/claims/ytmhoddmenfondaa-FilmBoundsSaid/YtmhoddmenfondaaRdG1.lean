/- Several texts of this claim in one. -/
import Derived.Laws.FloatBits
import Derived.Test.YtmhoddmenfondaaLiAll2

/-! Words of floating point: their rungs and what these stand for. -/
set_option linter.unusedVariables false
namespace Go.LI.Fl
open Ieee

variable (f : Format)

theorem bin_pos : 0 < f.binade := Nat.two_pow_pos _

/-- What a rung stands for, in units of the least number. -/
def mag (r : Nat) : Nat := if r < f.binade then r else (f.binade + r % f.binade) * 2 ^ (r / f.binade - 1)

theorem log2_of {n a : Nat} (h1 : 2 ^ a ≤ n) (h2 : n < 2 ^ (a + 1)) : n.log2 = a :=
  (Nat.log2_eq_iff (by have := Nat.two_pow_pos a; omega)).2 ⟨h1, h2⟩

theorem log2_le {n : Nat} (h : n ≠ 0) : 2 ^ n.log2 ≤ n ∧ n < 2 ^ (n.log2 + 1) := ⟨Nat.log2_self_le h, Nat.lt_log2_self⟩

theorem log2_mul_pow {n : Nat} (h : n ≠ 0) (k : Nat) : (n * 2 ^ k).log2 = n.log2 + k := by
  obtain ⟨h1, h2⟩ := log2_le h
  refine log2_of ?_ ?_
  · rw [Nat.pow_add]; exact Nat.mul_le_mul_right _ h1
  · rw [show n.log2 + k + 1 = (n.log2 + 1) + k by omega, Nat.pow_add]; exact Nat.mul_lt_mul_of_pos_right h2 (Nat.two_pow_pos k)

/-- A great rung's digits. -/
theorem mag_big {r : Nat} (h : f.binade ≤ r) : mag f r = (f.binade + r % f.binade) * 2 ^ (r / f.binade - 1) := by
  unfold mag; rw [if_neg (by omega)]
theorem mag_small {r : Nat} (h : r < f.binade) : mag f r = r := by
  unfold mag; rw [if_pos h]

theorem mag_log {r : Nat} (h : f.binade ≤ r) : (mag f r).log2 = f.fractionBits + (r / f.binade - 1) := by
  have hm := Nat.mod_lt r (bin_pos f)
  rw [mag_big f h, log2_mul_pow (by have := bin_pos f; omega)]
  congr 1
  refine log2_of ?_ ?_
  · show f.binade ≤ _; omega
  · rw [Nat.pow_succ]
    show _ < f.binade * 2
    omega
theorem mag_log_small {r : Nat} (h : r < f.binade) (h0 : r ≠ 0) : (mag f r).log2 < f.fractionBits := by
  rw [mag_small f h]
  exact (Nat.log2_lt h0).2 h
theorem mag_zero {r : Nat} : mag f r = 0 ↔ r = 0 := by
  constructor
  · intro h
    rcases Nat.lt_or_ge r f.binade with hr | hr
    · rwa [mag_small f hr] at h
    · rw [mag_big f hr] at h
      rcases Nat.mul_eq_zero.1 h with h | h
      · have := bin_pos f; omega
      · have := Nat.two_pow_pos (r / f.binade - 1); omega
  · intro h; subst h; rw [mag_small f (bin_pos f)]

/-- A quotient without a rest is cut to itself. -/
theorem cut_exact (way : Toward) (neg : Bool) {n q drop : Nat} (h : n = q * 2 ^ drop) : way.cut neg n drop = q := by
  unfold Toward.cut
  simp only [Nat.shiftLeft_eq, Nat.one_mul]
  by_cases hq : q = 0
  · subst hq
    rw [Nat.zero_mul] at h
    subst h
    rw [Nat.zero_div, Nat.zero_mod]
    have := Nat.two_pow_pos (min drop (Nat.log2 0 + 2))
    cases way <;> simp
  · have hn : n ≠ 0 := by
      rw [h]; exact Nat.mul_ne_zero hq (by have := Nat.two_pow_pos drop; omega)
    have hd : drop ≤ n.log2 := by
      rw [h, log2_mul_pow hq]; omega
    rw [Nat.min_eq_left (by omega), h, Nat.mul_div_cancel _ (Nat.two_pow_pos drop), Nat.mul_mod_left]
    have := Nat.two_pow_pos drop
    cases way <;> simp

/-- 'm * 2 ^ e', in units of 2 ^ base. -/
theorem nearest_exact {neg : Bool} {m : Nat} {e : Int} {r : Nat} (hr : r ≤ f.infRung) (h : m * 2 ^ (e - f.leastPlace).toNat = mag f r * 2 ^ (f.leastPlace - e).toNat) : f.nearest neg m e = f.word neg r := by
  unfold Format.nearest
  by_cases hm : m = 0
  · rw [if_pos hm]
    subst hm
    rw [Nat.zero_mul] at h
    have : mag f r = 0 := by
      rcases Nat.mul_eq_zero.1 h.symm with h | h
      · exact h
      · have := Nat.two_pow_pos (f.leastPlace - e).toNat; omega
    rw [(mag_zero f).1 this]
  · rw [if_neg hm]
    have hM : mag f r ≠ 0 := by
      intro hc
      rw [hc, Nat.zero_mul] at h
      rcases Nat.mul_eq_zero.1 h with h | h
      · exact hm h
      · have := Nat.two_pow_pos (e - f.leastPlace).toNat; omega
    have hr0 : r ≠ 0 := fun hc => hM ((mag_zero f).2 hc)
    have hlog : (m.log2 : Int) + e = (mag f r).log2 + f.leastPlace := by
      have := congrArg Nat.log2 h
      rw [log2_mul_pow hm, log2_mul_pow hM] at this
      omega
    -- the last place that is kept, and what is kept
    have key : ∃ t q : Nat, max (e + m.log2 - f.fractionBits) f.leastPlace = f.leastPlace + t ∧ mag f r = q * 2 ^ t ∧ t * f.binade + q = r := by
      rcases Nat.lt_or_ge r f.binade with hb | hb
      · refine ⟨0, r, ?_, by rw [mag_small f hb, Nat.pow_zero, Nat.mul_one], by omega⟩
        have := mag_log_small f hb hr0
        omega
      · refine ⟨r / f.binade - 1, f.binade + r % f.binade, ?_, mag_big f hb, ?_⟩
        · have := mag_log f hb
          omega
        · have h1 : 1 ≤ r / f.binade := (Nat.le_div_iff_mul_le (bin_pos f)).2 (by omega)
          have h2 := Nat.div_add_mod r f.binade
          have h3 : (r / f.binade - 1) * f.binade + f.binade = r / f.binade * f.binade := by
            rw [Nat.sub_mul, Nat.one_mul]
            have := Nat.mul_le_mul_right f.binade h1
            omega
          rw [Nat.mul_comm f.binade] at h2
          omega
    obtain ⟨t, q, k1, k2, k3⟩ := key
    simp only
    rw [k1]
    have hk : Toward.even.cut neg (m <<< (e - (f.leastPlace + t)).toNat) (f.leastPlace + t - e).toNat = q := by
      refine cut_exact _ _ ?_
      rw [Nat.shiftLeft_eq]
      rw [k2] at h
      rcases (by omega : e < f.leastPlace + t ∨ f.leastPlace + t ≤ e) with hlt | hge
      · rw [show (e - (f.leastPlace + t)).toNat = 0 by omega, Nat.pow_zero, Nat.mul_one]
        rcases (by omega : e < f.leastPlace ∨ f.leastPlace ≤ e) with h1 | h1
        · rw [show (e - f.leastPlace).toNat = 0 by omega, Nat.pow_zero, Nat.mul_one, Nat.mul_assoc, ← Nat.pow_add] at h
          rw [h]; congr 2; omega
        · rw [show (f.leastPlace - e).toNat = 0 by omega, Nat.pow_zero, Nat.mul_one] at h
          have : t = (f.leastPlace + t - e).toNat + (e - f.leastPlace).toNat := by omega
          rw [this, Nat.pow_add, ← Nat.mul_assoc] at h
          have := Nat.eq_of_mul_eq_mul_right (Nat.two_pow_pos _) h
          rw [this]
      · rw [show (f.leastPlace + t - e).toNat = 0 by omega, Nat.pow_zero, Nat.mul_one]
        rw [show (f.leastPlace - e).toNat = 0 by omega, Nat.pow_zero, Nat.mul_one] at h
        have : (e - f.leastPlace).toNat = (e - (f.leastPlace + t)).toNat + t := by omega
        rw [this, Nat.pow_add, ← Nat.mul_assoc] at h
        exact Nat.eq_of_mul_eq_mul_right (Nat.two_pow_pos _) h
    rw [hk]
    congr 1
    rw [show (f.leastPlace + ↑t - f.leastPlace).toNat = t by omega]
    omega

/-- A finite word is read. -/
theorem read_finite {w : Nat} (h : w % f.signWeight < f.infRung) : ∃ m e, f.read w = .number (w / f.signWeight % 2 == 1) m e ∧ f.leastPlace ≤ e ∧ m * 2 ^ (e - f.leastPlace).toNat = mag f (w % f.signWeight) := by
  unfold Format.read
  simp only
  split
  · rename_i hb
    exact ⟨_, _, rfl, Int.le_refl _, by rw [mag_small f hb]; simp⟩
  · rename_i hb
    refine ⟨_, _, rfl, by omega, ?_⟩
    rw [mag_big f (by omega)]
    congr 2
    omega

theorem word_split {neg : Bool} {r : Nat} (h : r < f.signWeight) : f.word neg r % f.signWeight = r ∧ (f.word neg r / f.signWeight % 2 == 1) = neg ∧ f.word neg r < 2 * f.signWeight := by
  have hp : 0 < f.signWeight := Nat.two_pow_pos _
  unfold Format.word
  cases neg
  · simp only [Bool.false_eq_true, if_false]
    rw [Nat.mod_eq_of_lt h, Nat.div_eq_of_lt h]
    refine ⟨rfl, rfl, by omega⟩
  · simp only [if_true]
    rw [Nat.add_mod_left, Nat.mod_eq_of_lt h, Nat.add_div_left _ hp, Nat.div_eq_of_lt h]
    refine ⟨rfl, rfl, by omega⟩
theorem word_of {w : Nat} (h : w < 2 * f.signWeight) : f.word (w / f.signWeight % 2 == 1) (w % f.signWeight) = w := by
  have hp : 0 < f.signWeight := Nat.two_pow_pos _
  have hd := Nat.div_add_mod w f.signWeight
  have hk : w / f.signWeight < 2 := Nat.div_lt_of_lt_mul (by omega)
  generalize w / f.signWeight = k at hd hk ⊢
  generalize w % f.signWeight = r at hd ⊢
  unfold Format.word
  rcases (by omega : k = 0 ∨ k = 1) with h0 | h0
  · subst h0; simpa using hd
  · subst h0; simpa using hd

theorem width_two : 2 ^ f.width = 2 * f.signWeight := by
  unfold Format.width Format.signWeight
  rw [← Nat.pow_succ']; congr 1; omega

/-- The word of a sign and of a number that the format has. -/
theorem read_word {neg : Bool} {r : Nat} (h : r < f.infRung) : ∃ m e, f.read (f.word neg r) = .number neg m e ∧ f.leastPlace ≤ e ∧ m * 2 ^ (e - f.leastPlace).toNat = mag f r := by
  obtain ⟨h1, h2, h3⟩ := word_split f (neg := neg) (Nat.lt_trans h f.infRung_lt)
  have := read_finite f (w := f.word neg r) (by rw [h1]; exact h)
  rwa [h1, h2] at this

theorem read_inf (hI : f.binade ≤ f.infRung) (neg : Bool) : f.read (f.word neg f.infRung) = .infinity neg := by
  obtain ⟨h1, h2, h3⟩ := word_split f (neg := neg) f.infRung_lt
  unfold Format.read
  simp only [h1, h2]
  rw [if_neg (by omega), if_neg (by omega)]
  simp
end Go.LI.Fl

/-! Sums with zero; opposites. -/
set_option linter.unusedVariables false
namespace Go.LI.Fl
open Ieee

abbrev dbl : Format := FloatKind.format .f64
abbrev sgl : Format := FloatKind.format .f32
theorem dbl_I : dbl.binade ≤ dbl.infRung := by decide +kernel
theorem sgl_I : sgl.binade ≤ sgl.infRung := by decide +kernel
theorem dbl_sw : dbl.signWeight = 2 ^ 63 := by decide +kernel
theorem dbl_inf : dbl.infRung = 9218868437227405312 := by decide +kernel
theorem dbl_L : dbl.leastPlace = -1074 := by decide +kernel
theorem dbl_B : dbl.binade = 2 ^ 52 := by decide +kernel

variable (f : Format)

/-- A finite word: its sign and its rung. -/
def sg (w : Nat) : Bool := w / f.signWeight % 2 == 1
def rg (w : Nat) : Nat := w % f.signWeight
theorem word_sr {w : Nat} (h : w < 2 * f.signWeight) : f.word (sg f w) (rg f w) = w := word_of f h
theorem sg_word {s : Bool} {r : Nat} (h : r < f.signWeight) : sg f (f.word s r) = s := (word_split f h).2.1
theorem rg_word {s : Bool} {r : Nat} (h : r < f.signWeight) : rg f (f.word s r) = r := (word_split f h).1

theorem signed_natAbs (s : Bool) (m k : Nat) : (signed s m k).natAbs = m * 2 ^ k := by
  unfold signed
  rw [Nat.shiftLeft_eq]
  split
  · rw [Int.natAbs_neg, Int.natAbs_natCast]
  · rw [Int.natAbs_natCast]

/-- 0 - x of a number that is not nothing. -/
theorem sub_zero {x : Nat} (hx : rg f x < f.infRung) (h0 : rg f x ≠ 0) : f.sub 0 x = some (f.word (!sg f x) (rg f x)) := by
  obtain ⟨m, e, h1, h2, h3⟩ := read_finite f hx
  have hz : ∃ s, f.read 0 = .number s 0 f.leastPlace := by
    unfold Format.read
    simp only [Nat.zero_mod, bin_pos f, if_true]
    exact ⟨_, rfl⟩
  obtain ⟨s, hz⟩ := hz
  have hm : m ≠ 0 := by
    intro hc
    subst hc
    rw [Nat.zero_mul] at h3
    exact h0 ((mag_zero f).1 h3.symm)
  unfold Format.sub
  rw [hz, h1]
  simp only [Datum.opposite, Datum.sum, Option.map_some, Format.write]
  rw [Int.min_eq_left h2]
  have hs0 : signed s 0 (f.leastPlace - f.leastPlace).toNat = 0 := by unfold signed; simp
  rw [hs0, Int.zero_add]
  have hne : signed (!(x / f.signWeight % 2 == 1)) m (e - f.leastPlace).toNat ≠ 0 := by
    intro hc
    have := signed_natAbs (!(x / f.signWeight % 2 == 1)) m (e - f.leastPlace).toNat
    rw [hc] at this
    have h4 : m * 2 ^ (e - f.leastPlace).toNat = 0 := by simpa using this.symm
    rcases Nat.mul_eq_zero.1 h4 with h | h
    · exact hm h
    · have := Nat.two_pow_pos (e - f.leastPlace).toNat; omega
  rw [if_neg hne, signed_natAbs]
  have hcast : ((m * 2 ^ (e - f.leastPlace).toNat : Nat) : Int) = (m : Int) * 2 ^ (e - f.leastPlace).toNat := by simp
  have hpos : 0 < m * 2 ^ (e - f.leastPlace).toNat := Nat.mul_pos (Nat.pos_of_ne_zero hm) (Nat.two_pow_pos _)
  have hsign : decide (signed (!(x / f.signWeight % 2 == 1)) m (e - f.leastPlace).toNat < 0) = !sg f x := by
    unfold signed sg
    rw [Nat.shiftLeft_eq]
    generalize m * 2 ^ (e - f.leastPlace).toNat = y at hpos
    cases (x / f.signWeight % 2 == 1)
    · simp; omega
    · simp
  rw [hsign, nearest_exact f (r := rg f x) (by omega) (by rw [Int.sub_self]; simpa [rg] using h3)]

theorem xor_pow {n r : Nat} (h : r < 2 ^ n) : r ^^^ 2 ^ n = 2 ^ n + r := by
  apply Nat.eq_of_testBit_eq
  intro i
  rw [Nat.testBit_xor, Nat.testBit_two_pow]
  rcases Nat.lt_trichotomy i n with hi | hi | hi
  · rw [Nat.testBit_two_pow_add_gt hi, decide_eq_false (by omega), Bool.xor_false]
  · subst hi
    rw [Nat.testBit_two_pow_add_eq, Nat.testBit_lt_two_pow h]
    simp
  · have h1 : 2 ^ (n + 1) ≤ 2 ^ i := Nat.pow_le_pow_right (by decide) hi
    have h2 : 2 ^ (n + 1) = 2 ^ n + 2 ^ n := by rw [Nat.pow_succ]; omega
    rw [Nat.testBit_lt_two_pow (show r < 2 ^ i by omega), Nat.testBit_lt_two_pow (show 2 ^ n + r < 2 ^ i by omega), decide_eq_false (by omega)]
    rfl
theorem negFloat_word {k : FloatKind} {s : Bool} {r : Nat} (h : r < k.format.signWeight) : Op.negFloat k (k.format.word s r) = k.format.word (!s) r := by
  unfold Op.negFloat Format.word
  unfold Format.signWeight at h ⊢
  cases s
  · simp only [Bool.false_eq_true, if_false, Bool.not_false, if_true]
    exact xor_pow h
  · simp only [if_true, Bool.not_true, Bool.false_eq_true, if_false]
    rw [← xor_pow h, Nat.xor_assoc, Nat.xor_self, Nat.xor_zero]

/-- -x of a number that is not nothing is 0 - x. -/
theorem neg_sub {k : FloatKind} {x : Nat} (hw : x < 2 * k.format.signWeight) (hx : rg k.format x < k.format.infRung) (h0 : rg k.format x ≠ 0) : k.format.sub 0 x = some (Op.negFloat k x) := by
  rw [sub_zero _ hx h0]
  congr 1
  have h1 := word_sr k.format hw
  have h2 := negFloat_word (k := k) (s := sg k.format x) (r := rg k.format x) (Nat.mod_lt _ (Nat.two_pow_pos _))
  rw [h1] at h2
  rw [h2]
end Go.LI.Fl

/-! Words of middling numbers; quotients of whole numbers. -/
set_option linter.unusedVariables false
set_option exponentiation.threshold 2000
namespace Go.LI.Fl
open Ieee

variable (f : Format)

theorem cut_le (way : Toward) (neg : Bool) {n drop B : Nat} (h : n < B * 2 ^ drop) (hB : 0 < B) : way.cut neg n drop ≤ B := by
  unfold Toward.cut
  simp only [Nat.shiftLeft_eq, Nat.one_mul]
  have hlow : n / 2 ^ min drop (n.log2 + 2) < B := by
    rcases Nat.le_total drop (n.log2 + 2) with hd | hd
    · rw [Nat.min_eq_left hd]
      exact Nat.div_lt_of_lt_mul (by rw [Nat.mul_comm]; exact h)
    · rw [Nat.min_eq_right hd]
      have : n < 2 ^ (n.log2 + 2) := Nat.lt_trans Nat.lt_log2_self (Nat.pow_lt_pow_right (by decide) (by omega))
      rw [Nat.div_eq_of_lt this]; exact hB
  exact Nat.le_trans (Nat.add_le_add_left (Bool.toNat_le _) _) hlow

theorem cut_ge (way : Toward) (neg : Bool) {n drop : Nat} (h : 2 ^ drop ≤ n) : 1 ≤ way.cut neg n drop := by
  unfold Toward.cut
  simp only [Nat.shiftLeft_eq, Nat.one_mul]
  have hn : n ≠ 0 := by have := Nat.two_pow_pos drop; omega
  have hd : drop ≤ n.log2 := (Nat.le_log2 hn).2 h
  rw [Nat.min_eq_left (by omega)]
  have : 1 ≤ n / 2 ^ drop := (Nat.le_div_iff_mul_le (Nat.two_pow_pos _)).2 (by omega)
  omega

/-- A number that is neither too small nor too great. -/
theorem nearest_mid {neg : Bool} {m : Nat} {e : Int} (hm : m ≠ 0) (h1 : dbl.leastPlace ≤ e + m.log2) (h2 : e + m.log2 < 1022) : ∃ r, dbl.nearest neg m e = dbl.word neg r ∧ r ≠ 0 ∧ r < dbl.infRung := by
  unfold Format.nearest
  rw [if_neg hm]
  have hfb : dbl.fractionBits = 52 := rfl
  rw [dbl_L] at h1 ⊢
  rw [hfb, dbl_B]
  simp only
  obtain ⟨hl1, hl2⟩ := log2_le hm
  have hcut : ∀ (last : Int), e + m.log2 - 52 ≤ last → Toward.even.cut neg (m <<< (e - last).toNat) (last - e).toNat ≤ 2 ^ 53 := by
    intro last hlast
    refine cut_le _ _ ?_ (by decide)
    rw [Nat.shiftLeft_eq]
    have : m * 2 ^ (e - last).toNat < 2 ^ (m.log2 + 1 + (e - last).toNat) := by rw [Nat.pow_add]; exact Nat.mul_lt_mul_of_pos_right hl2 (Nat.two_pow_pos _)
    refine Nat.lt_of_lt_of_le this ?_
    rw [← Nat.pow_add]
    exact Nat.pow_le_pow_right (by decide) (by omega)
  generalize hlast : max (e + (m.log2 : Int) - (52 : Nat)) (-1074) = last
  have hb := hcut last (by omega)
  have hinf : dbl.infRung = 2047 * 2 ^ 52 := by decide +kernel
  have hpos : (last - -1074).toNat * 2 ^ 52 + Toward.even.cut neg (m <<< (e - last).toNat) (last - e).toNat ≠ 0 := by
    rcases (by omega : last > -1074 ∨ last = -1074) with h | h
    · have : 1 ≤ (last - -1074).toNat := by omega
      omega
    · have : 1 ≤ Toward.even.cut neg (m <<< (e - last).toNat) (last - e).toNat := by
        refine cut_ge _ _ ?_
        rw [Nat.shiftLeft_eq]
        rcases (by omega : e ≥ last ∨ e < last) with h3 | h3
        · rw [show (last - e).toNat = 0 by omega, Nat.pow_zero]
          exact Nat.mul_pos (Nat.pos_of_ne_zero hm) (Nat.two_pow_pos _)
        · rw [show (e - last).toNat = 0 by omega, Nat.pow_zero, Nat.mul_one]
          exact Nat.le_trans (Nat.pow_le_pow_right (by decide) (by omega)) hl1
      omega
  have hlt : (last - -1074).toNat * 2 ^ 52 + Toward.even.cut neg (m <<< (e - last).toNat) (last - e).toNat < dbl.infRung := by
    rw [hinf]
    have : (last - -1074).toNat ≤ 2044 := by omega
    omega
  refine ⟨_, rfl, ?_, ?_⟩
  · rw [Nat.min_eq_left (by omega)]; exact hpos
  · rw [Nat.min_eq_left (by omega)]; exact hlt

/-- A number of few digits has a rung. -/
theorem has_rung {m : Nat} {e : Int} (hm : m < 2 * f.binade) (he : f.leastPlace ≤ e) (hmax : (m.log2 : Int) + e - f.leastPlace - f.fractionBits + 2 < (2 ^ f.exponentBits : Nat) - 1) (h2 : 2 < 2 ^ f.exponentBits) : ∃ r, r < f.infRung ∧ mag f r = m * 2 ^ (e - f.leastPlace).toNat := by
  have hB := bin_pos f
  have hinf : f.infRung = (2 ^ f.exponentBits - 1) * f.binade := rfl
  by_cases h0 : m = 0
  · subst h0
    refine ⟨0, ?_, by rw [mag_small f hB, Nat.zero_mul]⟩
    rw [hinf]; exact Nat.mul_pos (by omega) hB
  · obtain ⟨hl1, hl2⟩ := log2_le h0
    by_cases hs : m.log2 + (e - f.leastPlace).toNat < f.fractionBits
    · have hlt : m * 2 ^ (e - f.leastPlace).toNat < f.binade := by
        refine Nat.lt_of_lt_of_le (Nat.mul_lt_mul_of_pos_right hl2 (Nat.two_pow_pos _)) ?_
        rw [← Nat.pow_add]
        exact Nat.pow_le_pow_right (by decide) (by omega)
      refine ⟨m * 2 ^ (e - f.leastPlace).toNat, ?_, mag_small f hlt⟩
      rw [hinf]
      exact Nat.lt_of_lt_of_le hlt (Nat.le_mul_of_pos_left _ (by omega))
    · have hfb : m.log2 ≤ f.fractionBits := by
        have : 2 ^ m.log2 < 2 ^ (f.fractionBits + 1) := by
          refine Nat.lt_of_le_of_lt hl1 ?_
          rw [Nat.pow_succ, Nat.mul_comm]; exact hm
        have := (Nat.pow_lt_pow_iff_right (by decide : 1 < 2)).1 this
        omega
      have hs' : f.fractionBits ≤ m.log2 + (e - f.leastPlace).toNat := by omega
      generalize ht : m.log2 + (e - f.leastPlace).toNat - f.fractionBits = t
      have hte : t ≤ (e - f.leastPlace).toNat := by omega
      generalize hq : m * 2 ^ ((e - f.leastPlace).toNat - t) = q
      have hq1 : f.binade ≤ q := by
        rw [← hq]
        refine Nat.le_trans ?_ (Nat.mul_le_mul_right _ hl1)
        rw [← Nat.pow_add]
        exact Nat.pow_le_pow_right (by decide) (by omega)
      have hq2 : q < 2 * f.binade := by
        rw [← hq]
        refine Nat.lt_of_lt_of_le (Nat.mul_lt_mul_of_pos_right hl2 (Nat.two_pow_pos _)) ?_
        rw [← Nat.pow_add]
        have : 2 * f.binade = 2 ^ (f.fractionBits + 1) := by rw [Nat.pow_succ, Nat.mul_comm]; rfl
        rw [this]
        exact Nat.pow_le_pow_right (by decide) (by omega)
      have hdm : (t * f.binade + q) / f.binade = t + 1 ∧ (t * f.binade + q) % f.binade = q - f.binade := by
        have : t * f.binade + q = (q - f.binade) + f.binade * (t + 1) := by rw [Nat.mul_add, Nat.mul_one, Nat.mul_comm f.binade t]; omega
        rw [this, Nat.add_mul_div_left _ _ hB, Nat.add_mul_mod_self_left, Nat.div_eq_of_lt (by omega), Nat.mod_eq_of_lt (by omega)]
        omega
      refine ⟨t * f.binade + q, ?_, ?_⟩
      · rw [hinf]
        have h3 : t + 2 < 2 ^ f.exponentBits - 1 := by omega
        refine Nat.lt_of_lt_of_le ?_ (Nat.mul_le_mul_right f.binade (show t + 2 ≤ _ by omega))
        rw [Nat.add_mul]; omega
      · rw [mag_big f (by omega), hdm.1, hdm.2, Nat.add_sub_cancel]
        rw [show f.binade + (q - f.binade) = q by omega, ← hq, Nat.mul_assoc, ← Nat.pow_add]
        congr 2; omega

/-- A whole number below 2 ^ 53 is read as it is. -/
theorem nat_reads {n : Nat} (h : n < 2 ^ 53) : ∃ m e, dbl.read (dbl.nearest false n 0) = .number false m e ∧ dbl.leastPlace ≤ e ∧ m * 2 ^ (e - dbl.leastPlace).toNat = n * 2 ^ 1074 := by
  have hlog : n.log2 < 53 := by
    by_cases h0 : n = 0
    · subst h0; decide
    · exact (Nat.log2_lt h0).2 h
  obtain ⟨r, h1, h2⟩ := has_rung dbl (m := n) (e := 0) (by rw [dbl_B]; omega) (by rw [dbl_L]; decide) (by rw [dbl_L, show dbl.fractionBits = 52 from rfl, show dbl.exponentBits = 11 from rfl]; omega) (by decide)
  have h3 : n * 2 ^ (0 - dbl.leastPlace).toNat = mag dbl r * 2 ^ (dbl.leastPlace - 0).toNat := by
    rw [h2, show (dbl.leastPlace - 0).toNat = 0 by rw [dbl_L]; rfl, Nat.pow_zero, Nat.mul_one]
  rw [nearest_exact dbl (Nat.le_of_lt h1) h3]
  obtain ⟨m, e, q1, q2, q3⟩ := read_word dbl (neg := false) h1
  refine ⟨m, e, q1, q2, ?_⟩
  rw [q3, h2]
  rfl

/-- The quotient of two whole numbers that are not nothing is a word of the middle. -/
theorem nat_div {n d : Nat} (hn : n < 2 ^ 53) (hd : d < 2 ^ 53) (hn0 : n ≠ 0) (hd0 : d ≠ 0) : ∃ r, dbl.div (dbl.nearest false n 0) (dbl.nearest false d 0) = some (dbl.word false r) ∧ r ≠ 0 ∧ r < dbl.infRung := by
  obtain ⟨m1, e1, a1, a2, a3⟩ := nat_reads hn
  obtain ⟨m2, e2, b1, b2, b3⟩ := nat_reads hd
  have nz : ∀ {m n : Nat} {e : Int}, n ≠ 0 → m * 2 ^ (e - dbl.leastPlace).toNat = n * 2 ^ 1074 → m ≠ 0 := by
    intro m n e h0 h hc
    subst hc
    rw [Nat.zero_mul] at h
    have := Nat.mul_pos (Nat.pos_of_ne_zero h0) (Nat.two_pow_pos 1074)
    omega
  have hm1 := nz hn0 a3
  have hm2 := nz hd0 b3
  have lg : ∀ {m n : Nat} {e : Int}, dbl.leastPlace ≤ e → m ≠ 0 → n ≠ 0 → m * 2 ^ (e - dbl.leastPlace).toNat = n * 2 ^ 1074 → (m.log2 : Int) + e = n.log2 := by
    intro m n e he h0 h1 h
    have := congrArg Nat.log2 h
    rw [log2_mul_pow h0, log2_mul_pow h1] at this
    rw [dbl_L] at this he
    omega
  have l1 := lg a2 hm1 hn0 a3
  have l2 := lg b2 hm2 hd0 b3
  have k1 : n.log2 < 53 := (Nat.log2_lt hn0).2 hn
  have k2 : d.log2 < 53 := (Nat.log2_lt hd0).2 hd
  unfold Format.div
  rw [a1, b1]
  simp only [Datum.quotient, hm2, if_false, Option.map_some, Format.write, Bool.xor_false]
  rw [show dbl.fractionBits + 2 = 54 from rfl]
  generalize hmore : 54 + m2.log2 - m1.log2 = more
  rw [Nat.shiftLeft_eq]
  obtain ⟨p1, p2⟩ := log2_le hm1
  obtain ⟨q1, q2⟩ := log2_le hm2
  -- how many digits the quotient has
  have hQ1 : 2 ^ (m1.log2 + more - (m2.log2 + 1)) ≤ m1 * 2 ^ more / m2 := by
    refine (Nat.le_div_iff_mul_le (Nat.pos_of_ne_zero hm2)).2 ?_
    refine Nat.le_trans (Nat.mul_le_mul_left _ (Nat.le_of_lt q2)) ?_
    rw [← Nat.pow_add]
    refine Nat.le_trans ?_ (Nat.mul_le_mul_right _ p1)
    rw [← Nat.pow_add]
    exact Nat.pow_le_pow_right (by decide) (by omega)
  have hQ2 : m1 * 2 ^ more / m2 < 2 ^ (m1.log2 + more + 1 - m2.log2) := by
    refine Nat.div_lt_of_lt_mul ?_
    refine Nat.lt_of_lt_of_le (Nat.mul_lt_mul_of_pos_right p2 (Nat.two_pow_pos more)) ?_
    refine Nat.le_trans ?_ (Nat.mul_le_mul_right _ q1)
    rw [← Nat.pow_add, ← Nat.pow_add]
    exact Nat.pow_le_pow_right (by decide) (by omega)
  generalize m1 * 2 ^ more / m2 = Q at hQ1 hQ2 ⊢
  generalize hb : (m1 * 2 ^ more % m2 != 0).toNat = b
  have hb1 : b ≤ 1 := by rw [← hb]; exact Bool.toNat_le _
  have hQ0 : 0 < Q := Nat.lt_of_lt_of_le (Nat.two_pow_pos _) hQ1
  have g1 : m1.log2 + more - (m2.log2 + 1) + 1 ≤ (2 * Q + b).log2 := by
    refine (Nat.le_log2 (by omega)).2 ?_
    rw [Nat.pow_succ]; omega
  have g2 : (2 * Q + b).log2 < m1.log2 + more + 1 - m2.log2 + 1 := by
    refine (Nat.log2_lt (by omega)).2 ?_
    rw [Nat.pow_succ]; omega
  obtain ⟨r, r1, r2, r3⟩ := nearest_mid (neg := false) (m := 2 * Q + b) (e := e1 - e2 - more - 1) (by omega) (by rw [dbl_L]; omega) (by omega)
  exact ⟨r, by rw [← r1], r2, r3⟩
end Go.LI.Fl

/-! Rounding to the nearest: which rung is met. -/
set_option linter.unusedVariables false
namespace Go.LI.Fl
open Ieee

/-- r is the rung nearest to V, where S is one unit. -/
def Near (f : Format) (V S r : Nat) : Prop :=
  (r = 0 ∨ (mag f (r - 1) + mag f r) * S < 2 * V ∨ ((mag f (r - 1) + mag f r) * S = 2 * V ∧ r % 2 = 0)) ∧
  (2 * V < (mag f r + mag f (r + 1)) * S ∨ (2 * V = (mag f r + mag f (r + 1)) * S ∧ r % 2 = 0))

theorem cut_spec (neg : Bool) (n drop : Nat) :
    (2 * (Toward.even.cut neg n drop) * 2 ^ drop < 2 * n + 2 ^ drop ∨ (2 * (Toward.even.cut neg n drop) * 2 ^ drop = 2 * n + 2 ^ drop ∧ Toward.even.cut neg n drop % 2 = 0)) ∧
    (2 * n < 2 * (Toward.even.cut neg n drop) * 2 ^ drop + 2 ^ drop ∨ (2 * n = 2 * (Toward.even.cut neg n drop) * 2 ^ drop + 2 ^ drop ∧ Toward.even.cut neg n drop % 2 = 0)) := by
  have hD := Nat.two_pow_pos drop
  unfold Toward.cut
  simp only [Nat.shiftLeft_eq, Nat.one_mul]
  rcases Nat.le_total drop (n.log2 + 2) with hd | hd
  · rw [Nat.min_eq_left hd]
    generalize 2 ^ drop = D at hD
    have h1 := Nat.div_add_mod n D
    have h2 := Nat.mod_lt n hD
    generalize n / D = low at h1
    generalize n % D = rest at h1 h2
    have e1 : 2 * (low + 0) * D = 2 * (D * low) := by rw [Nat.add_zero, Nat.mul_assoc, Nat.mul_comm low]
    have e2 : 2 * (low + 1) * D = 2 * (D * low) + 2 * D := by rw [Nat.mul_assoc, Nat.mul_comm (low + 1), Nat.mul_add, Nat.mul_add, Nat.mul_one]
    generalize D * low = P at h1 e1 e2
    by_cases c1 : D < 2 * rest
    · rw [decide_eq_true c1, Bool.true_or, Bool.toNat_true, e2]
      omega
    · rw [decide_eq_false c1, Bool.false_or]
      by_cases c2 : D = 2 * rest
      · rw [show (D == 2 * rest) = true by simpa using c2, Bool.true_and]
        by_cases c3 : low % 2 = 1
        · rw [show (low % 2 == 1) = true by simpa using c3, Bool.toNat_true, e2]
          omega
        · rw [show (low % 2 == 1) = false by simpa using c3, Bool.toNat_false, e1]
          omega
      · rw [show (D == 2 * rest) = false by simpa using c2, Bool.false_and, Bool.toNat_false, e1]
        omega
  · rw [Nat.min_eq_right hd]
    have hn : n < 2 ^ (n.log2 + 1) := Nat.lt_log2_self
    have hg : 2 ^ (n.log2 + 2) = 2 * 2 ^ (n.log2 + 1) := by rw [Nat.pow_succ 2 (n.log2 + 1), Nat.mul_comm]
    have hle : 2 ^ (n.log2 + 2) ≤ 2 ^ drop := Nat.pow_le_pow_right (by decide) hd
    rw [hg] at hle ⊢
    generalize 2 ^ (n.log2 + 1) = g at hn hle
    rw [Nat.div_eq_of_lt (by omega), Nat.mod_eq_of_lt (by omega), decide_eq_false (by omega), Bool.false_or, show (2 * g == 2 * n) = false by rw [beq_eq_false_iff_ne]; omega, Bool.false_and, Bool.toNat_false]
    omega

theorem mag_formF (f : Format) {q k : Nat} (h1 : k ≤ 2 * f.binade) (h2 : q = 0 ∨ f.binade ≤ k) : mag f (q * f.binade + k) = k * 2 ^ q := by
  have hB := bin_pos f
  have main : ∀ {q k : Nat}, k < 2 * f.binade → (q = 0 ∨ f.binade ≤ k) → mag f (q * f.binade + k) = k * 2 ^ q := by
    intro q k h1 h2
    rcases Nat.lt_or_ge k f.binade with hk | hk
    · have : q = 0 := by omega
      subst this
      rw [Nat.zero_mul, Nat.zero_add, mag_small f hk, Nat.pow_zero, Nat.mul_one]
    · obtain ⟨j, rfl⟩ : ∃ j, k = f.binade + j := ⟨k - f.binade, by omega⟩
      have e : q * f.binade + (f.binade + j) = j + f.binade * (q + 1) := by rw [Nat.mul_add, Nat.mul_one, Nat.mul_comm q]; omega
      rw [mag_big f (by omega), e, Nat.add_mul_mod_self_left, Nat.mod_eq_of_lt (by omega), Nat.add_mul_div_left _ _ hB, Nat.div_eq_of_lt (by omega)]
      rw [show 0 + (q + 1) - 1 = q by omega]
  rcases Nat.lt_or_ge k (2 * f.binade) with h | h
  · exact main h h2
  · have hk : k = 2 * f.binade := by omega
    have := main (q := q + 1) (k := f.binade) (by omega) (.inr (Nat.le_refl _))
    rw [Nat.add_mul, Nat.one_mul] at this
    rw [hk, show q * f.binade + 2 * f.binade = q * f.binade + f.binade + f.binade by omega, this, Nat.pow_succ 2 q]
    rw [Nat.mul_comm 2, Nat.mul_assoc, Nat.mul_comm 2]
theorem rung_formF (f : Format) (r : Nat) : ∃ q k, r = q * f.binade + k ∧ k < 2 * f.binade ∧ (q = 0 ∨ f.binade ≤ k) := by
  have hB := bin_pos f
  rcases Nat.lt_or_ge r f.binade with h | h
  · exact ⟨0, r, by omega, by omega, .inl rfl⟩
  · have h1 := Nat.div_add_mod r f.binade
    have h2 := Nat.mod_lt r hB
    have h3 : 1 ≤ r / f.binade := (Nat.le_div_iff_mul_le hB).2 (by omega)
    refine ⟨r / f.binade - 1, f.binade + r % f.binade, ?_, by omega, .inr (by omega)⟩
    have : (r / f.binade - 1) * f.binade + f.binade = f.binade * (r / f.binade) := by
      obtain ⟨j, hj⟩ : ∃ j, r / f.binade = j + 1 := ⟨r / f.binade - 1, by omega⟩
      rw [hj, Nat.add_sub_cancel, Nat.mul_add, Nat.mul_one, Nat.mul_comm j]
    omega
theorem mag_succF (f : Format) (r : Nat) : mag f r < mag f (r + 1) := by
  obtain ⟨q, k, rfl, h1, h2⟩ := rung_formF f r
  rw [mag_formF f (by omega) h2, show q * f.binade + k + 1 = q * f.binade + (k + 1) by omega, mag_formF f (by omega) (by omega)]
  exact Nat.mul_lt_mul_of_pos_right (by omega) (Nat.two_pow_pos q)
theorem mag_ltF (f : Format) {r s : Nat} (h : r < s) : mag f r < mag f s := by
  induction s with
  | zero => omega
  | succ s ih =>
    rcases Nat.lt_or_ge r s with hr | hr
    · exact Nat.lt_trans (ih hr) (mag_succF f s)
    · have : r = s := by omega
      subst this; exact mag_succF f r
theorem mag_leF (f : Format) {r s : Nat} (h : r ≤ s) : mag f r ≤ mag f s := by
  rcases Nat.lt_or_ge r s with hr | hr
  · exact Nat.le_of_lt (mag_ltF f hr)
  · have : r = s := by omega
    subst this; exact Nat.le_refl _

theorem tri {V N D X Y : Nat} (hD : 0 < D) (hX : 0 < X) (h : V * D = N * X) : (2 * N < Y * D → 2 * V < Y * X) ∧ (2 * N = Y * D → 2 * V = Y * X) ∧ (Y * D < 2 * N → Y * X < 2 * V) ∧ (Y * D ≤ 2 * N → Y * X ≤ 2 * V) := by
  have e : 2 * V * D = 2 * N * X := by rw [Nat.mul_assoc, h, Nat.mul_assoc]
  have e2 : Y * X * D = Y * D * X := by rw [Nat.mul_assoc, Nat.mul_comm X, Nat.mul_assoc]
  refine ⟨fun k => ?_, fun k => ?_, fun k => ?_, fun k => ?_⟩
  · refine Nat.lt_of_mul_lt_mul_right (a := D) ?_
    rw [e, e2]; exact Nat.mul_lt_mul_of_pos_right k hX
  · refine Nat.eq_of_mul_eq_mul_right hD ?_
    rw [e, e2, k]
  · refine Nat.lt_of_mul_lt_mul_right (a := D) ?_
    rw [e, e2]; exact Nat.mul_lt_mul_of_pos_right k hX
  · refine Nat.le_of_mul_le_mul_right (c := D) ?_ hD
    rw [e, e2]; exact Nat.mul_le_mul_right _ k

theorem nearest_spec (f : Format) (hB2 : f.binade % 2 = 0) (neg : Bool) (m : Nat) (e : Int) :
    ∃ r, f.nearest neg m e = f.word neg (min r f.infRung) ∧ Near f (m * 2 ^ (e - f.leastPlace).toNat) (2 ^ (f.leastPlace - e).toNat) r := by
  have hB := bin_pos f
  have hS := Nat.two_pow_pos (f.leastPlace - e).toNat
  by_cases hm : m = 0
  · subst hm
    refine ⟨0, ?_, .inl rfl, .inl ?_⟩
    · unfold Format.nearest
      rw [if_pos rfl, Nat.zero_min]
    · rw [Nat.zero_mul, Nat.mul_zero]
      have := mag_succF f 0
      exact Nat.mul_pos (by omega) hS
  · unfold Format.nearest
    rw [if_neg hm]
    obtain ⟨hl1, hl2⟩ := log2_le hm
    obtain ⟨last, hlast⟩ : ∃ last, last = max (e + (m.log2 : Int) - (f.fractionBits : Int)) f.leastPlace := ⟨_, rfl⟩
    have hgoal : max (e + (m.log2 : Int) - (f.fractionBits : Int)) f.leastPlace = last := hlast.symm
    simp only [hgoal, Nat.shiftLeft_eq]
    obtain ⟨q, hq⟩ : ∃ q, q = (last - f.leastPlace).toNat := ⟨_, rfl⟩
    obtain ⟨drop, hdr⟩ : ∃ d, d = (last - e).toNat := ⟨_, rfl⟩
    obtain ⟨up, hup⟩ : ∃ u, u = (e - last).toNat := ⟨_, rfl⟩
    rw [← hq, ← hdr, ← hup]
    have hk := cut_spec neg (m * 2 ^ up) drop
    have hbf : f.binade = 2 ^ f.fractionBits := rfl
    have hNlt : m * 2 ^ up < 2 * f.binade * 2 ^ drop := by
      have : m * 2 ^ up < 2 ^ (m.log2 + 1) * 2 ^ up := Nat.mul_lt_mul_of_pos_right hl2 (Nat.two_pow_pos _)
      refine Nat.lt_of_lt_of_le this ?_
      rw [← Nat.pow_add, hbf, show 2 * 2 ^ f.fractionBits = 2 ^ (f.fractionBits + 1) by rw [Nat.pow_succ, Nat.mul_comm], ← Nat.pow_add]
      exact Nat.pow_le_pow_right (by decide) (by omega)
    have hNge : q = 0 ∨ f.binade * 2 ^ drop ≤ m * 2 ^ up := by
      rcases Nat.eq_zero_or_pos q with h0 | h0
      · exact .inl h0
      · refine .inr ?_
        have : 2 ^ m.log2 * 2 ^ up ≤ m * 2 ^ up := Nat.mul_le_mul_right _ hl1
        refine Nat.le_trans ?_ this
        rw [hbf, ← Nat.pow_add, ← Nat.pow_add]
        exact Nat.pow_le_pow_right (by decide) (by omega)
    have hVD : (m * 2 ^ (e - f.leastPlace).toNat) * 2 ^ drop = (m * 2 ^ up) * (2 ^ (f.leastPlace - e).toNat * 2 ^ q) := by
      rw [Nat.mul_assoc, Nat.mul_assoc, ← Nat.pow_add, ← Nat.pow_add, ← Nat.pow_add]
      congr 2
      omega
    have hkle : Toward.even.cut neg (m * 2 ^ up) drop ≤ 2 * f.binade := cut_le _ _ hNlt (by omega)
    have hD := Nat.two_pow_pos drop
    have hT := Nat.two_pow_pos q
    generalize Toward.even.cut neg (m * 2 ^ up) drop = k at hk hkle
    generalize m * 2 ^ up = N at hk hNlt hNge hVD
    generalize m * 2 ^ (e - f.leastPlace).toNat = V at hVD
    generalize hTq : 2 ^ q = T at hT hVD
    generalize 2 ^ (f.leastPlace - e).toNat = S at hS hVD
    generalize 2 ^ drop = D at hk hNlt hNge hVD hD
    have hX : 0 < S * T := Nat.mul_pos hS hT
    have hkB : q = 0 ∨ f.binade ≤ k := by
      rcases hNge with h | h
      · exact .inl h
      · refine .inr (Nat.le_of_not_lt fun hc => ?_)
        -- k + 1 ≤ B: N ≥ B D ≥ (k + 1) D
        have h1 : (k + 1) * D ≤ f.binade * D := Nat.mul_le_mul_right _ hc
        rw [Nat.add_mul, Nat.one_mul] at h1
        have h2 := hk.2
        rw [Nat.mul_assoc] at h2
        omega
    have hr : mag f (q * f.binade + k) = k * T := by rw [← hTq]; exact mag_formF f hkle hkB
    have par : (q * f.binade + k) % 2 = k % 2 := by
      have : q * f.binade % 2 = 0 := by rw [Nat.mul_mod, hB2, Nat.mul_zero, Nat.zero_mod]
      omega
    refine ⟨q * f.binade + k, rfl, ?_, ?_⟩
    · -- below
      rcases Nat.eq_zero_or_pos (q * f.binade + k) with h0 | h0
      · exact .inl h0
      · refine .inr ?_
        by_cases hc : q ≠ 0 ∧ k = f.binade
        · -- the lower neighbour is nearer
          obtain ⟨hq0, rfl⟩ := hc
          refine .inl ?_
          have hge : f.binade * D ≤ N := hNge.resolve_left hq0
          have h1 := (tri (Y := 2 * f.binade) hD hX hVD).2.2.2 (by rw [Nat.mul_assoc]; omega)
          have h2 := mag_ltF f (r := q * f.binade + f.binade - 1) (s := q * f.binade + f.binade) (by omega)
          rw [hr] at h2 ⊢
          have h3 : (mag f (q * f.binade + f.binade - 1) + f.binade * T) * S < (2 * (f.binade * T)) * S := Nat.mul_lt_mul_of_pos_right (by omega) hS
          refine Nat.lt_of_lt_of_le h3 (Nat.le_trans (Nat.le_of_eq ?_) h1)
          ac_rfl
        · have hk1 : 1 ≤ k := by
            rcases hkB with h | h
            · subst h; omega
            · omega
          have hm1 : mag f (q * f.binade + k - 1) = (k - 1) * T := by
            rw [show q * f.binade + k - 1 = q * f.binade + (k - 1) by omega, ← hTq]
            refine mag_formF f (by omega) ?_
            rcases hkB with h | h
            · exact .inl h
            · by_cases hq0 : q = 0
              · exact .inl hq0
              · exact .inr (by have : k ≠ f.binade := fun h' => hc ⟨hq0, h'⟩; omega)
          have he : (mag f (q * f.binade + k - 1) + mag f (q * f.binade + k)) * S = (2 * k - 1) * (S * T) := by
            rw [hm1, hr, ← Nat.add_mul, show k - 1 + k = 2 * k - 1 by omega, Nat.mul_assoc, Nat.mul_comm T]
          rw [he, par]
          have h1 := hk.1
          have ed : (2 * k - 1) * D + D = 2 * k * D := by
            obtain ⟨j, rfl⟩ : ∃ j, k = j + 1 := ⟨k - 1, by omega⟩
            rw [show 2 * (j + 1) - 1 = 2 * j + 1 by omega, show 2 * (j + 1) = (2 * j + 1) + 1 by omega, Nat.add_mul (2 * j + 1) 1, Nat.one_mul]
          have ht := tri (Y := 2 * k - 1) hD hX hVD
          rcases h1 with h1 | ⟨h1, h2⟩
          · exact .inl (ht.2.2.1 (by omega))
          · exact .inr ⟨(ht.2.1 (by omega)).symm, h2⟩
    · -- above
      have hge : (k + 1) * T ≤ mag f (q * f.binade + k + 1) ∧ (k < 2 * f.binade → mag f (q * f.binade + k + 1) = (k + 1) * T) := by
        rcases Nat.lt_or_ge k (2 * f.binade) with h | h
        · have : mag f (q * f.binade + k + 1) = (k + 1) * T := by
            rw [show q * f.binade + k + 1 = q * f.binade + (k + 1) by omega, ← hTq]
            exact mag_formF f (by omega) (by omega)
          exact ⟨Nat.le_of_eq this.symm, fun _ => this⟩
        · have hk2 : k = 2 * f.binade := by omega
          refine ⟨?_, fun h' => absurd h' (by omega)⟩
          have h3 := mag_formF f (q := q + 1) (k := f.binade + 1) (by omega) (.inr (by omega))
          rw [hk2, show q * f.binade + 2 * f.binade + 1 = (q + 1) * f.binade + (f.binade + 1) by rw [Nat.add_mul]; omega, h3, Nat.pow_succ, hTq]
          rw [Nat.mul_comm T 2, ← Nat.mul_assoc]
          exact Nat.mul_le_mul_right _ (by omega)
      have hle : (2 * k + 1) * (S * T) ≤ (mag f (q * f.binade + k) + mag f (q * f.binade + k + 1)) * S := by
        have h3 : (2 * k + 1) * T ≤ mag f (q * f.binade + k) + mag f (q * f.binade + k + 1) := by
          rw [hr, show 2 * k + 1 = k + (k + 1) by omega, Nat.add_mul k (k + 1)]
          exact Nat.add_le_add_left hge.1 _
        have := Nat.mul_le_mul_right S h3
        rw [Nat.mul_assoc, Nat.mul_comm T] at this
        exact this
      have ed : (2 * k + 1) * D = 2 * k * D + D := by rw [Nat.add_mul, Nat.one_mul]
      have ht := tri (Y := 2 * k + 1) hD hX hVD
      rw [par]
      rcases hk.2 with h1 | ⟨h1, h2⟩
      · exact .inl (Nat.lt_of_lt_of_le (ht.1 (by omega)) hle)
      · have hklt : k < 2 * f.binade := by
          rcases Nat.lt_or_ge k (2 * f.binade) with h | h
          · exact h
          · exfalso
            have : 2 * f.binade * D ≤ k * D := Nat.mul_le_mul_right _ h
            rw [Nat.mul_assoc 2 k] at h1
            omega
        refine .inr ⟨?_, h2⟩
        rw [ht.2.1 (by omega), hr, hge.2 hklt, ← Nat.add_mul, show k + (k + 1) = 2 * k + 1 by omega, Nat.mul_assoc, Nat.mul_comm T]

theorem Near.scale {f : Format} {V S r : Nat} {k : Nat} (hk : 0 < k) : Near f (V * k) (S * k) r ↔ Near f V S r := by
  have e1 : ∀ a, a * (S * k) = a * S * k := fun a => (Nat.mul_assoc a S k).symm
  have e2 : 2 * (V * k) = 2 * V * k := (Nat.mul_assoc 2 V k).symm
  unfold Near
  rw [e1, e1, e2]
  have lt : ∀ a b : Nat, a * k < b * k ↔ a < b := fun a b => Nat.mul_lt_mul_right hk
  have eq : ∀ a b : Nat, a * k = b * k ↔ a = b := fun a b => ⟨fun h => Nat.eq_of_mul_eq_mul_right hk h, fun h => by rw [h]⟩
  rw [lt, lt, eq, eq]
theorem Near.mono {f : Format} {V V' S r r' : Nat} (hS : 0 < S) (h : Near f V S r) (h' : Near f V' S r') (hV : V ≤ V') : r ≤ r' := by
  refine Nat.le_of_not_lt fun hc => ?_
  have a := h.1
  have b := h'.2
  have l1 : (mag f r' + mag f (r' + 1)) * S ≤ (mag f (r - 1) + mag f r) * S := Nat.mul_le_mul_right _ (Nat.add_le_add (mag_leF f (by omega)) (mag_leF f (by omega)))
  rcases a with a | a | ⟨a, ae⟩
  · omega
  · omega
  · rcases b with b | ⟨b, be⟩
    · omega
    · have heq : (mag f r' + mag f (r' + 1)) * S = (mag f (r - 1) + mag f r) * S := by omega
      have heq2 := Nat.eq_of_mul_eq_mul_right hS heq
      have l2 := mag_leF f (r := r') (s := r - 1) (by omega)
      have l3 := mag_leF f (r := r' + 1) (s := r) (by omega)
      have : r' = r - 1 := by
        rcases Nat.lt_or_ge r' (r - 1) with h1 | h1
        · have := mag_ltF f h1; omega
        · omega
      omega
theorem Near.uniq {f : Format} {V S r r' : Nat} (hS : 0 < S) (h : Near f V S r) (h' : Near f V S r') : r = r' :=
  Nat.le_antisymm (h.mono hS h' (Nat.le_refl _)) (h'.mono hS h (Nat.le_refl _))
theorem Near.exact {f : Format} {S r : Nat} (hS : 0 < S) : Near f (mag f r * S) S r := by
  constructor
  · rcases Nat.eq_zero_or_pos r with h | h
    · exact .inl h
    · refine .inr (.inl ?_)
      rw [← Nat.mul_assoc]
      have := mag_ltF f (r := r - 1) (s := r) (by omega)
      exact Nat.mul_lt_mul_of_pos_right (by omega) hS
  · refine .inl ?_
    rw [← Nat.mul_assoc]
    have := mag_succF f r
    exact Nat.mul_lt_mul_of_pos_right (by omega) hS
/-- No rung is nearer. -/
theorem Near.best {f : Format} {V S r : Nat} (h : Near f V S r) (s : Nat) : ((V : Int) - (mag f r * S : Nat)).natAbs ≤ ((V : Int) - (mag f s * S : Nat)).natAbs := by
  rcases Nat.lt_trichotomy s r with hs | hs | hs
  · have h1 := mag_leF f (r := s) (s := r - 1) (by omega)
    have h2 : mag f s * S ≤ mag f (r - 1) * S := Nat.mul_le_mul_right _ h1
    have h3 := h.1
    rw [Nat.add_mul] at h3
    have h5 : mag f (r - 1) * S ≤ mag f r * S := Nat.mul_le_mul_right _ (mag_leF f (by omega))
    generalize mag f (r - 1) * S = A at h2 h3 h5
    generalize mag f r * S = B at h3 h5
    generalize mag f s * S = C at h2
    have hr0 : r ≠ 0 := by omega
    have h4 : A + B ≤ 2 * V := by omega
    clear h3 h1
    omega
  · rw [hs]; exact Nat.le_refl _
  · have h1 := mag_leF f (r := r + 1) (s := s) (by omega)
    have h2 : mag f (r + 1) * S ≤ mag f s * S := Nat.mul_le_mul_right _ h1
    have h3 := h.2
    rw [Nat.add_mul] at h3
    have h5 : mag f r * S ≤ mag f (r + 1) * S := Nat.mul_le_mul_right _ (mag_leF f (by omega))
    generalize mag f (r + 1) * S = A at h2 h3 h5
    generalize mag f r * S = B at h3 h5
    generalize mag f s * S = C at h2
    have h4 : 2 * V ≤ A + B := by omega
    clear h3 h1
    omega
end Go.LI.Fl

/-! Words of 64 bits as natural numbers. -/
set_option linter.unusedVariables false
set_option maxRecDepth 100000
namespace Go.LI.Fl
open Go Go.LI

theorem wrapU (n : Nat) : IntKind.wrap .u64 (n : Int) = ((n % 2 ^ 64 : Nat) : Int) := by
  have e1 : IntKind.u64.bits = 64 := rfl
  unfold IntKind.wrap
  simp only [IntKind.signed, Bool.false_and, Bool.false_eq_true, if_false, e1]
  norm_cast
theorem wrapU_small {n : Nat} (h : n < 2 ^ 64) : IntKind.wrap .u64 (n : Int) = (n : Int) := by rw [wrapU, Nat.mod_eq_of_lt h]
theorem wrapI {v : Int} (h1 : -9223372036854775808 ≤ v) (h2 : v < 9223372036854775808) : IntKind.wrap .i64 v = v := by
  have e1 : IntKind.i64.bits = 64 := rfl
  unfold IntKind.wrap
  simp only [IntKind.signed, Bool.true_and, decide_eq_true_eq, ge_iff_le, e1]
  split <;> omega

theorem ib (a : Nat) : (((a : Nat) : Int) == 0) = decide (a = 0) := by by_cases h : a = 0 <;> simp [h]
theorem ibn (a : Nat) : (((a : Nat) : Int) != 0) = decide (a ≠ 0) := by by_cases h : a = 0 <;> simp [h]
theorem shl_nat (x n : Nat) : shlI .u64 (x : Int) (n : Int) = ((x * 2 ^ n % 2 ^ 64 : Nat) : Int) := by
  have e1 : IntKind.u64.bits = 64 := rfl
  unfold shlI
  rw [e1, Int.toNat_natCast]
  have h : (x : Int) * 2 ^ (min n 64) = ((x * 2 ^ (min n 64) : Nat) : Int) := by push_cast; rfl
  rw [h, wrapU]
  congr 1
  rcases Nat.le_total n 64 with hn | hn
  · rw [Nat.min_eq_left hn]
  · rw [Nat.min_eq_right hn, Nat.mul_mod_left]
    obtain ⟨d, rfl⟩ := Nat.le.dest hn
    rw [Nat.pow_add, Nat.mul_comm (2 ^ 64), ← Nat.mul_assoc, Nat.mul_mod_left]
theorem shr_nat {x : Nat} (hx : x < 2 ^ 64) (n : Nat) : shrI .u64 (x : Int) (n : Int) = ((x / 2 ^ n : Nat) : Int) := by
  have e1 : IntKind.u64.bits = 64 := rfl
  unfold shrI
  rw [e1, Int.toNat_natCast]
  have h : ((2 : Int) ^ (min n 64)) = ((2 ^ (min n 64) : Nat) : Int) := by push_cast; rfl
  rw [h, Int.fdiv_eq_ediv_of_nonneg _ (Int.natCast_nonneg _), ← Int.natCast_ediv]
  congr 1
  rcases Nat.le_total n 64 with hn | hn
  · rw [Nat.min_eq_left hn]
  · rw [Nat.min_eq_right hn, Nat.div_eq_of_lt hx, Nat.div_eq_of_lt (Nat.lt_of_lt_of_le hx (Nat.pow_le_pow_right (by decide) hn))]

theorem bv_nat {a : Nat} (ha : a < 2 ^ 64) : (BitVec.ofInt 64 (a : Int)).toNat = a := by
  rw [BitVec.ofInt_natCast, BitVec.toNat_ofNat, Nat.mod_eq_of_lt ha]
theorem and_nat {a b : Nat} (ha : a < 2 ^ 64) (hb : b < 2 ^ 64) : andI .u64 (a : Int) (b : Int) = ((a &&& b : Nat) : Int) := by
  have e1 : IntKind.u64.bits = 64 := rfl
  unfold andI
  rw [e1, BitVec.toNat_and, bv_nat ha, bv_nat hb]
  exact wrapU_small (Nat.lt_of_le_of_lt Nat.and_le_left ha)
theorem or_nat {a b : Nat} (ha : a < 2 ^ 64) (hb : b < 2 ^ 64) : orI .u64 (a : Int) (b : Int) = ((a ||| b : Nat) : Int) := by
  have e1 : IntKind.u64.bits = 64 := rfl
  unfold orI
  rw [e1, BitVec.toNat_or, bv_nat ha, bv_nat hb]
  exact wrapU_small (Nat.or_lt_two_pow ha hb)
/-- Above and below. -/
theorem or_add {a k b : Nat} (hb : b < 2 ^ k) : (a * 2 ^ k) ||| b = a * 2 ^ k + b := by
  rw [Nat.mul_comm, Nat.two_pow_add_eq_or_of_lt hb]
theorem or_nat_add {a k b : Nat} (ha : a * 2 ^ k < 2 ^ 64) (hb : b < 2 ^ k) (hk : k ≤ 64) : orI .u64 ((a * 2 ^ k : Nat) : Int) (b : Int) = ((a * 2 ^ k + b : Nat) : Int) := by
  rw [or_nat ha (Nat.lt_of_lt_of_le hb (Nat.pow_le_pow_right (by decide) hk)), or_add hb]
theorem and_low {a : Nat} (ha : a < 2 ^ 64) (k : Nat) (hk : k ≤ 63) : andI .u64 (a : Int) ((2 ^ k - 1 : Nat) : Int) = ((a % 2 ^ k : Nat) : Int) := by
  have : 2 ^ k ≤ 2 ^ 63 := Nat.pow_le_pow_right (by decide) hk
  rw [and_nat ha (by omega), Nat.and_two_pow_sub_one_eq_mod]

/-- How many bits. -/
def blen (n : Nat) : Nat := if n = 0 then 0 else n.log2 + 1
theorem blen_zero : blen 0 = 0 := rfl
theorem blen_lt {n k : Nat} : blen n ≤ k ↔ n < 2 ^ k := by
  unfold blen
  split
  · rename_i h; subst h; simp [Nat.two_pow_pos]
  · rename_i h
    rw [← Nat.log2_lt h]
    omega
theorem blen_ge {n k : Nat} : k < blen n ↔ 2 ^ k ≤ n := by
  have := @blen_lt n k
  omega
theorem blen_pos {n : Nat} (h : n ≠ 0) : 2 ^ (blen n - 1) ≤ n ∧ n < 2 ^ blen n ∧ 1 ≤ blen n := by
  have h1 : 1 ≤ blen n := by unfold blen; rw [if_neg h]; omega
  exact ⟨blen_ge.1 (by omega), blen_lt.1 (Nat.le_refl _), h1⟩
theorem blen_of {n k : Nat} (h1 : 2 ^ k ≤ n) (h2 : n < 2 ^ (k + 1)) : blen n = k + 1 := by
  have a := blen_ge.2 h1
  have b := blen_lt.2 h2
  omega
theorem blen_mul_pow {n : Nat} (h : n ≠ 0) (k : Nat) : blen (n * 2 ^ k) = blen n + k := by
  obtain ⟨h1, h2, h3⟩ := blen_pos h
  have : blen (n * 2 ^ k) = (blen n - 1 + k) + 1 := by
    refine blen_of ?_ ?_
    · rw [Nat.pow_add]; exact Nat.mul_le_mul_right _ h1
    · rw [show blen n - 1 + k + 1 = blen n + k by omega, Nat.pow_add]
      exact Nat.mul_lt_mul_of_pos_right h2 (Nat.two_pow_pos k)
  omega
theorem blen_div_pow (n k : Nat) : blen (n / 2 ^ k) = blen n - k := by
  by_cases hz : n < 2 ^ k
  · rw [Nat.div_eq_of_lt hz, blen_zero]
    have := blen_lt.2 hz; omega
  · have hk : 2 ^ k ≤ n := by omega
    have hn : n ≠ 0 := by have := Nat.two_pow_pos k; omega
    obtain ⟨h1, h2, h3⟩ := blen_pos hn
    have hkb := blen_ge.2 hk
    have : blen (n / 2 ^ k) = (blen n - 1 - k) + 1 := by
      refine blen_of ?_ ?_
      · rw [Nat.le_div_iff_mul_le (Nat.two_pow_pos k), ← Nat.pow_add, show blen n - 1 - k + k = blen n - 1 by omega]; exact h1
      · rw [Nat.div_lt_iff_lt_mul (Nat.two_pow_pos k), ← Nat.pow_add, show blen n - 1 - k + 1 + k = blen n by omega]; exact h2
    omega

/-- The greatest rung whose number is not above M (in units of the least number). -/
def floorR (M : Nat) : Nat := (blen M - 53) * 2 ^ 52 + M / 2 ^ (blen M - 53)
theorem floorR_of {M q m : Nat} (h1 : m * 2 ^ q ≤ M) (h2 : M < (m + 1) * 2 ^ q) (h3 : m < 2 ^ 53) (h4 : q = 0 ∨ 2 ^ 52 ≤ m) : floorR M = q * 2 ^ 52 + m := by
  have hdiv : M / 2 ^ q = m := by
    rw [Nat.div_eq_iff (Nat.two_pow_pos q)]
    rw [Nat.add_mul, Nat.one_mul] at h2
    omega
  have hb : blen M - 53 = q := by
    have h5 := blen_div_pow M q
    rw [hdiv] at h5
    have h6 := blen_lt.2 h3
    rcases h4 with h4 | h4
    · omega
    · have h7 := blen_ge.2 h4
      omega
  unfold floorR
  rw [hb, hdiv]
theorem floorR_mag {M q m : Nat} (h3 : m < 2 ^ 53) (h4 : q = 0 ∨ 2 ^ 52 ≤ m) : mag dbl (q * 2 ^ 52 + m) = m * 2 ^ q := by
  unfold mag
  rw [dbl_B]
  by_cases hm : m < 2 ^ 52
  · have hq : q = 0 := by omega
    subst hq
    rw [if_pos (by omega)]; simp
  · rw [if_neg (by omega)]
    have h1 : (q * 2 ^ 52 + m) / 2 ^ 52 = q + 1 := by
      rw [show q * 2 ^ 52 + m = (m - 2 ^ 52) + 2 ^ 52 * (q + 1) by omega, Nat.add_mul_div_left _ _ (by decide), Nat.div_eq_of_lt (by omega)]; omega
    have h2 : (q * 2 ^ 52 + m) % 2 ^ 52 = m - 2 ^ 52 := by
      rw [show q * 2 ^ 52 + m = (m - 2 ^ 52) + 2 ^ 52 * (q + 1) by omega, Nat.add_mul_mod_self_left, Nat.mod_eq_of_lt (by omega)]
    rw [h1, h2, show 2 ^ 52 + (m - 2 ^ 52) = m by omega, show q + 1 - 1 = q by omega]

/-- A/B (in units of the least number), rounded to a rung: down, or up if 'grow'. -/
def rndR (A B : Nat) (grow : Bool) : Nat := floorR (A / B) + (if grow = true ∧ mag dbl (floorR (A / B)) * B ≠ A then 1 else 0)
/-- A rung and a sign as a word: not beyond the greatest number, but where it grows; no -0. -/
def sealW (neg : Bool) (r : Nat) (grow : Bool) : Nat :=
  let r' := if r < 9218868437227405312 then r else if grow then 9218868437227405312 else 9218868437227405311
  if r' = 0 then 0 else dbl.word neg r'

/-- A word's number, in units of the least number. -/
def sv (x : Nat) : Int := if sg dbl x then -(mag dbl (rg dbl x) : Int) else (mag dbl (rg dbl x) : Int)
def fin (x : Nat) : Bool := decide (rg dbl x < 9218868437227405312)
/-- The sum, rounded down or up. -/
def addR (a b : Nat) (down : Bool) : Nat := sealW (decide (sv a + sv b < 0)) (rndR (sv a + sv b).natAbs 1 (decide (sv a + sv b < 0) == down)) (decide (sv a + sv b < 0) == down)
end Go.LI.Fl

/-! Numbers that a word holds exactly. -/
set_option linter.unusedVariables false
set_option maxRecDepth 100000
namespace Go.LI.Fl
open Go Go.LI Ieee

theorem dbl_fb : dbl.fractionBits = 52 := rfl
theorem floorR_small {M : Nat} (h : M < 2 ^ 53) : floorR M = M := by
  have := floorR_of (M := M) (q := 0) (m := M) (by simp) (by simp) h (.inl rfl)
  simpa using this
/-- 53 digits are held. -/
theorem floorR_mul {m q : Nat} (hm : m ≤ 2 ^ 53) : mag dbl (floorR (m * 2 ^ q)) = m * 2 ^ q := by
  by_cases h0 : m = 0
  · subst h0
    rw [Nat.zero_mul, floorR_small (by decide)]
    exact (mag_zero dbl).2 rfl
  · have hb := blen_mul_pow h0 q
    obtain ⟨h1, h2, h3⟩ := blen_pos h0
    have hb54 : blen m ≤ 54 := blen_lt.2 (by omega)
    by_cases hs : blen m + q ≤ 53
    · have hlt : m * 2 ^ q < 2 ^ 53 := blen_lt.1 (by omega)
      rw [floorR_small hlt]
      have := floorR_mag (M := m * 2 ^ q) (q := 0) (m := m * 2 ^ q) hlt (.inl rfl)
      simpa using this
    · obtain ⟨k, hk⟩ : ∃ k, blen m + q = 53 + k := ⟨blen m + q - 53, by omega⟩
      obtain ⟨m', hm'⟩ : ∃ m', m * 2 ^ q = m' * 2 ^ k := by
        rcases (by omega : k ≤ q ∨ k = q + 1) with hkq | hkq
        · exact ⟨m * 2 ^ (q - k), by rw [Nat.mul_assoc, ← Nat.pow_add]; congr 2; omega⟩
        · have : m = 2 ^ 53 := by
            have : 2 ^ 53 ≤ m := by
              have : blen m = 54 := by omega
              rw [this] at h1; exact h1
            omega
          exact ⟨2 ^ 52, by rw [this, hkq, Nat.pow_succ 2 q, show (2:Nat) ^ 53 = 2 ^ 52 * 2 by decide]; rw [Nat.mul_assoc, Nat.mul_comm 2 (2 ^ q)]⟩
      have hbm : blen (m' * 2 ^ k) = 53 + k := by rw [← hm', hb, hk]
      have hm0 : m' ≠ 0 := by
        rintro rfl
        rw [Nat.zero_mul] at hm'
        have := Nat.mul_pos (Nat.pos_of_ne_zero h0) (Nat.two_pow_pos q)
        omega
      have hb' : blen m' = 53 := by rw [blen_mul_pow hm0] at hbm; omega
      have hlt : m' < 2 ^ 53 := blen_lt.1 (by omega)
      have hge : 2 ^ 52 ≤ m' := blen_ge.1 (by omega)
      rw [hm', floorR_of (M := m' * 2 ^ k) (q := k) (m := m') (Nat.le_refl _) (Nat.mul_lt_mul_of_pos_right (by omega) (Nat.two_pow_pos k)) hlt (.inr hge), floorR_mag (M := 0) hlt (.inr hge)]

theorem floorR_inf {M : Nat} : floorR M < 9218868437227405312 ↔ blen M ≤ 2098 := by
  have h5 := blen_div_pow M (blen M - 53)
  have hlt : M / 2 ^ (blen M - 53) < 2 ^ 53 := blen_lt.1 (by omega)
  unfold floorR
  constructor
  · intro h
    by_cases hc : blen M ≤ 2098
    · exact hc
    · have hge : 2 ^ 52 ≤ M / 2 ^ (blen M - 53) := blen_ge.1 (by omega)
      have : 2046 ≤ blen M - 53 := by omega
      omega
  · intro h
    have : blen M - 53 ≤ 2045 := by omega
    omega

theorem blen_zero_mul (q : Nat) : blen (0 * 2 ^ q) = 0 := by rw [Nat.zero_mul]; rfl
theorem word_false (r : Nat) : dbl.word false r = r := rfl
theorem fin_lt {r : Nat} (h : r < 9218868437227405312) : r < dbl.infRung := by rw [dbl_inf]; exact h

theorem nat_rung {m q : Nat} (hm : m ≤ 2 ^ 53) (hq : q ≤ 2044) : floorR (m * 2 ^ q) < 9218868437227405312 := by
  rw [floorR_inf]
  by_cases h0 : m = 0
  · subst h0; rw [blen_zero_mul]; exact Nat.zero_le _
  · rw [blen_mul_pow h0]
    have := blen_lt.2 (show m < 2 ^ 54 by omega)
    omega
/-- A whole number as a word. -/
theorem nat_word' {m q : Nat} (hm : m ≤ 2 ^ 53) (hq : q = 1074) : FloatKind.nearest .f64 (m : Int) = floorR (m * 2 ^ q) ∧ floorR (m * 2 ^ q) < 9218868437227405312 := by
  have hlt : floorR (m * 2 ^ q) < 9218868437227405312 := nat_rung hm (by omega)
  refine ⟨?_, hlt⟩
  have h1 : FloatKind.nearest .f64 (m : Int) = dbl.nearest false m 0 := by
    unfold FloatKind.nearest
    have : decide ((m : Int) < 0) = false := by simp
    simp only [this, Int.natAbs_natCast]
    rfl
  rw [h1, nearest_exact dbl (r := floorR (m * 2 ^ q)) (Nat.le_of_lt (fin_lt hlt)) (by
    rw [floorR_mul hm, show (0 - dbl.leastPlace).toNat = q by rw [dbl_L, hq]; rfl, show (dbl.leastPlace - 0).toNat = 0 by rw [dbl_L]; rfl, Nat.pow_zero, Nat.mul_one])]
  rfl
theorem nat_word {m : Nat} (hm : m ≤ 2 ^ 53) : FloatKind.nearest .f64 (m : Int) = floorR (m * 2 ^ 1074) ∧ floorR (m * 2 ^ 1074) < 9218868437227405312 := nat_word' (m := m) (q := 1074) hm rfl

theorem rg_small {r : Nat} (h : r < 2 ^ 63) : rg dbl r = r ∧ sg dbl r = false := by
  unfold rg sg
  rw [dbl_sw]
  refine ⟨Nat.mod_eq_of_lt h, ?_⟩
  rw [Nat.div_eq_of_lt h]
  rfl

/-- A product that is held. -/
theorem mul_exact {x y r : Nat} (hx : x < 9218868437227405312) (hy : y < 9218868437227405312) (hr : r < 9218868437227405312) (h : mag dbl x * mag dbl y = mag dbl r * 2 ^ 1074) : dbl.mul x y = some r := by
  have hx' := rg_small (r := x) (by omega)
  have hy' := rg_small (r := y) (by omega)
  obtain ⟨m, e, h1, h2, h3⟩ := read_finite dbl (w := x) (by rw [← rg, hx'.1]; exact fin_lt hx)
  obtain ⟨n, d, k1, k2, k3⟩ := read_finite dbl (w := y) (by rw [← rg, hy'.1]; exact fin_lt hy)
  rw [← rg, hx'.1] at h3
  rw [← rg, hy'.1] at k3
  unfold Format.mul
  rw [h1, k1]
  simp only [Datum.product, Option.map_some, Format.write]
  have hs1 : (x / dbl.signWeight % 2 == 1) = false := hx'.2
  have hs2 : (y / dbl.signWeight % 2 == 1) = false := hy'.2
  rw [hs1, hs2]
  rw [nearest_exact dbl (r := r) (Nat.le_of_lt (fin_lt hr)) ?_]
  · rfl
  · rw [dbl_L] at *
    obtain ⟨i, hi⟩ : ∃ i : Nat, e = -1074 + i := ⟨(e + 1074).toNat, by omega⟩
    obtain ⟨j, hj⟩ : ∃ j : Nat, d = -1074 + j := ⟨(d + 1074).toNat, by omega⟩
    subst hi; subst hj
    have e1 : ((-1074 : Int) + i - -1074).toNat = i := by omega
    have e2 : ((-1074 : Int) + j - -1074).toNat = j := by omega
    rw [e1] at h3
    rw [e2] at k3
    rw [← h3, ← k3] at h
    have h' : m * n * 2 ^ (i + j) = mag dbl r * 2 ^ 1074 := by
      rw [← h, Nat.pow_add]
      ac_rfl
    rcases Nat.le_total 1074 (i + j) with hc | hc
    · have f1 : ((-1074 : Int) + i + (-1074 + j) - -1074).toNat = i + j - 1074 := by omega
      have f2 : ((-1074 : Int) - (-1074 + i + (-1074 + j))).toNat = 0 := by omega
      rw [f1, f2, Nat.pow_zero, Nat.mul_one]
      have : i + j = (i + j - 1074) + 1074 := by omega
      rw [this, Nat.pow_add, ← Nat.mul_assoc] at h'
      exact Nat.eq_of_mul_eq_mul_right (Nat.two_pow_pos 1074) h'
    · have f1 : ((-1074 : Int) + i + (-1074 + j) - -1074).toNat = 0 := by omega
      have f2 : ((-1074 : Int) - (-1074 + i + (-1074 + j))).toNat = 1074 - (i + j) := by omega
      rw [f1, f2, Nat.pow_zero, Nat.mul_one]
      have : 1074 = (1074 - (i + j)) + (i + j) := by omega
      rw [show mag dbl r * 2 ^ 1074 = mag dbl r * 2 ^ (1074 - (i + j)) * 2 ^ (i + j) by rw [Nat.mul_assoc, ← Nat.pow_add, ← this]] at h'
      exact Nat.eq_of_mul_eq_mul_right (Nat.two_pow_pos (i + j)) h'

/-- +0 in the place of -0. -/
theorem add_zero' {x : Nat} (hx : x < 2 ^ 64) (hi : rg dbl x ≤ 9218868437227405312) : dbl.add x 0 = some (if rg dbl x = 0 then 0 else x) := by
  rcases Nat.lt_or_ge (rg dbl x) 9218868437227405312 with hlt | hge
  · obtain ⟨m, e, h1, h2, h3⟩ := read_finite dbl (w := x) (fin_lt hlt)
    have hz : dbl.read 0 = .number false 0 (-1074) := by decide +kernel
    unfold Format.add
    rw [h1, hz]
    rw [dbl_L] at h2 h3
    simp only [Datum.sum, Option.map_some, Format.write]
    rw [Int.min_eq_right h2]
    have hs0 : signed false 0 (-1074 - -1074 : Int).toNat = 0 := by decide
    rw [hs0, Int.add_zero]
    have hsx : (x / dbl.signWeight % 2 == 1) = sg dbl x := rfl
    rw [hsx]
    have hna := signed_natAbs (sg dbl x) m (e - -1074).toNat
    by_cases h0 : rg dbl x = 0
    · rw [if_pos h0]
      have hm : m * 2 ^ (e - -1074).toNat = 0 := by
        rw [h3, show x % dbl.signWeight = rg dbl x from rfl, h0]; exact (mag_zero dbl).2 rfl
      have hm0 : m = 0 := by
        rcases Nat.mul_eq_zero.1 hm with h | h
        · exact h
        · have := Nat.two_pow_pos (e - -1074).toNat; omega
      subst hm0
      have hz2 : signed (sg dbl x) 0 (e - -1074).toNat = 0 := by unfold signed; simp
      rw [hz2]
      have : dbl.nearest false 0 (-1074) = 0 := by decide +kernel
      simp [this]
    · rw [if_neg h0]
      have hM : m * 2 ^ (e - -1074).toNat ≠ 0 := by
        rw [h3, show x % dbl.signWeight = rg dbl x from rfl]
        exact fun h => h0 ((mag_zero dbl).1 h)
      have hne : signed (sg dbl x) m (e - -1074).toNat ≠ 0 := by
        intro hc
        rw [hc] at hna
        exact hM (by simpa using hna.symm)
      rw [if_neg hne, hna]
      have hsg : decide (signed (sg dbl x) m (e - -1074).toNat < 0) = sg dbl x := by
        unfold signed
        cases hs : sg dbl x with
        | true => simp only [if_true]; apply decide_eq_true; rw [Nat.shiftLeft_eq]; omega
        | false => simp only [Bool.false_eq_true, if_false]; apply decide_eq_false; rw [Nat.shiftLeft_eq]; omega
      rw [hsg, nearest_exact dbl (r := rg dbl x) (Nat.le_of_lt (fin_lt hlt)) (by
        rw [dbl_L, show ((-1074 : Int) - -1074).toNat = 0 by decide, Nat.pow_zero, Nat.mul_one, Nat.mul_one]; exact h3)]
      rw [word_sr dbl (by rw [dbl_sw]; omega)]
  · have he : rg dbl x = 9218868437227405312 := by omega
    have hz : dbl.read 0 = .number false 0 (-1074) := by decide +kernel
    have hr := read_inf dbl dbl_I (sg dbl x)
    rw [dbl_inf, ← he, word_sr dbl (by rw [dbl_sw]; omega)] at hr
    unfold Format.add
    rw [hr, hz]
    simp only [Datum.sum, Option.map_some, Format.write]
    rw [if_neg (by omega), dbl_inf, ← he, word_sr dbl (by rw [dbl_sw]; omega)]

theorem cmp_lt {z : Int} (h : z < 0) : compare z 0 = .lt := by simp only [compare, compareOfLessAndEq]; rw [if_pos h]
theorem cmp_gt {z : Int} (h : 0 < z) : compare z 0 = .gt := by simp only [compare, compareOfLessAndEq]; rw [if_neg (by omega), if_neg (by omega)]
/-- Numbers by their order. -/
theorem feq_zero {x : Nat} (hx : x < 2 ^ 64) (hi : rg dbl x ≤ 9218868437227405312) : feq .f64 x 0 = decide (rg dbl x = 0) := by
  have hz : dbl.read 0 = .number false 0 (-1074) := by decide +kernel
  rcases Nat.lt_or_ge (rg dbl x) 9218868437227405312 with hlt | hge
  · obtain ⟨m, e, h1, h2, h3⟩ := read_finite dbl (w := x) (fin_lt hlt)
    rw [dbl_L] at h2 h3
    unfold feq Format.order
    rw [show (FloatKind.f64.format) = dbl from rfl, h1, hz]
    simp only [Datum.order]
    rw [Int.min_eq_right h2]
    have hs0 : signed false 0 (-1074 - -1074 : Int).toNat = 0 := by decide
    rw [hs0]
    have hna := signed_natAbs (x / dbl.signWeight % 2 == 1) m (e - -1074).toNat
    rw [h3] at hna
    have key : (signed (x / dbl.signWeight % 2 == 1) m (e - -1074).toNat = 0) ↔ rg dbl x = 0 := by
      rw [← (mag_zero dbl), show rg dbl x = x % dbl.signWeight from rfl, ← hna]
      omega
    by_cases h0 : rg dbl x = 0
    · rw [key.2 h0, decide_eq_true h0]; rfl
    · have hne := fun h => h0 (key.1 h)
      rw [decide_eq_false h0]
      rcases (by omega : signed (x / dbl.signWeight % 2 == 1) m (e - -1074).toNat < 0 ∨ 0 < signed (x / dbl.signWeight % 2 == 1) m (e - -1074).toNat) with h | h
      · rw [cmp_lt h]; rfl
      · rw [cmp_gt h]; rfl
  · have he : rg dbl x = 9218868437227405312 := by omega
    have hr := read_inf dbl dbl_I (sg dbl x)
    rw [dbl_inf, ← he, word_sr dbl (by rw [dbl_sw]; omega)] at hr
    unfold feq Format.order
    rw [show (FloatKind.f64.format) = dbl from rfl, hr, hz, decide_eq_false (by omega)]
    cases sg dbl x <;> rfl

theorem feq_self' {x : Nat} (hx : x < 2 ^ 64) : feq .f64 x x = decide (rg dbl x ≤ 9218868437227405312) := by
  by_cases hi : rg dbl x ≤ 9218868437227405312
  · rw [decide_eq_true hi]
    refine feq_self ?_
    have := nn_word dbl (sg dbl x) (rung := rg dbl x) (by rw [dbl_inf]; exact hi)
    rwa [word_sr dbl (by rw [dbl_sw]; omega)] at this
  · rw [decide_eq_false hi]
    have hn : ∃ a b, dbl.read x = .nan a b := by
      unfold Format.read
      simp only
      rw [show x % dbl.signWeight = rg dbl x from rfl, dbl_B, dbl_inf, if_neg (by omega), if_neg (by omega), if_neg (by omega)]
      exact ⟨_, _, rfl⟩
    obtain ⟨a, b, hn⟩ := hn
    unfold feq Format.order
    rw [show (FloatKind.f64.format) = dbl from rfl, hn]
    rfl
end Go.LI.Fl

/-! The order of words is the order of their numbers. -/
set_option linter.unusedVariables false
set_option maxRecDepth 100000
namespace Go.LI.Fl
open Go Go.LI Ieee

/-- A rung's digits and place. -/
theorem rung_form (r : Nat) : ∃ q m, r = q * 2 ^ 52 + m ∧ m < 2 ^ 53 ∧ (q = 0 ∨ 2 ^ 52 ≤ m) := by
  by_cases h : r < 2 ^ 52
  · exact ⟨0, r, by omega, by omega, .inl rfl⟩
  · refine ⟨r / 2 ^ 52 - 1, 2 ^ 52 + r % 2 ^ 52, by omega, by omega, .inr (by omega)⟩
theorem mag_form {q m : Nat} (h1 : m ≤ 2 ^ 53) (h2 : q = 0 ∨ 2 ^ 52 ≤ m) : mag dbl (q * 2 ^ 52 + m) = m * 2 ^ q := by
  rcases Nat.lt_or_ge m (2 ^ 53) with h | h
  · exact floorR_mag (M := 0) h h2
  · have : m = 2 ^ 53 := by omega
    subst this
    have := floorR_mag (M := 0) (q := q + 1) (m := 2 ^ 52) (by decide) (.inr (Nat.le_refl _))
    rw [show q * 2 ^ 52 + 2 ^ 53 = (q + 1) * 2 ^ 52 + 2 ^ 52 by omega, this, Nat.pow_succ 2 q]
    omega
theorem mag_succ (r : Nat) : mag dbl r < mag dbl (r + 1) := by
  obtain ⟨q, m, rfl, h1, h2⟩ := rung_form r
  rw [mag_form (by omega) h2, show q * 2 ^ 52 + m + 1 = q * 2 ^ 52 + (m + 1) by omega, mag_form (by omega) (by omega)]
  exact Nat.mul_lt_mul_of_pos_right (by omega) (Nat.two_pow_pos q)
theorem mag_lt {r s : Nat} (h : r < s) : mag dbl r < mag dbl s := by
  induction s with
  | zero => omega
  | succ s ih =>
    rcases Nat.lt_or_ge r s with hr | hr
    · exact Nat.lt_trans (ih hr) (mag_succ s)
    · have : r = s := by omega
      subst this; exact mag_succ r
theorem mag_le {r s : Nat} (h : r ≤ s) : mag dbl r ≤ mag dbl s := by
  rcases Nat.lt_or_ge r s with hr | hr
  · exact Nat.le_of_lt (mag_lt hr)
  · have : r = s := by omega
    subst this; exact Nat.le_refl _
theorem mag_inj {r s : Nat} (h : mag dbl r = mag dbl s) : r = s := by
  rcases Nat.lt_trichotomy r s with h1 | h1 | h1
  · have := mag_lt h1; omega
  · exact h1
  · have := mag_lt h1; omega

/-- No NaN. -/
def num (x : Nat) : Prop := x < 2 ^ 64 ∧ rg dbl x ≤ 9218868437227405312

theorem read_num {x : Nat} (h : rg dbl x < 9218868437227405312) : ∃ (i m : Nat), dbl.read x = .number (sg dbl x) m (-1074 + i) ∧ m * 2 ^ i = mag dbl (rg dbl x) := by
  obtain ⟨m, e, h1, h2, h3⟩ := read_finite dbl (w := x) (fin_lt h)
  rw [dbl_L] at h2 h3
  obtain ⟨i, rfl⟩ : ∃ i : Nat, e = -1074 + i := ⟨(e + 1074).toNat, by omega⟩
  refine ⟨i, m, h1, ?_⟩
  rw [show ((-1074 : Int) + i - -1074).toNat = i by omega] at h3
  exact h3
theorem read_infty {x : Nat} (hx : x < 2 ^ 64) (h : rg dbl x = 9218868437227405312) : dbl.read x = .infinity (sg dbl x) := by
  have hr := read_inf dbl dbl_I (sg dbl x)
  rw [dbl_inf, ← h, word_sr dbl (by rw [dbl_sw]; omega)] at hr
  exact hr
def sgn (s : Bool) (M : Nat) : Int := if s then -(M : Int) else (M : Int)
theorem sgn_mul (s : Bool) (M k : Nat) : sgn s (M * k) = sgn s M * (k : Int) := by
  unfold sgn
  split
  · rw [Int.natCast_mul, Int.neg_mul]
  · rw [Int.natCast_mul]
theorem signed_sv (s : Bool) (m i : Nat) : signed s m i = sgn s (m * 2 ^ i) := by
  unfold signed sgn; rw [Nat.shiftLeft_eq]
theorem sv_sgn (x : Nat) : sv x = sgn (sg dbl x) (mag dbl (rg dbl x)) := rfl

theorem cmp_mul {a b : Int} {k : Nat} (hk : 0 < k) : compare (a * k) (b * k) = compare a b := by
  have hk' : (0 : Int) < k := by omega
  simp only [compare, compareOfLessAndEq]
  by_cases h1 : a < b
  · rw [if_pos h1, if_pos (Int.mul_lt_mul_of_pos_right h1 hk')]
  · rw [if_neg h1, if_neg (by intro h; exact h1 (Int.lt_of_mul_lt_mul_right h (Int.le_of_lt hk')))]
    by_cases h2 : a = b
    · rw [if_pos h2, if_pos (by rw [h2])]
    · rw [if_neg h2, if_neg (by intro h; exact h2 (Int.eq_of_mul_eq_mul_right (by omega) h))]

theorem order_sv {x y : Nat} (hx : num x) (hy : num y) : dbl.order x y = some (compare (sv x) (sv y)) := by
  obtain ⟨hx1, hx2⟩ := hx
  obtain ⟨hy1, hy2⟩ := hy
  unfold Format.order
  rcases Nat.lt_or_ge (rg dbl x) 9218868437227405312 with fx | fx
  · obtain ⟨i, m, h1, h2⟩ := read_num fx
    rcases Nat.lt_or_ge (rg dbl y) 9218868437227405312 with fy | fy
    · obtain ⟨j, n, k1, k2⟩ := read_num fy
      rw [h1, k1]
      simp only [Datum.order]
      congr 1
      rw [signed_sv, signed_sv, sv_sgn, sv_sgn, ← h2, ← k2]
      have key : ∀ (b : Nat), b ≤ i → b ≤ j → compare (sgn (sg dbl x) (m * 2 ^ (i - b))) (sgn (sg dbl y) (n * 2 ^ (j - b))) = compare (sgn (sg dbl x) (m * 2 ^ i)) (sgn (sg dbl y) (n * 2 ^ j)) := by
        intro b hb1 hb2
        have e1 : m * 2 ^ i = m * 2 ^ (i - b) * 2 ^ b := by rw [Nat.mul_assoc, ← Nat.pow_add]; congr 2; omega
        have e2 : n * 2 ^ j = n * 2 ^ (j - b) * 2 ^ b := by rw [Nat.mul_assoc, ← Nat.pow_add]; congr 2; omega
        rw [e1, e2, sgn_mul _ _ (2 ^ b), sgn_mul _ _ (2 ^ b), cmp_mul (Nat.two_pow_pos b)]
      have := key (min i j) (Nat.min_le_left _ _) (Nat.min_le_right _ _)
      rw [← this]
      rw [show ((-1074 : Int) + i - min ((-1074 : Int) + (i : Int)) ((-1074 : Int) + (j : Int))).toNat = i - min i j by omega, show ((-1074 : Int) + j - min ((-1074 : Int) + (i : Int)) ((-1074 : Int) + (j : Int))).toNat = j - min i j by omega]
    · have hy3 : rg dbl y = 9218868437227405312 := by omega
      rw [h1, read_infty hy1 hy3]
      simp only [Datum.order]
      congr 1
      unfold sv
      have hlt := mag_lt fx
      rw [hy3]
      simp only [compare, compareOfLessAndEq]
      cases sg dbl y
      · simp only [Bool.false_eq_true, if_false]
        rw [if_pos (by split <;> omega)]
      · simp only [if_true]
        rw [if_neg (by split <;> omega), if_neg (by split <;> omega)]
  · have hx3 : rg dbl x = 9218868437227405312 := by omega
    rcases Nat.lt_or_ge (rg dbl y) 9218868437227405312 with fy | fy
    · obtain ⟨j, n, k1, k2⟩ := read_num fy
      rw [k1, read_infty hx1 hx3]
      simp only [Datum.order]
      congr 1
      unfold sv
      have hlt := mag_lt fy
      rw [hx3]
      simp only [compare, compareOfLessAndEq]
      cases sg dbl x
      · simp only [Bool.false_eq_true, if_false]
        rw [if_neg (by split <;> omega), if_neg (by split <;> omega)]
      · simp only [if_true]
        rw [if_pos (by split <;> omega)]
    · have hy3 : rg dbl y = 9218868437227405312 := by omega
      rw [read_infty hx1 hx3, read_infty hy1 hy3]
      simp only [Datum.order]
      congr 1
      unfold sv
      have hpos : 0 < mag dbl 9218868437227405312 := by
        have := mag_lt (r := 0) (s := 9218868437227405312) (by decide); omega
      rw [hx3, hy3]
      generalize mag dbl 9218868437227405312 = M at hpos
      cases sg dbl x <;> cases sg dbl y <;> simp only [Bool.false_eq_true, if_false, if_true, Bool.toNat_true, Bool.toNat_false, compare, compareOfLessAndEq]
      · rw [if_neg (by omega), if_neg (by omega)]
      · rw [if_neg (by omega), if_neg (by omega), if_neg (by omega), if_neg (by omega)]
      · rw [if_pos (by omega), if_pos (by omega)]
      · rw [if_neg (by omega), if_neg (by omega)]

theorem order_nan {x y : Nat} (h : ¬ (rg dbl x ≤ 9218868437227405312 ∧ rg dbl y ≤ 9218868437227405312)) : dbl.order x y = none := by
  have hn : ∀ z, ¬ rg dbl z ≤ 9218868437227405312 → ∃ a b, dbl.read z = .nan a b := by
    intro z hz
    unfold Format.read
    simp only
    rw [show z % dbl.signWeight = rg dbl z from rfl, dbl_B, dbl_inf, if_neg (by omega), if_neg (by omega), if_neg (by omega)]
    exact ⟨_, _, rfl⟩
  unfold Format.order
  by_cases hx : rg dbl x ≤ 9218868437227405312
  · obtain ⟨a, b, hb⟩ := hn y (fun h2 => h ⟨hx, h2⟩)
    rw [hb]
    cases dbl.read x <;> rfl
  · obtain ⟨a, b, hb⟩ := hn x hx
    rw [hb]
    rfl

theorem flt_sv {x y : Nat} (hx : num x) (hy : num y) : flt .f64 x y = decide (sv x < sv y) := by
  unfold flt
  rw [show FloatKind.f64.format = dbl from rfl, order_sv hx hy]
  simp only [compare, compareOfLessAndEq]
  by_cases h : sv x < sv y
  · rw [if_pos h, decide_eq_true h]; rfl
  · rw [if_neg h, decide_eq_false h]; split <;> rfl
theorem fgt_sv {x y : Nat} (hx : num x) (hy : num y) : fgt .f64 x y = decide (sv y < sv x) := by
  unfold fgt
  rw [show FloatKind.f64.format = dbl from rfl, order_sv hx hy]
  simp only [compare, compareOfLessAndEq]
  by_cases h : sv x < sv y
  · rw [if_pos h, decide_eq_false (by omega)]; rfl
  · rw [if_neg h]
    by_cases h2 : sv x = sv y
    · rw [if_pos h2, decide_eq_false (by omega)]; rfl
    · rw [if_neg h2, decide_eq_true (by omega)]; rfl
theorem feq_sv {x y : Nat} (hx : num x) (hy : num y) : feq .f64 x y = decide (sv x = sv y) := by
  unfold feq
  rw [show FloatKind.f64.format = dbl from rfl, order_sv hx hy]
  simp only [compare, compareOfLessAndEq]
  by_cases h : sv x < sv y
  · rw [if_pos h, decide_eq_false (by omega)]; rfl
  · rw [if_neg h]
    by_cases h2 : sv x = sv y
    · rw [if_pos h2, decide_eq_true h2]; rfl
    · rw [if_neg h2, decide_eq_false h2]; rfl
theorem fle_sv {x y : Nat} (hx : num x) (hy : num y) : fle .f64 x y = decide (sv x ≤ sv y) := by
  have h1 := flt_sv hx hy
  have h2 := feq_sv hx hy
  unfold flt at h1
  unfold feq at h2
  unfold fle
  rw [h1, h2]
  by_cases h : sv x ≤ sv y
  · rw [decide_eq_true h]; simp; omega
  · rw [decide_eq_false h]; simp; omega
theorem fge_sv {x y : Nat} (hx : num x) (hy : num y) : fge .f64 x y = decide (sv y ≤ sv x) := by
  have h1 := fgt_sv hx hy
  have h2 := feq_sv hx hy
  unfold fgt at h1
  unfold feq at h2
  unfold fge
  rw [h1, h2]
  by_cases h : sv y ≤ sv x
  · rw [decide_eq_true h]; simp; omega
  · rw [decide_eq_false h]; simp; omega
theorem num_small {r : Nat} (h : r ≤ 9218868437227405312) : num r ∧ sv r = (mag dbl r : Int) := by
  have := rg_small (r := r) (by omega)
  refine ⟨⟨by omega, by omega⟩, ?_⟩
  unfold sv
  rw [this.1, this.2]
  rfl
end Go.LI.Fl

/-! A whole number times a power of two, as a word. -/
set_option linter.unusedVariables false
set_option maxRecDepth 100000
namespace Go.LI.Fl
open Go Go.LI Ieee

/-- The 53 digits. -/
theorem digits53 {m : Nat} (h0 : m ≠ 0) (hm : m ≤ 2 ^ 53) : ∃ f, 2 ^ 52 ≤ f ∧ f < 2 ^ 53 ∧ f * 2 ^ blen m = m * 2 ^ 53 ∧ blen m ≤ 54 ∧ 1 ≤ blen m := by
  obtain ⟨h1, h2, h3⟩ := blen_pos h0
  have h54 : blen m ≤ 54 := blen_lt.2 (by omega)
  rcases (by omega : blen m ≤ 53 ∨ blen m = 54) with h | h
  · refine ⟨m * 2 ^ (53 - blen m), ?_, ?_, ?_, h54, h3⟩
    · have := Nat.mul_le_mul_right (2 ^ (53 - blen m)) h1
      rw [← Nat.pow_add, show blen m - 1 + (53 - blen m) = 52 by omega] at this
      exact this
    · have := Nat.mul_lt_mul_of_pos_right h2 (Nat.two_pow_pos (53 - blen m))
      rw [← Nat.pow_add, show blen m + (53 - blen m) = 53 by omega] at this
      exact this
    · rw [Nat.mul_assoc, ← Nat.pow_add]; congr 2; omega
  · have hm2 : m = 2 ^ 53 := by rw [h] at h1; exact Nat.le_antisymm hm h1
    refine ⟨2 ^ 52, Nat.le_refl _, by decide, ?_, h54, h3⟩
    rw [h, hm2]

theorem pow_swap {f b m t q : Nat} (h : f * 2 ^ b = m * 2 ^ 53) (hq : q + 53 = t + b) : f * 2 ^ q = m * 2 ^ t := by
  have : f * 2 ^ q * 2 ^ 53 = m * 2 ^ t * 2 ^ 53 := by
    rw [Nat.mul_assoc, ← Nat.pow_add, hq, Nat.add_comm t b, Nat.pow_add, ← Nat.mul_assoc, h, Nat.mul_right_comm]
  exact Nat.eq_of_mul_eq_mul_right (by decide) this

/-- The rung of a number that is not below the normal ones. -/
theorem rung_normal {m t f q : Nat} (hf1 : 2 ^ 52 ≤ f) (hf2 : f < 2 ^ 53) (hf : f * 2 ^ blen m = m * 2 ^ 53) (hq : q + 53 = t + blen m) : floorR (m * 2 ^ t) = q * 2 ^ 52 + f := by
  have := pow_swap hf hq
  refine floorR_of ?_ ?_ hf2 (.inr hf1)
  · rw [this]; exact Nat.le_refl _
  · rw [← this]; exact Nat.mul_lt_mul_of_pos_right (by omega) (Nat.two_pow_pos q)

theorem min_inf {M : Nat} : min (floorR M) 9218868437227405312 = if blen M ≤ 2098 then floorR M else 9218868437227405312 := by
  have := @floorR_inf M
  split
  · rename_i h; have := this.2 h; omega
  · rename_i h
    have : ¬ floorR M < 9218868437227405312 := fun hh => h (this.1 hh)
    omega

theorem mag_pow (q : Nat) : mag dbl (q * 2 ^ 52 + 4503599627370496) = 4503599627370496 * 2 ^ q := mag_form (q := q) (m := 4503599627370496) (by decide) (.inr (by decide))
theorem mul_one_gen {q x : Nat} (hq : q = 1022) (hx : x < 9218868437227405312) : dbl.mul (q * 2 ^ 52 + 4503599627370496) x = some x := by
  refine mul_exact (by omega) hx hx ?_
  rw [mag_pow, Nat.mul_comm, show (4503599627370496 : Nat) = 2 ^ 52 from rfl, ← Nat.pow_add, show 52 + q = 1074 by omega]
theorem mul_one_word {x : Nat} (hx : x < 9218868437227405312) : dbl.mul 4607182418800017408 x = some x := mul_one_gen (q := 1022) rfl hx

/-- A small one by 2 ^ -53. -/
theorem mul_small_gen {f q r s : Nat} (hs : s = 969) (hf1 : 2 ^ 52 ≤ f) (hf2 : f < 2 ^ 53) (hq : q ≤ 2044) (hr : r < 2 ^ 52) (h : f * 2 ^ q = r * 2 ^ 53) : dbl.mul (s * 2 ^ 52 + 4503599627370496) (q * 2 ^ 52 + f) = some r := by
  refine mul_exact (by omega) (by omega) (by omega) ?_
  rw [mag_pow, mag_form (by omega) (.inr hf1), h, mag_small dbl (by rw [dbl_B]; exact hr), show (4503599627370496 : Nat) = 2 ^ 52 from rfl, Nat.mul_comm (2 ^ 52 * 2 ^ s), Nat.mul_assoc, ← Nat.pow_add, ← Nat.pow_add, show 53 + (52 + s) = 1074 by omega]
theorem mul_small {f q r : Nat} (hf1 : 2 ^ 52 ≤ f) (hf2 : f < 2 ^ 53) (hq : q ≤ 2044) (hr : r < 2 ^ 52) (h : f * 2 ^ q = r * 2 ^ 53) : dbl.mul 4368491638549381120 (q * 2 ^ 52 + f) = some r := mul_small_gen (s := 969) rfl hf1 hf2 hq hr h
end Go.LI.Fl

/-! A number of 128 bits with a rest, rounded. -/
set_option linter.unusedVariables false
set_option maxRecDepth 100000
namespace Go.LI.Fl
open Go Go.LI Ieee

/-- N * 2^p / 2^s (and less than one of its last bit more, if 'more') is A/B. -/
def RepN (N p s : Nat) (more : Bool) (A B : Nat) : Prop :=
  N * 2 ^ p * B ≤ A * 2 ^ s ∧ A * 2 ^ s < (N + 1) * 2 ^ p * B ∧ (more = true ↔ N * 2 ^ p * B ≠ A * 2 ^ s)

theorem RepN.shift {N p s : Nat} {more : Bool} {A B : Nat} (hB : 0 < B) (h : RepN N p s more A B) (n : Nat) : RepN (N / 2 ^ n) (p + n) s (more || decide (N % 2 ^ n ≠ 0)) A B := by
  obtain ⟨h1, h2, h3⟩ := h
  have hd := Nat.div_add_mod N (2 ^ n)
  have hm := Nat.mod_lt N (Nat.two_pow_pos n)
  have e1 : N / 2 ^ n * 2 ^ (p + n) * B = 2 ^ n * (N / 2 ^ n) * 2 ^ p * B := by rw [Nat.pow_add]; ac_rfl
  have e2 : (N / 2 ^ n + 1) * 2 ^ (p + n) * B = (2 ^ n * (N / 2 ^ n) + 2 ^ n) * 2 ^ p * B := by
    have e0 : 2 ^ n * (N / 2 ^ n) + 2 ^ n = 2 ^ n * (N / 2 ^ n + 1) := by rw [Nat.mul_add, Nat.mul_one]
    rw [Nat.pow_add, e0]
    generalize N / 2 ^ n + 1 = z
    ac_rfl
  have hp : 0 < 2 ^ p * B := Nat.mul_pos (Nat.two_pow_pos p) hB
  refine ⟨?_, ?_, ?_⟩
  · rw [e1]
    refine Nat.le_trans ?_ h1
    exact Nat.mul_le_mul_right _ (Nat.mul_le_mul_right _ (by omega))
  · rw [e2]
    refine Nat.lt_of_lt_of_le h2 ?_
    exact Nat.mul_le_mul_right _ (Nat.mul_le_mul_right _ (by omega))
  · rw [e1]
    by_cases hz : N % 2 ^ n = 0
    · rw [show 2 ^ n * (N / 2 ^ n) = N by omega, decide_eq_false (by omega), Bool.or_false]
      exact h3
    · rw [decide_eq_true hz, Bool.or_true]
      refine ⟨fun _ => ?_, fun _ => rfl⟩
      have : 2 ^ n * (N / 2 ^ n) * 2 ^ p * B < N * 2 ^ p * B := Nat.mul_lt_mul_of_pos_right (Nat.mul_lt_mul_of_pos_right (by omega) (Nat.two_pow_pos p)) hB
      omega
theorem RepN.cancel {N q s : Nat} {more : Bool} {A B : Nat} (h : RepN N (q + s) s more A B) : RepN N q 0 more A B := by
  obtain ⟨h1, h2, h3⟩ := h
  have hs := Nat.two_pow_pos s
  have e1 : N * 2 ^ (q + s) * B = N * 2 ^ q * B * 2 ^ s := by rw [Nat.pow_add]; ac_rfl
  have e2 : (N + 1) * 2 ^ (q + s) * B = (N + 1) * 2 ^ q * B * 2 ^ s := by rw [Nat.pow_add]; ac_rfl
  rw [e1] at h1 h3
  rw [e2] at h2
  refine ⟨?_, ?_, ?_⟩
  · rw [Nat.pow_zero, Nat.mul_one]; exact Nat.le_of_mul_le_mul_right h1 hs
  · rw [Nat.pow_zero, Nat.mul_one]; exact Nat.lt_of_mul_lt_mul_right h2
  · rw [Nat.pow_zero, Nat.mul_one, h3]
    refine not_congr ⟨fun h => Nat.eq_of_mul_eq_mul_right hs h, fun h => by rw [h]⟩

theorem floorR_inv (r : Nat) : floorR (mag dbl r) = r := by
  obtain ⟨q, m, rfl, h1, h2⟩ := rung_form r
  rw [mag_form (by omega) h2]
  exact floorR_of (Nat.le_refl _) (Nat.mul_lt_mul_of_pos_right (by omega) (Nat.two_pow_pos q)) h1 h2

/-- What is kept, and what it is rounded to. -/
theorem rndR_of {N q : Nat} {more : Bool} {A B : Nat} (hB : 0 < B) (h : RepN N q 0 more A B) (hN : N < 2 ^ 53) (hc : (q = 0 ∨ 2 ^ 52 ≤ N) ∨ more = false) (grow : Bool) :
    rndR A B grow = floorR ((N + if more = true ∧ grow = true then 1 else 0) * 2 ^ q) := by
  obtain ⟨h1, h2, h3⟩ := h
  rw [Nat.pow_zero, Nat.mul_one] at h1 h2 h3
  have d1 : N * 2 ^ q ≤ A / B := (Nat.le_div_iff_mul_le hB).2 h1
  have d2 : A / B < (N + 1) * 2 ^ q := (Nat.div_lt_iff_lt_mul hB).2 h2
  unfold rndR
  rcases hc with hc | hc
  · have hf := floorR_of d1 d2 hN hc
    have hm := mag_form (q := q) (m := N) (by omega) hc
    rw [hf, hm]
    cases hmo : more with
    | false =>
      have : ¬ (N * 2 ^ q * B ≠ A) := fun hh => by have := h3.2 hh; rw [hmo] at this; cases this
      rw [if_neg (by rintro ⟨_, hh⟩; exact this hh), if_neg (by rintro ⟨hh, _⟩; cases hh), Nat.add_zero, Nat.add_zero, ← hm, floorR_inv]
    | true =>
      have hne := h3.1 hmo
      cases grow with
      | false =>
        rw [if_neg (by rintro ⟨hh, _⟩; cases hh), if_neg (by rintro ⟨_, hh⟩; cases hh), Nat.add_zero, Nat.add_zero, ← hm, floorR_inv]
      | true =>
        have hm1 := mag_form (q := q) (m := N + 1) (by omega) (by omega)
        rw [if_pos ⟨rfl, hne⟩, if_pos ⟨rfl, rfl⟩, ← hm1, floorR_inv]
        omega
  · subst hc
    have heq : N * 2 ^ q * B = A := by
      rcases Nat.decEq (N * 2 ^ q * B) A with hh | hh
      · have := h3.2 hh; cases this
      · exact hh
    have hdiv : A / B = N * 2 ^ q := by rw [← heq, Nat.mul_div_cancel _ hB]
    rw [hdiv, floorR_mul (by omega), if_neg (by rintro ⟨_, hh⟩; exact hh heq), if_neg (by rintro ⟨hh, _⟩; cases hh), Nat.add_zero, Nat.add_zero]
end Go.LI.Fl

/-! Sums of numbers of 128 bits. -/
set_option linter.unusedVariables false
set_option maxRecDepth 100000
namespace Go.LI.Fl
open Go Go.LI Ieee

/-- A word's parts. -/
structure FOk (neg : Bool) (N : Nat) (e : Int) (v : Int) : Prop where
  hN : N < 2 ^ 53
  e1 : -1074 ≤ e
  e2 : e ≤ 971
  hv : v = sgn neg (N * 2 ^ (e + 1074).toNat)
/-- A number of 128 bits that stands for S. -/
structure WOk (neg : Bool) (N : Nat) (e : Int) (more : Bool) (S : Int) : Prop where
  hN : N < 2 ^ 128
  e1 : -20000 ≤ e
  e2 : e ≤ 20000
  rep : ∃ p s : Nat, (p : Int) - s = e + 1074 ∧ RepN N p s more S.natAbs 1
  hm : more = true → 54 ≤ blen N
  hs : S ≠ 0 → neg = decide (S < 0)

theorem sgn_abs (s : Bool) (M : Nat) : (sgn s M).natAbs = M := by
  unfold sgn; cases s <;> simp
theorem rep_exact {N p s V : Nat} (h : N * 2 ^ p = V * 2 ^ s) : RepN N p s false V 1 := by
  refine ⟨by rw [Nat.mul_one, h]; exact Nat.le_refl _, ?_, ?_⟩
  · rw [Nat.mul_one, ← h]; exact Nat.mul_lt_mul_of_pos_right (by omega) (Nat.two_pow_pos p)
  · rw [Nat.mul_one, h]; simp

theorem rep_add {N M p s V U : Nat} {more : Bool} (h : N * 2 ^ p = V * 2 ^ s) (k : RepN M p s more U 1) : RepN (N + M) p s more (V + U) 1 := by
  obtain ⟨k1, k2, k3⟩ := k
  rw [Nat.mul_one] at k1 k2 k3
  refine ⟨?_, ?_, ?_⟩
  · rw [Nat.mul_one, Nat.add_mul, Nat.add_mul, h]; omega
  · rw [Nat.mul_one, Nat.add_assoc, Nat.add_mul N, Nat.add_mul V, h]; omega
  · rw [Nat.mul_one, Nat.add_mul, Nat.add_mul, h, k3]; omega
theorem rep_sub {N M p s V U : Nat} {more : Bool} (h : N * 2 ^ p = V * 2 ^ s) (k : RepN M p s more U 1) (hd : M + (if more = true then 1 else 0) ≤ N) : U ≤ V ∧ RepN (N - M - (if more = true then 1 else 0)) p s more (V - U) 1 := by
  obtain ⟨k1, k2, k3⟩ := k
  rw [Nat.mul_one] at k1 k2 k3
  have hp := Nat.two_pow_pos p
  have hle : U * 2 ^ s ≤ V * 2 ^ s := by
    rw [← h]
    cases more with
    | false =>
      have : ¬ (M * 2 ^ p ≠ U * 2 ^ s) := fun hh => by have := k3.2 hh; cases this
      have he : M * 2 ^ p = U * 2 ^ s := by omega
      rw [← he]; exact Nat.mul_le_mul_right _ (by simpa using hd)
    | true =>
      have := Nat.mul_le_mul_right (2 ^ p) (show M + 1 ≤ N by simpa using hd)
      omega
  have hUV : U ≤ V := Nat.le_of_mul_le_mul_right hle (Nat.two_pow_pos s)
  refine ⟨hUV, ?_⟩
  have hVU : (V - U) * 2 ^ s = V * 2 ^ s - U * 2 ^ s := Nat.sub_mul _ _ _
  cases more with
  | false =>
    have : ¬ (M * 2 ^ p ≠ U * 2 ^ s) := fun hh => by have := k3.2 hh; cases this
    refine rep_exact ?_
    simp only [Bool.false_eq_true, if_false, Nat.sub_zero]
    rw [hVU, Nat.sub_mul, h]
    omega
  | true =>
    have hne := k3.1 rfl
    simp only [if_true] at hd ⊢
    have e1 : (N - M - 1) * 2 ^ p = N * 2 ^ p - M * 2 ^ p - 2 ^ p := by rw [Nat.sub_mul, Nat.sub_mul, Nat.one_mul]
    have e2 : (N - M - 1 + 1) * 2 ^ p = N * 2 ^ p - M * 2 ^ p := by rw [show N - M - 1 + 1 = N - M by omega, Nat.sub_mul]
    have e3 := Nat.mul_le_mul_right (2 ^ p) hd
    rw [Nat.add_mul, Nat.one_mul] at e3 k2
    refine ⟨?_, ?_, ?_⟩
    · rw [Nat.mul_one, e1, hVU]; omega
    · rw [Nat.mul_one, e2, hVU]; omega
    · rw [Nat.mul_one, e1, hVU]
      exact ⟨fun _ => by omega, fun _ => rfl⟩
theorem rep_rev {N M p s V U : Nat} (h : N * 2 ^ p = V * 2 ^ s) (k : RepN M p s false U 1) (hd : N < M) : V < U ∧ RepN (M - N) p s false (U - V) 1 := by
  obtain ⟨k1, k2, k3⟩ := k
  rw [Nat.mul_one] at k1 k2 k3
  have : ¬ (M * 2 ^ p ≠ U * 2 ^ s) := fun hh => by have := k3.2 hh; cases this
  have he : M * 2 ^ p = U * 2 ^ s := by omega
  have hlt : V * 2 ^ s < U * 2 ^ s := by rw [← h, ← he]; exact Nat.mul_lt_mul_of_pos_right hd (Nat.two_pow_pos p)
  refine ⟨Nat.lt_of_mul_lt_mul_right hlt, rep_exact ?_⟩
  rw [Nat.sub_mul, Nat.sub_mul, h, he]

theorem pow_comm {N i p q s : Nat} (h : i + p = q + s) : N * 2 ^ i * 2 ^ p = N * 2 ^ q * 2 ^ s := by
  rw [Nat.mul_assoc, Nat.mul_assoc, ← Nat.pow_add, ← Nat.pow_add, h]

/-- The lesser one, laid beside the greater. -/
theorem lay_right {Nb pb j pa s : Nat} (h : pb + s + j = pa) : RepN (Nb / 2 ^ j) pa s (decide (Nb % 2 ^ j ≠ 0)) (Nb * 2 ^ pb) 1 := by
  have h0 : RepN Nb (pb + s) s false (Nb * 2 ^ pb) 1 := rep_exact (by rw [Nat.pow_add, Nat.mul_assoc])
  have := h0.shift (by decide) j
  rw [h, Bool.false_or] at this
  exact this

/-- The sum's word when the signs are alike. -/
theorem sum_same {n : Bool} {N M p s V U : Nat} {e : Int} {more : Bool} (hps : (p : Int) - s = e + 1074) (he1 : -20000 ≤ e) (he2 : e ≤ 20000) (h : N * 2 ^ p = V * 2 ^ s) (k : RepN M p s more U 1) (hN : 2 ^ 125 ≤ N) (hN2 : N < 2 ^ 126) (hM : M < 2 ^ 126) :
    WOk n (N + M) e more (sgn n V + sgn n U) := by
  have hS : sgn n V + sgn n U = sgn n (V + U) := by unfold sgn; cases n <;> simp <;> omega
  have hr := rep_add h k
  refine ⟨by omega, he1, he2, ⟨p, s, hps, by rw [hS, sgn_abs]; exact hr⟩, fun _ => ?_, fun h0 => ?_⟩
  · have := blen_ge.2 (show 2 ^ 125 ≤ N + M by omega); omega
  · rw [hS] at h0 ⊢
    unfold sgn at h0 ⊢
    cases n
    · simp only [Bool.false_eq_true, if_false] at h0 ⊢; exact (decide_eq_false (by omega)).symm
    · simp only [if_true] at h0 ⊢; exact (decide_eq_true (by omega)).symm
theorem sum_diff {n : Bool} {N M p s V U : Nat} {e : Int} {more : Bool} (hps : (p : Int) - s = e + 1074) (he1 : -20000 ≤ e) (he2 : e ≤ 20000) (h : N * 2 ^ p = V * 2 ^ s) (k : RepN M p s more U 1) (hN : 2 ^ 125 ≤ N) (hN2 : N < 2 ^ 126) (hM : M < 2 ^ 126) (hmo : more = true → M < 2 ^ 53) :
    (M + (if more = true then 1 else 0) ≤ N → WOk n (N - M - (if more = true then 1 else 0)) e more (sgn n V + sgn (!n) U)) ∧ (N < M + (if more = true then 1 else 0) → more = false ∧ WOk (!n) (M - N) e false (sgn n V + sgn (!n) U)) := by
  constructor
  · intro hd
    obtain ⟨hUV, hr⟩ := rep_sub h k hd
    have hS : sgn n V + sgn (!n) U = sgn n (V - U) := by unfold sgn; cases n <;> simp <;> omega
    refine ⟨by omega, he1, he2, ⟨p, s, hps, by rw [hS, sgn_abs]; exact hr⟩, fun hm => ?_, fun h0 => ?_⟩
    · have := hmo hm
      rw [if_pos hm]
      have := blen_ge.2 (show 2 ^ 54 ≤ N - M - 1 by omega)
      omega
    · rw [hS] at h0 ⊢
      unfold sgn at h0 ⊢
      cases n
      · simp only [Bool.false_eq_true, if_false] at h0 ⊢; exact (decide_eq_false (by omega)).symm
      · simp only [if_true] at h0 ⊢; exact (decide_eq_true (by omega)).symm
  · intro hd
    have hmf : more = false := by
      cases more with
      | false => rfl
      | true => have := hmo rfl; simp only [if_true] at hd; omega
    subst hmf
    refine ⟨rfl, ?_⟩
    have hd' : N < M := by simpa using hd
    obtain ⟨hVU, hr⟩ := rep_rev h k hd'
    have hS : sgn n V + sgn (!n) U = sgn (!n) (U - V) := by unfold sgn; cases n <;> simp <;> omega
    refine ⟨by omega, he1, he2, ⟨p, s, hps, by rw [hS, sgn_abs]; exact hr⟩, fun hm => (by cases hm), fun h0 => ?_⟩
    rw [hS] at h0 ⊢
    unfold sgn at h0 ⊢
    cases n
    · simp only [Bool.not_false, if_true] at h0 ⊢; exact (decide_eq_true (by omega)).symm
    · simp only [Bool.not_true, Bool.false_eq_true, if_false] at h0 ⊢; exact (decide_eq_false (by omega)).symm

/-- 128 bits are added and taken away in two steps. -/
theorem add128 {N M : Nat} (h : N + M < 2 ^ 128) :
    (N % 2 ^ 64 + M % 2 ^ 64 + 0) % 2 ^ 64 = (N + M) % 2 ^ 64 ∧ (N / 2 ^ 64 + M / 2 ^ 64 + (N % 2 ^ 64 + M % 2 ^ 64 + 0) / 2 ^ 64) % 2 ^ 64 = (N + M) / 2 ^ 64 := by omega
end Go.LI.Fl

/-! float32: what conversions give. -/
set_option linter.unusedVariables false
set_option maxRecDepth 100000
set_option exponentiation.threshold 2000
namespace Go.LI.Fl
open Go Go.LI Ieee

theorem sgl_inf : sgl.infRung = 2139095040 := by decide +kernel
theorem sgl_sw : sgl.signWeight = 2 ^ 31 := by decide +kernel
theorem sgl_L : sgl.leastPlace = -149 := by decide +kernel
theorem sgl_B : sgl.binade = 2 ^ 23 := by decide +kernel

/-- The least float32 in units of the least float64. -/
def un : Nat := 2 ^ 925
theorem un_eq : ∃ p, p = 925 ∧ un = 2 ^ p := ⟨925, rfl, rfl⟩
theorem un_pos : 0 < un := Nat.two_pow_pos _
/-- The rung of the greatest float32, and its size. -/
def maxr : Nat := 2139095039
def topV : Nat := mag sgl maxr * un
def top : Nat := 5183643170566569984
/-- The rung of the float32 nearest to a size. -/
def nr (M : Nat) : Nat := sgl.nearest false M (-1074)

theorem near_any (s : Bool) (m : Nat) (i : Nat) : ∃ r, sgl.nearest s m (-1074 + (i : Int)) = sgl.word s (min r 2139095040) ∧ Near sgl (m * 2 ^ i) un r := by
  obtain ⟨r, h1, h2⟩ := nearest_spec sgl (by rw [sgl_B]) s m (-1074 + (i : Int))
  rw [sgl_inf] at h1
  refine ⟨r, h1, ?_⟩
  rw [sgl_L] at h2
  obtain ⟨p, hp, hu⟩ := un_eq
  rw [hu]
  have e : Near sgl (m * 2 ^ (-1074 + (i : Int) - -149).toNat * 2 ^ min i p) (2 ^ (-149 - (-1074 + (i : Int))).toNat * 2 ^ min i p) r := (Near.scale (Nat.two_pow_pos _)).2 h2
  rw [Nat.mul_assoc, ← Nat.pow_add, ← Nat.pow_add] at e
  rw [show (-1074 + (i : Int) - -149).toNat + min i p = i by omega, show (-149 - (-1074 + (i : Int))).toNat + min i p = p by omega] at e
  exact e
theorem nr_near {M : Nat} (h : M ≤ topV) : Near sgl M un (nr M) ∧ nr M ≤ maxr := by
  obtain ⟨r, h1, h2⟩ := near_any false M 0
  rw [Nat.pow_zero, Nat.mul_one] at h2
  have hr : r ≤ maxr := h2.mono un_pos (Near.exact un_pos) h
  have : nr M = r := by
    unfold nr
    have h1' : sgl.nearest false M (-1074) = sgl.word false (min r 2139095040) := h1
    rw [h1', Nat.min_eq_left (by unfold maxr at hr; omega)]
    rfl
  rw [this]
  exact ⟨h2, hr⟩
theorem nr_exact {r : Nat} (h : r ≤ maxr) : nr (mag sgl r * un) = r := by
  have hle : mag sgl r * un ≤ topV := Nat.mul_le_mul_right _ (mag_leF sgl h)
  exact (nr_near hle).1.uniq un_pos (Near.exact un_pos)
theorem nr_mono {M N : Nat} (h : M ≤ N) (hN : N ≤ topV) : nr M ≤ nr N := (nr_near (Nat.le_trans h hN)).1.mono un_pos (nr_near hN).1 h

/-- A float32's rung as a float64's. -/
def up (r : Nat) : Nat := floorR (mag sgl r * un)
theorem mag_up (r : Nat) : mag dbl (up r) = mag sgl r * un := by
  obtain ⟨q, k, hr, h1, h2⟩ := rung_formF sgl r
  obtain ⟨p, hp, hu⟩ := un_eq
  rw [sgl_B] at h1 h2 hr
  have hm : mag sgl r = k * 2 ^ q := by
    rw [hr, ← sgl_B]
    exact mag_formF sgl (by rw [sgl_B]; omega) (by rw [sgl_B]; exact h2)
  unfold up
  rw [hm, hu, Nat.mul_assoc, ← Nat.pow_add]
  exact floorR_mul (by omega)
theorem up_lt {r : Nat} (h : r ≤ 2139095040) : up r < 9218868437227405312 := by
  obtain ⟨q, k, hr, h1, h2⟩ := rung_formF sgl r
  obtain ⟨p, hp, hu⟩ := un_eq
  rw [sgl_B] at h1 h2 hr
  have hm : mag sgl r = k * 2 ^ q := by
    rw [hr, ← sgl_B]
    exact mag_formF sgl (by rw [sgl_B]; omega) (by rw [sgl_B]; exact h2)
  unfold up
  rw [hm, hu, Nat.mul_assoc, ← Nat.pow_add]
  refine nat_rung (by omega) ?_
  have : q * 2 ^ 23 ≤ 2139095040 := by omega
  omega
theorem up_zero : up 0 = 0 := by
  unfold up
  rw [(mag_zero sgl).2 rfl, Nat.zero_mul]
  rfl
theorem up_pos {r : Nat} (h : r ≠ 0) : up r ≠ 0 := by
  intro hc
  have h1 := mag_up r
  rw [hc, (mag_zero dbl).2 rfl] at h1
  rcases Nat.mul_eq_zero.1 h1.symm with h2 | h2
  · exact h ((mag_zero sgl).1 h2)
  · have := un_pos; omega

theorem f2f_down {x : Nat} (hf : rg dbl x < 9218868437227405312) (hM : mag dbl (rg dbl x) ≤ topV) : f2f .f64 x .f32 = some (sgl.word (sg dbl x) (nr (mag dbl (rg dbl x)))) := by
  obtain ⟨i, m, h1, h2⟩ := read_num hf
  obtain ⟨r, h3, h4⟩ := near_any (sg dbl x) m i
  rw [h2] at h4
  have hn := nr_near hM
  have hr : r = nr (mag dbl (rg dbl x)) := h4.uniq un_pos hn.1
  have hmx : nr (mag dbl (rg dbl x)) ≤ 2139095039 := hn.2
  rw [hr, Nat.min_eq_left (by omega)] at h3
  unfold f2f
  rw [if_neg (by decide)]
  have hd : FloatKind.decode .f64 x = .number (sg dbl x) m (-1074 + i) := h1
  rw [hd]
  simp only
  have he : FloatKind.encode .f32 (.number (sg dbl x) m (-1074 + i)) = sgl.word (sg dbl x) (nr (mag dbl (rg dbl x))) := h3
  rw [he]
  obtain ⟨m', e', k1, _⟩ := read_word sgl (neg := sg dbl x) (r := nr (mag dbl (rg dbl x))) (by rw [sgl_inf]; omega)
  have hd2 : FloatKind.decode .f32 (sgl.word (sg dbl x) (nr (mag dbl (rg dbl x)))) = .number (sg dbl x) m' e' := k1
  rw [hd2, if_neg (by simp [Datum.isInfinity])]
theorem f2f_up {s : Bool} {r : Nat} (hr : r ≤ maxr) : f2f .f32 (sgl.word s r) .f64 = some (dbl.word s (up r)) := by
  have hr' : r ≤ 2139095039 := hr
  obtain ⟨m, e, k1, k2, k3⟩ := read_word sgl (neg := s) (r := r) (by rw [sgl_inf]; omega)
  rw [sgl_L] at k2 k3
  unfold f2f
  rw [if_neg (by decide)]
  have hd : FloatKind.decode .f32 (sgl.word s r) = .number s m e := k1
  rw [hd]
  simp only
  have hne : dbl.nearest s m e = dbl.word s (up r) := by
    refine nearest_exact dbl (Nat.le_of_lt (fin_lt (up_lt (by omega)))) ?_
    rw [mag_up, dbl_L, show ((-1074 : Int) - e).toNat = 0 by omega, Nat.pow_zero, Nat.mul_one, ← k3]
    obtain ⟨p, hp, hu⟩ := un_eq
    rw [hu, Nat.mul_assoc, ← Nat.pow_add]
    congr 2
    omega
  have he : FloatKind.encode .f64 (.number s m e) = dbl.word s (up r) := hne
  rw [he]
  obtain ⟨m', e', k1, _⟩ := read_word dbl (neg := s) (r := up r) (fin_lt (up_lt (by omega)))
  have hd2 : FloatKind.decode .f64 (dbl.word s (up r)) = .number s m' e' := k1
  rw [hd2, if_neg (by simp [Datum.isInfinity])]
theorem f2f_up_inf (s : Bool) : f2f .f32 (sgl.word s 2139095040) .f64 = some (dbl.word s 9218868437227405312) := by cases s <;> decide +kernel
theorem f2f_down_inf (s : Bool) : f2f .f64 (dbl.word s 9218868437227405312) .f32 = some (sgl.word s 2139095040) := by cases s <;> decide +kernel

theorem sv_word {s : Bool} {r : Nat} (h : r < 2 ^ 63) : sv (dbl.word s r) = sgn s (mag dbl r) := by
  have h' : r < dbl.signWeight := by rw [dbl_sw]; exact h
  rw [sv_sgn, sg_word dbl h', rg_word dbl h']
theorem word_lt64 {s : Bool} {r : Nat} (h : r < 2 ^ 63) : dbl.word s r < 2 ^ 64 := by
  have := (word_split dbl (neg := s) (r := r) (by rw [dbl_sw]; exact h)).2.2
  rw [dbl_sw] at this
  omega
theorem rg_word' {s : Bool} {r : Nat} (h : r < 2 ^ 63) : rg dbl (dbl.word s r) = r := rg_word dbl (by rw [dbl_sw]; exact h)
theorem sg_word' {s : Bool} {r : Nat} (h : r < 2 ^ 63) : sg dbl (dbl.word s r) = s := sg_word dbl (by rw [dbl_sw]; exact h)
theorem word_self {x : Nat} (h : x < 2 ^ 64) : dbl.word (sg dbl x) (rg dbl x) = x := word_sr dbl (by rw [dbl_sw]; omega)
theorem sv_inj {x y : Nat} (hx : x < 2 ^ 64) (hy : y < 2 ^ 64) (h : sv x = sv y) (h0 : sv y ≠ 0) : x = y := by
  rw [sv_sgn, sv_sgn] at h
  rw [sv_sgn] at h0
  unfold sgn at h h0
  have hm : mag dbl (rg dbl x) = mag dbl (rg dbl y) := by
    split at h <;> split at h <;> omega
  have hs : sg dbl x = sg dbl y := by
    cases h1 : sg dbl x <;> cases h2 : sg dbl y
    · rfl
    · rw [h1, h2] at h; rw [h2] at h0; simp at h h0; omega
    · rw [h1, h2] at h; rw [h2] at h0; simp at h h0; omega
    · rfl
  rw [← word_self hx, ← word_self hy, hs, mag_inj hm]

theorem top_up : up maxr = top := by decide +kernel
theorem top_num : num top ∧ sv top = (topV : Int) := by
  have h := num_small (r := top) (by decide)
  refine ⟨h.1, ?_⟩
  rw [h.2, ← top_up, mag_up]
  rfl
def ntop : Nat := 14407015207421345792
theorem ntop_word : dbl.word true top = ntop := by decide +kernel
theorem ntop_num : num ntop ∧ sv ntop = -(topV : Int) := by
  have h : top < 2 ^ 63 := by decide
  refine ⟨⟨by decide, ?_⟩, ?_⟩
  · rw [← ntop_word, rg_word' h]; decide
  · rw [← ntop_word, sv_word h, ← top_up, mag_up]
    rfl
theorem topV_pos : 0 < topV := by
  refine Nat.mul_pos (Nat.pos_of_ne_zero fun h => ?_) un_pos
  exact absurd ((mag_zero sgl).1 h) (by decide)

/-- A number, not beyond the greatest float32. -/
def clip (x : Nat) : Nat := if (topV : Int) ≤ sv x then top else if sv x ≤ -(topV : Int) then ntop else x
theorem cmpI (a b : Int) : (a < b → compare a b = .lt) ∧ (a = b → compare a b = .eq) ∧ (b < a → compare a b = .gt) := by
  refine ⟨fun h => ?_, fun h => ?_, fun h => ?_⟩
  · simp only [compare, compareOfLessAndEq]; rw [if_pos h]
  · subst h; simp [compare, compareOfLessAndEq]
  · simp only [compare, compareOfLessAndEq]; rw [if_neg (show ¬ a < b by omega), if_neg (show ¬ a = b by omega)]
theorem fmin_top {x : Nat} (hx : num x) : fmin .f64 x top = some (if sv x < topV then x else top) := by
  unfold fmin
  have ho : (FloatKind.format .f64).order x top = some (compare (sv x) (sv top)) := order_sv hx top_num.1
  rw [ho, top_num.2]
  rcases Int.lt_trichotomy (sv x) topV with h | h | h
  · rw [if_pos (c := sv x < (topV : Int)) h, (cmpI _ _).1 h]
  · have : x = top := sv_inj hx.1 top_num.1.1 (h.trans top_num.2.symm) (by rw [top_num.2]; have := topV_pos; omega)
    rw [if_neg (c := sv x < (topV : Int)) (by omega), (cmpI _ _).2.1 h, this]
    simp
  · rw [if_neg (c := sv x < (topV : Int)) (by omega), (cmpI _ _).2.2 h]
theorem fmax_ntop {x : Nat} (hx : num x) : fmax .f64 x ntop = some (if -(topV : Int) < sv x then x else ntop) := by
  unfold fmax
  have ho : (FloatKind.format .f64).order x ntop = some (compare (sv x) (sv ntop)) := order_sv hx ntop_num.1
  rw [ho, ntop_num.2]
  rcases Int.lt_trichotomy (sv x) (-(topV : Int)) with h | h | h
  · rw [if_neg (c := -(topV : Int) < sv x) (by omega), (cmpI _ _).1 h]
  · have : x = ntop := sv_inj hx.1 ntop_num.1.1 (h.trans ntop_num.2.symm) (by rw [ntop_num.2]; have := topV_pos; omega)
    rw [if_neg (c := -(topV : Int) < sv x) (by omega), (cmpI _ _).2.1 h, this]
    simp
  · rw [if_pos (c := -(topV : Int) < sv x) h, (cmpI _ _).2.2 h]
theorem clip_min {x : Nat} (hx : num x) : (fmin .f64 x top).bind (fun r => fmax .f64 r ntop) = some (clip x) := by
  rw [fmin_top hx, Option.bind_some]
  unfold clip
  have hp := topV_pos
  by_cases h : sv x < topV
  · rw [if_pos h, fmax_ntop hx, if_neg (c := (topV : Int) ≤ sv x) (by omega)]
    by_cases h2 : -(topV : Int) < sv x
    · rw [if_pos h2, if_neg (c := sv x ≤ -(topV : Int)) (by omega)]
    · rw [if_neg h2, if_pos (c := sv x ≤ -(topV : Int)) (by omega)]
  · rw [if_neg h, fmax_ntop top_num.1, top_num.2, if_pos (c := -(topV : Int) < topV) (by omega), if_pos (c := (topV : Int) ≤ sv x) (by omega)]
theorem clip_ok {x : Nat} (hx : num x) : clip x < 2 ^ 64 ∧ rg dbl (clip x) < 9218868437227405312 ∧ mag dbl (rg dbl (clip x)) ≤ topV := by
  have small : ∀ {y : Nat}, num y → (sv y).natAbs ≤ topV → y < 2 ^ 64 ∧ rg dbl y < 9218868437227405312 ∧ mag dbl (rg dbl y) ≤ topV := by
    intro y hy h
    have hm : mag dbl (rg dbl y) ≤ topV := by
      rw [sv_sgn] at h
      unfold sgn at h
      split at h <;> omega
    refine ⟨hy.1, ?_, hm⟩
    rcases Nat.lt_or_ge (rg dbl y) 9218868437227405312 with h' | h'
    · exact h'
    · exfalso
      have h1 : mag dbl top < mag dbl (rg dbl y) := mag_lt (by unfold top; omega)
      rw [← top_up, mag_up] at h1
      have : topV = mag sgl maxr * un := rfl
      omega
  unfold clip
  by_cases h1 : (topV : Int) ≤ sv x
  · rw [if_pos h1]; exact small top_num.1 (by rw [top_num.2]; omega)
  · rw [if_neg h1]
    by_cases h2 : sv x ≤ -(topV : Int)
    · rw [if_pos h2]; exact small ntop_num.1 (by rw [ntop_num.2]; omega)
    · rw [if_neg h2]; exact small hx (by omega)

/-- The nearest float32, not beyond the greatest; no -0. -/
def narrowR (x : Nat) : Nat := nr (mag dbl (rg dbl (clip x)))
def narrowS (x : Nat) : Bool := if narrowR x = 0 then false else sg dbl (clip x)
def narrowW (x : Nat) : Nat := dbl.word (narrowS x) (up (narrowR x))
theorem narrowR_le {x : Nat} (hx : num x) : narrowR x ≤ maxr := (nr_near (clip_ok hx).2.2).2
theorem narrow_num {x : Nat} (hx : num x) : num (narrowW x) ∧ sv (narrowW x) = sgn (narrowS x) (mag sgl (narrowR x) * un) := by
  have h1 := narrowR_le hx
  have h2 := up_lt (r := narrowR x) (by have : maxr = 2139095039 := rfl; omega)
  have h3 : up (narrowR x) < 2 ^ 63 := by omega
  refine ⟨⟨word_lt64 h3, ?_⟩, ?_⟩
  · show rg dbl (dbl.word _ _) ≤ _
    rw [rg_word' h3]; omega
  · show sv (dbl.word _ _) = _
    rw [sv_word h3, mag_up]
/-- As the program says it. -/
theorem narrow_prog {x : Nat} (hx : num x) {β : Type} (k : Nat → Option β) :
    ((fmin .f64 x top).bind fun r1 => (fmax .f64 r1 ntop).bind fun r2 => (f2f .f64 r2 .f32).bind fun x3 => (f2f .f32 x3 .f64).bind fun x4 => ((FloatKind.format .f64).add x4 0).bind fun r5 => k r5) = k (narrowW x) := by
  have hc := clip_min hx
  obtain ⟨c1, c2, c3⟩ := clip_ok hx
  have hr := narrowR_le hx
  rw [fmin_top hx, Option.bind_some] at hc ⊢
  rw [hc, Option.bind_some, f2f_down c2 c3, Option.bind_some, f2f_up (nr_near c3).2, Option.bind_some]
  have h2 := up_lt (r := narrowR x) (by have : maxr = 2139095039 := rfl; omega)
  have h3 : up (narrowR x) < 2 ^ 63 := by omega
  have ha := add_zero' (x := dbl.word (sg dbl (clip x)) (up (narrowR x))) (word_lt64 h3) (by rw [rg_word' h3]; omega)
  have ha' : (FloatKind.format .f64).add (dbl.word (sg dbl (clip x)) (up (nr (mag dbl (rg dbl (clip x)))))) 0 = some (narrowW x) := by
    refine ha.trans ?_
    rw [rg_word' h3]
    unfold narrowW narrowS
    by_cases h0 : narrowR x = 0
    · rw [h0, up_zero, if_pos rfl, if_pos rfl]; rfl
    · rw [if_neg (up_pos h0), if_neg h0]
  rw [ha', Option.bind_some]
end Go.LI.Fl

/-! float32: rising, no neighbour nearer; differences. -/
set_option linter.unusedVariables false
set_option maxRecDepth 100000
set_option exponentiation.threshold 2000
namespace Go.LI.Fl
open Go Go.LI Ieee

/-- The value of the narrowed, by the clipped value. -/
def vr (c : Int) : Int := if c < 0 then -((mag sgl (nr c.natAbs) * un : Nat) : Int) else ((mag sgl (nr c.natAbs) * un : Nat) : Int)
theorem nr_zero : nr 0 = 0 := by
  have h : nr (mag sgl 0 * un) = 0 := nr_exact (by decide)
  rwa [(mag_zero sgl).2 rfl, Nat.zero_mul] at h
theorem sv_abs (x : Nat) : (sv x).natAbs = mag dbl (rg dbl x) := by
  rw [sv_sgn]; unfold sgn; split <;> omega
theorem narrow_vr {x : Nat} (hx : num x) : sv (narrowW x) = vr (sv (clip x)) := by
  rw [(narrow_num hx).2]
  unfold narrowS narrowR vr
  rw [sv_abs]
  by_cases h0 : nr (mag dbl (rg dbl (clip x))) = 0
  · rw [h0, if_pos rfl, (mag_zero sgl).2 rfl, Nat.zero_mul]
    unfold sgn; split <;> simp
  · rw [if_neg h0]
    have hm : mag dbl (rg dbl (clip x)) ≠ 0 := by
      intro hc
      rw [hc] at h0
      exact h0 nr_zero
    rw [sv_sgn]
    unfold sgn
    cases sg dbl (clip x) with
    | true => rw [if_pos rfl, if_pos rfl, if_pos (by omega)]
    | false => rw [if_neg (by simp), if_neg (by simp)]
theorem clip_le {x : Nat} (hx : num x) : (sv (clip x)).natAbs ≤ topV := by
  rw [sv_abs]; exact (clip_ok hx).2.2
theorem clip_sv (x : Nat) : sv (clip x) = if (topV : Int) ≤ sv x then (topV : Int) else if sv x ≤ -(topV : Int) then -(topV : Int) else sv x := by
  unfold clip
  split
  · exact top_num.2
  · split
    · exact ntop_num.2
    · rfl
theorem vr_mono {c d : Int} (h : c ≤ d) (hc : c.natAbs ≤ topV) (hd : d.natAbs ≤ topV) : vr c ≤ vr d := by
  unfold vr
  by_cases c0 : c < 0
  · rw [if_pos c0]
    by_cases d0 : d < 0
    · rw [if_pos d0]
      have h1 := mag_leF sgl (nr_mono (M := d.natAbs) (N := c.natAbs) (by omega) hc)
      have h2 := Nat.mul_le_mul_right un h1
      omega
    · rw [if_neg d0]; omega
  · rw [if_neg c0, if_neg (by omega)]
    have h1 := mag_leF sgl (nr_mono (M := c.natAbs) (N := d.natAbs) (by omega) hd)
    have h2 := Nat.mul_le_mul_right un h1
    omega
theorem narrow_mono {x y : Nat} (hx : num x) (hy : num y) (h : sv x ≤ sv y) : sv (narrowW x) ≤ sv (narrowW y) := by
  rw [narrow_vr hx, narrow_vr hy]
  refine vr_mono ?_ (clip_le hx) (clip_le hy)
  rw [clip_sv, clip_sv]
  have := topV_pos
  split <;> split <;> (try split) <;> (try split) <;> omega

theorem narrow_word {x : Nat} (hx : num x) : narrowW x < 2 ^ 64 ∧ rg dbl (narrowW x) = up (narrowR x) ∧ sg dbl (narrowW x) = narrowS x := by
  have h1 := narrowR_le hx
  have h2 := up_lt (r := narrowR x) (by have : maxr = 2139095039 := rfl; omega)
  have h3 : up (narrowR x) < 2 ^ 63 := by omega
  exact ⟨word_lt64 h3, rg_word' h3, sg_word' h3⟩
theorem narrow_down {x : Nat} (hx : num x) : f2f .f64 (narrowW x) .f32 = some (sgl.word (narrowS x) (narrowR x)) := by
  obtain ⟨h1, h2, h3⟩ := narrow_word hx
  have hr := narrowR_le hx
  have hm : mag dbl (rg dbl (narrowW x)) = mag sgl (narrowR x) * un := by rw [h2, mag_up]
  rw [f2f_down (by rw [h2]; exact up_lt (by have : maxr = 2139095039 := rfl; omega)) (by rw [hm]; exact Nat.mul_le_mul_right _ (mag_leF sgl hr)), hm, h3, nr_exact hr]
theorem narrow_up {x : Nat} (hx : num x) : f2f .f32 (sgl.word (narrowS x) (narrowR x)) .f64 = some (narrowW x) := f2f_up (narrowR_le hx)
theorem narrow_zero {x : Nat} (h : narrowR x = 0) : narrowS x = false := by unfold narrowS; rw [if_pos h]

/-- No float32 of whatever sign is nearer to a number that is not beyond. -/
theorem vr_best {c : Int} (hc : c.natAbs ≤ topV) (s : Bool) (r : Nat) : (c - vr c).natAbs ≤ (c - sgn s (mag sgl r * un)).natAbs := by
  have h1 := (nr_near hc).1.best r
  have h2 := (nr_near hc).1.best 0
  rw [(mag_zero sgl).2 rfl, Nat.zero_mul] at h2
  unfold vr sgn
  generalize mag sgl (nr c.natAbs) * un = A at h1 h2
  generalize mag sgl r * un = B at h1
  by_cases c0 : c < 0
  · rw [if_pos c0]
    cases s <;> simp <;> omega
  · rw [if_neg c0]
    cases s <;> simp <;> omega

theorem near_dbl (s : Bool) (m i : Nat) : ∃ r, dbl.nearest s m (-1074 + (i : Int)) = dbl.word s (min r 9218868437227405312) ∧ Near dbl (m * 2 ^ i) 1 r := by
  obtain ⟨r, h1, h2⟩ := nearest_spec dbl (by rw [dbl_B]) s m (-1074 + (i : Int))
  rw [dbl_inf] at h1
  refine ⟨r, h1, ?_⟩
  rw [dbl_L, show (-1074 + (i : Int) - -1074).toNat = i by omega, show (-1074 - (-1074 + (i : Int))).toNat = 0 by omega, Nat.pow_zero] at h2
  exact h2
/-- A difference, rounded. -/
theorem sub_near {x y : Nat} (hx : rg dbl x < 9218868437227405312) (hy : rg dbl y < 9218868437227405312) : ∃ s r, (FloatKind.format .f64).sub x y = some (dbl.word s (min r 9218868437227405312)) ∧ Near dbl (sv x - sv y).natAbs 1 r := by
  obtain ⟨i, m, h1, h2⟩ := read_num hx
  obtain ⟨j, n, k1, k2⟩ := read_num hy
  have hsub : (FloatKind.format .f64).sub x y = ((dbl.read x).sum (dbl.read y).opposite).map dbl.write := rfl
  rw [hsub, h1, k1]
  simp only [Datum.opposite, Datum.sum, Option.map_some, Format.write]
  have hb : min (-1074 + (i : Int)) (-1074 + (j : Int)) = -1074 + ((min i j : Nat) : Int) := by omega
  rw [hb]
  have hv : (signed (sg dbl x) m (-1074 + (i : Int) - (-1074 + ((min i j : Nat) : Int))).toNat + signed (!sg dbl y) n (-1074 + (j : Int) - (-1074 + ((min i j : Nat) : Int))).toNat) * ((2 ^ min i j : Nat) : Int) = sv x - sv y := by
    rw [Int.add_mul, signed_sv, signed_sv, ← sgn_mul, ← sgn_mul, Nat.mul_assoc, Nat.mul_assoc, ← Nat.pow_add, ← Nat.pow_add]
    rw [show (-1074 + (i : Int) - (-1074 + ((min i j : Nat) : Int))).toNat + min i j = i by omega, show (-1074 + (j : Int) - (-1074 + ((min i j : Nat) : Int))).toNat + min i j = j by omega, h2, k2, sv_sgn, sv_sgn]
    unfold sgn
    cases sg dbl x <;> cases sg dbl y <;> simp <;> omega
  generalize signed (sg dbl x) m (-1074 + (i : Int) - (-1074 + ((min i j : Nat) : Int))).toNat + signed (!sg dbl y) n (-1074 + (j : Int) - (-1074 + ((min i j : Nat) : Int))).toNat = t at hv
  obtain ⟨r, q1, q2⟩ := near_dbl (if t = 0 then sg dbl x && !sg dbl y else decide (t < 0)) t.natAbs (min i j)
  refine ⟨_, r, congrArg some q1, ?_⟩
  rw [← hv, Int.natAbs_mul, Int.natAbs_natCast]
  exact q2
theorem min_word {s : Bool} {r : Nat} : dbl.word s (min r 9218868437227405312) < 2 ^ 64 ∧ rg dbl (dbl.word s (min r 9218868437227405312)) = min r 9218868437227405312 :=
  ⟨word_lt64 (by omega), rg_word' (by omega)⟩
theorem fle_min {V W r q : Nat} (h : V ≤ W) (hr : Near dbl V 1 r) (hq : Near dbl W 1 q) : fle .f64 (min r 9218868437227405312) (min q 9218868437227405312) = true := by
  have hle := hr.mono (by decide) hq h
  have h1 := num_small (r := min r 9218868437227405312) (by omega)
  have h2 := num_small (r := min q 9218868437227405312) (by omega)
  rw [fle_sv h1.1 h2.1, h1.2, h2.2]
  have := mag_le (r := min r 9218868437227405312) (s := min q 9218868437227405312) (by omega)
  exact decide_eq_true (by omega)
/-- The float32 next to another one, towards an infinite one. -/
def nextS (s : Bool) (r : Nat) (t : Bool) : Bool := if r = 0 then t else s
def nextR (s : Bool) (r : Nat) (t : Bool) : Nat := if r = 0 then 1 else if s = t then r + 1 else r - 1
end Go.LI.Fl
