/- Numbers that a word holds exactly. -/
import Derived.Test.YtbjcipikclbecaaRdX
set_option linter.unusedVariables false
set_option maxRecDepth 100000
namespace Go.LI.Fl
open Go Go.LI Ieee

theorem floorR_small {M : Nat} (h : M < 2 ^ 53) : floorR M = M := by
  have := floorR_of (M := M) (q := 0) (m := M) (by simp) (by simp) h (.inl rfl)
  simpa using this
/-- 53 digits are held. -/
theorem floorR_mul {m q : Nat} (hm : m ≤ 2 ^ 53) : mag dbl (floorR (m * 2 ^ q)) = m * 2 ^ q := by
  by_cases h0 : m = 0
  · subst h0
    rw [Nat.zero_mul, floorR_small (by decide)]
    exact (mag_zero dbl).2 rfl
  · have hb := blen_mul_pow h0 q
    obtain ⟨h1, h2, h3⟩ := blen_pos h0
    have hb54 : blen m ≤ 54 := blen_lt.2 (by omega)
    by_cases hs : blen m + q ≤ 53
    · have hlt : m * 2 ^ q < 2 ^ 53 := blen_lt.1 (by omega)
      rw [floorR_small hlt]
      have := floorR_mag (M := m * 2 ^ q) (q := 0) (m := m * 2 ^ q) hlt (.inl rfl)
      simpa using this
    · obtain ⟨k, hk⟩ : ∃ k, blen m + q = 53 + k := ⟨blen m + q - 53, by omega⟩
      obtain ⟨m', hm'⟩ : ∃ m', m * 2 ^ q = m' * 2 ^ k := by
        rcases (by omega : k ≤ q ∨ k = q + 1) with hkq | hkq
        · exact ⟨m * 2 ^ (q - k), by rw [Nat.mul_assoc, ← Nat.pow_add]; congr 2; omega⟩
        · have : m = 2 ^ 53 := by
            have : 2 ^ 53 ≤ m := by
              have : blen m = 54 := by omega
              rw [this] at h1; exact h1
            omega
          exact ⟨2 ^ 52, by rw [this, hkq, Nat.pow_succ 2 q, show (2:Nat) ^ 53 = 2 ^ 52 * 2 by decide]; rw [Nat.mul_assoc, Nat.mul_comm 2 (2 ^ q)]⟩
      have hbm : blen (m' * 2 ^ k) = 53 + k := by rw [← hm', hb, hk]
      have hm0 : m' ≠ 0 := by
        rintro rfl
        rw [Nat.zero_mul] at hm'
        have := Nat.mul_pos (Nat.pos_of_ne_zero h0) (Nat.two_pow_pos q)
        omega
      have hb' : blen m' = 53 := by rw [blen_mul_pow hm0] at hbm; omega
      have hlt : m' < 2 ^ 53 := blen_lt.1 (by omega)
      have hge : 2 ^ 52 ≤ m' := blen_ge.1 (by omega)
      rw [hm', floorR_of (M := m' * 2 ^ k) (q := k) (m := m') (Nat.le_refl _) (Nat.mul_lt_mul_of_pos_right (by omega) (Nat.two_pow_pos k)) hlt (.inr hge), floorR_mag (M := 0) hlt (.inr hge)]

theorem floorR_inf {M : Nat} : floorR M < 9218868437227405312 ↔ blen M ≤ 2098 := by
  have h5 := blen_div_pow M (blen M - 53)
  have hlt : M / 2 ^ (blen M - 53) < 2 ^ 53 := blen_lt.1 (by omega)
  unfold floorR
  constructor
  · intro h
    by_cases hc : blen M ≤ 2098
    · exact hc
    · have hge : 2 ^ 52 ≤ M / 2 ^ (blen M - 53) := blen_ge.1 (by omega)
      have : 2046 ≤ blen M - 53 := by omega
      omega
  · intro h
    have : blen M - 53 ≤ 2045 := by omega
    omega

theorem blen_zero_mul (q : Nat) : blen (0 * 2 ^ q) = 0 := by rw [Nat.zero_mul]; rfl
theorem fin_lt {r : Nat} (h : r < 9218868437227405312) : r < dbl.infRung := by rw [dbl_inf]; exact h

theorem nat_rung {m q : Nat} (hm : m ≤ 2 ^ 53) (hq : q ≤ 2044) : floorR (m * 2 ^ q) < 9218868437227405312 := by
  rw [floorR_inf]
  by_cases h0 : m = 0
  · subst h0; rw [blen_zero_mul]; exact Nat.zero_le _
  · rw [blen_mul_pow h0]
    have := blen_lt.2 (show m < 2 ^ 54 by omega)
    omega
/-- A whole number as a word. -/
theorem nat_word' {m q : Nat} (hm : m ≤ 2 ^ 53) (hq : q = 1074) : FloatKind.nearest .f64 (m : Int) = floorR (m * 2 ^ q) ∧ floorR (m * 2 ^ q) < 9218868437227405312 := by
  have hlt : floorR (m * 2 ^ q) < 9218868437227405312 := nat_rung hm (by omega)
  refine ⟨?_, hlt⟩
  have h1 : FloatKind.nearest .f64 (m : Int) = dbl.nearest false m 0 := by
    unfold FloatKind.nearest
    have : decide ((m : Int) < 0) = false := by simp
    simp only [this, Int.natAbs_natCast]
    rfl
  rw [h1, nearest_exact dbl (r := floorR (m * 2 ^ q)) (Nat.le_of_lt (fin_lt hlt)) (by
    rw [floorR_mul hm, show (0 - dbl.leastPlace).toNat = q by rw [dbl_L, hq]; rfl, show (dbl.leastPlace - 0).toNat = 0 by rw [dbl_L]; rfl, Nat.pow_zero, Nat.mul_one])]
  rfl
theorem rg_small {r : Nat} (h : r < 2 ^ 63) : rg dbl r = r ∧ sg dbl r = false := by
  unfold rg sg
  rw [dbl_sw]
  refine ⟨Nat.mod_eq_of_lt h, ?_⟩
  rw [Nat.div_eq_of_lt h]
  rfl

/-- A product that is held. -/
theorem mul_exact {x y r : Nat} (hx : x < 9218868437227405312) (hy : y < 9218868437227405312) (hr : r < 9218868437227405312) (h : mag dbl x * mag dbl y = mag dbl r * 2 ^ 1074) : dbl.mul x y = some r := by
  have hx' := rg_small (r := x) (by omega)
  have hy' := rg_small (r := y) (by omega)
  obtain ⟨m, e, h1, h2, h3⟩ := read_finite dbl (w := x) (by rw [← rg, hx'.1]; exact fin_lt hx)
  obtain ⟨n, d, k1, k2, k3⟩ := read_finite dbl (w := y) (by rw [← rg, hy'.1]; exact fin_lt hy)
  rw [← rg, hx'.1] at h3
  rw [← rg, hy'.1] at k3
  unfold Format.mul
  rw [h1, k1]
  simp only [Datum.product, Option.map_some, Format.write]
  have hs1 : (x / dbl.signWeight % 2 == 1) = false := hx'.2
  have hs2 : (y / dbl.signWeight % 2 == 1) = false := hy'.2
  rw [hs1, hs2]
  rw [nearest_exact dbl (r := r) (Nat.le_of_lt (fin_lt hr)) ?_]
  · rfl
  · rw [dbl_L] at *
    obtain ⟨i, hi⟩ : ∃ i : Nat, e = -1074 + i := ⟨(e + 1074).toNat, by omega⟩
    obtain ⟨j, hj⟩ : ∃ j : Nat, d = -1074 + j := ⟨(d + 1074).toNat, by omega⟩
    subst hi; subst hj
    have e1 : ((-1074 : Int) + i - -1074).toNat = i := by omega
    have e2 : ((-1074 : Int) + j - -1074).toNat = j := by omega
    rw [e1] at h3
    rw [e2] at k3
    rw [← h3, ← k3] at h
    have h' : m * n * 2 ^ (i + j) = mag dbl r * 2 ^ 1074 := by
      rw [← h, Nat.pow_add]
      ac_rfl
    rcases Nat.le_total 1074 (i + j) with hc | hc
    · have f1 : ((-1074 : Int) + i + (-1074 + j) - -1074).toNat = i + j - 1074 := by omega
      have f2 : ((-1074 : Int) - (-1074 + i + (-1074 + j))).toNat = 0 := by omega
      rw [f1, f2, Nat.pow_zero, Nat.mul_one]
      have : i + j = (i + j - 1074) + 1074 := by omega
      rw [this, Nat.pow_add, ← Nat.mul_assoc] at h'
      exact Nat.eq_of_mul_eq_mul_right (Nat.two_pow_pos 1074) h'
    · have f1 : ((-1074 : Int) + i + (-1074 + j) - -1074).toNat = 0 := by omega
      have f2 : ((-1074 : Int) - (-1074 + i + (-1074 + j))).toNat = 1074 - (i + j) := by omega
      rw [f1, f2, Nat.pow_zero, Nat.mul_one]
      have : 1074 = (1074 - (i + j)) + (i + j) := by omega
      rw [show mag dbl r * 2 ^ 1074 = mag dbl r * 2 ^ (1074 - (i + j)) * 2 ^ (i + j) by rw [Nat.mul_assoc, ← Nat.pow_add, ← this]] at h'
      exact Nat.eq_of_mul_eq_mul_right (Nat.two_pow_pos (i + j)) h'

/-- +0 in the place of -0. -/
theorem add_zero' {x : Nat} (hx : x < 2 ^ 64) (hi : rg dbl x ≤ 9218868437227405312) : dbl.add x 0 = some (if rg dbl x = 0 then 0 else x) := by
  rcases Nat.lt_or_ge (rg dbl x) 9218868437227405312 with hlt | hge
  · obtain ⟨m, e, h1, h2, h3⟩ := read_finite dbl (w := x) (fin_lt hlt)
    have hz : dbl.read 0 = .number false 0 (-1074) := by decide +kernel
    unfold Format.add
    rw [h1, hz]
    rw [dbl_L] at h2 h3
    simp only [Datum.sum, Option.map_some, Format.write]
    rw [Int.min_eq_right h2]
    have hs0 : signed false 0 (-1074 - -1074 : Int).toNat = 0 := by decide
    rw [hs0, Int.add_zero]
    have hsx : (x / dbl.signWeight % 2 == 1) = sg dbl x := rfl
    rw [hsx]
    have hna := signed_natAbs (sg dbl x) m (e - -1074).toNat
    by_cases h0 : rg dbl x = 0
    · rw [if_pos h0]
      have hm : m * 2 ^ (e - -1074).toNat = 0 := by
        rw [h3, show x % dbl.signWeight = rg dbl x from rfl, h0]; exact (mag_zero dbl).2 rfl
      have hm0 : m = 0 := by
        rcases Nat.mul_eq_zero.1 hm with h | h
        · exact h
        · have := Nat.two_pow_pos (e - -1074).toNat; omega
      subst hm0
      have hz2 : signed (sg dbl x) 0 (e - -1074).toNat = 0 := by unfold signed; simp
      rw [hz2]
      have : dbl.nearest false 0 (-1074) = 0 := by decide +kernel
      simp [this]
    · rw [if_neg h0]
      have hM : m * 2 ^ (e - -1074).toNat ≠ 0 := by
        rw [h3, show x % dbl.signWeight = rg dbl x from rfl]
        exact fun h => h0 ((mag_zero dbl).1 h)
      have hne : signed (sg dbl x) m (e - -1074).toNat ≠ 0 := by
        intro hc
        rw [hc] at hna
        exact hM (by simpa using hna.symm)
      rw [if_neg hne, hna]
      have hsg : decide (signed (sg dbl x) m (e - -1074).toNat < 0) = sg dbl x := by
        unfold signed
        cases hs : sg dbl x with
        | true => simp only [if_true]; apply decide_eq_true; rw [Nat.shiftLeft_eq]; omega
        | false => simp only [Bool.false_eq_true, if_false]; apply decide_eq_false; rw [Nat.shiftLeft_eq]; omega
      rw [hsg, nearest_exact dbl (r := rg dbl x) (Nat.le_of_lt (fin_lt hlt)) (by
        rw [dbl_L, show ((-1074 : Int) - -1074).toNat = 0 by decide, Nat.pow_zero, Nat.mul_one, Nat.mul_one]; exact h3)]
      rw [word_sr dbl (by rw [dbl_sw]; omega)]
  · have he : rg dbl x = 9218868437227405312 := by omega
    have hz : dbl.read 0 = .number false 0 (-1074) := by decide +kernel
    have hr := read_inf dbl dbl_I (sg dbl x)
    rw [dbl_inf, ← he, word_sr dbl (by rw [dbl_sw]; omega)] at hr
    unfold Format.add
    rw [hr, hz]
    simp only [Datum.sum, Option.map_some, Format.write]
    rw [if_neg (by omega), dbl_inf, ← he, word_sr dbl (by rw [dbl_sw]; omega)]

theorem cmp_lt {z : Int} (h : z < 0) : compare z 0 = .lt := by simp only [compare, compareOfLessAndEq]; rw [if_pos h]
theorem cmp_gt {z : Int} (h : 0 < z) : compare z 0 = .gt := by simp only [compare, compareOfLessAndEq]; rw [if_neg (by omega), if_neg (by omega)]
/-- Numbers by their order. -/
theorem feq_zero {x : Nat} (hx : x < 2 ^ 64) (hi : rg dbl x ≤ 9218868437227405312) : feq .f64 x 0 = decide (rg dbl x = 0) := by
  have hz : dbl.read 0 = .number false 0 (-1074) := by decide +kernel
  rcases Nat.lt_or_ge (rg dbl x) 9218868437227405312 with hlt | hge
  · obtain ⟨m, e, h1, h2, h3⟩ := read_finite dbl (w := x) (fin_lt hlt)
    rw [dbl_L] at h2 h3
    unfold feq Format.order
    rw [show (FloatKind.f64.format) = dbl from rfl, h1, hz]
    simp only [Datum.order]
    rw [Int.min_eq_right h2]
    have hs0 : signed false 0 (-1074 - -1074 : Int).toNat = 0 := by decide
    rw [hs0]
    have hna := signed_natAbs (x / dbl.signWeight % 2 == 1) m (e - -1074).toNat
    rw [h3] at hna
    have key : (signed (x / dbl.signWeight % 2 == 1) m (e - -1074).toNat = 0) ↔ rg dbl x = 0 := by
      rw [← (mag_zero dbl), show rg dbl x = x % dbl.signWeight from rfl, ← hna]
      omega
    by_cases h0 : rg dbl x = 0
    · rw [key.2 h0, decide_eq_true h0]; rfl
    · have hne := fun h => h0 (key.1 h)
      rw [decide_eq_false h0]
      rcases (by omega : signed (x / dbl.signWeight % 2 == 1) m (e - -1074).toNat < 0 ∨ 0 < signed (x / dbl.signWeight % 2 == 1) m (e - -1074).toNat) with h | h
      · rw [cmp_lt h]; rfl
      · rw [cmp_gt h]; rfl
  · have he : rg dbl x = 9218868437227405312 := by omega
    have hr := read_inf dbl dbl_I (sg dbl x)
    rw [dbl_inf, ← he, word_sr dbl (by rw [dbl_sw]; omega)] at hr
    unfold feq Format.order
    rw [show (FloatKind.f64.format) = dbl from rfl, hr, hz, decide_eq_false (by omega)]
    cases sg dbl x <;> rfl

theorem feq_self' {x : Nat} (hx : x < 2 ^ 64) : feq .f64 x x = decide (rg dbl x ≤ 9218868437227405312) := by
  by_cases hi : rg dbl x ≤ 9218868437227405312
  · rw [decide_eq_true hi]
    refine feq_self ?_
    have := nn_word dbl (sg dbl x) (rung := rg dbl x) (by rw [dbl_inf]; exact hi)
    rwa [word_sr dbl (by rw [dbl_sw]; omega)] at this
  · rw [decide_eq_false hi]
    have hn : ∃ a b, dbl.read x = .nan a b := by
      unfold Format.read
      simp only
      rw [show x % dbl.signWeight = rg dbl x from rfl, dbl_B, dbl_inf, if_neg (by omega), if_neg (by omega), if_neg (by omega)]
      exact ⟨_, _, rfl⟩
    obtain ⟨a, b, hn⟩ := hn
    unfold feq Format.order
    rw [show (FloatKind.f64.format) = dbl from rfl, hn]
    rfl
end Go.LI.Fl
