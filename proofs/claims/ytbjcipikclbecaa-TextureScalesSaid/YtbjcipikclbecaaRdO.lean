/- The order of words is the order of their numbers. -/
import Derived.Test.YtbjcipikclbecaaRdY
set_option linter.unusedVariables false
set_option maxRecDepth 100000
namespace Go.LI.Fl
open Go Go.LI Ieee

/-- A rung's digits and place. -/
theorem rung_form (r : Nat) : ∃ q m, r = q * 2 ^ 52 + m ∧ m < 2 ^ 53 ∧ (q = 0 ∨ 2 ^ 52 ≤ m) := by
  by_cases h : r < 2 ^ 52
  · exact ⟨0, r, by omega, by omega, .inl rfl⟩
  · refine ⟨r / 2 ^ 52 - 1, 2 ^ 52 + r % 2 ^ 52, by omega, by omega, .inr (by omega)⟩
theorem mag_form {q m : Nat} (h1 : m ≤ 2 ^ 53) (h2 : q = 0 ∨ 2 ^ 52 ≤ m) : mag dbl (q * 2 ^ 52 + m) = m * 2 ^ q := by
  rcases Nat.lt_or_ge m (2 ^ 53) with h | h
  · exact floorR_mag (M := 0) h h2
  · have : m = 2 ^ 53 := by omega
    subst this
    have := floorR_mag (M := 0) (q := q + 1) (m := 2 ^ 52) (by decide) (.inr (Nat.le_refl _))
    rw [show q * 2 ^ 52 + 2 ^ 53 = (q + 1) * 2 ^ 52 + 2 ^ 52 by omega, this, Nat.pow_succ 2 q]
    omega
theorem mag_succ (r : Nat) : mag dbl r < mag dbl (r + 1) := by
  obtain ⟨q, m, rfl, h1, h2⟩ := rung_form r
  rw [mag_form (by omega) h2, show q * 2 ^ 52 + m + 1 = q * 2 ^ 52 + (m + 1) by omega, mag_form (by omega) (by omega)]
  exact Nat.mul_lt_mul_of_pos_right (by omega) (Nat.two_pow_pos q)
theorem mag_lt {r s : Nat} (h : r < s) : mag dbl r < mag dbl s := by
  induction s with
  | zero => omega
  | succ s ih =>
    rcases Nat.lt_or_ge r s with hr | hr
    · exact Nat.lt_trans (ih hr) (mag_succ s)
    · have : r = s := by omega
      subst this; exact mag_succ r
theorem mag_le {r s : Nat} (h : r ≤ s) : mag dbl r ≤ mag dbl s := by
  rcases Nat.lt_or_ge r s with hr | hr
  · exact Nat.le_of_lt (mag_lt hr)
  · have : r = s := by omega
    subst this; exact Nat.le_refl _
/-- No NaN. -/
def num (x : Nat) : Prop := x < 2 ^ 64 ∧ rg dbl x ≤ 9218868437227405312

theorem read_num {x : Nat} (h : rg dbl x < 9218868437227405312) : ∃ (i m : Nat), dbl.read x = .number (sg dbl x) m (-1074 + i) ∧ m * 2 ^ i = mag dbl (rg dbl x) := by
  obtain ⟨m, e, h1, h2, h3⟩ := read_finite dbl (w := x) (fin_lt h)
  rw [dbl_L] at h2 h3
  obtain ⟨i, rfl⟩ : ∃ i : Nat, e = -1074 + i := ⟨(e + 1074).toNat, by omega⟩
  refine ⟨i, m, h1, ?_⟩
  rw [show ((-1074 : Int) + i - -1074).toNat = i by omega] at h3
  exact h3
theorem read_infty {x : Nat} (hx : x < 2 ^ 64) (h : rg dbl x = 9218868437227405312) : dbl.read x = .infinity (sg dbl x) := by
  have hr := read_inf dbl dbl_I (sg dbl x)
  rw [dbl_inf, ← h, word_sr dbl (by rw [dbl_sw]; omega)] at hr
  exact hr
def sgn (s : Bool) (M : Nat) : Int := if s then -(M : Int) else (M : Int)
theorem sgn_mul (s : Bool) (M k : Nat) : sgn s (M * k) = sgn s M * (k : Int) := by
  unfold sgn
  split
  · rw [Int.natCast_mul, Int.neg_mul]
  · rw [Int.natCast_mul]
theorem signed_sv (s : Bool) (m i : Nat) : signed s m i = sgn s (m * 2 ^ i) := by
  unfold signed sgn; rw [Nat.shiftLeft_eq]
theorem sv_sgn (x : Nat) : sv x = sgn (sg dbl x) (mag dbl (rg dbl x)) := rfl

theorem cmp_mul {a b : Int} {k : Nat} (hk : 0 < k) : compare (a * k) (b * k) = compare a b := by
  have hk' : (0 : Int) < k := by omega
  simp only [compare, compareOfLessAndEq]
  by_cases h1 : a < b
  · rw [if_pos h1, if_pos (Int.mul_lt_mul_of_pos_right h1 hk')]
  · rw [if_neg h1, if_neg (by intro h; exact h1 (Int.lt_of_mul_lt_mul_right h (Int.le_of_lt hk')))]
    by_cases h2 : a = b
    · rw [if_pos h2, if_pos (by rw [h2])]
    · rw [if_neg h2, if_neg (by intro h; exact h2 (Int.eq_of_mul_eq_mul_right (by omega) h))]

theorem order_sv {x y : Nat} (hx : num x) (hy : num y) : dbl.order x y = some (compare (sv x) (sv y)) := by
  obtain ⟨hx1, hx2⟩ := hx
  obtain ⟨hy1, hy2⟩ := hy
  unfold Format.order
  rcases Nat.lt_or_ge (rg dbl x) 9218868437227405312 with fx | fx
  · obtain ⟨i, m, h1, h2⟩ := read_num fx
    rcases Nat.lt_or_ge (rg dbl y) 9218868437227405312 with fy | fy
    · obtain ⟨j, n, k1, k2⟩ := read_num fy
      rw [h1, k1]
      simp only [Datum.order]
      congr 1
      rw [signed_sv, signed_sv, sv_sgn, sv_sgn, ← h2, ← k2]
      have key : ∀ (b : Nat), b ≤ i → b ≤ j → compare (sgn (sg dbl x) (m * 2 ^ (i - b))) (sgn (sg dbl y) (n * 2 ^ (j - b))) = compare (sgn (sg dbl x) (m * 2 ^ i)) (sgn (sg dbl y) (n * 2 ^ j)) := by
        intro b hb1 hb2
        have e1 : m * 2 ^ i = m * 2 ^ (i - b) * 2 ^ b := by rw [Nat.mul_assoc, ← Nat.pow_add]; congr 2; omega
        have e2 : n * 2 ^ j = n * 2 ^ (j - b) * 2 ^ b := by rw [Nat.mul_assoc, ← Nat.pow_add]; congr 2; omega
        rw [e1, e2, sgn_mul _ _ (2 ^ b), sgn_mul _ _ (2 ^ b), cmp_mul (Nat.two_pow_pos b)]
      have := key (min i j) (Nat.min_le_left _ _) (Nat.min_le_right _ _)
      rw [← this]
      rw [show ((-1074 : Int) + i - min ((-1074 : Int) + (i : Int)) ((-1074 : Int) + (j : Int))).toNat = i - min i j by omega, show ((-1074 : Int) + j - min ((-1074 : Int) + (i : Int)) ((-1074 : Int) + (j : Int))).toNat = j - min i j by omega]
    · have hy3 : rg dbl y = 9218868437227405312 := by omega
      rw [h1, read_infty hy1 hy3]
      simp only [Datum.order]
      congr 1
      unfold sv
      have hlt := mag_lt fx
      rw [hy3]
      simp only [compare, compareOfLessAndEq]
      cases sg dbl y
      · simp only [Bool.false_eq_true, if_false]
        rw [if_pos (by split <;> omega)]
      · simp only [if_true]
        rw [if_neg (by split <;> omega), if_neg (by split <;> omega)]
  · have hx3 : rg dbl x = 9218868437227405312 := by omega
    rcases Nat.lt_or_ge (rg dbl y) 9218868437227405312 with fy | fy
    · obtain ⟨j, n, k1, k2⟩ := read_num fy
      rw [k1, read_infty hx1 hx3]
      simp only [Datum.order]
      congr 1
      unfold sv
      have hlt := mag_lt fy
      rw [hx3]
      simp only [compare, compareOfLessAndEq]
      cases sg dbl x
      · simp only [Bool.false_eq_true, if_false]
        rw [if_neg (by split <;> omega), if_neg (by split <;> omega)]
      · simp only [if_true]
        rw [if_pos (by split <;> omega)]
    · have hy3 : rg dbl y = 9218868437227405312 := by omega
      rw [read_infty hx1 hx3, read_infty hy1 hy3]
      simp only [Datum.order]
      congr 1
      unfold sv
      have hpos : 0 < mag dbl 9218868437227405312 := by
        have := mag_lt (r := 0) (s := 9218868437227405312) (by decide); omega
      rw [hx3, hy3]
      generalize mag dbl 9218868437227405312 = M at hpos
      cases sg dbl x <;> cases sg dbl y <;> simp only [Bool.false_eq_true, if_false, if_true, Bool.toNat_true, Bool.toNat_false, compare, compareOfLessAndEq]
      · rw [if_neg (by omega), if_neg (by omega)]
      · rw [if_neg (by omega), if_neg (by omega), if_neg (by omega), if_neg (by omega)]
      · rw [if_pos (by omega), if_pos (by omega)]
      · rw [if_neg (by omega), if_neg (by omega)]

theorem order_nan {x y : Nat} (h : ¬ (rg dbl x ≤ 9218868437227405312 ∧ rg dbl y ≤ 9218868437227405312)) : dbl.order x y = none := by
  have hn : ∀ z, ¬ rg dbl z ≤ 9218868437227405312 → ∃ a b, dbl.read z = .nan a b := by
    intro z hz
    unfold Format.read
    simp only
    rw [show z % dbl.signWeight = rg dbl z from rfl, dbl_B, dbl_inf, if_neg (by omega), if_neg (by omega), if_neg (by omega)]
    exact ⟨_, _, rfl⟩
  unfold Format.order
  by_cases hx : rg dbl x ≤ 9218868437227405312
  · obtain ⟨a, b, hb⟩ := hn y (fun h2 => h ⟨hx, h2⟩)
    rw [hb]
    cases dbl.read x <;> rfl
  · obtain ⟨a, b, hb⟩ := hn x hx
    rw [hb]
    rfl

theorem flt_sv {x y : Nat} (hx : num x) (hy : num y) : flt .f64 x y = decide (sv x < sv y) := by
  unfold flt
  rw [show FloatKind.f64.format = dbl from rfl, order_sv hx hy]
  simp only [compare, compareOfLessAndEq]
  by_cases h : sv x < sv y
  · rw [if_pos h, decide_eq_true h]; rfl
  · rw [if_neg h, decide_eq_false h]; split <;> rfl
theorem fgt_sv {x y : Nat} (hx : num x) (hy : num y) : fgt .f64 x y = decide (sv y < sv x) := by
  unfold fgt
  rw [show FloatKind.f64.format = dbl from rfl, order_sv hx hy]
  simp only [compare, compareOfLessAndEq]
  by_cases h : sv x < sv y
  · rw [if_pos h, decide_eq_false (by omega)]; rfl
  · rw [if_neg h]
    by_cases h2 : sv x = sv y
    · rw [if_pos h2, decide_eq_false (by omega)]; rfl
    · rw [if_neg h2, decide_eq_true (by omega)]; rfl
theorem feq_sv {x y : Nat} (hx : num x) (hy : num y) : feq .f64 x y = decide (sv x = sv y) := by
  unfold feq
  rw [show FloatKind.f64.format = dbl from rfl, order_sv hx hy]
  simp only [compare, compareOfLessAndEq]
  by_cases h : sv x < sv y
  · rw [if_pos h, decide_eq_false (by omega)]; rfl
  · rw [if_neg h]
    by_cases h2 : sv x = sv y
    · rw [if_pos h2, decide_eq_true h2]; rfl
    · rw [if_neg h2, decide_eq_false h2]; rfl
theorem fle_sv {x y : Nat} (hx : num x) (hy : num y) : fle .f64 x y = decide (sv x ≤ sv y) := by
  have h1 := flt_sv hx hy
  have h2 := feq_sv hx hy
  unfold flt at h1
  unfold feq at h2
  unfold fle
  rw [h1, h2]
  by_cases h : sv x ≤ sv y
  · rw [decide_eq_true h]; simp; omega
  · rw [decide_eq_false h]; simp; omega
theorem num_small {r : Nat} (h : r ≤ 9218868437227405312) : num r ∧ sv r = (mag dbl r : Int) := by
  have := rg_small (r := r) (by omega)
  refine ⟨⟨by omega, by omega⟩, ?_⟩
  unfold sv
  rw [this.1, this.2]
  rfl
end Go.LI.Fl
