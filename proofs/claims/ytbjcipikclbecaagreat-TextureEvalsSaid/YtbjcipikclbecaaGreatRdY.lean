/- Numbers that a word holds exactly. -/
import Derived.Test.YtbjcipikclbecaaGreatRdX
set_option linter.unusedVariables false
set_option maxRecDepth 100000
namespace Go.LI.Fl
open Go Go.LI Ieee
theorem zdM {M : Nat} (h : M < 2 ^ 53) : zU M = M := by
  have := zi9 (M := M) (q := 0) (m := M) (by simp) (by simp) h (.inl rfl)
  simpa using this
theorem zg8 {m q : Nat} (hm : m ≤ 2 ^ 53) : mag dbl (zU (m * 2 ^ q)) = m * 2 ^ q := by
  by_cases h0 : m = 0
  · subst h0
    rw [Nat.zero_mul, zdM (by decide)]
    exact (zaE dbl).2 rfl
  · have hb := zag h0 q
    obtain ⟨h1, h2, h3⟩ := zh3 h0
    have hb54 : zE m ≤ 54 := zP.2 (by omega)
    by_cases hs : zE m + q ≤ 53
    · have hlt : m * 2 ^ q < 2 ^ 53 := zP.1 (by omega)
      rw [zdM hlt]
      have := zmw (M := m * 2 ^ q) (q := 0) (m := m * 2 ^ q) hlt (.inl rfl)
      simpa using this
    · obtain ⟨k, hk⟩ : ∃ k, zE m + q = 53 + k := ⟨zE m + q - 53, by omega⟩
      obtain ⟨m', hm'⟩ : ∃ m', m * 2 ^ q = m' * 2 ^ k := by
        rcases (by omega : k ≤ q ∨ k = q + 1) with hkq | hkq
        · exact ⟨m * 2 ^ (q - k), by rw [Nat.mul_assoc, ← Nat.pow_add]; congr 2; omega⟩
        · have : m = 2 ^ 53 := by
            have : 2 ^ 53 ≤ m := by
              have : zE m = 54 := by omega
              rw [this] at h1; exact h1
            omega
          exact ⟨2 ^ 52, by rw [this, hkq, Nat.pow_succ 2 q, show (2:Nat) ^ 53 = 2 ^ 52 * 2 by decide]; rw [Nat.mul_assoc, Nat.mul_comm 2 (2 ^ q)]⟩
      have hbm : zE (m' * 2 ^ k) = 53 + k := by rw [← hm', hb, hk]
      have hm0 : m' ≠ 0 := by
        rintro rfl
        rw [Nat.zero_mul] at hm'
        have := Nat.mul_pos (Nat.pos_of_ne_zero h0) (Nat.two_pow_pos q)
        omega
      have hb' : zE m' = 53 := by rw [zag hm0] at hbm; omega
      have hlt : m' < 2 ^ 53 := zP.1 (by omega)
      have hge : 2 ^ 52 ≤ m' := ze2.1 (by omega)
      rw [hm', zi9 (M := m' * 2 ^ k) (q := k) (m := m') (Nat.le_refl _) (Nat.mul_lt_mul_of_pos_right (by omega) (Nat.two_pow_pos k)) hlt (.inr hge), zmw (M := 0) hlt (.inr hge)]
theorem zjx {M : Nat} : zU M < 9218868437227405312 ↔ zE M ≤ 2098 := by
  have h5 := zf0 M (zE M - 53)
  have hlt : M / 2 ^ (zE M - 53) < 2 ^ 53 := zP.1 (by omega)
  unfold zU
  constructor
  · intro h
    by_cases hc : zE M ≤ 2098
    · exact hc
    · have hge : 2 ^ 52 ≤ M / 2 ^ (zE M - 53) := ze2.1 (by omega)
      have : 2046 ≤ zE M - 53 := by omega
      omega
  · intro h
    have : zE M - 53 ≤ 2045 := by omega
    omega
theorem zv2 (q : Nat) : zE (0 * 2 ^ q) = 0 := by rw [Nat.zero_mul]; rfl
theorem zoK {r : Nat} (h : r < 9218868437227405312) : r < dbl.infRung := by rw [zek]; exact h
theorem zzO {m q : Nat} (hm : m ≤ 2 ^ 53) (hq : q ≤ 2044) : zU (m * 2 ^ q) < 9218868437227405312 := by
  rw [zjx]
  by_cases h0 : m = 0
  · subst h0; rw [zv2]; exact Nat.zero_le _
  · rw [zag h0]
    have := zP.2 (show m < 2 ^ 54 by omega)
    omega
theorem zpq {m q : Nat} (hm : m ≤ 2 ^ 53) (hq : q = 1074) : FloatKind.nearest .f64 (m : Int) = zU (m * 2 ^ q) ∧ zU (m * 2 ^ q) < 9218868437227405312 := by
  have hlt : zU (m * 2 ^ q) < 9218868437227405312 := zzO hm (by omega)
  refine ⟨?_, hlt⟩
  have h1 : FloatKind.nearest .f64 (m : Int) = dbl.nearest false m 0 := by
    unfold FloatKind.nearest
    have : decide ((m : Int) < 0) = false := by simp
    simp only [this, Int.natAbs_natCast]
    rfl
  rw [h1, zcI dbl (r := zU (m * 2 ^ q)) (Nat.le_of_lt (zoK hlt)) (by
    rw [zg8 hm, show (0 - dbl.leastPlace).toNat = q by rw [zuQ, hq]; rfl, show (dbl.leastPlace - 0).toNat = 0 by rw [zuQ]; rfl, Nat.pow_zero, Nat.mul_one])]
  rfl
theorem zfs {r : Nat} (h : r < 2 ^ 63) : rg dbl r = r ∧ sg dbl r = false := by
  unfold rg sg
  rw [zbp]
  refine ⟨Nat.mod_eq_of_lt h, ?_⟩
  rw [Nat.div_eq_of_lt h]
  rfl
theorem ztX {x y r : Nat} (hx : x < 9218868437227405312) (hy : y < 9218868437227405312) (hr : r < 9218868437227405312) (h : mag dbl x * mag dbl y = mag dbl r * 2 ^ 1074) : dbl.mul x y = some r := by
  have hx' := zfs (r := x) (by omega)
  have hy' := zfs (r := y) (by omega)
  obtain ⟨m, e, h1, h2, h3⟩ := ze0 dbl (w := x) (by rw [← rg, hx'.1]; exact zoK hx)
  obtain ⟨n, d, k1, k2, k3⟩ := ze0 dbl (w := y) (by rw [← rg, hy'.1]; exact zoK hy)
  rw [← rg, hx'.1] at h3
  rw [← rg, hy'.1] at k3
  unfold Format.mul
  rw [h1, k1]
  simp only [Datum.product, Option.map_some, Format.write]
  have hs1 : (x / dbl.signWeight % 2 == 1) = false := hx'.2
  have hs2 : (y / dbl.signWeight % 2 == 1) = false := hy'.2
  rw [hs1, hs2]
  rw [zcI dbl (r := r) (Nat.le_of_lt (zoK hr)) ?_]
  · rfl
  · rw [zuQ] at *
    obtain ⟨i, hi⟩ : ∃ i : Nat, e = -1074 + i := ⟨(e + 1074).toNat, by omega⟩
    obtain ⟨j, hj⟩ : ∃ j : Nat, d = -1074 + j := ⟨(d + 1074).toNat, by omega⟩
    subst hi; subst hj
    have e1 : ((-1074 : Int) + i - -1074).toNat = i := by omega
    have e2 : ((-1074 : Int) + j - -1074).toNat = j := by omega
    rw [e1] at h3
    rw [e2] at k3
    rw [← h3, ← k3] at h
    have h' : m * n * 2 ^ (i + j) = mag dbl r * 2 ^ 1074 := by
      rw [← h, Nat.pow_add]
      ac_rfl
    rcases Nat.le_total 1074 (i + j) with hc | hc
    · have f1 : ((-1074 : Int) + i + (-1074 + j) - -1074).toNat = i + j - 1074 := by omega
      have f2 : ((-1074 : Int) - (-1074 + i + (-1074 + j))).toNat = 0 := by omega
      rw [f1, f2, Nat.pow_zero, Nat.mul_one]
      have : i + j = (i + j - 1074) + 1074 := by omega
      rw [this, Nat.pow_add, ← Nat.mul_assoc] at h'
      exact Nat.eq_of_mul_eq_mul_right (Nat.two_pow_pos 1074) h'
    · have f1 : ((-1074 : Int) + i + (-1074 + j) - -1074).toNat = 0 := by omega
      have f2 : ((-1074 : Int) - (-1074 + i + (-1074 + j))).toNat = 1074 - (i + j) := by omega
      rw [f1, f2, Nat.pow_zero, Nat.mul_one]
      have : 1074 = (1074 - (i + j)) + (i + j) := by omega
      rw [show mag dbl r * 2 ^ 1074 = mag dbl r * 2 ^ (1074 - (i + j)) * 2 ^ (i + j) by rw [Nat.mul_assoc, ← Nat.pow_add, ← this]] at h'
      exact Nat.eq_of_mul_eq_mul_right (Nat.two_pow_pos (i + j)) h'
theorem zxG {x : Nat} (hx : x < 2 ^ 64) (hi : rg dbl x ≤ 9218868437227405312) : dbl.add x 0 = some (if rg dbl x = 0 then 0 else x) := by
  rcases Nat.lt_or_ge (rg dbl x) 9218868437227405312 with hlt | hge
  · obtain ⟨m, e, h1, h2, h3⟩ := ze0 dbl (w := x) (zoK hlt)
    have hz : dbl.read 0 = .number false 0 (-1074) := by decide +kernel
    unfold Format.add
    rw [h1, hz]
    rw [zuQ] at h2 h3
    simp only [Datum.sum, Option.map_some, Format.write]
    rw [Int.min_eq_right h2]
    have hs0 : signed false 0 (-1074 - -1074 : Int).toNat = 0 := by decide
    rw [hs0, Int.add_zero]
    have hsx : (x / dbl.signWeight % 2 == 1) = sg dbl x := rfl
    rw [hsx]
    have hna := zed (sg dbl x) m (e - -1074).toNat
    by_cases h0 : rg dbl x = 0
    · rw [if_pos h0]
      have hm : m * 2 ^ (e - -1074).toNat = 0 := by
        rw [h3, show x % dbl.signWeight = rg dbl x from rfl, h0]; exact (zaE dbl).2 rfl
      have hm0 : m = 0 := by
        rcases Nat.mul_eq_zero.1 hm with h | h
        · exact h
        · have := Nat.two_pow_pos (e - -1074).toNat; omega
      subst hm0
      have hz2 : signed (sg dbl x) 0 (e - -1074).toNat = 0 := by unfold signed; simp
      rw [hz2]
      have : dbl.nearest false 0 (-1074) = 0 := by decide +kernel
      simp [this]
    · rw [if_neg h0]
      have hM : m * 2 ^ (e - -1074).toNat ≠ 0 := by
        rw [h3, show x % dbl.signWeight = rg dbl x from rfl]
        exact fun h => h0 ((zaE dbl).1 h)
      have hne : signed (sg dbl x) m (e - -1074).toNat ≠ 0 := by
        intro hc
        rw [hc] at hna
        exact hM (by simpa using hna.symm)
      rw [if_neg hne, hna]
      have hsg : decide (signed (sg dbl x) m (e - -1074).toNat < 0) = sg dbl x := by
        unfold signed
        cases hs : sg dbl x with
        | true => simp only [if_true]; apply decide_eq_true; rw [Nat.shiftLeft_eq]; omega
        | false => simp only [Bool.false_eq_true, if_false]; apply decide_eq_false; rw [Nat.shiftLeft_eq]; omega
      rw [hsg, zcI dbl (r := rg dbl x) (Nat.le_of_lt (zoK hlt)) (by
        rw [zuQ, show ((-1074 : Int) - -1074).toNat = 0 by decide, Nat.pow_zero, Nat.mul_one, Nat.mul_one]; exact h3)]
      rw [zlj dbl (by rw [zbp]; omega)]
  · have he : rg dbl x = 9218868437227405312 := by omega
    have hz : dbl.read 0 = .number false 0 (-1074) := by decide +kernel
    have hr := zv9 dbl zFI (sg dbl x)
    rw [zek, ← he, zlj dbl (by rw [zbp]; omega)] at hr
    unfold Format.add
    rw [hr, hz]
    simp only [Datum.sum, Option.map_some, Format.write]
    rw [if_neg (by omega), zek, ← he, zlj dbl (by rw [zbp]; omega)]
theorem zHG {z : Int} (h : z < 0) : compare z 0 = .lt := by simp only [compare, compareOfLessAndEq]; rw [if_pos h]
theorem zG4 {z : Int} (h : 0 < z) : compare z 0 = .gt := by simp only [compare, compareOfLessAndEq]; rw [if_neg (by omega), if_neg (by omega)]
theorem zmB {x : Nat} (hx : x < 2 ^ 64) (hi : rg dbl x ≤ 9218868437227405312) : feq .f64 x 0 = decide (rg dbl x = 0) := by
  have hz : dbl.read 0 = .number false 0 (-1074) := by decide +kernel
  rcases Nat.lt_or_ge (rg dbl x) 9218868437227405312 with hlt | hge
  · obtain ⟨m, e, h1, h2, h3⟩ := ze0 dbl (w := x) (zoK hlt)
    rw [zuQ] at h2 h3
    unfold feq Format.order
    rw [show (FloatKind.f64.format) = dbl from rfl, h1, hz]
    simp only [Datum.order]
    rw [Int.min_eq_right h2]
    have hs0 : signed false 0 (-1074 - -1074 : Int).toNat = 0 := by decide
    rw [hs0]
    have hna := zed (x / dbl.signWeight % 2 == 1) m (e - -1074).toNat
    rw [h3] at hna
    have key : (signed (x / dbl.signWeight % 2 == 1) m (e - -1074).toNat = 0) ↔ rg dbl x = 0 := by
      rw [← (zaE dbl), show rg dbl x = x % dbl.signWeight from rfl, ← hna]
      omega
    by_cases h0 : rg dbl x = 0
    · rw [key.2 h0, decide_eq_true h0]; rfl
    · have hne := fun h => h0 (key.1 h)
      rw [decide_eq_false h0]
      rcases (by omega : signed (x / dbl.signWeight % 2 == 1) m (e - -1074).toNat < 0 ∨ 0 < signed (x / dbl.signWeight % 2 == 1) m (e - -1074).toNat) with h | h
      · rw [zHG h]; rfl
      · rw [zG4 h]; rfl
  · have he : rg dbl x = 9218868437227405312 := by omega
    have hr := zv9 dbl zFI (sg dbl x)
    rw [zek, ← he, zlj dbl (by rw [zbp]; omega)] at hr
    unfold feq Format.order
    rw [show (FloatKind.f64.format) = dbl from rfl, hr, hz, decide_eq_false (by omega)]
    cases sg dbl x <;> rfl
theorem zDb {x : Nat} (hx : x < 2 ^ 64) : feq .f64 x x = decide (rg dbl x ≤ 9218868437227405312) := by
  by_cases hi : rg dbl x ≤ 9218868437227405312
  · rw [decide_eq_true hi]
    refine zD3 ?_
    have := zFP dbl (sg dbl x) (rung := rg dbl x) (by rw [zek]; exact hi)
    rwa [zlj dbl (by rw [zbp]; omega)] at this
  · rw [decide_eq_false hi]
    have hn : ∃ a b, dbl.read x = .nan a b := by
      unfold Format.read
      simp only
      rw [show x % dbl.signWeight = rg dbl x from rfl, zxS, zek, if_neg (by omega), if_neg (by omega), if_neg (by omega)]
      exact ⟨_, _, rfl⟩
    obtain ⟨a, b, hn⟩ := hn
    unfold feq Format.order
    rw [show (FloatKind.f64.format) = dbl from rfl, hn]
    rfl
end Go.LI.Fl
