/- A sample's byte: in range, and it rises. -/
import Derived.Test.YtmhoddmenfondaaDoorFlD
import Derived.Test.YtmhoddmenfondaaDoorRdO
set_option linter.unusedVariables false
set_option maxRecDepth 100000
set_option exponentiation.threshold 2000
namespace Go.LI.Fl
open Go Go.LI Ieee

/-- What Byte gives, in plain words. -/
def byteV (x : Nat) : Option Int :=
  bif (!(fgt .f64 x (0 : Nat))) then some 0
  else bif (fge .f64 x (4607182418800017408 : Nat)) then some 255
  else ((FloatKind.format .f64).mul x (4643176031446892544 : Nat)).bind fun r1 =>
    ((FloatKind.format .f64).add r1 (4602678819172646912 : Nat)).bind fun r2 => f2i .f64 r2 .u8

theorem dblB2 : dbl.binade % 2 = 0 := by decide +kernel
theorem mag255 : mag dbl 4643176031446892544 = 255 * 2 ^ 1074 := by
  have h := mag_form (q := 1029) (m := 255 * 2 ^ 45) (by decide) (.inr (by decide))
  have e : 1029 * 2 ^ 52 + 255 * 2 ^ 45 = 4643176031446892544 := by decide
  rw [e] at h
  rw [h, Nat.mul_assoc, ← Nat.pow_add]
theorem mag2555 : mag dbl 4643193623632936960 = 511 * 2 ^ 1073 := by
  have h := mag_form (q := 1029) (m := 511 * 2 ^ 44) (by decide) (.inr (by decide))
  have e : 1029 * 2 ^ 52 + 511 * 2 ^ 44 = 4643193623632936960 := by decide
  rw [e] at h
  rw [h, Nat.mul_assoc, ← Nat.pow_add]
theorem magHalf : mag dbl 4602678819172646912 = 2 ^ 1073 := by
  have h := mag_form (q := 1021) (m := 2 ^ 52) (by decide) (.inr (by decide))
  have e : 1021 * 2 ^ 52 + 2 ^ 52 = 4602678819172646912 := by decide
  rw [e] at h
  rw [h, ← Nat.pow_add]
theorem magOne : mag dbl 4607182418800017408 = 2 ^ 1074 := by
  have h := mag_form (q := 1022) (m := 2 ^ 52) (by decide) (.inr (by decide))
  have e : 1022 * 2 ^ 52 + 2 ^ 52 = 4607182418800017408 := by decide
  rw [e] at h
  rw [h, ← Nat.pow_add]

theorem rg_sm {r : Nat} (h : r < 9218868437227405312) : rg dbl r = r ∧ sg dbl r = false := by
  unfold rg sg
  rw [dbl_sw]
  exact ⟨Nat.mod_eq_of_lt (by omega), by rw [Nat.div_eq_of_lt (by omega)]; rfl⟩
theorem readK : dbl.read 4643176031446892544 = .number false (255 * 2 ^ 45) (-45) := by decide +kernel
theorem readH : dbl.read 4602678819172646912 = .number false (2 ^ 52) (-53) := by decide +kernel

theorem mul_K {x : Nat} (hx : x < 9218868437227405312) : ∃ r, dbl.mul x 4643176031446892544 = some (min r 9218868437227405312) ∧ Near dbl (mag dbl x * 255) 1 r := by
  obtain ⟨hr, hs⟩ := rg_sm hx
  obtain ⟨i, m, h1, h2⟩ := read_num (x := x) (by rw [hr]; exact hx)
  rw [hs] at h1
  rw [hr] at h2
  obtain ⟨r, h3, h4⟩ := nearest_spec dbl dblB2 false (m * (255 * 2 ^ 45)) (-1074 + (i : Int) + -45)
  have e : dbl.mul x 4643176031446892544 = some (dbl.nearest false (m * (255 * 2 ^ 45)) (-1074 + (i : Int) + -45)) := by
    unfold Format.mul
    rw [h1, readK]
    rfl
  refine ⟨r, ?_, ?_⟩
  · rw [e, h3, dbl_inf]; rfl
  · rw [dbl_L] at h4
    by_cases hi : 45 ≤ i
    · have q1 : (-1074 + (i : Int) + -45 - -1074).toNat = i - 45 := by omega
      have q2 : (-1074 - (-1074 + (i : Int) + -45)).toNat = 0 := by omega
      rw [q1, q2, Nat.pow_zero] at h4
      have q3 : m * (255 * 2 ^ 45) * 2 ^ (i - 45) = mag dbl x * 255 := by
        have hp : 2 ^ 45 * 2 ^ (i - 45) = 2 ^ i := by rw [← Nat.pow_add]; congr 1; omega
        rw [← h2, Nat.mul_assoc, Nat.mul_assoc, hp, Nat.mul_assoc, Nat.mul_comm 255]
      rwa [q3] at h4
    · have q1 : (-1074 + (i : Int) + -45 - -1074).toNat = 0 := by omega
      have q2 : (-1074 - (-1074 + (i : Int) + -45)).toNat = 45 - i := by omega
      rw [q1, q2, Nat.pow_zero, Nat.mul_one] at h4
      have q3 : m * (255 * 2 ^ 45) = (mag dbl x * 255) * 2 ^ (45 - i) := by
        have hp : 2 ^ i * 2 ^ (45 - i) = 2 ^ 45 := by rw [← Nat.pow_add]; congr 1; omega
        rw [← hp, ← h2, Nat.mul_assoc, Nat.mul_assoc, Nat.mul_left_comm 255]
      have h5 : Near dbl ((mag dbl x * 255) * 2 ^ (45 - i)) (1 * 2 ^ (45 - i)) r := by rw [← q3, Nat.one_mul]; exact h4
      exact (Near.scale (Nat.two_pow_pos _)).1 h5

theorem add_H {x : Nat} (hx : x < 9218868437227405312) : ∃ r, dbl.add x 4602678819172646912 = some (min r 9218868437227405312) ∧ Near dbl (mag dbl x + mag dbl 4602678819172646912) 1 r := by
  obtain ⟨hr, hs⟩ := rg_sm hx
  obtain ⟨i, m, h1, h2⟩ := read_num (x := x) (by rw [hr]; exact hx)
  rw [hs] at h1
  rw [hr] at h2
  have hb : ∃ b : Nat, min (-1074 + (i : Int)) (-53) = -1074 + (b : Int) ∧ b ≤ i ∧ b ≤ 1021 := ⟨min i 1021, by omega, by omega, by omega⟩
  obtain ⟨b, hb1, hb2, hb3⟩ := hb
  have e : dbl.add x 4602678819172646912 = some (dbl.nearest false (m * 2 ^ (i - b) + 2 ^ 52 * 2 ^ (1021 - b)) (-1074 + (b : Int))) := by
    unfold Format.add
    rw [h1, readH]
    simp only [Datum.sum, hb1]
    have q1 : (-1074 + (i : Int) - (-1074 + (b : Int))).toNat = i - b := by omega
    have q2 : (-53 - (-1074 + (b : Int))).toNat = 1021 - b := by omega
    rw [q1, q2]
    have q3 : signed false m (i - b) + signed false (2 ^ 52) (1021 - b) = ((m * 2 ^ (i - b) + 2 ^ 52 * 2 ^ (1021 - b) : Nat) : Int) := by
      simp only [signed, Bool.false_eq_true, if_false, Nat.shiftLeft_eq]
      exact (Int.natCast_add _ _).symm
    have hpos : 0 < 2 ^ 52 * 2 ^ (1021 - b) := Nat.mul_pos (Nat.two_pow_pos _) (Nat.two_pow_pos _)
    rw [q3]
    generalize m * 2 ^ (i - b) + 2 ^ 52 * 2 ^ (1021 - b) = T
    have q4 : (if (T : Int) = 0 then (false && false) else decide ((T : Int) < 0)) = false := by
      split
      · rfl
      · simp only [decide_eq_false_iff_not]; omega
    rw [q4, Int.natAbs_natCast]
    rfl
  obtain ⟨r, h3, h4⟩ := nearest_spec dbl dblB2 false (m * 2 ^ (i - b) + 2 ^ 52 * 2 ^ (1021 - b)) (-1074 + (b : Int))
  refine ⟨r, ?_, ?_⟩
  · rw [e, h3, dbl_inf]; rfl
  · rw [dbl_L] at h4
    have q1 : (-1074 + (b : Int) - -1074).toNat = b := by omega
    have q2 : (-1074 - (-1074 + (b : Int))).toNat = 0 := by omega
    rw [q1, q2, Nat.pow_zero] at h4
    have q3 : (m * 2 ^ (i - b) + 2 ^ 52 * 2 ^ (1021 - b)) * 2 ^ b = mag dbl x + mag dbl 4602678819172646912 := by
      have hp : 2 ^ (i - b) * 2 ^ b = 2 ^ i := by rw [← Nat.pow_add]; congr 1; omega
      have hq : 2 ^ (1021 - b) * 2 ^ b = 2 ^ 1021 := by rw [← Nat.pow_add]; congr 1; omega
      rw [Nat.add_mul, Nat.mul_assoc, hp, Nat.mul_assoc, hq, h2, magHalf, ← Nat.pow_add]
    rwa [q3] at h4

theorem cut_zero (n drop : Nat) : Toward.zero.cut false n drop = n / 2 ^ drop := by
  unfold Toward.cut
  simp only [Bool.toNat_false, Nat.add_zero, Nat.one_shiftLeft]
  by_cases h : drop ≤ n.log2 + 2
  · rw [Nat.min_eq_left h]
  · rw [Nat.min_eq_right (by omega)]
    have h1 : n < 2 ^ (n.log2 + 2) := Nat.lt_of_lt_of_le Nat.lt_log2_self (Nat.pow_le_pow_right (by decide) (by omega))
    have h2 : n < 2 ^ drop := Nat.lt_of_lt_of_le h1 (Nat.pow_le_pow_right (by decide) (by omega))
    rw [Nat.div_eq_of_lt h1, Nat.div_eq_of_lt h2]
theorem trunc_u8 {x : Nat} (hx : x < 9218868437227405312) (hb : mag dbl x / 2 ^ 1074 ≤ 255) : f2i .f64 x .u8 = some ((mag dbl x / 2 ^ 1074 : Nat) : Int) := by
  obtain ⟨hr, hs⟩ := rg_sm hx
  obtain ⟨i, m, h1, h2⟩ := read_num (x := x) (by rw [hr]; exact hx)
  rw [hs] at h1
  rw [hr] at h2
  have hd : FloatKind.f64.decode x = .number false m (-1074 + (i : Int)) := h1
  have e : (FloatKind.f64.decode x).toInt .zero = some ((mag dbl x / 2 ^ 1074 : Nat) : Int) := by
    rw [hd]
    unfold Datum.toInt
    simp only [Datum.integral, cut_zero, Nat.shiftLeft_eq, signed, Bool.false_eq_true, if_false, Nat.pow_zero, Nat.mul_one]
    congr 2
    rw [← h2]
    by_cases hi : 1074 ≤ i
    · have q1 : (-1074 + (i : Int)).toNat = i - 1074 := by omega
      have q2 : (-(-1074 + (i : Int))).toNat = 0 := by omega
      have hp : 2 ^ i = 2 ^ (i - 1074) * 2 ^ 1074 := by rw [← Nat.pow_add]; congr 1; omega
      rw [q1, q2, Nat.pow_zero, Nat.div_one, hp, ← Nat.mul_assoc, Nat.mul_div_cancel _ (Nat.two_pow_pos _)]
    · have q1 : (-1074 + (i : Int)).toNat = 0 := by omega
      have q2 : (-(-1074 + (i : Int))).toNat = 1074 - i := by omega
      have hp : 2 ^ 1074 = 2 ^ (1074 - i) * 2 ^ i := by rw [← Nat.pow_add]; congr 1; omega
      rw [q1, q2, Nat.pow_zero, Nat.mul_one, hp, Nat.mul_div_mul_right _ _ (Nat.two_pow_pos _)]
  unfold f2i
  rw [e]
  have m0 : IntKind.u8.min = 0 := rfl
  have m1 : IntKind.u8.max = 255 := rfl
  simp only [m0, m1]
  rw [if_pos ⟨by omega, by omega⟩]

/-- Between 0 and 1. -/
theorem byte_mid {x : Nat} (h1 : x < 4607182418800017408) : ∃ r1 r2 : Nat, Near dbl (mag dbl x * 255) 1 r1 ∧ Near dbl (mag dbl r1 + mag dbl 4602678819172646912) 1 r2 ∧ r2 ≤ 4643193623632936960 ∧
    (((FloatKind.format .f64).mul x (4643176031446892544 : Nat)).bind fun r1 => ((FloatKind.format .f64).add r1 (4602678819172646912 : Nat)).bind fun r2 => f2i .f64 r2 .u8) = some ((mag dbl r2 / 2 ^ 1074 : Nat) : Int) := by
  obtain ⟨r1, e1, n1⟩ := mul_K (x := x) (by omega)
  have b1 : r1 ≤ 4643176031446892544 := by
    refine Near.mono (by decide) n1 (Near.exact (f := dbl) (S := 1) (by decide)) ?_
    have := mag_le (r := x) (s := 4607182418800017408) (by omega)
    rw [magOne] at this
    rw [mag255, Nat.mul_one, Nat.mul_comm 255]
    exact Nat.mul_le_mul_right _ this
  rw [Nat.min_eq_left (by omega)] at e1
  obtain ⟨r2, e2, n2⟩ := add_H (x := r1) (by omega)
  have b2 : r2 ≤ 4643193623632936960 := by
    refine Near.mono (by decide) n2 (Near.exact (f := dbl) (S := 1) (by decide)) ?_
    have := mag_le b1
    rw [mag255] at this
    rw [mag2555, Nat.mul_one, magHalf]
    have hp : 2 ^ 1074 = 2 * 2 ^ 1073 := by rw [← Nat.pow_succ']
    omega
  rw [Nat.min_eq_left (by omega)] at e2
  refine ⟨r1, r2, n1, n2, b2, ?_⟩
  have e1' : (FloatKind.format .f64).mul x (4643176031446892544 : Nat) = some r1 := e1
  have e2' : (FloatKind.format .f64).add r1 (4602678819172646912 : Nat) = some r2 := e2
  rw [e1', Option.bind_some, e2', Option.bind_some]
  refine trunc_u8 (by omega) ?_
  have := mag_le b2
  rw [mag2555] at this
  have hp : 2 ^ 1074 = 2 * 2 ^ 1073 := by rw [← Nat.pow_succ']
  have hq := Nat.two_pow_pos 1073
  rw [hp]
  refine Nat.le_of_lt_succ (Nat.div_lt_of_lt_mul ?_)
  omega

theorem num_pos {x : Nat} (hx : num x) (h : 0 < sv x) : x < 9218868437227405313 ∧ sv x = (mag dbl x : Int) := by
  have hs : sg dbl x = false := by
    cases hs : sg dbl x with
    | false => rfl
    | true =>
      rw [sv_sgn, hs] at h
      simp only [sgn, if_true] at h
      omega
  have hw := word_sr (f := dbl) (w := x) (by rw [dbl_sw]; have := hx.1; omega)
  rw [hs] at hw
  have hr : rg dbl x = x := hw
  have := hx.2
  rw [hr] at this
  refine ⟨by omega, ?_⟩
  rw [sv_sgn, hs, hr]
  rfl
theorem sv_zero : sv 0 = 0 := by
  rw [(num_small (r := 0) (by decide)).2, (mag_zero dbl).2 rfl]; rfl
theorem sv_one : sv 4607182418800017408 = (mag dbl 4607182418800017408 : Int) := (num_small (by decide)).2
theorem num_zero : num 0 := (num_small (r := 0) (by decide)).1
theorem num_one : num 4607182418800017408 := (num_small (by decide)).1

theorem gt_nan {x y : Nat} (h : ¬ (rg dbl x ≤ 9218868437227405312 ∧ rg dbl y ≤ 9218868437227405312)) : fgt .f64 x y = false := by
  have e : (FloatKind.f64.format).order x y = none := order_nan h
  unfold fgt
  rw [e]; rfl
theorem le_nan {x y : Nat} (h : ¬ (rg dbl x ≤ 9218868437227405312 ∧ rg dbl y ≤ 9218868437227405312)) : fle .f64 x y = false := by
  have e : (FloatKind.f64.format).order x y = none := order_nan h
  unfold fle
  rw [e]; rfl

/-- The three cases. -/
theorem byte_cases {x : Nat} (hx : x < 2 ^ 64) : byteV x = some 0 ∧ (num x → ¬ 0 < sv x) ∨
    (num x ∧ 0 < sv x ∧ (mag dbl 4607182418800017408 : Int) ≤ sv x ∧ byteV x = some 255) ∨
    (num x ∧ 0 < sv x ∧ x < 4607182418800017408 ∧ byteV x = (((FloatKind.format .f64).mul x (4643176031446892544 : Nat)).bind fun r1 => ((FloatKind.format .f64).add r1 (4602678819172646912 : Nat)).bind fun r2 => f2i .f64 r2 .u8)) := by
  by_cases hn : num x
  · have h1 := fgt_sv hn num_zero
    have h2 := fge_sv hn num_one
    rw [sv_zero] at h1
    rw [sv_one] at h2
    by_cases hp : 0 < sv x
    · have h1' : fgt .f64 x 0 = true := by rw [h1]; simpa using hp
      by_cases ho : (mag dbl 4607182418800017408 : Int) ≤ sv x
      · refine .inr (.inl ⟨hn, hp, ho, ?_⟩)
        have h2' : fge .f64 x 4607182418800017408 = true := by rw [h2]; simpa using ho
        unfold byteV
        rw [h1', h2']
        rfl
      · refine .inr (.inr ⟨hn, hp, ?_, ?_⟩)
        · obtain ⟨q1, q2⟩ := num_pos hn hp
          rw [q2] at ho
          rcases Nat.lt_or_ge x 4607182418800017408 with h | h
          · exact h
          · exact absurd (Int.ofNat_le.2 (mag_le h)) ho
        · have h2' : fge .f64 x 4607182418800017408 = false := by rw [h2]; simpa using ho
          unfold byteV
          rw [h1', h2']
          rfl
    · refine .inl ⟨?_, fun _ => hp⟩
      have h1' : fgt .f64 x 0 = false := by rw [h1]; simpa using hp
      unfold byteV
      rw [h1']
      rfl
  · refine .inl ⟨?_, fun h => absurd h hn⟩
    have h1' : fgt .f64 x 0 = false := gt_nan fun h => hn ⟨hx, h.1⟩
    unfold byteV
    rw [h1']
    rfl
theorem mid_le {r : Nat} (h : r ≤ 4643193623632936960) : mag dbl r / 2 ^ 1074 ≤ 255 := by
  have := mag_le h
  rw [mag2555] at this
  have hp : 2 ^ 1074 = 2 * 2 ^ 1073 := by rw [← Nat.pow_succ']
  have hq := Nat.two_pow_pos 1073
  rw [hp]
  refine Nat.le_of_lt_succ (Nat.div_lt_of_lt_mul ?_)
  omega
theorem byte_tot {x : Nat} (hx : x < 2 ^ 64) : ∃ v : Nat, byteV x = some (v : Int) ∧ v ≤ 255 := by
  rcases byte_cases hx with ⟨h, _⟩ | ⟨_, _, _, h⟩ | ⟨_, _, h1, h⟩
  · exact ⟨0, h, by decide⟩
  · exact ⟨255, h, by decide⟩
  · obtain ⟨r1, r2, n1, n2, b, e⟩ := byte_mid h1
    exact ⟨_, h.trans e, mid_le b⟩
theorem byte_mono {x y v w : Nat} (hx : x < 2 ^ 64) (hy : y < 2 ^ 64) (hxy : fle .f64 x y = true) (hv : byteV x = some (v : Int)) (hw : byteV y = some (w : Int)) : v ≤ w := by
  have hn : rg dbl x ≤ 9218868437227405312 ∧ rg dbl y ≤ 9218868437227405312 := by
    by_cases h : rg dbl x ≤ 9218868437227405312 ∧ rg dbl y ≤ 9218868437227405312
    · exact h
    · rw [le_nan h] at hxy; cases hxy
  have nx : num x := ⟨hx, hn.1⟩
  have ny : num y := ⟨hy, hn.2⟩
  rw [fle_sv nx ny, decide_eq_true_eq] at hxy
  rcases byte_cases hx with ⟨h, _⟩ | ⟨_, hp, ho, h⟩ | ⟨_, hp, h1, h⟩
  · rw [hv] at h
    injection h with h
    omega
  · have hy1 : (mag dbl 4607182418800017408 : Int) ≤ sv y := by omega
    rcases byte_cases hy with ⟨_, k⟩ | ⟨_, _, _, k⟩ | ⟨_, k1, k2, _⟩
    · exact absurd (by omega) (k ny)
    · rw [hw] at k
      rw [hv] at h
      injection h with h
      injection k with k
      omega
    · obtain ⟨_, q2⟩ := num_pos ny k1
      have := mag_lt k2
      rw [q2] at hy1
      omega
  · obtain ⟨r1, r2, n1, n2, b, e⟩ := byte_mid h1
    rw [h, e] at hv
    injection hv with hv
    rcases byte_cases hy with ⟨_, k⟩ | ⟨_, _, _, k⟩ | ⟨_, k1, k2, k⟩
    · exact absurd (by omega) (k ny)
    · rw [hw] at k
      injection k with k
      have := mid_le b
      omega
    · obtain ⟨s1, s2, m1, m2, b', e'⟩ := byte_mid k2
      rw [k, e'] at hw
      injection hw with hw
      obtain ⟨_, q1⟩ := num_pos nx hp
      obtain ⟨_, q2⟩ := num_pos ny k1
      rw [q1, q2] at hxy
      have hm : mag dbl x ≤ mag dbl y := by omega
      have g1 := Near.mono (by decide) n1 m1 (Nat.mul_le_mul_right _ hm)
      have g2 := Near.mono (by decide) n2 m2 (Nat.add_le_add_right (mag_le g1) _)
      have g3 : mag dbl r2 / 2 ^ 1074 ≤ mag dbl s2 / 2 ^ 1074 := Nat.div_le_div_right (mag_le g2)
      omega

/-- A byte over 255 comes back. -/
theorem byte_back : (List.range 256).all (fun v => (((FloatKind.format .f64).div (FloatKind.nearest .f64 (v : Int)) (4643176031446892544 : Nat)).bind fun r => if r < 2 ^ 64 then byteV r else none) == some (v : Int)) = true := by decide +kernel
theorem byte_of {v : Nat} (hv : v < 256) : ∃ r, (FloatKind.format .f64).div (FloatKind.nearest .f64 (v : Int)) (4643176031446892544 : Nat) = some r ∧ r < 2 ^ 64 ∧ byteV r = some (v : Int) := by
  have h := List.all_eq_true.1 byte_back v (List.mem_range.2 hv)
  simp only [beq_iff_eq] at h
  cases hd : (FloatKind.format .f64).div (FloatKind.nearest .f64 (v : Int)) (4643176031446892544 : Nat) with
  | none => rw [hd] at h; cases h
  | some r =>
    rw [hd, Option.bind_some] at h
    split at h
    · rename_i h1; exact ⟨r, rfl, h1, h⟩
    · cases h
end Go.LI.Fl
