/- float32: what conversions give. -/
import Derived.Test.YtalpjkeiaeobdaaGreatRdO
import Derived.Test.YtalpjkeiaeobdaaGreatFlD
set_option linter.unusedVariables false
set_option maxRecDepth 100000
set_option exponentiation.threshold 2000
namespace Go.LI.Fl
open Go Go.LI Ieee

theorem sgl_inf : sgl.infRung = 2139095040 := by decide +kernel
theorem sgl_sw : sgl.signWeight = 2 ^ 31 := by decide +kernel
theorem sgl_L : sgl.leastPlace = -149 := by decide +kernel
theorem sgl_B : sgl.binade = 2 ^ 23 := by decide +kernel

/-- The least float32 in units of the least float64. -/
def un : Nat := 2 ^ 925
theorem un_eq : ∃ p, p = 925 ∧ un = 2 ^ p := ⟨925, rfl, rfl⟩
theorem un_pos : 0 < un := Nat.two_pow_pos _
/-- The rung of the greatest float32, and its size. -/
def maxr : Nat := 2139095039
def topV : Nat := mag sgl maxr * un
def top : Nat := 5183643170566569984
/-- The rung of the float32 nearest to a size. -/
def nr (M : Nat) : Nat := sgl.nearest false M (-1074)

theorem near_any (s : Bool) (m : Nat) (i : Nat) : ∃ r, sgl.nearest s m (-1074 + (i : Int)) = sgl.word s (min r 2139095040) ∧ Near sgl (m * 2 ^ i) un r := by
  obtain ⟨r, h1, h2⟩ := nearest_spec sgl (by rw [sgl_B]) s m (-1074 + (i : Int))
  rw [sgl_inf] at h1
  refine ⟨r, h1, ?_⟩
  rw [sgl_L] at h2
  obtain ⟨p, hp, hu⟩ := un_eq
  rw [hu]
  have e : Near sgl (m * 2 ^ (-1074 + (i : Int) - -149).toNat * 2 ^ min i p) (2 ^ (-149 - (-1074 + (i : Int))).toNat * 2 ^ min i p) r := (Near.scale (Nat.two_pow_pos _)).2 h2
  rw [Nat.mul_assoc, ← Nat.pow_add, ← Nat.pow_add] at e
  rw [show (-1074 + (i : Int) - -149).toNat + min i p = i by omega, show (-149 - (-1074 + (i : Int))).toNat + min i p = p by omega] at e
  exact e
theorem nr_near {M : Nat} (h : M ≤ topV) : Near sgl M un (nr M) ∧ nr M ≤ maxr := by
  obtain ⟨r, h1, h2⟩ := near_any false M 0
  rw [Nat.pow_zero, Nat.mul_one] at h2
  have hr : r ≤ maxr := h2.mono un_pos (Near.exact un_pos) h
  have : nr M = r := by
    unfold nr
    have h1' : sgl.nearest false M (-1074) = sgl.word false (min r 2139095040) := h1
    rw [h1', Nat.min_eq_left (by unfold maxr at hr; omega)]
    rfl
  rw [this]
  exact ⟨h2, hr⟩
theorem nr_exact {r : Nat} (h : r ≤ maxr) : nr (mag sgl r * un) = r := by
  have hle : mag sgl r * un ≤ topV := Nat.mul_le_mul_right _ (mag_leF sgl h)
  exact (nr_near hle).1.uniq un_pos (Near.exact un_pos)
theorem nr_mono {M N : Nat} (h : M ≤ N) (hN : N ≤ topV) : nr M ≤ nr N := (nr_near (Nat.le_trans h hN)).1.mono un_pos (nr_near hN).1 h

/-- A float32's rung as a float64's. -/
def up (r : Nat) : Nat := floorR (mag sgl r * un)
theorem mag_up (r : Nat) : mag dbl (up r) = mag sgl r * un := by
  obtain ⟨q, k, hr, h1, h2⟩ := rung_formF sgl r
  obtain ⟨p, hp, hu⟩ := un_eq
  rw [sgl_B] at h1 h2 hr
  have hm : mag sgl r = k * 2 ^ q := by
    rw [hr, ← sgl_B]
    exact mag_formF sgl (by rw [sgl_B]; omega) (by rw [sgl_B]; exact h2)
  unfold up
  rw [hm, hu, Nat.mul_assoc, ← Nat.pow_add]
  exact floorR_mul (by omega)
theorem up_lt {r : Nat} (h : r ≤ 2139095040) : up r < 9218868437227405312 := by
  obtain ⟨q, k, hr, h1, h2⟩ := rung_formF sgl r
  obtain ⟨p, hp, hu⟩ := un_eq
  rw [sgl_B] at h1 h2 hr
  have hm : mag sgl r = k * 2 ^ q := by
    rw [hr, ← sgl_B]
    exact mag_formF sgl (by rw [sgl_B]; omega) (by rw [sgl_B]; exact h2)
  unfold up
  rw [hm, hu, Nat.mul_assoc, ← Nat.pow_add]
  refine nat_rung (by omega) ?_
  have : q * 2 ^ 23 ≤ 2139095040 := by omega
  omega
theorem up_zero : up 0 = 0 := by
  unfold up
  rw [(mag_zero sgl).2 rfl, Nat.zero_mul]
  rfl
theorem up_pos {r : Nat} (h : r ≠ 0) : up r ≠ 0 := by
  intro hc
  have h1 := mag_up r
  rw [hc, (mag_zero dbl).2 rfl] at h1
  rcases Nat.mul_eq_zero.1 h1.symm with h2 | h2
  · exact h ((mag_zero sgl).1 h2)
  · have := un_pos; omega

theorem f2f_down {x : Nat} (hf : rg dbl x < 9218868437227405312) (hM : mag dbl (rg dbl x) ≤ topV) : f2f .f64 x .f32 = some (sgl.word (sg dbl x) (nr (mag dbl (rg dbl x)))) := by
  obtain ⟨i, m, h1, h2⟩ := read_num hf
  obtain ⟨r, h3, h4⟩ := near_any (sg dbl x) m i
  rw [h2] at h4
  have hn := nr_near hM
  have hr : r = nr (mag dbl (rg dbl x)) := h4.uniq un_pos hn.1
  have hmx : nr (mag dbl (rg dbl x)) ≤ 2139095039 := hn.2
  rw [hr, Nat.min_eq_left (by omega)] at h3
  unfold f2f
  rw [if_neg (by decide)]
  have hd : FloatKind.decode .f64 x = .number (sg dbl x) m (-1074 + i) := h1
  rw [hd]
  simp only
  have he : FloatKind.encode .f32 (.number (sg dbl x) m (-1074 + i)) = sgl.word (sg dbl x) (nr (mag dbl (rg dbl x))) := h3
  rw [he]
  obtain ⟨m', e', k1, _⟩ := read_word sgl (neg := sg dbl x) (r := nr (mag dbl (rg dbl x))) (by rw [sgl_inf]; omega)
  have hd2 : FloatKind.decode .f32 (sgl.word (sg dbl x) (nr (mag dbl (rg dbl x)))) = .number (sg dbl x) m' e' := k1
  rw [hd2, if_neg (by simp [Datum.isInfinity])]
theorem f2f_up {s : Bool} {r : Nat} (hr : r ≤ maxr) : f2f .f32 (sgl.word s r) .f64 = some (dbl.word s (up r)) := by
  have hr' : r ≤ 2139095039 := hr
  obtain ⟨m, e, k1, k2, k3⟩ := read_word sgl (neg := s) (r := r) (by rw [sgl_inf]; omega)
  rw [sgl_L] at k2 k3
  unfold f2f
  rw [if_neg (by decide)]
  have hd : FloatKind.decode .f32 (sgl.word s r) = .number s m e := k1
  rw [hd]
  simp only
  have hne : dbl.nearest s m e = dbl.word s (up r) := by
    refine nearest_exact dbl (Nat.le_of_lt (fin_lt (up_lt (by omega)))) ?_
    rw [mag_up, dbl_L, show ((-1074 : Int) - e).toNat = 0 by omega, Nat.pow_zero, Nat.mul_one, ← k3]
    obtain ⟨p, hp, hu⟩ := un_eq
    rw [hu, Nat.mul_assoc, ← Nat.pow_add]
    congr 2
    omega
  have he : FloatKind.encode .f64 (.number s m e) = dbl.word s (up r) := hne
  rw [he]
  obtain ⟨m', e', k1, _⟩ := read_word dbl (neg := s) (r := up r) (fin_lt (up_lt (by omega)))
  have hd2 : FloatKind.decode .f64 (dbl.word s (up r)) = .number s m' e' := k1
  rw [hd2, if_neg (by simp [Datum.isInfinity])]
theorem f2f_up_inf (s : Bool) : f2f .f32 (sgl.word s 2139095040) .f64 = some (dbl.word s 9218868437227405312) := by cases s <;> decide +kernel
theorem f2f_down_inf (s : Bool) : f2f .f64 (dbl.word s 9218868437227405312) .f32 = some (sgl.word s 2139095040) := by cases s <;> decide +kernel

theorem sv_word {s : Bool} {r : Nat} (h : r < 2 ^ 63) : sv (dbl.word s r) = sgn s (mag dbl r) := by
  have h' : r < dbl.signWeight := by rw [dbl_sw]; exact h
  rw [sv_sgn, sg_word dbl h', rg_word dbl h']
theorem word_lt64 {s : Bool} {r : Nat} (h : r < 2 ^ 63) : dbl.word s r < 2 ^ 64 := by
  have := (word_split dbl (neg := s) (r := r) (by rw [dbl_sw]; exact h)).2.2
  rw [dbl_sw] at this
  omega
theorem rg_word' {s : Bool} {r : Nat} (h : r < 2 ^ 63) : rg dbl (dbl.word s r) = r := rg_word dbl (by rw [dbl_sw]; exact h)
theorem sg_word' {s : Bool} {r : Nat} (h : r < 2 ^ 63) : sg dbl (dbl.word s r) = s := sg_word dbl (by rw [dbl_sw]; exact h)
theorem word_self {x : Nat} (h : x < 2 ^ 64) : dbl.word (sg dbl x) (rg dbl x) = x := word_sr dbl (by rw [dbl_sw]; omega)
theorem sv_inj {x y : Nat} (hx : x < 2 ^ 64) (hy : y < 2 ^ 64) (h : sv x = sv y) (h0 : sv y ≠ 0) : x = y := by
  rw [sv_sgn, sv_sgn] at h
  rw [sv_sgn] at h0
  unfold sgn at h h0
  have hm : mag dbl (rg dbl x) = mag dbl (rg dbl y) := by
    split at h <;> split at h <;> omega
  have hs : sg dbl x = sg dbl y := by
    cases h1 : sg dbl x <;> cases h2 : sg dbl y
    · rfl
    · rw [h1, h2] at h; rw [h2] at h0; simp at h h0; omega
    · rw [h1, h2] at h; rw [h2] at h0; simp at h h0; omega
    · rfl
  rw [← word_self hx, ← word_self hy, hs, mag_inj hm]

theorem top_up : up maxr = top := by decide +kernel
theorem top_num : num top ∧ sv top = (topV : Int) := by
  have h := num_small (r := top) (by decide)
  refine ⟨h.1, ?_⟩
  rw [h.2, ← top_up, mag_up]
  rfl
def ntop : Nat := 14407015207421345792
theorem ntop_word : dbl.word true top = ntop := by decide +kernel
theorem ntop_num : num ntop ∧ sv ntop = -(topV : Int) := by
  have h : top < 2 ^ 63 := by decide
  refine ⟨⟨by decide, ?_⟩, ?_⟩
  · rw [← ntop_word, rg_word' h]; decide
  · rw [← ntop_word, sv_word h, ← top_up, mag_up]
    rfl
theorem topV_pos : 0 < topV := by
  refine Nat.mul_pos (Nat.pos_of_ne_zero fun h => ?_) un_pos
  exact absurd ((mag_zero sgl).1 h) (by decide)

/-- A number, not beyond the greatest float32. -/
def clip (x : Nat) : Nat := if (topV : Int) ≤ sv x then top else if sv x ≤ -(topV : Int) then ntop else x
theorem cmpI (a b : Int) : (a < b → compare a b = .lt) ∧ (a = b → compare a b = .eq) ∧ (b < a → compare a b = .gt) := by
  refine ⟨fun h => ?_, fun h => ?_, fun h => ?_⟩
  · simp only [compare, compareOfLessAndEq]; rw [if_pos h]
  · subst h; simp [compare, compareOfLessAndEq]
  · simp only [compare, compareOfLessAndEq]; rw [if_neg (show ¬ a < b by omega), if_neg (show ¬ a = b by omega)]
theorem fmin_top {x : Nat} (hx : num x) : fmin .f64 x top = some (if sv x < topV then x else top) := by
  unfold fmin
  have ho : (FloatKind.format .f64).order x top = some (compare (sv x) (sv top)) := order_sv hx top_num.1
  rw [ho, top_num.2]
  rcases Int.lt_trichotomy (sv x) topV with h | h | h
  · rw [if_pos (c := sv x < (topV : Int)) h, (cmpI _ _).1 h]
  · have : x = top := sv_inj hx.1 top_num.1.1 (h.trans top_num.2.symm) (by rw [top_num.2]; have := topV_pos; omega)
    rw [if_neg (c := sv x < (topV : Int)) (by omega), (cmpI _ _).2.1 h, this]
    simp
  · rw [if_neg (c := sv x < (topV : Int)) (by omega), (cmpI _ _).2.2 h]
theorem fmax_ntop {x : Nat} (hx : num x) : fmax .f64 x ntop = some (if -(topV : Int) < sv x then x else ntop) := by
  unfold fmax
  have ho : (FloatKind.format .f64).order x ntop = some (compare (sv x) (sv ntop)) := order_sv hx ntop_num.1
  rw [ho, ntop_num.2]
  rcases Int.lt_trichotomy (sv x) (-(topV : Int)) with h | h | h
  · rw [if_neg (c := -(topV : Int) < sv x) (by omega), (cmpI _ _).1 h]
  · have : x = ntop := sv_inj hx.1 ntop_num.1.1 (h.trans ntop_num.2.symm) (by rw [ntop_num.2]; have := topV_pos; omega)
    rw [if_neg (c := -(topV : Int) < sv x) (by omega), (cmpI _ _).2.1 h, this]
    simp
  · rw [if_pos (c := -(topV : Int) < sv x) h, (cmpI _ _).2.2 h]
theorem clip_min {x : Nat} (hx : num x) : (fmin .f64 x top).bind (fun r => fmax .f64 r ntop) = some (clip x) := by
  rw [fmin_top hx, Option.bind_some]
  unfold clip
  have hp := topV_pos
  by_cases h : sv x < topV
  · rw [if_pos h, fmax_ntop hx, if_neg (c := (topV : Int) ≤ sv x) (by omega)]
    by_cases h2 : -(topV : Int) < sv x
    · rw [if_pos h2, if_neg (c := sv x ≤ -(topV : Int)) (by omega)]
    · rw [if_neg h2, if_pos (c := sv x ≤ -(topV : Int)) (by omega)]
  · rw [if_neg h, fmax_ntop top_num.1, top_num.2, if_pos (c := -(topV : Int) < topV) (by omega), if_pos (c := (topV : Int) ≤ sv x) (by omega)]
theorem clip_ok {x : Nat} (hx : num x) : clip x < 2 ^ 64 ∧ rg dbl (clip x) < 9218868437227405312 ∧ mag dbl (rg dbl (clip x)) ≤ topV := by
  have small : ∀ {y : Nat}, num y → (sv y).natAbs ≤ topV → y < 2 ^ 64 ∧ rg dbl y < 9218868437227405312 ∧ mag dbl (rg dbl y) ≤ topV := by
    intro y hy h
    have hm : mag dbl (rg dbl y) ≤ topV := by
      rw [sv_sgn] at h
      unfold sgn at h
      split at h <;> omega
    refine ⟨hy.1, ?_, hm⟩
    rcases Nat.lt_or_ge (rg dbl y) 9218868437227405312 with h' | h'
    · exact h'
    · exfalso
      have h1 : mag dbl top < mag dbl (rg dbl y) := mag_lt (by unfold top; omega)
      rw [← top_up, mag_up] at h1
      have : topV = mag sgl maxr * un := rfl
      omega
  unfold clip
  by_cases h1 : (topV : Int) ≤ sv x
  · rw [if_pos h1]; exact small top_num.1 (by rw [top_num.2]; omega)
  · rw [if_neg h1]
    by_cases h2 : sv x ≤ -(topV : Int)
    · rw [if_pos h2]; exact small ntop_num.1 (by rw [ntop_num.2]; omega)
    · rw [if_neg h2]; exact small hx (by omega)

/-- The nearest float32, not beyond the greatest; no -0. -/
def narrowR (x : Nat) : Nat := nr (mag dbl (rg dbl (clip x)))
def narrowS (x : Nat) : Bool := if narrowR x = 0 then false else sg dbl (clip x)
def narrowW (x : Nat) : Nat := dbl.word (narrowS x) (up (narrowR x))
theorem narrowR_le {x : Nat} (hx : num x) : narrowR x ≤ maxr := (nr_near (clip_ok hx).2.2).2
theorem narrow_num {x : Nat} (hx : num x) : num (narrowW x) ∧ sv (narrowW x) = sgn (narrowS x) (mag sgl (narrowR x) * un) := by
  have h1 := narrowR_le hx
  have h2 := up_lt (r := narrowR x) (by have : maxr = 2139095039 := rfl; omega)
  have h3 : up (narrowR x) < 2 ^ 63 := by omega
  refine ⟨⟨word_lt64 h3, ?_⟩, ?_⟩
  · show rg dbl (dbl.word _ _) ≤ _
    rw [rg_word' h3]; omega
  · show sv (dbl.word _ _) = _
    rw [sv_word h3, mag_up]
/-- As the program says it. -/
theorem narrow_prog {x : Nat} (hx : num x) {β : Type} (k : Nat → Option β) :
    ((fmin .f64 x top).bind fun r1 => (fmax .f64 r1 ntop).bind fun r2 => (f2f .f64 r2 .f32).bind fun x3 => (f2f .f32 x3 .f64).bind fun x4 => ((FloatKind.format .f64).add x4 0).bind fun r5 => k r5) = k (narrowW x) := by
  have hc := clip_min hx
  obtain ⟨c1, c2, c3⟩ := clip_ok hx
  have hr := narrowR_le hx
  rw [fmin_top hx, Option.bind_some] at hc ⊢
  rw [hc, Option.bind_some, f2f_down c2 c3, Option.bind_some, f2f_up (nr_near c3).2, Option.bind_some]
  have h2 := up_lt (r := narrowR x) (by have : maxr = 2139095039 := rfl; omega)
  have h3 : up (narrowR x) < 2 ^ 63 := by omega
  have ha := add_zero' (x := dbl.word (sg dbl (clip x)) (up (narrowR x))) (word_lt64 h3) (by rw [rg_word' h3]; omega)
  have ha' : (FloatKind.format .f64).add (dbl.word (sg dbl (clip x)) (up (nr (mag dbl (rg dbl (clip x)))))) 0 = some (narrowW x) := by
    refine ha.trans ?_
    rw [rg_word' h3]
    unfold narrowW narrowS
    by_cases h0 : narrowR x = 0
    · rw [h0, up_zero, if_pos rfl, if_pos rfl]; rfl
    · rw [if_neg (up_pos h0), if_neg h0]
  rw [ha', Option.bind_some]
end Go.LI.Fl
