/- float32: rising, no neighbour nearer; differences. -/
import Derived.Test.YtalpjkeiaeobdaaGreatRdN1
set_option linter.unusedVariables false
set_option maxRecDepth 100000
set_option exponentiation.threshold 2000
namespace Go.LI.Fl
open Go Go.LI Ieee

/-- The value of the narrowed, by the clipped value. -/
def vr (c : Int) : Int := if c < 0 then -((mag sgl (nr c.natAbs) * un : Nat) : Int) else ((mag sgl (nr c.natAbs) * un : Nat) : Int)
theorem nr_zero : nr 0 = 0 := by
  have h : nr (mag sgl 0 * un) = 0 := nr_exact (by decide)
  rwa [(mag_zero sgl).2 rfl, Nat.zero_mul] at h
theorem sv_abs (x : Nat) : (sv x).natAbs = mag dbl (rg dbl x) := by
  rw [sv_sgn]; unfold sgn; split <;> omega
theorem narrow_vr {x : Nat} (hx : num x) : sv (narrowW x) = vr (sv (clip x)) := by
  rw [(narrow_num hx).2]
  unfold narrowS narrowR vr
  rw [sv_abs]
  by_cases h0 : nr (mag dbl (rg dbl (clip x))) = 0
  · rw [h0, if_pos rfl, (mag_zero sgl).2 rfl, Nat.zero_mul]
    unfold sgn; split <;> simp
  · rw [if_neg h0]
    have hm : mag dbl (rg dbl (clip x)) ≠ 0 := by
      intro hc
      rw [hc] at h0
      exact h0 nr_zero
    rw [sv_sgn]
    unfold sgn
    cases sg dbl (clip x) with
    | true => rw [if_pos rfl, if_pos rfl, if_pos (by omega)]
    | false => rw [if_neg (by simp), if_neg (by simp)]
theorem clip_le {x : Nat} (hx : num x) : (sv (clip x)).natAbs ≤ topV := by
  rw [sv_abs]; exact (clip_ok hx).2.2
theorem clip_sv (x : Nat) : sv (clip x) = if (topV : Int) ≤ sv x then (topV : Int) else if sv x ≤ -(topV : Int) then -(topV : Int) else sv x := by
  unfold clip
  split
  · exact top_num.2
  · split
    · exact ntop_num.2
    · rfl
theorem vr_mono {c d : Int} (h : c ≤ d) (hc : c.natAbs ≤ topV) (hd : d.natAbs ≤ topV) : vr c ≤ vr d := by
  unfold vr
  by_cases c0 : c < 0
  · rw [if_pos c0]
    by_cases d0 : d < 0
    · rw [if_pos d0]
      have h1 := mag_leF sgl (nr_mono (M := d.natAbs) (N := c.natAbs) (by omega) hc)
      have h2 := Nat.mul_le_mul_right un h1
      omega
    · rw [if_neg d0]; omega
  · rw [if_neg c0, if_neg (by omega)]
    have h1 := mag_leF sgl (nr_mono (M := c.natAbs) (N := d.natAbs) (by omega) hd)
    have h2 := Nat.mul_le_mul_right un h1
    omega
theorem narrow_mono {x y : Nat} (hx : num x) (hy : num y) (h : sv x ≤ sv y) : sv (narrowW x) ≤ sv (narrowW y) := by
  rw [narrow_vr hx, narrow_vr hy]
  refine vr_mono ?_ (clip_le hx) (clip_le hy)
  rw [clip_sv, clip_sv]
  have := topV_pos
  split <;> split <;> (try split) <;> (try split) <;> omega

theorem narrow_word {x : Nat} (hx : num x) : narrowW x < 2 ^ 64 ∧ rg dbl (narrowW x) = up (narrowR x) ∧ sg dbl (narrowW x) = narrowS x := by
  have h1 := narrowR_le hx
  have h2 := up_lt (r := narrowR x) (by have : maxr = 2139095039 := rfl; omega)
  have h3 : up (narrowR x) < 2 ^ 63 := by omega
  exact ⟨word_lt64 h3, rg_word' h3, sg_word' h3⟩
theorem narrow_down {x : Nat} (hx : num x) : f2f .f64 (narrowW x) .f32 = some (sgl.word (narrowS x) (narrowR x)) := by
  obtain ⟨h1, h2, h3⟩ := narrow_word hx
  have hr := narrowR_le hx
  have hm : mag dbl (rg dbl (narrowW x)) = mag sgl (narrowR x) * un := by rw [h2, mag_up]
  rw [f2f_down (by rw [h2]; exact up_lt (by have : maxr = 2139095039 := rfl; omega)) (by rw [hm]; exact Nat.mul_le_mul_right _ (mag_leF sgl hr)), hm, h3, nr_exact hr]
theorem narrow_up {x : Nat} (hx : num x) : f2f .f32 (sgl.word (narrowS x) (narrowR x)) .f64 = some (narrowW x) := f2f_up (narrowR_le hx)
theorem narrow_zero {x : Nat} (h : narrowR x = 0) : narrowS x = false := by unfold narrowS; rw [if_pos h]

/-- No float32 of whatever sign is nearer to a number that is not beyond. -/
theorem vr_best {c : Int} (hc : c.natAbs ≤ topV) (s : Bool) (r : Nat) : (c - vr c).natAbs ≤ (c - sgn s (mag sgl r * un)).natAbs := by
  have h1 := (nr_near hc).1.best r
  have h2 := (nr_near hc).1.best 0
  rw [(mag_zero sgl).2 rfl, Nat.zero_mul] at h2
  unfold vr sgn
  generalize mag sgl (nr c.natAbs) * un = A at h1 h2
  generalize mag sgl r * un = B at h1
  by_cases c0 : c < 0
  · rw [if_pos c0]
    cases s <;> simp <;> omega
  · rw [if_neg c0]
    cases s <;> simp <;> omega

theorem near_dbl (s : Bool) (m i : Nat) : ∃ r, dbl.nearest s m (-1074 + (i : Int)) = dbl.word s (min r 9218868437227405312) ∧ Near dbl (m * 2 ^ i) 1 r := by
  obtain ⟨r, h1, h2⟩ := nearest_spec dbl (by rw [dbl_B]) s m (-1074 + (i : Int))
  rw [dbl_inf] at h1
  refine ⟨r, h1, ?_⟩
  rw [dbl_L, show (-1074 + (i : Int) - -1074).toNat = i by omega, show (-1074 - (-1074 + (i : Int))).toNat = 0 by omega, Nat.pow_zero] at h2
  exact h2
/-- A difference, rounded. -/
theorem sub_near {x y : Nat} (hx : rg dbl x < 9218868437227405312) (hy : rg dbl y < 9218868437227405312) : ∃ s r, (FloatKind.format .f64).sub x y = some (dbl.word s (min r 9218868437227405312)) ∧ Near dbl (sv x - sv y).natAbs 1 r := by
  obtain ⟨i, m, h1, h2⟩ := read_num hx
  obtain ⟨j, n, k1, k2⟩ := read_num hy
  have hsub : (FloatKind.format .f64).sub x y = ((dbl.read x).sum (dbl.read y).opposite).map dbl.write := rfl
  rw [hsub, h1, k1]
  simp only [Datum.opposite, Datum.sum, Option.map_some, Format.write]
  have hb : min (-1074 + (i : Int)) (-1074 + (j : Int)) = -1074 + ((min i j : Nat) : Int) := by omega
  rw [hb]
  have hv : (signed (sg dbl x) m (-1074 + (i : Int) - (-1074 + ((min i j : Nat) : Int))).toNat + signed (!sg dbl y) n (-1074 + (j : Int) - (-1074 + ((min i j : Nat) : Int))).toNat) * ((2 ^ min i j : Nat) : Int) = sv x - sv y := by
    rw [Int.add_mul, signed_sv, signed_sv, ← sgn_mul, ← sgn_mul, Nat.mul_assoc, Nat.mul_assoc, ← Nat.pow_add, ← Nat.pow_add]
    rw [show (-1074 + (i : Int) - (-1074 + ((min i j : Nat) : Int))).toNat + min i j = i by omega, show (-1074 + (j : Int) - (-1074 + ((min i j : Nat) : Int))).toNat + min i j = j by omega, h2, k2, sv_sgn, sv_sgn]
    unfold sgn
    cases sg dbl x <;> cases sg dbl y <;> simp <;> omega
  generalize signed (sg dbl x) m (-1074 + (i : Int) - (-1074 + ((min i j : Nat) : Int))).toNat + signed (!sg dbl y) n (-1074 + (j : Int) - (-1074 + ((min i j : Nat) : Int))).toNat = t at hv
  obtain ⟨r, q1, q2⟩ := near_dbl (if t = 0 then sg dbl x && !sg dbl y else decide (t < 0)) t.natAbs (min i j)
  refine ⟨_, r, congrArg some q1, ?_⟩
  rw [← hv, Int.natAbs_mul, Int.natAbs_natCast]
  exact q2
theorem min_word {s : Bool} {r : Nat} : dbl.word s (min r 9218868437227405312) < 2 ^ 64 ∧ rg dbl (dbl.word s (min r 9218868437227405312)) = min r 9218868437227405312 :=
  ⟨word_lt64 (by omega), rg_word' (by omega)⟩
theorem fle_min {V W r q : Nat} (h : V ≤ W) (hr : Near dbl V 1 r) (hq : Near dbl W 1 q) : fle .f64 (min r 9218868437227405312) (min q 9218868437227405312) = true := by
  have hle := hr.mono (by decide) hq h
  have h1 := num_small (r := min r 9218868437227405312) (by omega)
  have h2 := num_small (r := min q 9218868437227405312) (by omega)
  rw [fle_sv h1.1 h2.1, h1.2, h2.2]
  have := mag_le (r := min r 9218868437227405312) (s := min q 9218868437227405312) (by omega)
  exact decide_eq_true (by omega)
/-- The float32 next to another one, towards an infinite one. -/
def nextS (s : Bool) (r : Nat) (t : Bool) : Bool := if r = 0 then t else s
def nextR (s : Bool) (r : Nat) (t : Bool) : Nat := if r = 0 then 1 else if s = t then r + 1 else r - 1
end Go.LI.Fl
