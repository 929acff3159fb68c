/- FilmNarrows: Narrow of both, the float32 next to another one. -/
import Derived.Test.YtmhoddmenfondaaRdG1
import Derived.Test.YtmhoddmenfondaaRdPq
import Derived.Test.YtmhoddmenfondaaRdPn
import Derived.Test.YtmhoddmenfondaaRdG3
namespace Go.LI.Film
open Go.Proofs.Ytmhoddmenfondaa Go Go.Proofs Go.LI Go.LI.Fl
set_option linter.unusedVariables false
set_option linter.unusedSimpArgs false
set_option maxRecDepth 100000
set_option exponentiation.threshold 2000

theorem sw_true (r : Nat) : sgl.word true r = 2147483648 + r := by
  show sgl.signWeight + r = _
  rw [sgl_sw]
theorem sw_false (r : Nat) : sgl.word false r = r := rfl
theorem read_sgl {s : Bool} {r : Nat} (h : r ≤ maxr) : ∃ i m : Nat, sgl.read (sgl.word s r) = .number s m (-149 + i) ∧ m * 2 ^ i = mag sgl r := by
  have : maxr = 2139095039 := rfl
  obtain ⟨m, e, h1, h2, h3⟩ := read_word sgl (neg := s) (r := r) (by rw [sgl_inf]; omega)
  rw [sgl_L] at h2 h3
  obtain ⟨i, rfl⟩ : ∃ i : Nat, e = -149 + i := ⟨(e + 149).toNat, by omega⟩
  refine ⟨i, m, h1, ?_⟩
  rw [show ((-149 : Int) + i - -149).toNat = i by omega] at h3
  exact h3
theorem read_sgl_inf (t : Bool) : sgl.read (sgl.word t 2139095040) = .infinity t := by cases t <;> decide +kernel
theorem order_inf {s t : Bool} {r : Nat} (h : r ≤ maxr) : (FloatKind.format .f32).order (sgl.word s r) (sgl.word t 2139095040) = some (if t then .gt else .lt) ∧ (FloatKind.format .f32).order (sgl.word t 2139095040) (sgl.word s r) = some (if t then .lt else .gt) := by
  obtain ⟨i, m, h1, _⟩ := read_sgl (s := s) h
  have h2 := read_sgl_inf t
  constructor
  · show (sgl.read _).order (sgl.read _) = _
    rw [h1, h2]; rfl
  · show (sgl.read _).order (sgl.read _) = _
    rw [h1, h2]; rfl
theorem order_nil {s : Bool} {r : Nat} (h : r ≤ maxr) : (FloatKind.format .f32).order (sgl.word s r) 0 = some (compare (sgn s (mag sgl r)) 0) := by
  obtain ⟨i, m, h1, h2⟩ := read_sgl (s := s) h
  have h0 : sgl.read 0 = .number false 0 (-149) := by decide +kernel
  show (sgl.read _).order (sgl.read _) = _
  rw [h1, h0]
  simp only [Ieee.Datum.order]
  rw [show min (-149 + (i : Int)) (-149) = -149 by omega, show (-149 + (i : Int) - -149).toNat = i by omega, signed_sv, h2, signed_sv, Nat.zero_mul]
  rfl
theorem cmp0 (s : Bool) (M : Nat) : (compare (sgn s M) 0 == Ordering.eq) = decide (M = 0) ∧ (compare (sgn s M) 0 == Ordering.gt) = (!s && decide (M ≠ 0)) := by
  have h := cmpI (sgn s M) 0
  unfold sgn at h ⊢
  by_cases h0 : M = 0
  · subst h0
    rw [h.2.1 (by cases s <;> simp)]
    cases s <;> simp
  · cases s with
    | true =>
      rw [h.1 (by simp; omega)]
      simp [h0]
    | false =>
      rw [h.2.2 (by simp; omega)]
      simp [h0]

section
variable {R : Type}
abbrev SNarrow (O : Ora R) : Prop := ∀ (x : Nat), num x → ∀ (G : GH) (k : IV → GH → Option R), O fn_zV [.float .f64 x] G k = k (.float .f64 (narrowW x)) G
abbrev SRNarrow (O : Ora R) : Prop := ∀ (x : Nat), num x → ∀ (G : GH) (k : IV → GH → Option R), O fn_zc1 [.float .f64 x] G k = k (.float .f64 (narrowW x)) G
abbrev SBits32 (O : Ora R) : Prop := ∀ (x : Nat) (G : GH) (k : IV → GH → Option R), O fn_zZ1 [.float .f32 x] G k = k (.int .u32 (x : Int)) G
abbrev SFrom32 (O : Ora R) : Prop := ∀ (x : Nat) (G : GH) (k : IV → GH → Option R), O fn_zV1 [.int .u32 (x : Int)] G k = k (.float .f32 x) G
abbrev SNext32 (O : Ora R) : Prop := ∀ (s : Bool) (r : Nat) (t : Bool), r ≤ maxr → ∀ (G : GH) (k : IV → GH → Option R), O fn_zE [.float .f32 (sgl.word s r), .float .f32 (sgl.word t 2139095040)] G k = k (.float .f32 (sgl.word (nextS s r t) (nextR s r t))) G

theorem wBits32 {F n : Nat} (hn : 1 ≤ n) : SBits32 (runC (R := R) Try.prog lo0 F n) := by
  obtain ⟨n, rfl⟩ : ∃ j, n = j + 1 := ⟨n - 1, by omega⟩
  intro x G k
  kernel_rfl
theorem wFrom32 {F n : Nat} (hn : 1 ≤ n) : SFrom32 (runC (R := R) Try.prog lo0 F n) := by
  obtain ⟨n, rfl⟩ : ∃ j, n = j + 1 := ⟨n - 1, by omega⟩
  intro x G k
  kernel_rfl
theorem ivF32 (n : Nat) {β : Type} (f : Nat → Option β) : (ivFloat .f32 (.float .f32 n)).bind f = f n := rfl
theorem ivU32 (n : Int) {β : Type} (f : Int → Option β) : (ivInt .u32 (.int .u32 n)).bind f = f n := rfl

theorem narrow_body {x : Nat} (hx : num x) {O : Ora R} {F : Nat} (G : GH) (k : IV → GH → Option R) : bodyC Try.prog O [777777] F Try.f13 [.float .f64 x] G k = k (.float .f64 (narrowW x)) G := by
  rw [e_zV]
  exact narrow_prog hx fun r => k (.float .f64 r) G
theorem wNarrow {F n : Nat} (hn : 1 ≤ n) : SNarrow (runC (R := R) Try.prog lo0 F n) := by
  obtain ⟨n, rfl⟩ : ∃ j, n = j + 1 := ⟨n - 1, by omega⟩
  intro x hx G k
  rw [r_zV]
  exact narrow_body hx G k

theorem max_word : f2f .f32 2139095039 .f64 = some top := by
  have h := f2f_up (s := false) (r := maxr) (Nat.le_refl _)
  rw [top_up] at h
  exact h
theorem neg_top : Op.negFloat .f64 top = ntop := by decide +kernel
theorem rnarrow_body {x : Nat} (hx : num x) {O : Ora R} {F : Nat} (hF32 : SFrom32 O) (hZ : SRZeroed O) (G : GH) (k : IV → GH → Option R) : bodyC Try.prog O [777777] F Try.f14 [.float .f64 x] G k = k (.float .f64 (narrowW x)) G := by
  rw [e_zc1]
  have hf := hF32 2139095039 G
  rw [show ((2139095039 : Nat) : Int) = 2139095039 from rfl] at hf
  rw [hf, ivF32, max_word, Option.bind_some, neg_top, fgt_sv hx top_num.1, top_num.2, flt_sv hx ntop_num.1, ntop_num.2]
  have hp := topV_pos
  have nt : narrowR top = maxr := by
    have hc : clip top = top := by unfold clip; rw [top_num.2, if_pos (Int.le_refl _)]
    unfold narrowR
    rw [hc, ← top_up, (rg_small (r := up maxr) (by rw [top_up]; decide)).1, mag_up]
    exact nr_exact (Nat.le_refl _)
  by_cases h1 : (topV : Int) < sv x
  · rw [decide_eq_true h1, cond_true]
    congr 2
    have hc : clip x = top := by unfold clip; rw [if_pos (by omega)]
    have hct : clip top = top := by unfold clip; rw [top_num.2, if_pos (Int.le_refl _)]
    unfold narrowW narrowS narrowR
    unfold narrowR at nt
    rw [hct] at nt
    rw [hc, nt, top_up, if_neg (by decide)]
    decide +kernel
  · rw [decide_eq_false h1, cond_false]
    by_cases h2 : sv x < -(topV : Int)
    · rw [decide_eq_true h2, cond_true]
      congr 2
      have hc : clip x = ntop := by unfold clip; rw [if_neg (by omega), if_pos (by omega)]
      have hr : nr (mag dbl (rg dbl ntop)) = maxr := by
        rw [← ntop_word, rg_word' (by decide), ← top_up, mag_up]
        exact nr_exact (Nat.le_refl _)
      unfold narrowW narrowS narrowR
      rw [hc, hr, top_up, if_neg (by decide)]
      decide +kernel
    · rw [decide_eq_false h2, cond_false]
      have hcv : sv (clip x) = sv x := by rw [clip_sv]; split <;> (try split) <;> omega
      have hcx : clip x = x := by
        unfold clip
        by_cases e1 : (topV : Int) ≤ sv x
        · rw [if_pos e1]
          exact (sv_inj hx.1 top_num.1.1 (by rw [top_num.2]; omega) (by rw [top_num.2]; omega)).symm
        · rw [if_neg e1]
          by_cases e2 : sv x ≤ -(topV : Int)
          · rw [if_pos e2]
            exact (sv_inj hx.1 ntop_num.1.1 (by rw [ntop_num.2]; omega) (by rw [ntop_num.2]; omega)).symm
          · rw [if_neg e2]
      obtain ⟨c1, c2, c3⟩ := clip_ok hx
      rw [hcx] at c2 c3
      have hr := (nr_near c3).2
      have h4 := up_lt (r := nr (mag dbl (rg dbl x))) (by have : maxr = 2139095039 := rfl; omega)
      rw [f2f_down c2 c3, Option.bind_some, f2f_up hr, Option.bind_some, hZ _ (word_lt64 (by omega)) (by rw [rg_word' (by omega)]; omega), ivF]
      congr 2
      rw [rg_word' (by omega)]
      unfold narrowW narrowS narrowR
      rw [hcx]
      by_cases h0 : nr (mag dbl (rg dbl x)) = 0
      · rw [h0, up_zero, if_pos rfl, if_pos rfl]; rfl
      · rw [if_neg (up_pos h0), if_neg h0]
theorem wRNarrow {F n : Nat} (hF : 1 ≤ F) (hn : 3 ≤ n) : SRNarrow (runC (R := R) Try.prog lo0 F n) := by
  obtain ⟨n, rfl⟩ : ∃ j, n = j + 3 := ⟨n - 3, by omega⟩
  intro x hx G k
  rw [r_zc1]
  exact rnarrow_body hx (wFrom32 (by omega)) (wRZeroed (by omega)) G k
end
end Go.LI.Film
