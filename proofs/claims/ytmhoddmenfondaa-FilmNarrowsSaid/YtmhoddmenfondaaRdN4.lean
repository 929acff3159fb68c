/- FilmNarrows: the float32 next to another one; the law. -/
import Derived.Test.YtmhoddmenfondaaRdN3
namespace Go.LI.Film
open Go.Proofs.Ytmhoddmenfondaa Go Go.Proofs Go.LI Go.LI.Fl
set_option linter.unusedVariables false
set_option linter.unusedSimpArgs false
set_option maxRecDepth 100000
set_option exponentiation.threshold 2000

theorem wrap32 {v : Int} (h1 : 0 ≤ v) (h2 : v < 4294967296) : IntKind.wrap .u32 v = v := by
  have e1 : IntKind.u32.bits = 32 := rfl
  unfold IntKind.wrap
  simp only [IntKind.signed, Bool.false_and, e1]
  simp only [Bool.false_eq_true, if_false]
  omega
theorem copy1 (t : Bool) : orI .u64 (notI .u64 ((dbl.word false (up 1) : Nat) : Int) (9223372036854775808 : Int)) (andI .u64 ((dbl.word t 9218868437227405312 : Nat) : Int) (9223372036854775808 : Int)) = ((dbl.word t (up 1) : Nat) : Int) := by
  have h : up 1 = 3936146074321813504 := by decide +kernel
  rw [h]
  cases t <;> decide +kernel
theorem maxr_eq : maxr = 2139095039 := rfl

section
variable {R : Type}
theorem next_body {O : Ora R} {F : Nat} (hF : 1 ≤ F) (hN : SIsNaN O) (hB : SBits O) (hFr : SFrom O) (hB32 : SBits32 O) (hF32 : SFrom32 O) (hC : ∀ (t : Bool) (G : GH) (k : IV → GH → Option R), O fn_math_Copysign [.float .f64 (dbl.word false (up 1)), .float .f64 (dbl.word t 9218868437227405312)] G k = k (.float .f64 (dbl.word t (up 1))) G) (s : Bool) {r : Nat} (t : Bool) (hr : r ≤ maxr) (G : GH) (k : IV → GH → Option R) :
    u_math_Nextafter32 O k (L_math_Nextafter32_0 O F k) (sgl.word s r) (sgl.word t 2139095040) G = k (.float .f32 (sgl.word (nextS s r t) (nextR s r t))) G := by
  have hm := maxr_eq
  have hu := up_lt (r := r) (by omega)
  simp only [u_math_Nextafter32, L_math_Nextafter32_0]
  rw [stepF hF]
  simp only [l_math_Nextafter32_0, u_math_Nextafter32_0]
  rw [f2f_up hr, Option.bind_some, hN _ (word_lt64 (by omega)), ivB, rg_word' (by omega), decide_eq_false (by omega), cond_false, f2f_up_inf, Option.bind_some, hN _ (word_lt64 (by decide)), ivB, rg_word' (by decide), decide_eq_false (by omega)]
  simp only [a_math_Nextafter32_0N]
  have o := order_inf (s := s) (t := t) hr
  have o0 := order_nil (s := s) hr
  have q1 : feq .f32 (sgl.word s r) (sgl.word t 2139095040) = false := by unfold feq; rw [o.1]; cases t <;> rfl
  have q2 : feq .f32 (sgl.word s r) 0 = decide (r = 0) := by
    unfold feq
    rw [o0]
    have := (cmp0 s (mag sgl r)).1
    rw [show ((some (compare (sgn s (mag sgl r)) 0) : Option Ordering) == some Ordering.eq) = (compare (sgn s (mag sgl r)) 0 == Ordering.eq) from rfl, this]
    exact decide_eq_decide.2 (mag_zero sgl)
  have q3 : fgt .f32 (sgl.word t 2139095040) (sgl.word s r) = !t := by unfold fgt; rw [o.2]; cases t <;> rfl
  have q4 : fgt .f32 (sgl.word s r) 0 = (!s && decide (r ≠ 0)) := by
    unfold fgt
    rw [o0]
    have := (cmp0 s (mag sgl r)).2
    rw [show ((some (compare (sgn s (mag sgl r)) 0) : Option Ordering) == some Ordering.gt) = (compare (sgn s (mag sgl r)) 0 == Ordering.gt) from rfl, this]
    congr 1
    exact decide_eq_decide.2 (not_congr (mag_zero sgl))
  rw [cond_false, q1, cond_false, q2]
  unfold nextS nextR
  by_cases h0 : r = 0
  · rw [decide_eq_true h0, cond_true, if_pos h0, if_pos h0]
    have hf := hF32 1 G
    rw [show ((1 : Nat) : Int) = 1 from rfl] at hf
    have hu1 : f2f .f32 1 .f64 = some (dbl.word false (up 1)) := f2f_up (s := false) (r := 1) (by omega)
    have h1 := up_lt (r := 1) (by omega)
    have hd : f2f .f64 (dbl.word t (up 1)) .f32 = some (sgl.word t 1) := by
      have hm1 : mag dbl (rg dbl (dbl.word t (up 1))) = mag sgl 1 * un := by rw [rg_word' (by omega), mag_up]
      rw [f2f_down (by rw [rg_word' (by omega)]; exact h1) (by rw [hm1]; exact Nat.mul_le_mul_right _ (mag_leF sgl (by omega))), hm1, sg_word' (by omega), nr_exact (by omega)]
    rw [hf, ivF32, hu1, Option.bind_some, f2f_up_inf, Option.bind_some, hC, ivF, hd, Option.bind_some]
  · rw [decide_eq_false h0, cond_false, if_neg h0, if_neg h0, q3, q4, decide_eq_true h0, Bool.and_true]
    by_cases hst : s = t
    · subst hst
      rw [if_pos rfl, show ((!s) == (!s)) = true by cases s <;> rfl, cond_true, hB32, ivU32]
      have hw : IntKind.wrap .u32 (((sgl.word s r : Nat) : Int) + 1) = ((sgl.word s (r + 1) : Nat) : Int) := by
        cases s with
        | true => rw [sw_true, sw_true, wrap32 (by omega) (by omega)]; omega
        | false => rw [sw_false, sw_false, wrap32 (by omega) (by omega)]; omega
      rw [hw, hF32, ivF32]
    · rw [if_neg hst, show ((!t) == (!s)) = false by cases s <;> cases t <;> simp_all, cond_false, hB32, ivU32]
      have hw : IntKind.wrap .u32 (((sgl.word s r : Nat) : Int) - 1) = ((sgl.word s (r - 1) : Nat) : Int) := by
        cases s with
        | true => rw [sw_true, sw_true, wrap32 (by omega) (by omega)]; omega
        | false => rw [sw_false, sw_false, wrap32 (by omega) (by omega)]; omega
      rw [hw, hF32, ivF32]
theorem wCopy1 {F n : Nat} (hn : 2 ≤ n) (t : Bool) (G : GH) (k : IV → GH → Option R) : runC (R := R) Try.prog lo0 F n fn_math_Copysign [.float .f64 (dbl.word false (up 1)), .float .f64 (dbl.word t 9218868437227405312)] G k = k (.float .f64 (dbl.word t (up 1))) G := by
  obtain ⟨n, rfl⟩ : ∃ j, n = j + 2 := ⟨n - 2, by omega⟩
  rw [r_math_Copysign, e_math_Copysign, wBits (by omega), ivU, wBits (by omega), ivU, copy1, wFrom (by omega), ivF]
theorem wNext32 {F n : Nat} (hF : 1 ≤ F) (hn : 3 ≤ n) : SNext32 (runC (R := R) Try.prog lo0 F n) := by
  obtain ⟨n, rfl⟩ : ∃ j, n = j + 3 := ⟨n - 3, by omega⟩
  intro s r t hr G k
  have h := next_body (O := runC (R := R) Try.prog lo0 F (n + 2)) (F := F) hF (wIsNaN (by omega)) (wBits (by omega)) (wFrom (by omega)) (wBits32 (by omega)) (wFrom32 (by omega)) (wCopy1 (by omega)) s t hr G k
  rw [r_math_Nextafter32, e_math_Nextafter32]
  exact h

/-- What the neighbour is as a float64. -/
def nextW (s : Bool) (r : Nat) (t : Bool) : Nat := dbl.word (nextS s r t) (if nextR s r t = 2139095040 then 9218868437227405312 else up (nextR s r t))
theorem next_up {s : Bool} {r : Nat} (t : Bool) (hr : r ≤ maxr) : f2f .f32 (sgl.word (nextS s r t) (nextR s r t)) .f64 = some (nextW s r t) ∧ nextW s r t < 2 ^ 64 ∧ rg dbl (nextW s r t) = (if nextR s r t = 2139095040 then 9218868437227405312 else up (nextR s r t)) ∧ nextR s r t ≤ 2139095040 := by
  have hm := maxr_eq
  have hle : nextR s r t ≤ 2139095040 := by unfold nextR; split <;> (try split) <;> omega
  unfold nextW
  by_cases h : nextR s r t = 2139095040
  · rw [if_pos h, h, f2f_up_inf]
    exact ⟨rfl, word_lt64 (by decide), rg_word' (by decide), Nat.le_refl _⟩
  · have hu := up_lt (r := nextR s r t) (by omega)
    rw [if_neg h, f2f_up (by omega)]
    exact ⟨rfl, word_lt64 (by omega), rg_word' (by omega), hle⟩

/-- How near: the neighbour's no nearer, if all are finite. -/
theorem next_far {x : Nat} (hx : num x) (t : Bool) (hf : rg dbl x < 9218868437227405312) (h1 : rg dbl (nextW (narrowS x) (narrowR x) false) < 9218868437227405312) (h2 : rg dbl (nextW (narrowS x) (narrowR x) true) < 9218868437227405312) : (sv x - sv (narrowW x)).natAbs ≤ (sv x - sv (nextW (narrowS x) (narrowR x) t)).natAbs := by
  have hm := maxr_eq
  have hr := narrowR_le hx
  have fin : ∀ t, rg dbl (nextW (narrowS x) (narrowR x) t) < 9218868437227405312 → nextR (narrowS x) (narrowR x) t ≠ 2139095040 ∧ sv (nextW (narrowS x) (narrowR x) t) = sgn (nextS (narrowS x) (narrowR x) t) (mag sgl (nextR (narrowS x) (narrowR x) t) * un) := by
    intro t h
    obtain ⟨_, _, h3, h4⟩ := next_up (s := narrowS x) t hr
    rw [h3] at h
    have hne : nextR (narrowS x) (narrowR x) t ≠ 2139095040 := by
      intro hc
      rw [if_pos hc] at h
      omega
    have hu := up_lt (r := nextR (narrowS x) (narrowR x) t) h4
    refine ⟨hne, ?_⟩
    unfold nextW
    rw [if_neg hne, sv_word (by omega), mag_up]
  -- the number is not beyond
  have hin : sv (clip x) = sv x := by
    rw [clip_sv]
    have hp := topV_pos
    have out : ∀ c : Nat, clip x = c → rg dbl c = top → False := by
      intro c hc hrg
      have hR : narrowR x = maxr := by
        unfold narrowR
        rw [hc, hrg, ← top_up, mag_up]
        exact nr_exact (Nat.le_refl _)
      have e0 : narrowR x ≠ 0 := by omega
      cases hs : narrowS x with
      | true => have := (fin true h2).1; unfold nextR at this; rw [if_neg e0, if_pos hs] at this; omega
      | false => have := (fin false h1).1; unfold nextR at this; rw [if_neg e0, if_pos hs] at this; omega
    by_cases e1 : (topV : Int) ≤ sv x
    · exact (out top (by unfold clip; rw [if_pos e1]) (rg_small (by decide)).1).elim
    · rw [if_neg e1]
      by_cases e2 : sv x ≤ -(topV : Int)
      · exact (out ntop (by unfold clip; rw [if_neg e1, if_pos e2]) (by rw [← ntop_word]; exact rg_word' (by decide))).elim
      · rw [if_neg e2]
  have ht : rg dbl (nextW (narrowS x) (narrowR x) t) < 9218868437227405312 := by cases t <;> assumption
  rw [(fin t ht).2, narrow_vr hx, hin]
  exact vr_best (by rw [← hin]; exact clip_le hx) _ _

abbrev SAw (O : Ora R) : Prop := ∀ (G : GH) (k : IV → GH → Option R), O fn_law19_Awake [] G k = k (.bool true) G
theorem inf_word (t : Bool) : f2f .f64 (if t then 18442240474082181120 else 9218868437227405312) .f32 = some (sgl.word t 2139095040) := by cases t <;> decide +kernel
theorem nan_feq {x : Nat} (hx : x < 2 ^ 64) : feq .f64 x x = false ∨ (feq .f64 x x = true ∧ num x) := by
  rw [feq_self' hx]
  by_cases h : rg dbl x ≤ 9218868437227405312
  · exact .inr ⟨decide_eq_true h, hx, h⟩
  · exact .inl (decide_eq_false h)
theorem narrows_body {O : Ora R} {F : Nat} (hF : 1 ≤ F) (hAw : SAw O) (hNa : SNarrow O) (hRN : SRNarrow O) (hI : SInf O) (hNx : SNext32 O) (hIs : SIsInf O) (hAb : SAbs O) {x y : Nat} (hx : x < 2 ^ 64) (hy : y < 2 ^ 64) (G : GH) (k : IV → GH → Option R) :
    u_law19_FilmNarrows O k (L_law19_FilmNarrows_0 O F k) x y G = k (.bool true) G := by
  simp only [u_law19_FilmNarrows]
  rw [hAw, ivB, Bool.not_true, cond_false]
  simp only [L_law19_FilmNarrows_0]
  rw [stepF hF]
  simp only [l_law19_FilmNarrows_0, u_law19_FilmNarrows_0, a_law19_FilmNarrows_0ret]
  rcases nan_feq hx with h | ⟨h, nx⟩
  · rw [h, Bool.not_false, cond_true]
  rw [h, Bool.not_true, cond_false]
  rcases nan_feq hy with h' | ⟨h', ny⟩
  · rw [h', Bool.not_false, cond_true]
  rw [h', Bool.not_true, cond_false]
  simp only [a_law19_FilmNarrows_0N]
  rw [hNa x nx, ivF, hNa y ny, ivF]
  simp only [L_law19_FilmNarrows_1]
  rw [stepF hF]
  simp only [l_law19_FilmNarrows_1, u_law19_FilmNarrows_1]
  have na := (narrow_num nx).1
  have nb := (narrow_num ny).1
  have fa : feq .f64 (narrowW x) (narrowW x) = true := by rw [feq_self' na.1]; exact decide_eq_true na.2
  have gt : fle .f64 x y = true → fgt .f64 (narrowW x) (narrowW y) = false := by
    intro hle
    rw [fle_sv nx ny] at hle
    rw [fgt_sv na nb]
    have := narrow_mono nx ny (of_decide_eq_true hle)
    exact decide_eq_false (by omega)
  have mid : ∀ (K : Option R) (Kf : Option R), (bif fle .f64 x y then bif fgt .f64 (narrowW x) (narrowW y) then Kf else K else K) = K := by
    intro K Kf
    cases hle : fle .f64 x y with
    | true => rw [cond_true, gt hle, cond_false]
    | false => rw [cond_false]
  rw [hRN x nx, ivF, fa, Bool.not_true, cond_false, narrow_down nx, Option.bind_some, narrow_up nx, Option.bind_some, fa, Bool.not_true, cond_false, mid]
  simp only [a_law19_FilmNarrows_1N]
  have hr := narrowR_le nx
  obtain ⟨p1, p2, p3, p4⟩ := next_up (s := narrowS x) false hr
  obtain ⟨m1, m2, m3, m4⟩ := next_up (s := narrowS x) true hr
  have i1 : f2f .f64 9218868437227405312 .f32 = some (sgl.word false 2139095040) := inf_word false
  have i2 : f2f .f64 18442240474082181120 .f32 = some (sgl.word true 2139095040) := inf_word true
  rw [narrow_down nx, Option.bind_some, narrow_up nx, Option.bind_some, narrow_down nx, Option.bind_some, (hI G _).1, ivF, i1, Option.bind_some, hNx _ _ _ hr, ivF32, p1, Option.bind_some, Option.bind_some, (hI G _).2, ivF, i2, Option.bind_some, hNx _ _ _ hr, ivF32, m1, Option.bind_some]
  simp only [L_law19_FilmNarrows_2]
  rw [stepF hF]
  simp only [l_law19_FilmNarrows_2, u_law19_FilmNarrows_2, a_law19_FilmNarrows_2ret]
  rw [hIs x hx, ivB]
  by_cases e1 : rg dbl x = 9218868437227405312
  · rw [decide_eq_true e1, cond_true]
  rw [decide_eq_false e1, cond_false, hIs _ p2, ivB]
  by_cases e2 : rg dbl (nextW (narrowS x) (narrowR x) false) = 9218868437227405312
  · rw [decide_eq_true e2, cond_true]
  rw [decide_eq_false e2, cond_false, hIs _ m2, ivB]
  by_cases e3 : rg dbl (nextW (narrowS x) (narrowR x) true) = 9218868437227405312
  · rw [decide_eq_true e3, cond_true]
  rw [decide_eq_false e3, cond_false]
  have f1 : rg dbl x < 9218868437227405312 := by have := nx.2; omega
  have f2 : rg dbl (nextW (narrowS x) (narrowR x) false) < 9218868437227405312 := by
    rw [p3] at e2 ⊢
    split at e2
    · omega
    · rename_i hc; rw [if_neg hc]; exact up_lt p4
  have f3 : rg dbl (nextW (narrowS x) (narrowR x) true) < 9218868437227405312 := by
    rw [m3] at e3 ⊢
    split at e3
    · omega
    · rename_i hc; rw [if_neg hc]; exact up_lt m4
  have fw : rg dbl (narrowW x) < 9218868437227405312 := by
    rw [(narrow_word nx).2.1]; exact up_lt (by have := maxr_eq; omega)
  obtain ⟨sa, ra, ha, na'⟩ := sub_near f1 fw
  obtain ⟨sb, rb, hb, nb'⟩ := sub_near f1 f2
  obtain ⟨sc, rc, hc, nc'⟩ := sub_near f1 f3
  simp only [a_law19_FilmNarrows_2N]
  rw [ha, Option.bind_some, hAb _ min_word.1, ivF, hb, Option.bind_some, hAb _ min_word.1, ivF, min_word.2, min_word.2, fle_min (next_far nx false f1 f2 f3) na' nb', cond_true, Option.bind_some, hAb _ min_word.1, ivF, hc, Option.bind_some, hAb _ min_word.1, ivF, min_word.2, min_word.2, fle_min (next_far nx true f1 f2 f3) na' nc']
theorem s4 {F N : Nat} (hF : 4 ≤ F) (hN : 10 ≤ N) (hAw : SAw (runC (R := R) Try.prog lo0 F N)) {x y : Nat} (hx : x < 2 ^ 64) (hy : y < 2 ^ 64) (G : GH) (k : IV → GH → Option R) :
    runC (R := R) Try.prog lo0 F (N + 1) 4 [.float .f64 x, .float .f64 y] G k = k (.bool true) G := by
  obtain ⟨F', rfl⟩ : ∃ F', F = F' + 1 := ⟨F - 1, by omega⟩
  have h := narrows_body (O := runC (R := R) Try.prog lo0 (F' + 1) N) (F := F' + 1) (by omega) hAw (wNarrow (by omega)) (wRNarrow (by omega) (by omega)) (wInf (by omega)) (wNext32 (by omega) (by omega)) (wIsInf (by omega) (by omega)) (wAbs (by omega)) hx hy G k
  rw [r_law19_FilmNarrows, e_law19_FilmNarrows]
  exact h
end
end Go.LI.Film
