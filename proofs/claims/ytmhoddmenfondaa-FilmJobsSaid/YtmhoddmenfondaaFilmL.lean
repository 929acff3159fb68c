/- FilmJobs: the whole. -/
import Derived.Test.YtmhoddmenfondaaFilmK
import Derived.Test.YtmhoddmenfondaaFilmB
namespace Go.LI.Film
open Go.Proofs.Ytmhoddmenfondaa Go Go.Proofs Go.LI
set_option linter.unusedVariables false
set_option linter.unusedSimpArgs false
set_option maxRecDepth 100000
variable {R : Type} {O : Ora R}

abbrev C10 (O : Ora R) : Prop := ∀ (G : GH) (k : IV → GH → Option R), O 10 [] G k = k (.bool true) G
abbrev CJ (O : Ora R) (f : Nat) : Prop := ∀ {w h s : Int}, s < 9223372036854775808 → ∀ (G : GH) (k : IV → GH → Option R),
    if badJ w h s = true then O f [.int .i64 w, .int .i64 h, .int .i64 s] G k = k (.tuple [.slice none 0, .int .i64 2]) G
    else ∃ a n G', O f [.int .i64 w, .int .i64 h, .int .i64 s] G k = k (.tuple [.slice a n, .int .i64 0]) G' ∧ JobsTo G.length G' w h s a n ∧ Keeps G.length G G'

theorem pair_sl {β : Type} (a : Option GA) (n : Nat) (e : Int) (f : Option GA × Nat → Int → Option β) :
    ((ivTup 2 (.tuple [.slice a n, .int .i64 e])).bind fun c => (ivSlice (c.getD 0 undefI)).bind fun x => (ivInt .i64 (c.getD 1 undefI)).bind fun y => f x y) = f (a, n) e := rfl
theorem bool_iv {β : Type} (b : Bool) (f : Bool → Option β) : (ivBool (.bool b)).bind f = f b := rfl

theorem flat_zeros (n : Nat) : (List.replicate n [IV.int .i64 0]).flatten = (List.range n).map fun _ => IV.int .i64 0 := by
  induction n with
  | zero => rfl
  | succ n ih => rw [List.replicate_succ, List.flatten_cons, ih, List.range_succ_eq_map, List.map_cons, List.map_map]; rfl

theorem b3 {F : Nat} (hF : 4000000 ≤ F) (h10 : C10 O) (h11 : CJ O 11) (h12 : CJ O 12) {w h s : Int} (hs : s < 9223372036854775808) (G : GH) (k : IV → GH → Option R) :
    ∃ G', bodyC Try.prog O lo3 F Try.f3 [.int .i64 w, .int .i64 h, .int .i64 s] G k = k (.bool true) G' := by
  rw [e3]
  unfold u3
  rw [h10, bool_iv]
  simp only [Bool.not_true, cond_false]
  by_cases hb : badJ w h s = true
  · have q1 := fun k => h11 (w := w) (h := h) hs G k
    have q2 := fun k => h12 (w := w) (h := h) hs G k
    simp only [if_pos hb] at q1 q2
    refine ⟨G, ?_⟩
    obtain ⟨F', rfl⟩ : ∃ F', F = F' + 1 := ⟨F - 1, by omega⟩
    rw [q1, pair_sl, q2, pair_sl]
    rfl
  · have hb' : badJ w h s = false := by simpa using hb
    have q1 := fun k => h11 (w := w) (h := h) hs G k
    simp only [if_neg hb] at q1
    obtain ⟨a, n, G1, x1, ⟨nx, ny, m1, m2, hn, hfit, hle, hsl⟩, hk1⟩ := q1 (fun v G => (ivTup 2 v).bind fun c6 => (ivSlice (c6.getD 0 undefI)).bind fun x7 => (ivInt .i64 (c6.getD 1 undefI)).bind fun x8 =>
      O 12 [.int .i64 w, .int .i64 h, .int .i64 s] G fun v9 G10 => (ivTup 2 v9).bind fun c11 => (ivSlice (c11.getD 0 undefI)).bind fun x12 => (ivInt .i64 (c11.getD 1 undefI)).bind fun x13 => L3_0 O F k w h s x7.1 x7.2 x8 x12.1 x12.2 x13 G10)
    rw [x1, pair_sl]
    have q2 := fun k => h12 (w := w) (h := h) hs G1 k
    simp only [if_neg hb] at q2
    obtain ⟨a', n', G2, x2, ⟨nx', ny', m1', m2', hn', hfit', hle', hsl'⟩, hk2⟩ := q2 (fun v9 G10 => (ivTup 2 v9).bind fun c11 => (ivSlice (c11.getD 0 undefI)).bind fun x12 => (ivInt .i64 (c11.getD 1 undefI)).bind fun x13 => L3_0 O F k w h s a n 0 x12.1 x12.2 x13 G10)
    rw [x2, pair_sl]
    clear x1 x2 q1 q2
    obtain rfl : nx' = nx := by omega
    obtain rfl : ny' = ny := by omega
    obtain rfl : n' = n := by omega
    have hnx0 := hfit.nx0; have hny0 := hfit.ny0
    have hw0 := hfit.w0; have hw1 := hfit.w1; have hh0 := hfit.h0; have hh1 := hfit.h1; have hs0 := hfit.s0
    rw [show (0 : Int) = ((0 : Nat) : Int) from rfl, allC_flat w h s (by omega) ny' 0, Nat.zero_mul, ← hn] at hsl hsl'
    have hn1 : n' ≤ 8192 := by rw [hn, Nat.mul_comm]; exact hle
    have hsl2 : Sl G.length G2 30 4 a n' (flatC w h s nx' 0 n') := hsl.keep hk2 (Nat.le_refl _)
    obtain ⟨F', rfl⟩ : ∃ F', F = F' + 1 := ⟨F - 1, by omega⟩
    obtain ⟨W, rfl⟩ : ∃ W : Nat, w = W := ⟨w.toNat, by omega⟩
    obtain ⟨H, rfl⟩ : ∃ H : Nat, h = H := ⟨h.toNat, by omega⟩
    obtain ⟨S, rfl⟩ : ∃ S : Nat, s = S := ⟨s.toNat, by omega⟩
    have hWH : W * H ≤ 1024 * 1024 := Nat.mul_le_mul (by omega) (by omega)
    have wm : IntKind.wrap .i64 ((W : Int) * (H : Int)) = ((W * H : Nat) : Int) := by rw [← Int.natCast_mul]; exact wr (by omega) (by omega)
    have hs3 := same3 (O := O) (G := G2) hn1 hsl2 hsl' (a3_1ret O k) (a3_10 O k (L3_2 O (F' + 1) k)) W H S 0 n' (F' + 1) 0 (by omega) (by omega)
    have e1 : L3_0 O (F' + 1) k W H S a n' 0 a' n' 0 G2 = a3_10 O k (L3_2 O (F' + 1) k) W H S a n' 0 G2 := by
      simp only [L3_0, stepN, l3_0, u3_0, bne_self_eq_false, cond_false, a3_0N, L3_1]
      exact hs3
    rw [e1]
    simp only [a3_10, L3_2, stepN, l3_2, u3_2, bne_self_eq_false, cond_false]
    rw [wm]
    by_cases c : ((W * H : Nat) : Int) > 3000
    · exact ⟨G2, by rw [decide_eq_true c, cond_true]; rfl⟩
    rw [decide_eq_false c, cond_false]
    simp only [a3_2N]
    rw [wm, Int.toNat_natCast]
    have hroom : decide (0 ≤ ((W * H : Nat) : Int) ∧ ((W * H : Nat) : Int) ≤ ((W * H : Nat) : Int) ∧ ((W * H : Nat) : Int) * 8 ≤ roomI ∧ ((W * H : Nat) : Int) ≤ roomI) = true := by
      apply decide_eq_true; unfold roomI; omega
    rw [hroom]
    simp only [Bool.and_self, cond_true]
    have mx : (W - 1) / S + 1 = nx' := by
      unfold many at m1
      rw [Int.tdiv_eq_ediv_of_nonneg (by omega)] at m1
      have : ((W : Int) - 1) / (S : Int) = (((W - 1) / S : Nat) : Int) := by
        rw [Int.natCast_ediv]; congr 1; omega
      omega
    have my : (H - 1) / S + 1 = ny' := by
      unfold many at m2
      rw [Int.tdiv_eq_ediv_of_nonneg (by omega)] at m2
      have : ((H : Int) - 1) / (S : Int) = (((H - 1) / S : Nat) : Int) := by
        rw [Int.natCast_ediv]; congr 1; omega
      omega
    have hN : nx' * ny' = n' := by rw [hn, Nat.mul_comm]
    have hz : (List.replicate (W * H) [IV.int .i64 0]).flatten = seenC W H (fun x y => decide (tileN S nx' x y < 0)) := by
      rw [flat_zeros]; unfold seenC; simp
    rw [hz]
    obtain ⟨G3, f1, f2, f3⟩ := tiles3 (O := O) (F := F' + 1) (b := G2.length) hF hfit mx my hN hn1 (a3_3ret O k) (a3_32 O k (L3_7 O (F' + 1) k)) (G0 := gnew G2 (seenC W H (fun x y => decide (tileN S nx' x y < 0))) 3) (a := a) (base := G.length) (fun G' hO => by
      refine ⟨hsl2.1, hsl2.2.imp id ?_⟩
      rintro ⟨b, h1, h2, h3⟩
      have hlt := (List.getElem?_eq_some_iff.1 h3).1
      exact ⟨b, h1, h2, by rw [hO.2 b (by omega), gnew_old hlt]; exact h3⟩) n' (F' + 1) 0 _ (by omega) (by omega) (Only.refl _ _) (gnew_at _ _ _)
    refine ⟨G3, ?_⟩
    simp only [L3_3]
    have hga : some (gaddr G2) = some (⟨G2.length, 0⟩ : GA) := rfl
    rw [hga, show (0 : Int) = ((0 : Nat) : Int) from rfl, f1]
    simp only [a3_32, L3_7]
    have := ones3 (O := O) (M := W * H) (by omega) f2 (fun p hp => seen_ones (by omega) mx my hN hp) (a3_7ret O k) (a3_78 O k) (W * H) (F' + 1) 0 (by omega) (by omega)
    exact this
end Go.LI.Film
