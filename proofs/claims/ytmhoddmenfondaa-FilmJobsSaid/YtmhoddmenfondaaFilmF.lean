/- Jobs of the reference: what it computes is what the program's computes. -/
import Derived.Test.YtmhoddmenfondaaFilmE
namespace Go.LI.Film
open Go.Proofs.Ytmhoddmenfondaa Go Go.Proofs Go.LI
set_option linter.unusedVariables false
set_option maxRecDepth 100000

def flatC (w h s : Int) (nx : Nat) (i : Nat) : Nat → List IV
  | 0 => []
  | d + 1 => jobC w h s ((i % nx : Nat) : Int) ((i / nx : Nat) : Int) ++ flatC w h s nx (i + 1) d
theorem flatC_add (w h s : Int) (nx : Nat) : ∀ (d e i : Nat), flatC w h s nx i (d + e) = flatC w h s nx i d ++ flatC w h s nx (i + d) e
  | 0, e, i => by simp [flatC]
  | d + 1, e, i => by
    rw [show d + 1 + e = (d + e) + 1 by omega]
    simp only [flatC]
    rw [flatC_add w h s nx d e (i + 1), List.append_assoc, show i + 1 + d = i + (d + 1) by omega]
theorem rowC_flat (w h s : Int) {nx : Nat} (hn : 0 < nx) (y : Nat) : ∀ (d x : Nat), x + d ≤ nx → rowC w h s y x d = flatC w h s nx (y * nx + x) d
  | 0, x, _ => rfl
  | d + 1, x, hx => by
    simp only [rowC, flatC]
    have e1 : (y * nx + x) % nx = x := by rw [Nat.mul_add_mod_self_right, Nat.mod_eq_of_lt (by omega)]
    have e2 : (y * nx + x) / nx = y := by rw [Nat.add_comm, Nat.add_mul_div_right _ _ hn, Nat.div_eq_of_lt (by omega)]; omega
    rw [e1, e2]
    have := rowC_flat w h s hn y d (x + 1) (by omega)
    rw [show ((x : Int) + 1) = ((x + 1 : Nat) : Int) by omega, this]
    rfl
theorem allC_flat (w h s : Int) {nx : Nat} (hn : 0 < nx) : ∀ (d y : Nat), allC w h s nx y d = flatC w h s nx (y * nx) (d * nx)
  | 0, y => by simp [allC, flatC]
  | d + 1, y => by
    simp only [allC]
    rw [show (d + 1) * nx = nx + d * nx by rw [Nat.add_mul]; omega, flatC_add]
    have h1 := rowC_flat w h s hn y nx 0 (by omega)
    have h2 := allC_flat w h s hn d (y + 1)
    rw [show ((0 : Nat) : Int) = 0 from rfl] at h1
    rw [h1, show ((y : Int) + 1) = ((y + 1 : Nat) : Int) by omega, h2, show (y + 1) * nx = y * nx + nx by rw [Nat.add_mul]; omega]
    rfl

variable {R : Type} {O : Ora R}
theorem wrapN {nx ny : Nat} (hN : nx * ny ≤ 8192) : IntKind.wrap .i64 ((nx : Int) * ny) = ((nx * ny : Nat) : Int) := by
  rw [← Int.natCast_mul]
  exact wr (by omega) (by omega)

theorem tiles12 {w h s : Int} {nx ny : Nat} (hf : Fit w h s nx ny) (hN : nx * ny ≤ 8192) (base : Nat) (K0 : Option GA → Nat → GH → Option R) {F : Nat} (hF : 4000000 ≤ F) :
    ∀ (d : Nat) (n : Nat) (i : Nat) (G : GH) (a : Option GA) (k : Nat) (cs : List IV), i + d = nx * ny → d < n → k + d ≤ 1000000 → base ≤ G.length → Sl base G 30 4 a k cs →
      ∃ a' G', l12_1 O F K0 n w h s nx ny a k i G = K0 a' (k + d) G' ∧ Sl base G' 30 4 a' (k + d) (cs ++ flatC w h s nx i d) ∧ Keeps base G G'
  | 0, n + 1, i, G, a, k, cs, hid, hn, hk, hb, hS => by
    refine ⟨a, G, ?_, by simpa [flatC] using hS, Keeps.refl _ _⟩
    have e1 := wrapN hN
    have hc : decide ((i : Int) < ((nx * ny : Nat) : Int)) = false := by simp; omega
    simp only [l12_1, u12_1]
    rw [e1, hc, cond_false]
    rfl
  | d + 1, n + 1, i, G, a, k, cs, hid, hn, hk, hb, hS => by
    have hnx0 := hf.nx0
    have hny0 := hf.ny0
    have hs0 := hf.s0; have hs1 := hf.s1; have hw0 := hf.w0; have hw1 := hf.w1; have hh0 := hf.h0; have hh1 := hf.h1
    have e1 := wrapN hN
    have hc : decide ((i : Int) < ((nx * ny : Nat) : Int)) = true := by simp; omega
    have hz : ((nx : Int) == 0) = false := by simp; omega
    have t1 : Int.tmod (i : Int) (nx : Int) = ((i % nx : Nat) : Int) := by rw [Int.tmod_eq_emod_of_nonneg (by omega)]; rfl
    have t2 : Int.tdiv (i : Int) (nx : Int) = ((i / nx : Nat) : Int) := by rw [Int.tdiv_eq_ediv_of_nonneg (by omega)]; rfl
    have hx : i % nx < nx := Nat.mod_lt _ (by omega)
    have hy : i / nx < ny := by rw [Nat.div_lt_iff_lt_mul (by omega), Nat.mul_comm]; omega
    generalize hX : i % nx = X at *
    generalize hY : i / nx = Y at *
    obtain ⟨x1, x2, x3⟩ := hf.x X (by omega) (by omega)
    obtain ⟨y1, y2, y3⟩ := hf.y Y (by omega) (by omega)
    have wx : IntKind.wrap .i64 ((X : Int) * s) = X * s := wr (by omega) (by omega)
    have wY : IntKind.wrap .i64 (Y : Int) = Y := wr (by omega) (by have := hf.ny1; omega)
    have wy : IntKind.wrap .i64 ((Y : Int) * s) = Y * s := wr (by omega) (by omega)
    have wx2 : IntKind.wrap .i64 (X * s + s) = X * s + s := wr (by omega) (by omega)
    have wy2 : IntKind.wrap .i64 (Y * s + s) = Y * s + s := wr (by omega) (by omega)
    have wws : IntKind.wrap .i64 (w - s) = w - s := wr (by omega) (by omega)
    have whs : IntKind.wrap .i64 (h - s) = h - s := wr (by omega) (by omega)
    have wi : IntKind.wrap .i64 ((i : Int) + 1) = ((i + 1 : Nat) : Int) := by rw [wr (by omega) (by omega)]; omega
    obtain ⟨F', rfl⟩ : ∃ F', F = F' + 1 := ⟨F - 1, by omega⟩
    obtain ⟨a1, G1, q1, q2, q3⟩ := sl_append (bytes := 32) (x := jobC w h s X Y) hS hb rfl (by unfold roomI; omega)
    have hg : grd (gnew G (jobC w h s X Y) 30) (gaddr G) (1 * 4) = some (jobC w h s X Y) := grd_gnew G _ 30 _ rfl
    obtain ⟨a2, G2, f1, f2, f3⟩ := tiles12 hf hN base K0 hF d n (i + 1) G1 (some a1) (k + 1) _ (by omega) (by omega) (by omega) (Nat.le_trans hb q3.1) q2
    refine ⟨a2, G2, ?_, ?_, q3.trans f3⟩
    · have fin : ∀ (p q : Int), p = (if (X : Int) * s + s < w then X * s + s else w) → q = (if (Y : Int) * s + s < h then Y * s + s else h) →
          a12_3N O (l12_1 O (F' + 1) K0 n) K0 w h s nx ny a k i (X * s) (Y * s) p q G = K0 a2 (k + (d + 1)) G2 := by
        rintro p q rfl rfl
        simp only [a12_3N]
        have hg' := hg
        have q1' := q1
        unfold jobC at hg' q1'
        rw [hg', Option.bind_some, q1', Option.bind_some]
        rw [wi, f1, show k + 1 + d = k + (d + 1) by omega]
      simp only [l12_1, u12_1]
      rw [e1, hc, cond_true, hz, cond_false, cond_false, t1, t2, wx, wY, wy]
      simp only [L12_2, stepN, l12_2, u12_2, a12_2N, L12_3, l12_3, u12_3]
      rw [wws, whs, wx2, wy2]
      by_cases c1 : (X : Int) * s < w - s
      · rw [decide_eq_true c1, cond_true]
        by_cases c2 : (Y : Int) * s < h - s
        · rw [decide_eq_true c2, cond_true]
          exact fin _ _ (by rw [if_pos (by omega)]) (by rw [if_pos (by omega)])
        · rw [decide_eq_false c2, cond_false]
          exact fin _ _ (by rw [if_pos (by omega)]) (by rw [if_neg (by omega)])
      · rw [decide_eq_false c1, cond_false]
        by_cases c2 : (Y : Int) * s < h - s
        · rw [decide_eq_true c2, cond_true]
          exact fin _ _ (by rw [if_neg (by omega)]) (by rw [if_pos (by omega)])
        · rw [decide_eq_false c2, cond_false]
          exact fin _ _ (by rw [if_neg (by omega)]) (by rw [if_neg (by omega)])
    · rw [show k + (d + 1) = k + 1 + d by omega]
      simp only [flatC, hX, hY]
      simpa using f2

theorem b12 {F : Nat} (hF : 4000000 ≤ F) {w h s : Int} (hs : s < 9223372036854775808) (G : GH) (k : IV → GH → Option R) :
    if badJ w h s = true then bodyC Try.prog O lo12 F Try.f12 [.int .i64 w, .int .i64 h, .int .i64 s] G k = k (.tuple [.slice none 0, .int .i64 2]) G
    else ∃ a n G', bodyC Try.prog O lo12 F Try.f12 [.int .i64 w, .int .i64 h, .int .i64 s] G k = k (.tuple [.slice a n, .int .i64 0]) G' ∧ JobsTo G.length G' w h s a n ∧ Keeps G.length G G' := by
  obtain ⟨F', rfl⟩ : ∃ F', F = F' + 1 := ⟨F - 1, by omega⟩
  rw [e12]
  simp only [u12, L12_0, stepN, l12_0, u12_0, a12_0N]
  by_cases c1 : w < 1
  · rw [if_pos (by simp [badJ, c1])]; simp [c1]
  by_cases c2 : h < 1
  · rw [if_pos (by simp [badJ, c2])]; simp [c1, c2]
  by_cases c3 : w > 1024
  · rw [if_pos (by simp [badJ, c3])]; simp [c1, c2, c3]
  by_cases c4 : h > 1024
  · rw [if_pos (by simp [badJ, c4])]; simp [c1, c2, c3, c4]
  by_cases c5 : s < 1
  · rw [if_pos (by simp [badJ, c5])]; simp [c1, c2, c3, c4, c5]
  have hx := many_ge (w := w) (s := s) (by omega) (by omega)
  have hy := many_ge (w := h) (s := s) (by omega) (by omega)
  have w1 : IntKind.wrap .i64 (w - 1) = w - 1 := wr (by omega) (by omega)
  have w2 : IntKind.wrap .i64 (h - 1) = h - 1 := wr (by omega) (by omega)
  have w3 : IntKind.wrap .i64 (1 + IntKind.wrap .i64 (Int.tdiv (w - 1) s)) = many w s := by
    unfold many at hx ⊢
    rw [wr (v := Int.tdiv (w - 1) s) (by omega) (by omega), wr (by omega) (by omega)]; omega
  have w4 : IntKind.wrap .i64 (1 + IntKind.wrap .i64 (Int.tdiv (h - 1) s)) = many h s := by
    unfold many at hy ⊢
    rw [wr (v := Int.tdiv (h - 1) s) (by omega) (by omega), wr (by omega) (by omega)]; omega
  have hp : many w s * many h s ≤ 1024 * 1024 := Int.mul_le_mul (by omega) (by omega) (by omega) (by omega)
  have hp0 : 0 ≤ many w s * many h s := Int.mul_nonneg (by omega) (by omega)
  have w5 : IntKind.wrap .i64 (many w s * many h s) = many w s * many h s := wr (by omega) (by omega)
  have hs0 : (s == 0) = false := by simp; omega
  rw [w1, w2, w3, w4, w5, hs0]
  simp only [cond_false, decide_eq_false c1, decide_eq_false c2, decide_eq_false c3, decide_eq_false c4, decide_eq_false c5]
  by_cases c6 : many w s * many h s > 8192
  · rw [if_pos (by simp [badJ, c6])]; simp [c6]
  have hbf : badJ w h s = false := by simp [badJ, c1, c2, c3, c4, c5, c6]
  rw [hbf, decide_eq_false c6]
  simp only [cond_false, Bool.false_eq_true, if_false]
  obtain ⟨nx, ny, m1, m2, hfit, hle⟩ := fit_of hs hbf
  obtain ⟨a, G', q1, q2, q3⟩ := tiles12 (O := O) hfit hle G.length (a12_10 O k) (F := F' + 1) hF (nx * ny) (F' + 1) 0 G none 0 [] (by omega) (by omega) (by omega) (Nat.le_refl _) (sl_nil _ _ _ _)
  refine ⟨a, 0 + nx * ny, G', ?_, ⟨nx, ny, m1, m2, by rw [Nat.mul_comm]; omega, hfit, hle, ?_⟩, q3⟩
  · simp only [L12_1]
    rw [m1, m2]
    exact q1
  · rw [show (0 : Int) = ((0 : Nat) : Int) from rfl, allC_flat w h s (by have := hfit.nx0; omega) ny 0, Nat.zero_mul, Nat.mul_comm ny nx]
    simpa using q2
end Go.LI.Film
