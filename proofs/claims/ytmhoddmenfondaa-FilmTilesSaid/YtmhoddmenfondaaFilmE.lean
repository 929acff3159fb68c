/- Jobs of the program: what it computes. -/
import Derived.Test.YtmhoddmenfondaaFilmC
import Derived.Test.YtmhoddmenfondaaHpA
namespace Go.LI.Film
open Go.Proofs.Ytmhoddmenfondaa Go Go.Proofs Go.LI
set_option linter.unusedVariables false
set_option maxRecDepth 100000

theorem wr {v : Int} (h1 : -9223372036854775808 ≤ v) (h2 : v < 9223372036854775808) : IntKind.wrap .i64 v = v := by
  have e1 : IntKind.i64.bits = 64 := rfl
  unfold IntKind.wrap
  simp only [IntKind.signed, Bool.true_and, decide_eq_true_eq, ge_iff_le, e1]
  split <;> omega

/-- A tile's cells. -/
def jobC (w h s x y : Int) : List IV := [.int .i64 (x * s), .int .i64 (y * s), .int .i64 (if x * s + s < w then x * s + s else w), .int .i64 (if y * s + s < h then y * s + s else h)]
/-- A row of tiles, from x on, d of them. -/
def rowC (w h s y x : Int) : Nat → List IV
  | 0 => []
  | d + 1 => jobC w h s x y ++ rowC w h s y (x + 1) d

structure Fit (w h s nx ny : Int) : Prop where
  w0 : 1 ≤ w
  w1 : w ≤ 1024
  h0 : 1 ≤ h
  h1 : h ≤ 1024
  s0 : 1 ≤ s
  s1 : s < 9223372036854775808
  x : ∀ x, 0 ≤ x → x < nx → 0 ≤ x * s ∧ x * s ≤ 1023 ∧ x * s + s < 9223372036854775808
  y : ∀ y, 0 ≤ y → y < ny → 0 ≤ y * s ∧ y * s ≤ 1023 ∧ y * s + s < 9223372036854775808
  nx0 : 1 ≤ nx
  ny0 : 1 ≤ ny
  nx1 : nx ≤ 1024
  ny1 : ny ≤ 1024

variable {R : Type} {O : Ora R}
theorem row11 {w h s nx ny y : Int} (hf : Fit w h s nx ny) (hy0 : 0 ≤ y) (hy1 : y < ny) (base : Nat) (K2 : Int → Int → Int → Int → Option GA → Nat → Int → Int → GH → Option R) :
    ∀ (d : Nat) (n : Nat) (x : Int) (G : GH) (a : Option GA) (k : Nat) (cs : List IV), 0 ≤ x → x + d = nx → d < n → k + d ≤ 2000000 → base ≤ G.length → Sl base G 30 4 a k cs →
      ∃ a' G', l11_2 O K2 n w h s nx a k y ny y nx x G = K2 w h s nx a' (k + d) ny y G' ∧ Sl base G' 30 4 a' (k + d) (cs ++ rowC w h s y x d) ∧ Keeps base G G'
  | 0, n + 1, x, G, a, k, cs, hx0, hxd, hn, hk, hb, hS => by
    refine ⟨a, G, ?_, by simpa [rowC] using hS, Keeps.refl _ _⟩
    have hc : decide (x < nx) = false := by simp; omega
    simp only [l11_2, u11_2]
    rw [hc, cond_false]
    rfl
  | d + 1, n + 1, x, G, a, k, cs, hx0, hxd, hn, hk, hb, hS => by
    have hxn : x < nx := by omega
    obtain ⟨x1, x2, x3⟩ := hf.x x hx0 hxn
    obtain ⟨y1, y2, y3⟩ := hf.y y hy0 hy1
    have hs0 := hf.s0
    have wx : IntKind.wrap .i64 (x * s) = x * s := wr (by omega) (by omega)
    have wy : IntKind.wrap .i64 (y * s) = y * s := wr (by omega) (by omega)
    have wx2 : IntKind.wrap .i64 (x * s + s) = x * s + s := wr (by omega) (by omega)
    have wy2 : IntKind.wrap .i64 (y * s + s) = y * s + s := wr (by omega) (by omega)
    have wx3 : IntKind.wrap .i64 (x + 1) = x + 1 := wr (by omega) (by have := hf.nx1; omega)
    have hc : decide (x < nx) = true := by simpa using hxn
    obtain ⟨a1, G1, e1, e2, e3⟩ := sl_append (bytes := 32) (x := jobC w h s x y) hS hb rfl (by unfold roomI; omega)
    have hg : grd (gnew G (jobC w h s x y) 30) (gaddr G) (1 * 4) = some (jobC w h s x y) := grd_gnew G _ 30 _ rfl
    obtain ⟨a2, G2, f1, f2, f3⟩ := row11 hf hy0 hy1 base K2 d n (x + 1) G1 (some a1) (k + 1) _ (by omega) (by omega) (by omega) (by omega) (Nat.le_trans hb e3.1) e2
    refine ⟨a2, G2, ?_, ?_, e3.trans f3⟩
    · simp only [l11_2, u11_2]
      rw [hc, cond_true, wx, wy, wx2, wy2, wx3]
      have hg' := hg
      have e1' := e1
      unfold jobC at hg' e1'
      rw [hg', Option.bind_some, e1', Option.bind_some]
      rw [f1, show k + 1 + d = k + (d + 1) by omega]
    · rw [show k + (d + 1) = k + 1 + d by omega]
      simpa [rowC] using f2

/-- Rows of tiles. -/
def allC (w h s : Int) (nx : Nat) (y : Int) : Nat → List IV
  | 0 => []
  | d + 1 => rowC w h s y 0 nx ++ allC w h s nx (y + 1) d

theorem rows11 {w h s : Int} {nx : Nat} {ny : Int} (hf : Fit w h s nx ny) (base : Nat) (K0 : Option GA → Nat → GH → Option R) {F : Nat} (hF : 4000000 ≤ F) :
    ∀ (d : Nat) (n : Nat) (y : Int) (G : GH) (a : Option GA) (k : Nat) (cs : List IV), 0 ≤ y → y + d = ny → d < n → k + d * nx ≤ 1000000 → base ≤ G.length → Sl base G 30 4 a k cs →
      ∃ a' G', l11_1 O F K0 n w h s nx a k ny y G = K0 a' (k + d * nx) G' ∧ Sl base G' 30 4 a' (k + d * nx) (cs ++ allC w h s nx y d) ∧ Keeps base G G'
  | 0, n + 1, y, G, a, k, cs, hy0, hyd, hn, hk, hb, hS => by
    refine ⟨a, G, ?_, by simpa [allC] using hS, Keeps.refl _ _⟩
    have hc : decide (y < ny) = false := by simp; omega
    simp only [l11_1, u11_1]
    rw [hc, cond_false, Nat.zero_mul]
    rfl
  | d + 1, n + 1, y, G, a, k, cs, hy0, hyd, hn, hk, hb, hS => by
    have hyn : y < ny := by omega
    have hc : decide (y < ny) = true := by simpa using hyn
    have wy : IntKind.wrap .i64 (y + 1) = y + 1 := wr (by omega) (by have := hf.ny1; omega)
    rw [Nat.add_mul, Nat.one_mul] at hk
    have hnx := hf.nx1
    obtain ⟨a1, G1, e1, e2, e3⟩ := row11 (O := O) hf hy0 hyn base (a11_22 O (l11_1 O F K0 n) K0) nx F 0 G a k cs (by omega) (by omega) (by omega) (by omega) hb hS
    obtain ⟨a2, G2, f1, f2, f3⟩ := rows11 hf base K0 hF d n (y + 1) G1 a1 (k + nx) _ (by omega) (by omega) (by omega) (by omega) (Nat.le_trans hb e3.1) e2
    refine ⟨a2, G2, ?_, ?_, e3.trans f3⟩
    · simp only [l11_1, u11_1]
      rw [hc, cond_true]
      simp only [L11_2]
      rw [e1]
      simp only [a11_22]
      rw [wy, f1, show k + nx + d * nx = k + (d + 1) * nx by rw [Nat.add_mul, Nat.one_mul]; omega]
    · rw [show k + (d + 1) * nx = k + nx + d * nx by rw [Nat.add_mul, Nat.one_mul]; omega]
      simpa [allC] using f2

/-- How many tiles stand in a row. -/
def many (w s : Int) : Int := Int.tdiv (w - 1) s + 1
theorem many_ge {w s : Int} (hw : 1 ≤ w) (hs : 1 ≤ s) : 1 ≤ many w s ∧ many w s ≤ w := by
  unfold many
  rw [Int.tdiv_eq_ediv_of_nonneg (by omega)]
  have h1 : 0 ≤ (w - 1) / s := Int.ediv_nonneg (by omega) (by omega)
  have h2 : (w - 1) / s ≤ w - 1 := Int.ediv_le_self _ (by omega)
  omega
theorem many_x {w s x : Int} (hw : 1 ≤ w) (hw1 : w ≤ 1024) (hs : 1 ≤ s) (hs1 : s < 9223372036854775808) (hx : 0 ≤ x) (hxn : x < many w s) : 0 ≤ x * s ∧ x * s ≤ 1023 ∧ x * s + s < 9223372036854775808 := by
  unfold many at hxn
  rw [Int.tdiv_eq_ediv_of_nonneg (by omega)] at hxn
  have h0 : 0 ≤ x * s := Int.mul_nonneg hx (by omega)
  have h1 : x * s ≤ (w - 1) / s * s := Int.mul_le_mul_of_nonneg_right (by omega) (by omega)
  have h2 : (w - 1) / s * s ≤ w - 1 := Int.ediv_mul_le _ (by omega)
  refine ⟨h0, by omega, ?_⟩
  rcases (by omega : 0 < x ∨ x = 0) with h | h
  · have : s ≤ x * s := by
      have := Int.mul_le_mul_of_nonneg_right (a := 1) (b := x) (c := s) (by omega) (by omega)
      omega
    omega
  · subst h
    omega

/-- Does Jobs refuse? -/
def badJ (w h s : Int) : Bool := decide (w < 1) || decide (h < 1) || decide (w > 1024) || decide (h > 1024) || decide (s < 1) || decide (many w s * many h s > 8192)

theorem fit_of {w h s : Int} (hs1 : s < 9223372036854775808) (hb : badJ w h s = false) : ∃ nx ny : Nat, many w s = nx ∧ many h s = ny ∧ Fit w h s nx ny ∧ nx * ny ≤ 8192 := by
  simp only [badJ, Bool.or_eq_false_iff, decide_eq_false_iff_not] at hb
  obtain ⟨⟨⟨⟨⟨b1, b2⟩, b3⟩, b4⟩, b5⟩, b6⟩ := hb
  have hx := many_ge (w := w) (s := s) (by omega) (by omega)
  have hy := many_ge (w := h) (s := s) (by omega) (by omega)
  refine ⟨(many w s).toNat, (many h s).toNat, by omega, by omega, ?_, ?_⟩
  · rw [Int.toNat_of_nonneg (by omega), Int.toNat_of_nonneg (by omega)]
    exact ⟨by omega, by omega, by omega, by omega, by omega, hs1, fun x h0 h1 => many_x (by omega) (by omega) (by omega) hs1 h0 h1, fun y h0 h1 => many_x (by omega) (by omega) (by omega) hs1 h0 h1, by omega, by omega, by omega, by omega⟩
  · have : ((many w s).toNat : Int) * (many h s).toNat ≤ 8192 := by
      rw [Int.toNat_of_nonneg (by omega), Int.toNat_of_nonneg (by omega)]; omega
    exact_mod_cast this

/-- What Jobs gives. -/
structure JobsTo (base : Nat) (G' : GH) (w h s : Int) (a : Option GA) (n : Nat) : Prop where
  sl : ∃ nx ny : Nat, many w s = nx ∧ many h s = ny ∧ n = ny * nx ∧ Fit w h s nx ny ∧ nx * ny ≤ 8192 ∧ Sl base G' 30 4 a n (allC w h s nx 0 ny)

theorem b11 {F : Nat} (hF : 4000000 ≤ F) {w h s : Int} (hs : s < 9223372036854775808) (G : GH) (k : IV → GH → Option R) :
    if badJ w h s = true then bodyC Try.prog O lo11 F Try.f11 [.int .i64 w, .int .i64 h, .int .i64 s] G k = k (.tuple [.slice none 0, .int .i64 2]) G
    else ∃ a n G', bodyC Try.prog O lo11 F Try.f11 [.int .i64 w, .int .i64 h, .int .i64 s] G k = k (.tuple [.slice a n, .int .i64 0]) G' ∧ JobsTo G.length G' w h s a n ∧ Keeps G.length G G' := by
  obtain ⟨F', rfl⟩ : ∃ F', F = F' + 1 := ⟨F - 1, by omega⟩
  rw [e11]
  simp only [u11, L11_0, stepN, l11_0, u11_0, a11_0N]
  by_cases c1 : w < 1
  · rw [if_pos (by simp [badJ, c1])]; simp [c1]
  by_cases c2 : h < 1
  · rw [if_pos (by simp [badJ, c2])]; simp [c1, c2]
  by_cases c3 : w > 1024
  · rw [if_pos (by simp [badJ, c3])]; simp [c1, c2, c3]
  by_cases c4 : h > 1024
  · rw [if_pos (by simp [badJ, c4])]; simp [c1, c2, c3, c4]
  by_cases c5 : s < 1
  · rw [if_pos (by simp [badJ, c5])]; simp [c1, c2, c3, c4, c5]
  have hx := many_ge (w := w) (s := s) (by omega) (by omega)
  have hy := many_ge (w := h) (s := s) (by omega) (by omega)
  have w1 : IntKind.wrap .i64 (w - 1) = w - 1 := wr (by omega) (by omega)
  have w2 : IntKind.wrap .i64 (h - 1) = h - 1 := wr (by omega) (by omega)
  have w3 : IntKind.wrap .i64 (IntKind.wrap .i64 (Int.tdiv (w - 1) s) + 1) = many w s := by
    unfold many at hx ⊢
    rw [wr (v := Int.tdiv (w - 1) s) (by omega) (by omega), wr (by omega) (by omega)]
  have w4 : IntKind.wrap .i64 (IntKind.wrap .i64 (Int.tdiv (h - 1) s) + 1) = many h s := by
    unfold many at hy ⊢
    rw [wr (v := Int.tdiv (h - 1) s) (by omega) (by omega), wr (by omega) (by omega)]
  have hp : many w s * many h s ≤ 1024 * 1024 := Int.mul_le_mul (by omega) (by omega) (by omega) (by omega)
  have hp0 : 0 ≤ many w s * many h s := Int.mul_nonneg (by omega) (by omega)
  have w5 : IntKind.wrap .i64 (many w s * many h s) = many w s * many h s := wr (by omega) (by omega)
  have hs0 : (s == 0) = false := by simp; omega
  rw [w1, w2, w3, w4, w5, hs0]
  simp only [cond_false, decide_eq_false c1, decide_eq_false c2, decide_eq_false c3, decide_eq_false c4, decide_eq_false c5]
  by_cases c6 : many w s * many h s > 8192
  · rw [if_pos (by simp [badJ, c6])]; simp [c6]
  have hbf : badJ w h s = false := by simp [badJ, c1, c2, c3, c4, c5, c6]
  rw [hbf, decide_eq_false c6]
  simp only [cond_false, Bool.false_eq_true, if_false]
  obtain ⟨nx, ny, m1, m2, hfit, hle⟩ := fit_of hs hbf
  obtain ⟨a, G', q1, q2, q3⟩ := rows11 (O := O) hfit G.length (a11_10 O k) (F := F' + 1) hF ny (F' + 1) 0 G none 0 [] (by omega) (by omega) (by have := hfit.ny1; omega) (by rw [Nat.mul_comm] at hle; omega) (Nat.le_refl _) (sl_nil _ _ _ _)
  refine ⟨a, 0 + ny * nx, G', ?_, ⟨nx, ny, m1, m2, by omega, hfit, hle, by simpa using q2⟩, q3⟩
  simp only [L11_1]
  rw [m1, m2, q1]
  rfl
end Go.LI.Film
