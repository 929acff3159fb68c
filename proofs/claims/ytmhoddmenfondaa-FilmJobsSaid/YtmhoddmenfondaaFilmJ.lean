/- FilmJobs: which tile a pixel lies in. -/
import Derived.Test.YtmhoddmenfondaaFilmI
namespace Go.LI.Film
open Go.Proofs.Ytmhoddmenfondaa Go Go.Proofs Go.LI
set_option linter.unusedVariables false
set_option linter.unusedSimpArgs false
set_option maxRecDepth 100000

/-- The number of a pixel's tile. -/
def tileN (S nx x y : Nat) : Nat := y / S * nx + x / S
def endN (W S X : Nat) : Nat := if X * S + S < W then X * S + S else W

theorem in_tile {W S X x : Nat} (hS : 0 < S) (hx : x < W) : (X * S ≤ x ∧ x < endN W S X) ↔ x / S = X := by
  unfold endN
  constructor
  · rintro ⟨h1, h2⟩
    have h3 : x < X * S + S := by split at h2 <;> omega
    rw [Nat.div_eq_iff hS]
    omega
  · intro h
    have := (Nat.div_eq_iff hS).1 h
    split <;> omega

theorem tile_eq {W H S nx i x y : Nat} (hS : 0 < S) (hnx : (W - 1) / S + 1 = nx) (hx : x < W) (hy : y < H) :
    ((i % nx * S ≤ x ∧ x < endN W S (i % nx)) ∧ (i / nx * S ≤ y ∧ y < endN H S (i / nx))) ↔ tileN S nx x y = i := by
  rw [in_tile hS hx, in_tile hS hy]
  have hxs : x / S < nx := by
    have : x / S ≤ (W - 1) / S := Nat.div_le_div_right (by omega)
    omega
  unfold tileN
  constructor
  · rintro ⟨h1, h2⟩
    rw [h1, h2, Nat.mul_comm]
    exact Nat.div_add_mod i nx
  · intro h
    rw [← h]
    exact ⟨(pos_mod hxs).symm, (pos_div hxs).symm⟩

theorem start_lt {W S nx X : Nat} (hS : 0 < S) (hW : 0 < W) (hnx : (W - 1) / S + 1 = nx) (hX : X < nx) : X * S < W := by
  have h1 : X * S ≤ (W - 1) / S * S := Nat.mul_le_mul_right _ (by omega)
  have h2 : (W - 1) / S * S ≤ W - 1 := Nat.div_mul_le_self _ _
  omega

variable {R : Type} {O : Ora R}
theorem tiles3 {W H S nx ny N b base : Nat} {F : Nat} (hF : 4000000 ≤ F) (hf : Fit W H S nx ny) (hnx : (W - 1) / S + 1 = nx) (hny : (H - 1) / S + 1 = ny) (hN : nx * ny = N) (hN1 : N ≤ 8192) (Kret : Bool → GH → Option R) (K2 : Option GA → Nat → GH → Option R)
    {G0 : GH} {a : Option GA} (hS : ∀ G', Only b G0 G' → Sl base G' 30 4 a N (flatC W H S nx 0 N)) :
    ∀ (d n i : Nat) (G : GH), i + d = N → d < n → Only b G0 G → G[b]? = some ⟨seenC W H (fun x y => decide (tileN S nx x y < i)), 3, 1⟩ →
      ∃ G', l3_3 O F Kret K2 n W S (some ⟨b, 0⟩) (W * H) a N N i G = K2 (some ⟨b, 0⟩) (W * H) G' ∧ G'[b]? = some ⟨seenC W H (fun x y => decide (tileN S nx x y < N)), 3, 1⟩ ∧ Only b G0 G'
  | 0, n + 1, i, G, hid, hn, hO, hG => by
    have hc : decide ((i : Int) < (N : Int)) = false := by simp; omega
    have : i = N := by omega
    subst this
    refine ⟨G, ?_, hG, hO⟩
    simp only [l3_3, u3_3]
    rw [hc, cond_false]
  | d + 1, n + 1, i, G, hid, hn, hO, hG => by
    have hc : decide ((i : Int) < (N : Int)) = true := by simp; omega
    have hw0 := hf.w0; have hw1 := hf.w1; have hh0 := hf.h0; have hh1 := hf.h1; have hs0 := hf.s0; have hs1 := hf.s1; have hnx0 := hf.nx0
    obtain ⟨ga, x1, x2, x3, x4, x5⟩ := tile_ld (hS G hO) (i := i) (by omega)
    have hS0 : 0 < S := by omega
    have hX : i % nx < nx := Nat.mod_lt _ (by omega)
    have hY : i / nx < ny := by rw [Nat.div_lt_iff_lt_mul (by omega), Nat.mul_comm]; omega
    have hxs := start_lt hS0 (by omega) hnx hX
    have hys := start_lt hS0 (by omega) hny hY
    have ex : (if ((i % nx : Nat) : Int) * (S : Int) + (S : Int) < (W : Int) then ((i % nx : Nat) : Int) * (S : Int) + (S : Int) else (W : Int)) = ((endN W S (i % nx) : Nat) : Int) := by
      unfold endN
      rw [← Int.natCast_mul, ← Int.natCast_add]
      split <;> split <;> omega
    have ey : (if ((i / nx : Nat) : Int) * (S : Int) + (S : Int) < (H : Int) then ((i / nx : Nat) : Int) * (S : Int) + (S : Int) else (H : Int)) = ((endN H S (i / nx) : Nat) : Int) := by
      unfold endN
      rw [← Int.natCast_mul, ← Int.natCast_add]
      split <;> split <;> omega
    rw [← Int.natCast_mul] at x2 x3
    rw [ex] at x4
    rw [ey] at x5
    have hiff := fun x y (hx : x < W) (hy : y < H) => tile_eq (i := i) hS0 hnx hx hy
    have bx : i % nx * S < endN W S (i % nx) ∧ endN W S (i % nx) ≤ W ∧ endN W S (i % nx) ≤ i % nx * S + S := by unfold endN; split <;> omega
    have byy : i / nx * S < endN H S (i / nx) ∧ endN H S (i / nx) ≤ H ∧ endN H S (i / nx) ≤ i / nx * S + S := by unfold endN; split <;> omega
    generalize i % nx * S = p0 at *
    generalize i / nx * S = q0 at *
    generalize endN W S (i % nx) = p1 at *
    generalize endN H S (i / nx) = q1 at *
    obtain ⟨F', rfl⟩ : ∃ F', F = F' + 1 := ⟨F - 1, by omega⟩
    have wi : IntKind.wrap .i64 ((i : Int) + 1) = ((i + 1 : Nat) : Int) := by rw [wr (by omega) (by omega)]; omega
    have wp : IntKind.wrap .i64 ((p1 : Int) - (p0 : Int)) = (p1 : Int) - p0 := wr (by omega) (by omega)
    have wq : IntKind.wrap .i64 ((q1 : Int) - (q0 : Int)) = (q1 : Int) - q0 := wr (by omega) (by omega)
    obtain ⟨G1, e1, e2, e3⟩ := rows3 (O := O) (F := F' + 1) (x0 := p0) (x1 := p1) (y1 := q1) hF (by omega) (by omega) byy.2.1 (by omega) bx.2.1 (a3_54 O Kret (l3_3 O (F' + 1) Kret K2 n) K2) (S : Int) a N (N : Int) (i : Int) (q0 : Int) (q1 - q0) (F' + 1) q0 _ G (by omega) (by omega) hG (fun x' y' h1 h2 h3 h4 => by
      have := (hiff x' y' (by omega) (by omega)).1 ⟨⟨h1, h2⟩, h3, h4⟩
      simp; omega)
    rw [seenC_congr (Q := fun x y => decide (tileN S nx x y < i + 1)) fun x y hx hy => by
      have := hiff x y hx hy
      by_cases hc1 : (p0 ≤ x ∧ x < p1) ∧ (q0 ≤ y ∧ y < q1)
      · have h9 := this.1 hc1
        rw [decide_eq_true hc1.1, decide_eq_true hc1.2, decide_eq_true (show tileN S nx x y < i + 1 by omega)]
        simp
      · have h9 : tileN S nx x y ≠ i := fun h => hc1 (this.2 h)
        have h8 : (decide (p0 ≤ x ∧ x < p1) && decide (q0 ≤ y ∧ y < q1)) = false := by
          rw [← Bool.decide_and]; exact decide_eq_false hc1
        rw [h8, Bool.or_false, decide_eq_decide]
        omega] at e2
    obtain ⟨G2, f1, f2, f3⟩ := tiles3 hF hf hnx hny hN hN1 Kret K2 hS d n (i + 1) G1 (by omega) (by omega) (hO.trans e3) e2
    refine ⟨G2, ?_, f2, f3⟩
    simp only [l3_3, u3_3]
    rw [hc, cond_true, x1, Option.bind_some, x2, Option.bind_some, x3, Option.bind_some, x4, Option.bind_some, x5, Option.bind_some]
    simp only [L3_4, stepN, l3_4, u3_4]
    rw [wp, wq, decide_eq_false (show ¬ ((p0 : Int) ≥ (p1 : Int)) by omega), decide_eq_false (show ¬ ((q0 : Int) ≥ (q1 : Int)) by omega), decide_eq_false (show ¬ ((p1 : Int) - (p0 : Int) > (S : Int)) by omega), decide_eq_false (show ¬ ((q1 : Int) - (q0 : Int) > (S : Int)) by omega)]
    simp only [cond_false, a3_4N, L3_5]
    rw [e1]
    simp only [a3_54]
    rw [wi]
    exact f1
end Go.LI.Film
