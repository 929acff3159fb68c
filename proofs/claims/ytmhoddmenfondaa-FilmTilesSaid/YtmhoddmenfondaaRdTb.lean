/- FilmTiles: where the tiles stand. -/
import Derived.Test.YtmhoddmenfondaaFilmE
namespace Go.LI.Film.Ti
open Go.Proofs.Ytmhoddmenfondaa Go Go.Proofs Go.LI Go.LI.Film
set_option linter.unusedVariables false
set_option linter.unusedSimpArgs false
set_option maxRecDepth 100000

def flatC (w h s : Int) (nx : Nat) (i : Nat) : Nat → List IV
  | 0 => []
  | d + 1 => jobC w h s ((i % nx : Nat) : Int) ((i / nx : Nat) : Int) ++ flatC w h s nx (i + 1) d
theorem flatC_add (w h s : Int) (nx : Nat) : ∀ (d e i : Nat), flatC w h s nx i (d + e) = flatC w h s nx i d ++ flatC w h s nx (i + d) e
  | 0, e, i => by simp [flatC]
  | d + 1, e, i => by
    rw [show d + 1 + e = (d + e) + 1 by omega]
    simp only [flatC]
    rw [flatC_add w h s nx d e (i + 1), List.append_assoc, show i + 1 + d = i + (d + 1) by omega]
theorem rowC_flat (w h s : Int) {nx : Nat} (hn : 0 < nx) (y : Nat) : ∀ (d x : Nat), x + d ≤ nx → rowC w h s y x d = flatC w h s nx (y * nx + x) d
  | 0, x, _ => rfl
  | d + 1, x, hx => by
    simp only [rowC, flatC]
    have e1 : (y * nx + x) % nx = x := by rw [Nat.mul_add_mod_self_right, Nat.mod_eq_of_lt (by omega)]
    have e2 : (y * nx + x) / nx = y := by rw [Nat.add_comm, Nat.add_mul_div_right _ _ hn, Nat.div_eq_of_lt (by omega)]; omega
    rw [e1, e2]
    have := rowC_flat w h s hn y d (x + 1) (by omega)
    rw [show ((x : Int) + 1) = ((x + 1 : Nat) : Int) by omega, this]
    rfl
theorem allC_flat (w h s : Int) {nx : Nat} (hn : 0 < nx) : ∀ (d y : Nat), allC w h s nx y d = flatC w h s nx (y * nx) (d * nx)
  | 0, y => by simp [allC, flatC]
  | d + 1, y => by
    simp only [allC]
    rw [show (d + 1) * nx = nx + d * nx by rw [Nat.add_mul]; omega, flatC_add]
    have h1 := rowC_flat w h s hn y nx 0 (by omega)
    have h2 := allC_flat w h s hn d (y + 1)
    rw [show ((0 : Nat) : Int) = 0 from rfl] at h1
    rw [h1, show ((y : Int) + 1) = ((y + 1 : Nat) : Int) by omega, h2, show (y + 1) * nx = y * nx + nx by rw [Nat.add_mul]; omega]
    rfl
theorem flatC_at (w h s : Int) (nx : Nat) : ∀ (d i0 i j : Nat), i < d → j < 4 → (flatC w h s nx i0 d)[i * 4 + j]? = (jobC w h s (((i0 + i) % nx : Nat) : Int) (((i0 + i) / nx : Nat) : Int))[j]?
  | d + 1, i0, 0, j, _, hj => by
    simp only [flatC, Nat.zero_mul, Nat.zero_add, Nat.add_zero]
    rw [List.getElem?_append_left (by simp [jobC]; omega)]
  | d + 1, i0, i + 1, j, hi, hj => by
    simp only [flatC]
    rw [List.getElem?_append_right (by simp [jobC]; omega)]
    have := flatC_at w h s nx d (i0 + 1) i j (by omega) hj
    rw [show (i + 1) * 4 + j - (jobC w h s (((i0 : Nat) % nx : Nat) : Int) ((i0 / nx : Nat) : Int)).length = i * 4 + j by simp [jobC]; omega, this, show i0 + 1 + i = i0 + (i + 1) by omega]
theorem ldInt_of {G : GH} {b o : Nat} {cs : List IV} {e m : Nat} {v : Int} (hb : G[b]? = some ⟨cs, e, m⟩) (hm : m ≤ 1) (h : cs[o]? = some (.int .i64 v)) : ldInt G .i64 ⟨b, o⟩ = some v := by
  simp [ldInt, gld, hb, hm, h]
theorem tile_ld {w h s : Int} {nx n base : Nat} {G : GH} {a : Option GA} (hS : Sl base G 30 4 a n (flatC w h s nx 0 n)) {i : Nat} (hi : i < n) :
    ∃ ga, idx? a n i 4 = some ga ∧ ldInt G .i64 (GA.add ga 0) = some (((i % nx : Nat) : Int) * s) ∧ ldInt G .i64 (GA.add ga 1) = some (((i / nx : Nat) : Int) * s) ∧
      ldInt G .i64 (GA.add ga 2) = some (if ((i % nx : Nat) : Int) * s + s < w then ((i % nx : Nat) : Int) * s + s else w) ∧
      ldInt G .i64 (GA.add ga 3) = some (if ((i / nx : Nat) : Int) * s + s < h then ((i / nx : Nat) : Int) * s + s else h) := by
  obtain ⟨hl, h1 | ⟨b, hb, rfl, hG⟩⟩ := hS
  · omega
  · have hat := fun j hj => flatC_at w h s nx n 0 i j hi hj
    simp only [Nat.zero_add] at hat
    refine ⟨⟨b, i * 4⟩, ?_, ?_, ?_, ?_, ?_⟩
    · unfold idx?
      simp only
      rw [if_pos ⟨by omega, by omega⟩]
      simp [GA.add]
    · exact ldInt_of hG (by omega) (by simp only [GA.add]; rw [hat 0 (by omega)]; rfl)
    · exact ldInt_of hG (by omega) (by simp only [GA.add]; rw [hat 1 (by omega)]; rfl)
    · exact ldInt_of hG (by omega) (by simp only [GA.add]; rw [hat 2 (by omega)]; rfl)
    · exact ldInt_of hG (by omega) (by simp only [GA.add]; rw [hat 3 (by omega)]; rfl)

/-- The number of a pixel's tile. -/
def tileN (S nx x y : Nat) : Nat := y / S * nx + x / S
def endN (W S X : Nat) : Nat := if X * S + S < W then X * S + S else W
theorem pos_mod {W x y : Nat} (hx : x < W) : (y * W + x) % W = x := by rw [Nat.mul_add_mod_self_right, Nat.mod_eq_of_lt hx]
theorem pos_div {W x y : Nat} (hx : x < W) : (y * W + x) / W = y := by rw [Nat.add_comm, Nat.add_mul_div_right _ _ (by omega), Nat.div_eq_of_lt hx]; omega
theorem in_tile {W S X x : Nat} (hS : 0 < S) (hx : x < W) : (X * S ≤ x ∧ x < endN W S X) ↔ x / S = X := by
  unfold endN
  constructor
  · rintro ⟨h1, h2⟩
    have h3 : x < X * S + S := by split at h2 <;> omega
    rw [Nat.div_eq_iff hS]
    omega
  · intro h
    have := (Nat.div_eq_iff hS).1 h
    split <;> omega
theorem tile_eq {W H S nx i x y : Nat} (hS : 0 < S) (hnx : (W - 1) / S + 1 = nx) (hx : x < W) (hy : y < H) :
    ((i % nx * S ≤ x ∧ x < endN W S (i % nx)) ∧ (i / nx * S ≤ y ∧ y < endN H S (i / nx))) ↔ tileN S nx x y = i := by
  rw [in_tile hS hx, in_tile hS hy]
  have hxs : x / S < nx := by
    have : x / S ≤ (W - 1) / S := Nat.div_le_div_right (by omega)
    omega
  unfold tileN
  constructor
  · rintro ⟨h1, h2⟩
    rw [h1, h2, Nat.mul_comm]
    exact Nat.div_add_mod i nx
  · intro h
    rw [← h]
    exact ⟨(pos_mod hxs).symm, (pos_div hxs).symm⟩
theorem start_lt {W S nx X : Nat} (hS : 0 < S) (hW : 0 < W) (hnx : (W - 1) / S + 1 = nx) (hX : X < nx) : X * S < W := by
  have h1 : X * S ≤ (W - 1) / S * S := Nat.mul_le_mul_right _ (by omega)
  have h2 : (W - 1) / S * S ≤ W - 1 := Nat.div_mul_le_self _ _
  omega
theorem tileN_lt {W H S nx ny x y : Nat} (hnx : (W - 1) / S + 1 = nx) (hny : (H - 1) / S + 1 = ny) (hx : x < W) (hy : y < H) : tileN S nx x y < nx * ny := by
  have h1 : x / S ≤ (W - 1) / S := Nat.div_le_div_right (by omega)
  have h2 : y / S ≤ (H - 1) / S := Nat.div_le_div_right (by omega)
  have h3 : (y / S + 1) * nx ≤ ny * nx := Nat.mul_le_mul_right _ (by omega)
  rw [Nat.add_mul, Nat.one_mul, Nat.mul_comm ny] at h3
  unfold tileN
  omega
theorem end_nat (W S X : Nat) : (if ((X : Nat) : Int) * (S : Int) + (S : Int) < (W : Int) then ((X : Nat) : Int) * (S : Int) + (S : Int) else (W : Int)) = ((endN W S X : Nat) : Int) := by
  unfold endN
  rw [← Int.natCast_mul, ← Int.natCast_add]
  split <;> split <;> omega
end Go.LI.Film.Ti
