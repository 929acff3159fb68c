/- FilmJobs: the tiles are read. -/
import Derived.Test.YtmhoddmenfondaaFilmF
import Derived.Test.YtmhoddmenfondaaFilmD
namespace Go.LI.Film
open Go.Proofs.Ytmhoddmenfondaa Go Go.Proofs Go.LI
set_option linter.unusedVariables false
set_option maxRecDepth 100000

theorem flatC_at (w h s : Int) (nx : Nat) : ∀ (d i0 i j : Nat), i < d → j < 4 → (flatC w h s nx i0 d)[i * 4 + j]? = (jobC w h s (((i0 + i) % nx : Nat) : Int) (((i0 + i) / nx : Nat) : Int))[j]?
  | d + 1, i0, 0, j, _, hj => by
    simp only [flatC, Nat.zero_mul, Nat.zero_add, Nat.add_zero]
    rw [List.getElem?_append_left (by simp [jobC]; omega)]
  | d + 1, i0, i + 1, j, hi, hj => by
    simp only [flatC]
    rw [List.getElem?_append_right (by simp [jobC]; omega)]
    have := flatC_at w h s nx d (i0 + 1) i j (by omega) hj
    rw [show (i + 1) * 4 + j - (jobC w h s (((i0 : Nat) % nx : Nat) : Int) ((i0 / nx : Nat) : Int)).length = i * 4 + j by simp [jobC]; omega, this, show i0 + 1 + i = i0 + (i + 1) by omega]

theorem ldInt_of {G : GH} {b o : Nat} {cs : List IV} {e m : Nat} {v : Int} (hb : G[b]? = some ⟨cs, e, m⟩) (hm : m ≤ 1) (h : cs[o]? = some (.int .i64 v)) : ldInt G .i64 ⟨b, o⟩ = some v := by
  simp [ldInt, gld, hb, hm, h]

theorem tile_ld {w h s : Int} {nx n base : Nat} {G : GH} {a : Option GA} (hS : Sl base G 30 4 a n (flatC w h s nx 0 n)) {i : Nat} (hi : i < n) :
    ∃ ga, idx? a n i 4 = some ga ∧ ldInt G .i64 (GA.add ga 0) = some (((i % nx : Nat) : Int) * s) ∧ ldInt G .i64 (GA.add ga 1) = some (((i / nx : Nat) : Int) * s) ∧
      ldInt G .i64 (GA.add ga 2) = some (if ((i % nx : Nat) : Int) * s + s < w then ((i % nx : Nat) : Int) * s + s else w) ∧
      ldInt G .i64 (GA.add ga 3) = some (if ((i / nx : Nat) : Int) * s + s < h then ((i / nx : Nat) : Int) * s + s else h) := by
  obtain ⟨hl, h1 | ⟨b, hb, rfl, hG⟩⟩ := hS
  · omega
  · have hat := fun j hj => flatC_at w h s nx n 0 i j hi hj
    simp only [Nat.zero_add] at hat
    refine ⟨⟨b, i * 4⟩, ?_, ?_, ?_, ?_, ?_⟩
    · unfold idx?
      simp only
      rw [if_pos ⟨by omega, by omega⟩]
      simp [GA.add]
    · exact ldInt_of hG (by omega) (by simp only [GA.add]; rw [hat 0 (by omega)]; rfl)
    · exact ldInt_of hG (by omega) (by simp only [GA.add]; rw [hat 1 (by omega)]; rfl)
    · exact ldInt_of hG (by omega) (by simp only [GA.add]; rw [hat 2 (by omega)]; rfl)
    · exact ldInt_of hG (by omega) (by simp only [GA.add]; rw [hat 3 (by omega)]; rfl)

variable {R : Type} {O : Ora R}
/-- Both say the same. -/
theorem same3 {w h s : Int} {nx N b1 b2 : Nat} {G : GH} {a a' : Option GA} (hN : N ≤ 8192) (hS : Sl b1 G 30 4 a N (flatC w h s nx 0 N)) (hS' : Sl b2 G 30 4 a' N (flatC w h s nx 0 N))
    (Kret : Bool → GH → Option R) (K0 : Int → Int → Int → Option GA → Nat → Int → GH → Option R) (p q r e : Int) : ∀ (d n i : Nat), i + d = N → d < n → l3_1 O Kret K0 n p q r a N e a' N N i G = K0 p q r a N e G
  | 0, n + 1, i, hid, hn => by
    have hc : decide ((i : Int) < (N : Int)) = false := by simp; omega
    simp only [l3_1, u3_1]
    rw [hc, cond_false]
  | d + 1, n + 1, i, hid, hn => by
    have hc : decide ((i : Int) < (N : Int)) = true := by simp; omega
    obtain ⟨ga, x1, x2, x3, x4, x5⟩ := tile_ld hS (i := i) (by omega)
    obtain ⟨gb, y1, y2, y3, y4, y5⟩ := tile_ld hS' (i := i) (by omega)
    have wi : IntKind.wrap .i64 ((i : Int) + 1) = ((i + 1 : Nat) : Int) := by rw [wr (by omega) (by omega)]; omega
    simp only [l3_1, u3_1]
    rw [hc, cond_true, x1, Option.bind_some, x2, Option.bind_some, x3, Option.bind_some, x4, Option.bind_some, x5, Option.bind_some, y1, Option.bind_some, y2, Option.bind_some, y3, Option.bind_some, y4, Option.bind_some, y5, Option.bind_some]
    simp only [BEq.rfl, Bool.and_self, Bool.not_true, cond_false]
    rw [wi]
    exact same3 hN hS hS' Kret K0 p q r e d n (i + 1) (by omega) (by omega)
end Go.LI.Film
