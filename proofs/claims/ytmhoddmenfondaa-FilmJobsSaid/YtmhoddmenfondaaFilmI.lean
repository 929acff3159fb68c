/- FilmJobs: a tile's pixels are counted. -/
import Derived.Test.YtmhoddmenfondaaFilmH
namespace Go.LI.Film
open Go.Proofs.Ytmhoddmenfondaa Go Go.Proofs Go.LI
set_option linter.unusedVariables false
set_option linter.unusedSimpArgs false
set_option maxRecDepth 100000
variable {R : Type} {O : Ora R}

theorem rows3 {W H b x0 x1 y1 : Nat} {F : Nat} (hF : 4000000 ≤ F) (hW : W ≤ 1024) (hH : H ≤ 1024) (hy1 : y1 ≤ H) (hx01 : x0 ≤ x1) (hx1 : x1 ≤ W) (K4 : Int → Int → Option GA → Nat → Option GA → Nat → Int → Int → Int → Int → Int → Int → GH → Option R) (s2 : Int) (t : Option GA) (tn : Nat) (s73 s74 b1 : Int) :
    ∀ (d n y : Nat) (P : Nat → Nat → Bool) (G : GH), y + d = y1 → d < n → G[b]? = some ⟨seenC W H P, 3, 1⟩ → (∀ x' y', x0 ≤ x' → x' < x1 → y ≤ y' → y' < y1 → P x' y' = false) →
      ∃ G', l3_5 O F K4 n W s2 (some ⟨b, 0⟩) (W * H) y t tn s73 s74 x0 b1 x1 y1 G = K4 W s2 (some ⟨b, 0⟩) (W * H) t tn s73 s74 x0 b1 x1 y1 G' ∧
        G'[b]? = some ⟨seenC W H (fun x' y' => P x' y' || (decide (x0 ≤ x' ∧ x' < x1) && decide (y ≤ y' ∧ y' < y1))), 3, 1⟩ ∧ Only b G G'
  | 0, n + 1, y, P, G, hyd, hn, hG, hP => by
    have hc : decide ((y : Int) < (y1 : Int)) = false := by simp; omega
    refine ⟨G, ?_, ?_, Only.refl b G⟩
    · simp only [l3_5, u3_5]
      rw [hc, cond_false]
    · rw [hG, seenC_congr (P := P) (Q := fun x' y' => P x' y' || (decide (x0 ≤ x' ∧ x' < x1) && decide (y ≤ y' ∧ y' < y1))) fun x' y' _ _ => by
        have : decide (y ≤ y' ∧ y' < y1) = false := by simp; omega
        simp [this]]
  | d + 1, n + 1, y, P, G, hyd, hn, hG, hP => by
    have hc : decide ((y : Int) < (y1 : Int)) = true := by simp; omega
    have hy : y < H := by omega
    have w3 : IntKind.wrap .i64 ((y : Int) + 1) = ((y + 1 : Nat) : Int) := by rw [wr (by omega) (by omega)]; omega
    obtain ⟨G1, e1, e2, e3⟩ := cols3 (O := O) hW hH hy hx1 (a3_66 O (l3_5 O F K4 n) K4) s2 t tn s73 s74 x0 b1 y1 (x1 - x0) F x0 P G (by omega) (by omega) hG (fun x' h1 h2 => hP x' y h1 h2 (by omega) (by omega))
    obtain ⟨G2, f1, f2, f3⟩ := rows3 hF hW hH hy1 hx01 hx1 K4 s2 t tn s73 s74 b1 d n (y + 1) _ G1 (by omega) (by omega) e2 (fun x' y' h1 h2 h3 h4 => by
      rw [hP x' y' h1 h2 (by omega) h4]
      have : (y' == y) = false := by simp; omega
      simp [this])
    refine ⟨G2, ?_, ?_, e3.trans f3⟩
    · simp only [l3_5, u3_5]
      rw [hc, cond_true]
      simp only [L3_6]
      rw [e1]
      simp only [a3_66]
      rw [w3]
      exact f1
    · rw [f2]
      refine congrArg some ?_
      rw [seenC_congr fun x' y' h1 h2 => ?_]
      cases hPx : P x' y' with
      | true => simp
      | false =>
        simp only [Bool.false_or]
        by_cases hyy : y' = y
        · subst hyy
          have a1 : decide (y' + 1 ≤ y' ∧ y' < y1) = false := decide_eq_false (by omega)
          have a2 : decide (y' ≤ y' ∧ y' < y1) = true := by simp; omega
          rw [a1, a2]; simp
        · have a1 : (y' == y) = false := by simpa using hyy
          have a2 : decide (y + 1 ≤ y' ∧ y' < y1) = decide (y ≤ y' ∧ y' < y1) := by rw [decide_eq_decide]; omega
          rw [a1, a2]; simp
end Go.LI.Film
