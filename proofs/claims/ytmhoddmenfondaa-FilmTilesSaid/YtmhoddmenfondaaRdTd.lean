/- FilmTiles: one tile after the other. -/
import Derived.Test.YtmhoddmenfondaaRdTc
namespace Go.LI.Film
open Go.Proofs.Ytmhoddmenfondaa Go Go.Proofs Go.LI Go.LI.Fl Go.LI.Film.Ti
set_option linter.unusedVariables false
set_option linter.unusedSimpArgs false
set_option maxRecDepth 100000

/-- The blocks below B are as they were, but c. -/
def Still (B c : Nat) (G0 G : GH) : Prop := B ≤ G.length ∧ ∀ t, t < B → t ≠ c → G[t]? = G0[t]?
theorem Still.refl {B c : Nat} {G : GH} (h : B ≤ G.length) : Still B c G G := ⟨h, fun _ _ _ => rfl⟩

section
variable {R : Type}
theorem tiles1 {O : Ora R} {F : Nat} (hF : 1100 ≤ F) (hNew : SFNew O) (hAdd : SFAdd O) (hMe : SMerge O) (Kret : Bool → GH → Option R) (K0 : Int → Int → Option GA → Option GA → GH → Option R)
    {sa sf ja : Option GA} {n base f b c B w h s nx ny N jb : Nat} {ds : List Drp} {G0 : GH} (hw1 : 1 ≤ w) (hw : w ≤ 6) (hh1 : 1 ≤ h) (hh : h ≤ 6) (hs1 : 1 ≤ s) (hs : s ≤ 1024) (hnx : (w - 1) / s + 1 = nx) (hny : (h - 1) / s + 1 = ny) (hN : nx * ny = N) (hN1 : N < F ∧ N < 2 ^ 60)
    (hD : Drps G0 base sa n ds) (hr : ∀ d ∈ ds, InI d.x ∧ InI d.y) (hbc : base ≤ c) (hbB : base ≤ B) (hfB : f < B) (hb' : b < B) (hcB : c < B)
    (hS : ∀ G, Still B c G0 G → Sl jb G 30 4 ja N (flatC w h s nx 0 N)) {ps : List Px} (hps : ps = dropsPx w h (List.replicate (w * h) Px.zero) (ds.take 200)) :
    ∀ (r i j : Nat) (os : List Px) (G : GH), i + r = N → r < j → Still B c G0 G → Flm G f b c w h os → (∀ x y, x < w → y < h → tileN s nx x y < i → os.getD (y * w + x) Px.zero = ps.getD (y * w + x) Px.zero) →
      ∃ G' os', Still B c G0 G' ∧ Flm G' f b c w h os' ∧ (∀ x y, x < w → y < h → os'.getD (y * w + x) Px.zero = ps.getD (y * w + x) Px.zero) ∧
        l_law19_FilmTiles_1 O F Kret K0 j w h sa n sf (some ⟨f, 0⟩) ja N (N : Int) (i : Int) G = K0 w h sf (some ⟨f, 0⟩) G' := by
  intro r
  induction r with
  | zero =>
    intro i j os G hi hj hG hI hP
    obtain ⟨j, rfl⟩ : ∃ j', j = j' + 1 := ⟨j - 1, by omega⟩
    refine ⟨G, os, hG, hI, fun x y hx hy => hP x y hx hy ?_, ?_⟩
    · have := tileN_lt hnx hny hx hy
      omega
    · simp only [l_law19_FilmTiles_1, u_law19_FilmTiles_1]
      rw [decide_eq_false (by omega), cond_false]
  | succ r ih =>
    intro i j os G hi hj hG hI hP
    obtain ⟨j, rfl⟩ : ∃ j', j = j' + 1 := ⟨j - 1, by omega⟩
    obtain ⟨ga, l1, l2, l3, l4, l5⟩ := tile_ld (hS G hG) (i := i) (by omega)
    have hnx0 : 0 < nx := by rw [← hnx]; exact Nat.succ_pos _
    have hX : i % nx < nx := Nat.mod_lt _ hnx0
    have hY : i / nx < ny := by rw [Nat.div_lt_iff_lt_mul hnx0, Nat.mul_comm]; omega
    have hxs := start_lt hs1 hw1 hnx hX
    have hys := start_lt hs1 hh1 hny hY
    rw [← Int.natCast_mul] at l2 l3
    rw [end_nat] at l4 l5
    have hte : ∀ x y, x < w → y < h → (((i % nx * s ≤ x ∧ x < endN w s (i % nx)) ∧ (i / nx * s ≤ y ∧ y < endN h s (i / nx))) ↔ tileN s nx x y = i) := fun x y hx hy => tile_eq hs1 hnx hx hy
    have bx : i % nx * s < endN w s (i % nx) ∧ endN w s (i % nx) ≤ w := by unfold endN; split <;> omega
    have by' : i / nx * s < endN h s (i / nx) ∧ endN h s (i / nx) ≤ h := by unfold endN; split <;> omega
    generalize i % nx * s = x0 at l2 hte bx hxs
    generalize i / nx * s = y0 at l3 hte by' hys
    generalize endN w s (i % nx) = x1 at l4 hte bx
    generalize endN h s (i / nx) = y1 at l5 hte by'
    obtain ⟨w', rfl⟩ : ∃ w', x1 = x0 + w' := ⟨x1 - x0, by omega⟩
    obtain ⟨h', rfl⟩ : ∃ h', y1 = y0 + h' := ⟨y1 - y0, by omega⟩
    have hwh : w' * h' ≤ 6 * 6 := Nat.mul_le_mul (by omega) (by omega)
    have e1 : IntKind.wrap .i64 (((x0 + w' : Nat) : Int) - (x0 : Int)) = (w' : Int) := by rw [wrapI (by omega) (by omega)]; omega
    have e2 : IntKind.wrap .i64 (((y0 + h' : Nat) : Int) - (y0 : Int)) = (h' : Int) := by rw [wrapI (by omega) (by omega)]; omega
    obtain ⟨G1, a1, a2, a3, a4⟩ := hNew w' h' (by omega) (by omega) (by omega) (by omega) (by omega) G
    have hBl := hG.1
    have hD1 : Drps G1 base sa n ds := hD.keep fun t ht => by rw [a2 t (by omega), hG.2 t (by omega) (by omega)]
    obtain ⟨G2, b1, b2, b3, b4⟩ := tiles2 (O := O) (F := F) (by omega) hAdd (a_law19_FilmTiles_22 O Kret (l_law19_FilmTiles_1 O F Kret K0 j) K0) (x0 := x0) (y0 := y0) (base := base) (by omega) (w : Int) (h : Int) sf (some ⟨f, 0⟩) ja N (N : Int) (i : Int) ((x0 + w' : Nat) : Int) ((y0 + h' : Nat) : Int) (min n 200) 0 F _ G1 (by omega) (by omega) hD1 a3
    rw [List.drop_zero] at b1
    have hpart : PartOf w h w' h' x0 y0 ps (dropsPx w' h' (List.replicate (w' * h') Px.zero) ((ds.take 200).map (shD x0 y0))) := by
      rw [hps]
      exact part_drops (by omega) (by omega) (by omega) (by omega) _ _ _ (part_zero w h w' h' x0 y0) fun d hd => hr d (List.mem_of_mem_take hd)
    generalize dropsPx w' h' (List.replicate (w' * h') Px.zero) ((ds.take 200).map (shD x0 y0)) = qs at b1 hpart
    have hI2 : Flm G2 f b c w h os := hI.keep fun t ht => by
      have : t < B := by rcases ht with rfl | rfl | rfl <;> assumption
      rw [b3 t (by omega), a2 t (by omega)]
    have hok : okJ w h (x0 : Int) (y0 : Int) ((x0 + w' : Nat) : Int) ((y0 + h' : Nat) : Int) := by unfold okJ; omega
    obtain ⟨G3, c1, c2, c3, c4⟩ := (hMe G2 f b c w h os _ _ _ w' h' qs hI2 b1 (by omega) (by omega) (by omega) (x0 : Int) (y0 : Int) ((x0 + w' : Nat) : Int) ((y0 + h' : Nat) : Int) fun v1 G2 => (ivInt .i64 v1).bind fun x3 =>
      bif (x3 != (0 : Int)) then Kret false G2 else l_law19_FilmTiles_1 O F Kret K0 j w h sa n sf (some ⟨f, 0⟩) ja N (N : Int) (IntKind.wrap .i64 ((i : Int) + (1 : Int))) G2).2.2 hok (by omega) (by omega)
    rw [Int.toNat_natCast, Int.toNat_natCast] at c1
    have hG3 : Still B c G0 G3 := ⟨by omega, fun t ht htc => by rw [c3 t htc, b3 t (by omega), a2 t (by omega), hG.2 t ht htc]⟩
    have hP3 : ∀ x y, x < w → y < h → tileN s nx x y < i + 1 → (mall qs w w' x0 y0 h' 0 os).getD (y * w + x) Px.zero = ps.getD (y * w + x) Px.zero := by
      intro x y hx hy ht
      rw [mall_get (h := h) (by omega) hx hy h' 0 os (by omega) hI.img.len]
      by_cases hin : (y0 + 0 ≤ y ∧ y < y0 + 0 + h') ∧ x0 ≤ x ∧ x < x0 + w'
      · rw [if_pos hin, hpart.eq (x - x0) (y - y0) (by omega) (by omega), show y0 + (y - y0) = y by omega, show x0 + (x - x0) = x by omega]
      · rw [if_neg hin]
        refine hP x y hx hy ?_
        have := hte x y hx hy
        rcases Nat.lt_or_ge (tileN s nx x y) i with h' | h'
        · exact h'
        · exact absurd (this.2 (by omega)) (by omega)
    obtain ⟨G4, os', k1, k2, k3, k4⟩ := ih (i + 1) j _ G3 (by omega) (by omega) hG3 c1 hP3
    refine ⟨G4, os', k1, k2, k3, ?_⟩
    simp only [l_law19_FilmTiles_1, u_law19_FilmTiles_1]
    rw [decide_eq_true (by omega), cond_true, l1, Option.bind_some, l2, Option.bind_some, l3, Option.bind_some, l4, Option.bind_some, l5, Option.bind_some, e1, e2, a4, pairPI, show ((0 : Int) != 0) = false from rfl, cond_false]
    simp only [L_law19_FilmTiles_2]
    refine b4.trans ?_
    simp only [a_law19_FilmTiles_22]
    refine c4.trans ?_
    rw [ivI, show ((0 : Int) != 0) = false from rfl, cond_false, wrapI (by omega) (by omega), show (i : Int) + 1 = ((i + 1 : Nat) : Int) by omega]
    exact k4
end
end Go.LI.Film
