/- FilmMerges: the walk, whole. -/
import Derived.Test.YtmhoddmenfondaaRdM2
namespace Go.LI.Film
open Go.Proofs.Ytmhoddmenfondaa Go Go.Proofs Go.LI Go.LI.Fl
set_option linter.unusedVariables false
set_option linter.unusedSimpArgs false
set_option maxRecDepth 100000
section
variable {R : Type}
abbrev SAw (O : Ora R) : Prop := ∀ (G : GH) (k : IV → GH → Option R), O fn_law19_Awake [] G k = k (.bool true) G
theorem drop3 {β : Type} (a : Option GA) (b : Option GA) (n : Nat) (c : Bool) (f : Option GA → (Option GA × Nat) → Bool → Option β) :
    ((ivTup 3 (.tuple [.ptr a, .slice b n, .bool c])).bind fun c3 => (ivPtr (c3.getD 0 undefI)).bind fun x4 => (ivSlice (c3.getD 1 undefI)).bind fun x5 => (ivBool (c3.getD 2 undefI)).bind fun x6 => f x4 x5 x6) = f a (b, n) c := rfl
theorem in_j {O : Ora R} (x0 y0 x1 y1 : Int) (KN : Bool → Option R) :
    (bif (decide (x0 ≥ (0 : Int))) then bif (decide (y0 ≥ (0 : Int))) then bif (decide (x1 ≤ (5 : Int))) then bif (decide (y1 ≤ (4 : Int))) then bif (decide (x0 < x1)) then KN (decide (y0 < y1)) else KN false else KN false else KN false else KN false else KN false) = KN (decide (0 ≤ x0 ∧ 0 ≤ y0 ∧ x1 ≤ 5 ∧ y1 ≤ 4 ∧ x0 < x1 ∧ y0 < y1)) := by
  by_cases h1 : x0 ≥ 0
  · rw [decide_eq_true h1, cond_true]
    by_cases h2 : y0 ≥ 0
    · rw [decide_eq_true h2, cond_true]
      by_cases h3 : x1 ≤ 5
      · rw [decide_eq_true h3, cond_true]
        by_cases h4 : y1 ≤ 4
        · rw [decide_eq_true h4, cond_true]
          by_cases h5 : x0 < x1
          · rw [decide_eq_true h5, cond_true]
            congr 1
            rw [decide_eq_decide]; omega
          · rw [decide_eq_false h5, cond_false]; congr 1; exact (decide_eq_false (by omega)).symm
        · rw [decide_eq_false h4, cond_false]; congr 1; exact (decide_eq_false (by omega)).symm
      · rw [decide_eq_false h3, cond_false]; congr 1; exact (decide_eq_false (by omega)).symm
    · rw [decide_eq_false h2, cond_false]; congr 1; exact (decide_eq_false (by omega)).symm
  · rw [decide_eq_false h1, cond_false]; congr 1; exact (decide_eq_false (by omega)).symm

theorem merges_body {O : Ora R} {F : Nat} (hF : 1100 ≤ F) (hAw : SAw O) (hVd : SValidD O F) (hDr : SDropped O) (hNew : SFNew O) (hPx : SFPixel O) (hSm : SRSamePx O) (hMe : SMerge O) (hNil : SMergeNil O) {G : GH} {sa sb : Option GA} {n m : Nat} {ds es : List Drp} (hD : Drps G G.length sa n ds) (hE : Drps G G.length sb m es) (hn : n < F ∧ n < 2 ^ 60) (hm : m < F ∧ m < 2 ^ 60) (x0 y0 x1 y1 : Int) (k : IV → GH → Option R) :
    ∃ G', u_law19_FilmMerges O k (L_law19_FilmMerges_0 O F k) sa n sb m x0 y0 x1 y1 G = k (.bool true) G' := by
  simp only [u_law19_FilmMerges]
  rw [hAw, ivB, Bool.not_true, cond_false]
  simp only [L_law19_FilmMerges_0]
  rw [stepF (by omega)]
  simp only [l_law19_FilmMerges_0, u_law19_FilmMerges_0]
  rw [hVd G _ sa n ds hD hn.1 hn.2, ivB]
  cases validD ds with
  | false => exact ⟨G, by rw [Bool.not_false, cond_true]; rfl⟩
  | true =>
    rw [Bool.not_true, cond_false, hVd G _ sb m es hE hm.1 hm.2, ivB]
    cases validD es with
    | false => exact ⟨G, by rw [Bool.not_false, cond_true]; rfl⟩
    | true =>
      rw [Bool.not_true, cond_false]
      simp only [a_law19_FilmMerges_0N]
      obtain ⟨G1, a1, a2, a3, a4, a5⟩ := hDr 5 4 (by decide) (by decide) (by decide) (by decide) (by decide) G sa n ds hD fun v1 G2 => (ivTup 3 v1).bind fun c3 => (ivPtr (c3.getD 0 undefI)).bind fun x4 => (ivSlice (c3.getD 1 undefI)).bind fun x5 => (ivBool (c3.getD 2 undefI)).bind fun x6 => L_law19_FilmMerges_1 O F k sb m x4 x5.1 x5.2 x6 x0 y0 x1 y1 G2
      generalize dropsPx 5 4 (List.replicate (5 * 4) Px.zero) (ds.take 200) = ps at a3 a4
      have hE1 : Drps G1 G1.length sb m es := (hE.keep a2).up (by omega)
      rw [drop3] at a5
      simp only [L_law19_FilmMerges_1] at a5
      rw [stepF (by omega)] at a5
      simp only [l_law19_FilmMerges_1, u_law19_FilmMerges_1] at a5
      rw [in_j (O := O) x0 y0 x1 y1 fun bb => a_law19_FilmMerges_1N O k (L_law19_FilmMerges_2 O F k) sb m (some ⟨G.length + 2, 0⟩) (some ⟨G.length + 3, 0⟩) (5 * 4) true bb x0 y0 x1 y1 G1] at a5
      obtain ⟨s10, hs10⟩ : ∃ s10, s10 = decide (0 ≤ x0 ∧ 0 ≤ y0 ∧ x1 ≤ 5 ∧ y1 ≤ 4 ∧ x0 < x1 ∧ y0 < y1) := ⟨_, rfl⟩
      rw [← hs10] at a5
      have hs : s10 = true ↔ okJ 5 4 x0 y0 x1 y1 := by rw [hs10, decide_eq_true_iff]; exact Iff.rfl
      simp only [a_law19_FilmMerges_1N, L_law19_FilmMerges_2] at a5
      rw [stepF (by omega)] at a5
      simp only [l_law19_FilmMerges_2, u_law19_FilmMerges_2] at a5
      -- the tile's sides
      obtain ⟨w', h', hw1, hw2, hh1, hh2, he, hab⟩ : ∃ w' h' : Nat, 1 ≤ w' ∧ w' ≤ 5 ∧ 1 ≤ h' ∧ h' ≤ 4 ∧ (s10 = true → (w' : Int) = x1 - x0 ∧ (h' : Int) = y1 - y0) ∧
          (bif s10 then a_law19_FilmMerges_2N O k (L_law19_FilmMerges_3 O F k) sb m (some ⟨G.length + 2, 0⟩) (some ⟨G.length + 3, 0⟩) (5 * 4) true s10 (IntKind.wrap .i64 (x1 - x0)) (IntKind.wrap .i64 (y1 - y0)) x0 y0 x1 y1 G1 else a_law19_FilmMerges_2N O k (L_law19_FilmMerges_3 O F k) sb m (some ⟨G.length + 2, 0⟩) (some ⟨G.length + 3, 0⟩) (5 * 4) true s10 2 2 x0 y0 x1 y1 G1) =
          a_law19_FilmMerges_2N O k (L_law19_FilmMerges_3 O F k) sb m (some ⟨G.length + 2, 0⟩) (some ⟨G.length + 3, 0⟩) (5 * 4) true s10 (w' : Int) (h' : Int) x0 y0 x1 y1 G1 := by
        cases hc : s10 with
        | true =>
          obtain ⟨o1, o2, o3, o4, o5, o6⟩ := hs.1 hc
          refine ⟨(x1 - x0).toNat, (y1 - y0).toNat, by omega, by omega, by omega, by omega, fun _ => ⟨by omega, by omega⟩, ?_⟩
          rw [cond_true, wrapI (v := x1 - x0) (by omega) (by omega), wrapI (v := y1 - y0) (by omega) (by omega), show (((x1 - x0).toNat : Nat) : Int) = x1 - x0 by omega, show (((y1 - y0).toNat : Nat) : Int) = y1 - y0 by omega]
        | false =>
          exact ⟨2, 2, by omega, by omega, by omega, by omega, fun h => (by cases h), by rw [cond_false]; rfl⟩
      rw [hab] at a5
      have hbnd : w' * h' ≤ 5 * 4 := Nat.mul_le_mul hw2 hh2
      have hbnd2 : (w' + 1) * h' ≤ 6 * 4 := Nat.mul_le_mul (by omega) hh2
      simp only [a_law19_FilmMerges_2N] at a5
      obtain ⟨G2, b1, b2, b3, b4, b5⟩ := hDr w' h' (by omega) (by omega) (by omega) (by omega) (by omega) G1 sb m es hE1 fun v1 G2 => (ivTup 3 v1).bind fun c3 => (ivPtr (c3.getD 0 undefI)).bind fun x4 => (ivSlice (c3.getD 1 undefI)).bind fun x5 => (ivBool (c3.getD 2 undefI)).bind fun x6 => O fn_film_New [.int .i64 (IntKind.wrap .i64 ((w' : Int) + (1 : Int))), .int .i64 (h' : Int)] G2 fun v7 G8 => (ivTup 2 v7).bind fun c9 => (ivPtr (c9.getD 0 undefI)).bind fun x10 => (ivInt .i64 (c9.getD 1 undefI)).bind fun x11 => L_law19_FilmMerges_3 O F k (some ⟨G.length + 2, 0⟩) (some ⟨G.length + 3, 0⟩) (5 * 4) true s10 (w' : Int) x4 x5.1 x5.2 x6 x10 x0 y0 x1 y1 G8
      generalize dropsPx w' h' (List.replicate (w' * h') Px.zero) (es.take 200) = qs at b3 b4
      obtain ⟨G3, c1, c2, c3, c4⟩ := hNew (w' + 1) h' (by omega) (by omega) (by omega) (by omega) (by omega) G2
      have k1 : ∀ i, i < G2.length → G3[i]? = G2[i]? := c2
      have k2 : ∀ i, i < G1.length → G3[i]? = G1[i]? := fun i hi => (c2 i (by omega)).trans (b2 i hi)
      have hI : Flm G3 (G.length + 2) (G.length + 1) G.length 5 4 ps := a3.keep fun i hi => k2 i (by omega)
      have hW : Want G3 (G.length + 3) ps := by obtain ⟨e, h⟩ := a4; exact ⟨e, by rw [k2 _ (by omega)]; exact h⟩
      have hQ : Flm G3 (G1.length + 2) (G1.length + 1) G1.length w' h' qs := b3.keep fun i hi => k1 i (by omega)
      have hP : Want G3 (G1.length + 3) qs := by obtain ⟨e, h⟩ := b4; exact ⟨e, by rw [k1 _ (by omega)]; exact h⟩
      obtain ⟨G4, hend⟩ := merges_mid (O := O) (F := F) (by omega) hPx hSm hMe hNil hI hW hQ hP c3 (by omega) (by omega) (by omega) (by omega) (by omega) (by omega) (by omega) (by omega) (by omega) (by omega) (by omega) hw1 x0 y0 x1 y1 s10 hs he k
      refine ⟨G4, a5.trans (b5.trans ?_)⟩
      rw [drop3]
      rw [wrapI (v := (w' : Int) + 1) (by omega) (by omega), show (w' : Int) + 1 = ((w' + 1 : Nat) : Int) by omega, c4, pairPI]
      simp only [L_law19_FilmMerges_3]
      rw [stepF (by omega)]
      simp only [l_law19_FilmMerges_3, u_law19_FilmMerges_3, Bool.not_true, cond_false]
      exact hend
end
end Go.LI.Film
