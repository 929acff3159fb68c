/- Drops: dropped, whole. -/
import Derived.Test.YtmhoddmenfondaaRdD2
namespace Go.LI.Film
open Go.Proofs.Ytmhoddmenfondaa Go Go.Proofs Go.LI Go.LI.Fl
set_option linter.unusedVariables false
set_option linter.unusedSimpArgs false
set_option maxRecDepth 100000
theorem Want.ld {G : GH} {q : Nat} {ps : List Px} (hW : Want G q ps) {i : Nat} (hi : i < ps.length) :
    idx? (some (⟨q, 0⟩ : GA)) ps.length (i : Int) 8 = some ⟨q, i * 8⟩ ∧ (∀ j v, j < 8 → (pcs (ps.getD i Px.zero))[j]? = some (.float .f64 v) → ldFloat G .f64 (GA.add ⟨q, i * 8⟩ j) = some v) ∧ (∀ j v, j < 8 → (pcs (ps.getD i Px.zero))[j]? = some (.int .i64 v) → ldInt G .i64 (GA.add ⟨q, i * 8⟩ j) = some v) := by
  obtain ⟨e, hw⟩ := hW
  have hps : ps[i]? = some (ps.getD i Px.zero) := by rw [List.getD_eq_getElem?_getD, List.getElem?_eq_getElem hi]; rfl
  refine ⟨?_, fun j v hj hv => ldF hw (by decide) ((flatP_at hps j hj).trans hv), fun j v hj hv => ldI hw (by decide) ((flatP_at hps j hj).trans hv)⟩
  simp only [idx?]
  rw [if_pos (by omega), Int.toNat_natCast]
  simp [GA.add]

section
variable {R : Type}
theorem drop_in {O : Ora R} (w h x y : Int) (KN : Bool → Option R) :
    (bif (decide (x ≥ (0 : Int))) then bif (decide (y ≥ (0 : Int))) then bif (decide (x < w)) then KN (decide (y < h)) else KN false else KN false else KN false) = KN (decide (0 ≤ x ∧ x < w ∧ 0 ≤ y ∧ y < h)) := by
  by_cases h1 : x ≥ 0
  · rw [decide_eq_true h1, cond_true]
    by_cases h2 : y ≥ 0
    · rw [decide_eq_true h2, cond_true]
      by_cases h3 : x < w
      · rw [decide_eq_true h3, cond_true]
        congr 1
        rw [decide_eq_decide]; omega
      · rw [decide_eq_false h3, cond_false]
        congr 1
        exact (decide_eq_false (by omega)).symm
    · rw [decide_eq_false h2, cond_false]
      congr 1
      exact (decide_eq_false (by omega)).symm
  · rw [decide_eq_false h1, cond_false]
    congr 1
    exact (decide_eq_false (by omega)).symm

theorem drop_loop {O : Ora R} {F : Nat} (hF : 1 ≤ F) (hAdd : SFAdd O) (hR : SRPixAdd O) (Kret : Option GA → Option GA → Nat → Bool → GH → Option R) (K0 : Option GA → Option GA → Nat → GH → Option R) {f b c w h q base n : Nat} {sa : Option GA} {ds : List Drp} (hq1 : q ≠ f) (hq2 : q ≠ b) (hq3 : q ≠ c) (hbc : base ≤ c) (hbq : base ≤ q) :
    ∀ (r i j : Nat) (ps : List Px) (G : GH), i + r = min n 200 → r < j → Drps G base sa n ds → Flm G f b c w h ps → Want G q ps →
      ∃ G', Flm G' f b c w h (dropsPx w h ps ((ds.take 200).drop i)) ∧ Want G' q (dropsPx w h ps ((ds.take 200).drop i)) ∧ G'.length = G.length ∧ (∀ j, j ≠ c → j ≠ q → G'[j]? = G[j]?) ∧
        l_zg_0 O F Kret K0 j w h sa n (some ⟨f, 0⟩) (some ⟨q, 0⟩) (w * h) (i : Int) G = K0 (some ⟨f, 0⟩) (some ⟨q, 0⟩) (w * h) G' := by
  intro r
  induction r with
  | zero =>
    intro i j ps G hi hj hD hI hW
    obtain ⟨j, rfl⟩ : ∃ j', j = j' + 1 := ⟨j - 1, by omega⟩
    have hnil : (ds.take 200).drop i = [] := List.drop_eq_nil_of_le (by rw [List.length_take, hD.len]; omega)
    rw [hnil]
    refine ⟨G, hI, hW, rfl, fun _ _ _ => rfl, ?_⟩
    simp only [l_zg_0, u_zg_0, L_zg_1]
    rw [stepF hF]
    simp only [l_zg_1, u_zg_1, a_zg_10]
    by_cases h1 : (i : Int) < (n : Int)
    · rw [decide_eq_true h1, cond_true, decide_eq_false (by omega), cond_false]
    · rw [decide_eq_false h1, cond_false]
  | succ r ih =>
    intro i j ps G hi hj hD hI hW
    obtain ⟨j, rfl⟩ : ∃ j', j = j' + 1 := ⟨j - 1, by omega⟩
    have hlt : i < (ds.take 200).length := by rw [List.length_take, hD.len]; omega
    have hlt' : i < ds.length := by rw [hD.len]; omega
    have hd : ds[i]? = some ds[i] := List.getElem?_eq_getElem hlt'
    obtain ⟨d, hdd⟩ : ∃ d, d = ds[i] := ⟨_, rfl⟩
    rw [← hdd] at hd
    have hcons : (ds.take 200).drop i = d :: (ds.take 200).drop (i + 1) := by
      rw [List.drop_eq_getElem_cons hlt, List.getElem_take, hdd]
    rw [hcons]
    have hdw : W6 d.a := hD.wide d (List.mem_of_getElem? hd)
    obtain ⟨ga, l1, l2, l3, l4, l5⟩ := hD.ld hd
    simp only [l_zg_0, u_zg_0, L_zg_1]
    rw [stepF hF]
    simp only [l_zg_1, u_zg_1]
    rw [decide_eq_true (show (i : Int) < (n : Int) by omega), cond_true, decide_eq_true (show (i : Int) < 200 by omega), cond_true]
    simp only [a_zg_1N, L_zg_2]
    rw [stepF hF]
    simp only [l_zg_2, u_zg_2]
    rw [l1, Option.bind_some, l2, Option.bind_some, l3, Option.bind_some, l4 0 (by decide), Option.bind_some, l4 1 (by decide), Option.bind_some, l4 2 (by decide), Option.bind_some, l4 3 (by decide), Option.bind_some, l4 4 (by decide), Option.bind_some, l4 5 (by decide), Option.bind_some, l5, Option.bind_some]
    simp only [L_zg_3]
    rw [stepF hF]
    simp only [l_zg_3, u_zg_3]
    rw [drop_in (O := O) (w : Int) (h : Int) d.x d.y fun bb => a_zg_3N O (a_zg_2ret O Kret (l_zg_0 O F Kret K0 j) K0) (a_zg_2N O Kret (l_zg_0 O F Kret K0 j) K0) w h sa n (some ⟨f, 0⟩) (some ⟨q, 0⟩) (w * h) (i : Int) bb d.x d.y (d.a 0) (d.a 1) (d.a 2) (d.a 3) (d.a 4) (d.a 5) d.dim (d.a 0) (d.a 1) (d.a 2) (d.a 3) (d.a 4) (d.a 5) (!d.dim) none 0 G]
    obtain ⟨G1, g1, g2, g3, g4, g5⟩ := drop_one hAdd hR (a_zg_2ret O Kret (l_zg_0 O F Kret K0 j) K0) (a_zg_2N O Kret (l_zg_0 O F Kret K0 j) K0) hI hW hq1 hq2 hq3 d hdw sa n (i : Int)
    unfold inB at g5
    rw [g5]
    simp only [a_zg_2N]
    rw [wrapI (by omega) (by omega), show (i : Int) + 1 = ((i + 1 : Nat) : Int) by omega]
    have hD1 : Drps G1 base sa n ds := hD.keep fun t ht => g4 t (by omega) (by omega)
    obtain ⟨G2, k1, k2, k3, k4, k5⟩ := ih (i + 1) j (dropPx w h ps d) G1 (by omega) (by omega) hD1 g1 g2
    exact ⟨G2, k1, k2, by rw [k3, g3], fun t t1 t2 => (k4 t t1 t2).trans (g4 t t1 t2), k5⟩

abbrev SDropped (O : Ora R) : Prop := ∀ (w h : Nat), 1 ≤ w → w ≤ 1024 → 1 ≤ h → h ≤ 1024 → w * h ≤ 65536 → ∀ (G : GH) (sa : Option GA) (n : Nat) (ds : List Drp), Drps G G.length sa n ds → ∀ (k : IV → GH → Option R),
  ∃ G', G'.length = G.length + 4 ∧ (∀ i, i < G.length → G'[i]? = G[i]?) ∧ Flm G' (G.length + 2) (G.length + 1) G.length w h (dropsPx w h (List.replicate (w * h) Px.zero) (ds.take 200)) ∧ Want G' (G.length + 3) (dropsPx w h (List.replicate (w * h) Px.zero) (ds.take 200)) ∧
    O fn_zg [.int .i64 w, .int .i64 h, .slice sa n] G k = k (.tuple [.ptr (some ⟨G.length + 2, 0⟩), .slice (some ⟨G.length + 3, 0⟩) (w * h), .bool true]) G'

theorem dropped_body {O : Ora R} {F : Nat} (hF : 300 ≤ F) (hNew : SFNew O) (hAdd : SFAdd O) (hR : SRPixAdd O) {w h : Nat} (h1 : 1 ≤ w) (h2 : w ≤ 1024) (h3 : 1 ≤ h) (h4 : h ≤ 1024) (h5 : w * h ≤ 65536) {G : GH} {sa : Option GA} {n : Nat} {ds : List Drp} (hD : Drps G G.length sa n ds) (k : IV → GH → Option R) :
    ∃ G', G'.length = G.length + 4 ∧ (∀ i, i < G.length → G'[i]? = G[i]?) ∧ Flm G' (G.length + 2) (G.length + 1) G.length w h (dropsPx w h (List.replicate (w * h) Px.zero) (ds.take 200)) ∧ Want G' (G.length + 3) (dropsPx w h (List.replicate (w * h) Px.zero) (ds.take 200)) ∧
    u_zg O k (L_zg_0 O F k) w h sa n G = k (.tuple [.ptr (some ⟨G.length + 2, 0⟩), .slice (some ⟨G.length + 3, 0⟩) (w * h), .bool true]) G' := by
  obtain ⟨G1, a1, a2, a3, a4⟩ := hNew w h h1 h2 h3 h4 h5 G
  have hwr : IntKind.wrap .i64 ((w : Int) * (h : Int)) = ((w * h : Nat) : Int) := by
    rw [← Int.natCast_mul, wrapI (by omega) (by omega)]
  have hroom : ((roomI : Nat) : Int) = 1099511627776 := by decide
  have hz : (List.replicate (w * h) [IV.float FloatKind.f64 0, IV.float FloatKind.f64 0, IV.float FloatKind.f64 0, IV.float FloatKind.f64 0, IV.float FloatKind.f64 0, IV.float FloatKind.f64 0, IV.int IntKind.i64 0, IV.int IntKind.i64 0]).flatten = flatP (List.replicate (w * h) Px.zero) := flat_zero (w * h)
  obtain ⟨G2, hG2⟩ : ∃ G2, G2 = gnew G1 (flatP (List.replicate (w * h) Px.zero)) 54 := ⟨_, rfl⟩
  have hI2 : Flm G2 (G.length + 2) (G.length + 1) G.length w h (List.replicate (w * h) Px.zero) := a3.keep fun i hi => by
    rw [hG2, gnew_old (by rw [a1]; omega)]
  have hW2 : Want G2 (G.length + 3) (List.replicate (w * h) Px.zero) := ⟨54, by rw [← a1, hG2, gnew_at]⟩
  have hD2 : Drps G2 G.length sa n ds := hD.keep fun i hi => by rw [hG2, gnew_old (by rw [a1]; omega), a2 i hi]
  obtain ⟨G3, k1, k2, k3, k4, k5⟩ := drop_loop (O := O) (F := F) (by omega) hAdd hR (a_zg_0ret O k) (a_zg_00 O k) (by omega) (by omega) (by omega) (Nat.le_refl _) (by omega) (min n 200) 0 F _ G2 (by omega) (by omega) hD2 hI2 hW2
  rw [List.drop_zero] at k1 k2
  refine ⟨G3, by rw [k3, hG2, gnew_length, a1], fun i hi => ?_, k1, k2, ?_⟩
  · rw [k4 i (by omega) (by omega), hG2, gnew_old (by rw [a1]; omega), a2 i hi]
  · simp only [u_zg]
    rw [a4, pairPI, show ((0 : Int) != 0) = false from rfl, cond_false, hwr, decide_eq_true (by rw [hroom]; omega), Bool.true_and, Bool.true_and, cond_true, Int.toNat_natCast, hz, ← hG2]
    have hg : gaddr G1 = ⟨G.length + 3, 0⟩ := by unfold gaddr; rw [a1]
    rw [hg]
    simp only [L_zg_0]
    refine k5.trans ?_
    rfl

theorem wDropped {F n : Nat} (hF : 1100 ≤ F) (hn : 14 ≤ n) : SDropped (runC (R := R) Try.prog lo0 F n) := by
  obtain ⟨n, rfl⟩ : ∃ j, n = j + 14 := ⟨n - 14, by omega⟩
  intro w h h1 h2 h3 h4 h5 G sa m ds hD k
  obtain ⟨G', a1, a2, a3, a4, a5⟩ := dropped_body (O := runC (R := R) Try.prog lo0 F (n + 13)) (F := F) (by omega) (wFNew (by omega) (by omega)) (wFAdd (by omega) (by omega)) (wRPixAdd hF (by omega)) h1 h2 h3 h4 h5 hD k
  refine ⟨G', a1, a2, a3, a4, ?_⟩
  rw [r_zg, e_zg]
  exact a5
end
end Go.LI.Film
