/- FilmTiles: a tile's drops are the whole's drops there; a tile laid into a film. -/
import Derived.Test.YtmhoddmenfondaaRdD3
namespace Go.LI.Film
open Go.Proofs.Ytmhoddmenfondaa Go Go.Proofs Go.LI Go.LI.Fl
set_option linter.unusedVariables false
set_option linter.unusedSimpArgs false

/-- A drop as the tile sees it. -/
def shD (x0 y0 : Nat) (d : Drp) : Drp := { d with x := IntKind.wrap .i64 (d.x - x0), y := IntKind.wrap .i64 (d.y - y0) }
def InI (x : Int) : Prop := -9223372036854775808 ≤ x ∧ x < 9223372036854775808
theorem sub_in {X : Int} {x0 w' : Nat} (hX : InI X) (h0 : x0 ≤ 1024) (h1 : w' ≤ 1024) :
    (((x0 : Int) ≤ X ∧ X < x0 + w') ∧ IntKind.wrap .i64 (X - x0) = X - x0) ∨ (¬ ((x0 : Int) ≤ X ∧ X < x0 + w') ∧ ¬ (0 ≤ IntKind.wrap .i64 (X - x0) ∧ IntKind.wrap .i64 (X - x0) < w')) := by
  obtain ⟨a, b⟩ := hX
  have e1 : IntKind.i64.bits = 64 := rfl
  unfold IntKind.wrap
  simp only [IntKind.signed, Bool.true_and, decide_eq_true_eq, ge_iff_le, e1]
  split <;> omega

theorem gp_set {ps : List Px} {i j : Nat} {p : Px} (hi : i < ps.length) : (ps.set i p).getD j Px.zero = if i = j then p else ps.getD j Px.zero := by
  rw [List.getD_eq_getElem?_getD, List.getElem?_set]
  split
  · rfl
  · rw [List.getD_eq_getElem?_getD]
theorem idx_inj {w a b c d : Nat} (hb : b < w) (hd : d < w) (h : a * w + b = c * w + d) : a = c ∧ b = d := by
  have h1 : (a * w + b) / w = a := by rw [Nat.mul_comm, Nat.mul_add_div (by omega), Nat.div_eq_of_lt hb, Nat.add_zero]
  have h2 : (c * w + d) / w = c := by rw [Nat.mul_comm, Nat.mul_add_div (by omega), Nat.div_eq_of_lt hd, Nat.add_zero]
  have : a = c := by rw [← h1, ← h2, h]
  subst this
  exact ⟨rfl, by omega⟩
theorem idx_lt {w h x y : Nat} (hx : x < w) (hy : y < h) : y * w + x < w * h := by
  have : (y + 1) * w ≤ h * w := Nat.mul_le_mul_right _ hy
  rw [Nat.add_mul, Nat.one_mul, Nat.mul_comm h] at this
  omega

theorem dropPx_length (w h : Nat) (ps : List Px) (d : Drp) : (dropPx w h ps d).length = ps.length := by
  unfold dropPx
  split
  · rw [List.length_set]
  · rfl
theorem dropsPx_length (w h : Nat) : ∀ (ds : List Drp) (ps : List Px), (dropsPx w h ps ds).length = ps.length
  | [], _ => rfl
  | d :: ds, ps => by
    show (dropsPx w h (dropPx w h ps d) ds).length = _
    rw [dropsPx_length w h ds, dropPx_length]

/-- The part's pixels are the whole's there. -/
structure PartOf (w h w' h' x0 y0 : Nat) (ps qs : List Px) : Prop where
  lp : ps.length = w * h
  lq : qs.length = w' * h'
  eq : ∀ u v, u < w' → v < h' → qs.getD (v * w' + u) Px.zero = ps.getD ((y0 + v) * w + (x0 + u)) Px.zero

theorem part_drop {w h w' h' x0 y0 : Nat} (hw : w ≤ 1024) (hh : h ≤ 1024) (hx : x0 + w' ≤ w) (hy : y0 + h' ≤ h) {ps qs : List Px} (H : PartOf w h w' h' x0 y0 ps qs) {d : Drp} (h1 : InI d.x) (h2 : InI d.y) :
    PartOf w h w' h' x0 y0 (dropPx w h ps d) (dropPx w' h' qs (shD x0 y0 d)) := by
  refine ⟨by rw [dropPx_length]; exact H.lp, by rw [dropPx_length]; exact H.lq, fun u v hu hv => ?_⟩
  obtain ⟨s, hs⟩ : ∃ s, s = shD x0 y0 d := ⟨_, rfl⟩
  have sa : s.a = d.a := by rw [hs]; rfl
  have sd : s.dim = d.dim := by rw [hs]; rfl
  have sx : s.x = IntKind.wrap .i64 (d.x - x0) := by rw [hs]; rfl
  have sy : s.y = IntKind.wrap .i64 (d.y - y0) := by rw [hs]; rfl
  rw [← hs]
  have cx := sub_in (x0 := x0) (w' := w') h1 (by omega) (by omega)
  have cy := sub_in (x0 := y0) (w' := h') h2 (by omega) (by omega)
  rw [← sx] at cx
  rw [← sy] at cy
  unfold dropPx
  by_cases hin : ((x0 : Int) ≤ d.x ∧ d.x < x0 + w') ∧ ((y0 : Int) ≤ d.y ∧ d.y < y0 + h')
  · obtain ⟨⟨i1, i2⟩, i3, i4⟩ := hin
    have ex : s.x = d.x - x0 := cx.elim (fun h => h.2) fun h => absurd ⟨i1, i2⟩ h.1
    have ey : s.y = d.y - y0 := cy.elim (fun h => h.2) fun h => absurd ⟨i3, i4⟩ h.1
    obtain ⟨a, ha⟩ : ∃ a : Nat, d.x = x0 + a := ⟨(d.x - x0).toNat, by omega⟩
    obtain ⟨b, hb⟩ : ∃ b : Nat, d.y = y0 + b := ⟨(d.y - y0).toNat, by omega⟩
    have in1 : inB w' h' s.x s.y = true := decide_eq_true (by omega)
    have in2 : inB w h d.x d.y = true := decide_eq_true (by omega)
    have t1 : s.y.toNat * w' + s.x.toNat = b * w' + a := by rw [show s.y.toNat = b by omega, show s.x.toNat = a by omega]
    have t2 : d.y.toNat * w + d.x.toNat = (y0 + b) * w + (x0 + a) := by rw [show d.y.toNat = y0 + b by omega, show d.x.toNat = x0 + a by omega]
    rw [in1, in2, if_pos rfl, if_pos rfl, t1, t2]
    have l1 : b * w' + a < qs.length := by rw [H.lq]; exact idx_lt (by omega) (by omega)
    have l2 : (y0 + b) * w + (x0 + a) < ps.length := by rw [H.lp]; exact idx_lt (by omega) (by omega)
    rw [gp_set l1, gp_set l2, sa, sd, H.eq a b (by omega) (by omega)]
    by_cases he : a = u ∧ b = v
    · obtain ⟨rfl, rfl⟩ := he
      rw [if_pos rfl, if_pos rfl]
    · rw [if_neg, if_neg]
      · exact H.eq u v hu hv
      · intro hc
        have := idx_inj (by omega) (by omega) hc
        omega
      · intro hc
        have := idx_inj (by omega) (by omega) hc
        omega
  · have in1 : inB w' h' s.x s.y = false := decide_eq_false (by omega)
    rw [in1, if_neg (by simp)]
    rw [H.eq u v hu hv]
    split
    · rename_i hi
      have hi := of_decide_eq_true hi
      obtain ⟨a, ha⟩ : ∃ a : Nat, d.x = a := ⟨d.x.toNat, by omega⟩
      obtain ⟨b, hb⟩ : ∃ b : Nat, d.y = b := ⟨d.y.toNat, by omega⟩
      have t2 : d.y.toNat * w + d.x.toNat = b * w + a := by rw [show d.y.toNat = b by omega, show d.x.toNat = a by omega]
      rw [t2]
      have l2 : b * w + a < ps.length := by rw [H.lp]; exact idx_lt (by omega) (by omega)
      rw [gp_set l2, if_neg]
      intro hc
      have := idx_inj (by omega) (by omega) hc
      omega
    · rfl

theorem part_drops {w h w' h' x0 y0 : Nat} (hw : w ≤ 1024) (hh : h ≤ 1024) (hx : x0 + w' ≤ w) (hy : y0 + h' ≤ h) : ∀ (ds : List Drp) (ps qs : List Px), PartOf w h w' h' x0 y0 ps qs → (∀ d ∈ ds, InI d.x ∧ InI d.y) →
    PartOf w h w' h' x0 y0 (dropsPx w h ps ds) (dropsPx w' h' qs (ds.map (shD x0 y0)))
  | [], _, _, H, _ => H
  | d :: ds, ps, qs, H, hd => by
    have h0 := hd d List.mem_cons_self
    exact part_drops hw hh hx hy ds _ _ (part_drop hw hh hx hy H h0.1 h0.2) fun e he => hd e (List.mem_cons_of_mem _ he)
theorem rep_get (n i : Nat) : (List.replicate n Px.zero).getD i Px.zero = Px.zero := by
  rw [List.getD_eq_getElem?_getD, List.getElem?_replicate]
  split <;> rfl
theorem part_zero (w h w' h' x0 y0 : Nat) : PartOf w h w' h' x0 y0 (List.replicate (w * h) Px.zero) (List.replicate (w' * h') Px.zero) :=
  ⟨List.length_replicate, List.length_replicate, fun u v _ _ => by rw [rep_get, rep_get]⟩

theorem mrow_length (qs : List Px) (w w' x0 y0 v : Nat) : ∀ (n u : Nat) (ps : List Px), (mrow qs w w' x0 y0 v n u ps).length = ps.length
  | 0, _, _ => rfl
  | n + 1, u, ps => by rw [mrow, mrow_length qs w w' x0 y0 v n, List.length_set]
theorem mall_length (qs : List Px) (w w' x0 y0 : Nat) : ∀ (n v : Nat) (ps : List Px), (mall qs w w' x0 y0 n v ps).length = ps.length
  | 0, _, _ => rfl
  | n + 1, v, ps => by rw [mall, mall_length qs w w' x0 y0 n, mrow_length]
theorem mrow_get {qs : List Px} {w h w' x0 y0 v x y : Nat} (hv : y0 + v < h) (hx : x < w) (hy : y < h) : ∀ (n u : Nat) (ps : List Px), x0 + u + n ≤ w → ps.length = w * h →
    (mrow qs w w' x0 y0 v n u ps).getD (y * w + x) Px.zero = if y = y0 + v ∧ x0 + u ≤ x ∧ x < x0 + u + n then qs.getD (v * w' + (x - x0)) Px.zero else ps.getD (y * w + x) Px.zero
  | 0, u, ps, _, _ => by rw [mrow, if_neg (by omega)]
  | n + 1, u, ps, hn, hl => by
    have l1 : (y0 + v) * w + (x0 + u) < ps.length := by rw [hl]; exact idx_lt (by omega) hv
    rw [mrow, mrow_get hv hx hy n (u + 1) _ (by omega) (by rw [List.length_set]; exact hl), gp_set l1]
    by_cases h1 : y = y0 + v ∧ x = x0 + u
    · obtain ⟨rfl, rfl⟩ := h1
      rw [if_neg (by omega), if_pos rfl, if_pos (by omega), show x0 + u - x0 = u by omega]
    · have hne : ¬ ((y0 + v) * w + (x0 + u) = y * w + x) := by
        intro hc
        have := idx_inj (by omega) hx hc
        omega
      rw [if_neg hne]
      by_cases h2 : y = y0 + v ∧ x0 + (u + 1) ≤ x ∧ x < x0 + (u + 1) + n
      · rw [if_pos h2, if_pos (by omega)]
      · rw [if_neg h2, if_neg (by omega)]
theorem mall_get {qs : List Px} {w h w' x0 y0 x y : Nat} (hx0 : x0 + w' ≤ w) (hx : x < w) (hy : y < h) : ∀ (n v : Nat) (ps : List Px), y0 + v + n ≤ h → ps.length = w * h →
    (mall qs w w' x0 y0 n v ps).getD (y * w + x) Px.zero = if (y0 + v ≤ y ∧ y < y0 + v + n) ∧ x0 ≤ x ∧ x < x0 + w' then qs.getD ((y - y0) * w' + (x - x0)) Px.zero else ps.getD (y * w + x) Px.zero
  | 0, v, ps, _, _ => by rw [mall, if_neg (by omega)]
  | n + 1, v, ps, hn, hl => by
    rw [mall, mall_get hx0 hx hy n (v + 1) _ (by omega) (by rw [mrow_length]; exact hl), mrow_get (h := h) (by omega) hx hy w' 0 ps (by omega) hl]
    by_cases h1 : y = y0 + v ∧ x0 ≤ x ∧ x < x0 + w'
    · rw [if_neg (by omega), if_pos (by omega), if_pos (by omega), show y - y0 = v by omega]
    · rw [if_neg (c := y = y0 + v ∧ x0 + 0 ≤ x ∧ x < x0 + 0 + w') (by omega)]
      by_cases h2 : (y0 + (v + 1) ≤ y ∧ y < y0 + (v + 1) + n) ∧ x0 ≤ x ∧ x < x0 + w'
      · rw [if_pos h2, if_pos (by omega)]
      · rw [if_neg h2, if_neg (by omega)]
end Go.LI.Film
