/- Slices in the interpreter's heap: which blocks stay, who owns what, append. -/
import Derived.Test.YtbjcipikclbecaaLiAll2
set_option linter.unusedVariables false
namespace Go.LI
open Go

/-- The first blocks are as they were. -/
def Keeps (base : Nat) (G G' : GH) : Prop := G.length ≤ G'.length ∧ ∀ i, i < base → G'[i]? = G[i]?
theorem Keeps.refl (base : Nat) (G : GH) : Keeps base G G := ⟨Nat.le_refl _, fun _ _ => rfl⟩
theorem Keeps.trans {base : Nat} {G G1 G2 : GH} (h : Keeps base G G1) (k : Keeps base G1 G2) : Keeps base G G2 := ⟨Nat.le_trans h.1 k.1, fun i hi => (k.2 i hi).trans (h.2 i hi)⟩
theorem Keeps.mono {base b2 : Nat} {G G' : GH} (h : Keeps base G G') (hb : b2 ≤ base) : Keeps b2 G G' := ⟨h.1, fun i hi => h.2 i (by omega)⟩
theorem keeps_new {base : Nat} (G : GH) (cs : List IV) (e : Nat) (hb : base ≤ G.length) : Keeps base G (gnew G cs e) :=
  ⟨by simp [gnew], fun i hi => by simp only [gnew]; rw [List.getElem?_append_left (by omega)]⟩

theorem gnew_length (G : GH) (cs : List IV) (e : Nat) : (gnew G cs e).length = G.length + 1 := by simp [gnew]
theorem gnew_at (G : GH) (cs : List IV) (e : Nat) : (gnew G cs e)[G.length]? = some ⟨cs, e, 1⟩ := by simp [gnew]
theorem gnew_old {G : GH} {cs : List IV} {e i : Nat} (h : i < G.length) : (gnew G cs e)[i]? = G[i]? := by simp only [gnew]; rw [List.getElem?_append_left h]
theorem grd_gnew (G : GH) (c : List IV) (e n : Nat) (h : c.length = n) : grd (gnew G c e) (gaddr G) n = some c := by
  subst h; simp [grd, gnew, gaddr]

/-- A slice that stands at the head of its own block, at or past base. -/
def Sl (base : Nat) (G : GH) (e sz : Nat) (a : Option GA) (n : Nat) (cs : List IV) : Prop :=
  cs.length = n * sz ∧ ((a = none ∧ n = 0) ∨ ∃ b, base ≤ b ∧ a = some ⟨b, 0⟩ ∧ G[b]? = some ⟨cs, e, 1⟩)
theorem sl_nil (base : Nat) (G : GH) (e sz : Nat) : Sl base G e sz none 0 [] := ⟨by simp, .inl ⟨rfl, rfl⟩⟩
theorem Sl.keep {base b2 : Nat} {G G' : GH} {e sz : Nat} {a : Option GA} {n : Nat} {cs : List IV} (h : Sl base G e sz a n cs) (k : Keeps b2 G G') (hb : G.length ≤ b2) : Sl base G' e sz a n cs := by
  refine ⟨h.1, h.2.imp id ?_⟩
  rintro ⟨b, h1, h2, h3⟩
  exact ⟨b, h1, h2, by rw [k.2 b (by have := (List.getElem?_eq_some_iff.1 h3).1; omega)]; exact h3⟩

theorem sl_append {base : Nat} {G : GH} {e sz bytes : Nat} {a : Option GA} {n : Nat} {cs x : List IV} (h : Sl base G e sz a n cs) (hb : base ≤ G.length) (hx : x.length = sz) (hr : (n + 1) * bytes ≤ roomI) :
    ∃ a' G', gappend (gnew G x e) e sz bytes a n x 1 = some (some a', G') ∧ Sl base G' e sz (some a') (n + 1) (cs ++ x) ∧ Keeps base G G' := by
  obtain ⟨hl, h | ⟨b, h1, h2, h3⟩⟩ := h
  · obtain ⟨rfl, rfl⟩ := h
    have hcs : cs = [] := List.length_eq_zero_iff.1 (by simpa using hl)
    subst hcs
    refine ⟨gaddr (gnew G x e), gnew (gnew G x e) x e, ?_, ⟨by simp [hx], .inr ⟨G.length + 1, by omega, by simp [gaddr, gnew_length], ?_⟩⟩, ?_⟩
    · unfold gappend
      rw [if_pos hr]
      rfl
    · have := gnew_at (gnew G x e) x e
      rw [gnew_length] at this
      simpa using this
    · exact (keeps_new G x e hb).trans (keeps_new _ x e (by rw [gnew_length]; omega))
  · subst h2
    have hbl := (List.getElem?_eq_some_iff.1 h3).1
    have hG1 : (gnew G x e)[b]? = some ⟨cs, e, 1⟩ := by rw [gnew_old hbl]; exact h3
    have hgr : grd (gnew G x e) ⟨b, 0⟩ (n * sz) = some cs := by rw [← hl]; simp [grd, hG1]
    have hown : gown (gnew G x e) b e = true := by simp [gown, hG1]
    have hkill : gkill (gnew G x e) b = (gnew G x e).set b ⟨cs, e, 2⟩ := by simp [gkill, hG1]
    refine ⟨gaddr (gnew G x e), gnew ((gnew G x e).set b ⟨cs, e, 2⟩) (cs ++ x) e, ?_, ⟨by simp [hx, hl]; rw [Nat.add_mul]; simp, .inr ⟨G.length + 1, by omega, by simp [gaddr, gnew_length], ?_⟩⟩, ?_⟩
    · unfold gappend
      rw [if_pos hr]
      simp only [hgr, hown, hkill]
    · have := gnew_at ((gnew G x e).set b ⟨cs, e, 2⟩) (cs ++ x) e
      rw [List.length_set, gnew_length] at this
      exact this
    · refine ⟨by simp [gnew_length]; omega, fun i hi => ?_⟩
      rw [gnew_old (by rw [List.length_set, gnew_length]; omega), List.getElem?_set_ne (by omega), gnew_old (by omega)]
end Go.LI
