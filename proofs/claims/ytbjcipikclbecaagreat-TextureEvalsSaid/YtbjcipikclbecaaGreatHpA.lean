/- Slices in the interpreter's heap: which blocks stay, who owns what, append. -/
import Derived.Test.YtbjcipikclbecaaGreatLiAll2
set_option linter.unusedVariables false
namespace Go.LI
open Go
def z9 (base : Nat) (G G' : GH) : Prop := G.length ≤ G'.length ∧ ∀ i, i < base → G'[i]? = G[i]?
theorem z9.refl (base : Nat) (G : GH) : z9 base G G := ⟨Nat.le_refl _, fun _ _ => rfl⟩
theorem z9.trans {base : Nat} {G G1 G2 : GH} (h : z9 base G G1) (k : z9 base G1 G2) : z9 base G G2 := ⟨Nat.le_trans h.1 k.1, fun i hi => (k.2 i hi).trans (h.2 i hi)⟩
theorem z9.mono {base b2 : Nat} {G G' : GH} (h : z9 base G G') (hb : b2 ≤ base) : z9 b2 G G' := ⟨h.1, fun i hi => h.2 i (by omega)⟩
theorem zaM {base : Nat} (G : GH) (cs : List IV) (e : Nat) (hb : base ≤ G.length) : z9 base G (zac G cs e) :=
  ⟨by simp [zac], fun i hi => by simp only [zac]; rw [List.getElem?_append_left (by omega)]⟩
theorem zp (G : GH) (cs : List IV) (e : Nat) : (zac G cs e).length = G.length + 1 := by simp [zac]
theorem zhr (G : GH) (cs : List IV) (e : Nat) : (zac G cs e)[G.length]? = some ⟨cs, e, 1⟩ := by simp [zac]
theorem zet {G : GH} {cs : List IV} {e i : Nat} (h : i < G.length) : (zac G cs e)[i]? = G[i]? := by simp only [zac]; rw [List.getElem?_append_left h]
theorem zD9 (G : GH) (c : List IV) (e n : Nat) (h : c.length = n) : grd (zac G c e) (zaA G) n = some c := by
  subst h; simp [grd, zac, zaA]
def Sl (base : Nat) (G : GH) (e sz : Nat) (a : Option GA) (n : Nat) (cs : List IV) : Prop :=
  cs.length = n * sz ∧ ((a = none ∧ n = 0) ∨ ∃ b, base ≤ b ∧ a = some ⟨b, 0⟩ ∧ G[b]? = some ⟨cs, e, 1⟩)
theorem zHE (base : Nat) (G : GH) (e sz : Nat) : Sl base G e sz none 0 [] := ⟨by simp, .inl ⟨rfl, rfl⟩⟩
theorem Sl.keep {base b2 : Nat} {G G' : GH} {e sz : Nat} {a : Option GA} {n : Nat} {cs : List IV} (h : Sl base G e sz a n cs) (k : z9 b2 G G') (hb : G.length ≤ b2) : Sl base G' e sz a n cs := by
  refine ⟨h.1, h.2.imp id ?_⟩
  rintro ⟨b, h1, h2, h3⟩
  exact ⟨b, h1, h2, by rw [k.2 b (by have := (List.getElem?_eq_some_iff.1 h3).1; omega)]; exact h3⟩
end Go.LI
