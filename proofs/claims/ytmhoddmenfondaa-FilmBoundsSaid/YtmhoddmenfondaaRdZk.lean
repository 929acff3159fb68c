/- The pixels behind drops: numbers, few samples. -/
import Derived.Test.YtmhoddmenfondaaRdZf
import Derived.Test.YtmhoddmenfondaaRdSi
namespace Go.LI.Film
open Go.Proofs.Ytmhoddmenfondaa Go Go.Proofs Go.LI Go.LI.Fl
set_option linter.unusedVariables false
set_option linter.unusedSimpArgs false
set_option maxRecDepth 100000

theorem num_sum (a b : Nat → Nat) (i : Nat) : num (sumA a b i) := by
  have lo : ∀ x y, num (lowA x y) := fun x y => by
    unfold lowA
    split
    · exact (clean_seal _ _ _).1
    · exact clean_ninf.1
  have hi : ∀ x y, num (highA x y) := fun x y => by
    unfold highA
    split
    · exact (clean_seal _ _ _).1
    · exact clean_inf.1
  unfold sumA
  split
  · exact lo _ _
  · exact hi _ _
/-- The pixels' spans are of numbers, their counts at most m. -/
def PxM (m : Int) (ps : List Px) : Prop := ∀ p ∈ ps, (∀ i, num (p.a i)) ∧ 0 ≤ p.c ∧ p.c ≤ m
theorem PxM.get {m : Int} {ps : List Px} (h : PxM m ps) (hm : 0 ≤ m) (i : Nat) : (∀ j, num ((ps.getD i Px.zero).a j)) ∧ 0 ≤ (ps.getD i Px.zero).c ∧ (ps.getD i Px.zero).c ≤ m := by
  rw [List.getD_eq_getElem?_getD]
  cases hi : ps[i]? with
  | none => exact ⟨fun _ => clean_zero.1, Int.le_refl _, hm⟩
  | some p => exact h p (List.mem_of_getElem? hi)
theorem PxM.drop {m : Int} {w h : Nat} {ps : List Px} (H : PxM m ps) (hm : 0 ≤ m) (hm2 : m < 1000000) (d : Drp) : PxM (m + 1) (dropPx w h ps d) := by
  intro p hp
  unfold dropPx at hp
  split at hp
  · rcases List.mem_or_eq_of_mem_set hp with h' | h'
    · obtain ⟨q1, q2, q3⟩ := H p h'
      exact ⟨q1, q2, by omega⟩
    · rw [h']
      obtain ⟨q1, q2, q3⟩ := H.get hm (d.y.toNat * w + d.x.toNat)
      refine ⟨fun i => num_sum _ _ i, ?_⟩
      show 0 ≤ IntKind.wrap .i64 (_ + 1) ∧ IntKind.wrap .i64 (_ + 1) ≤ m + 1
      rw [wrapI (by omega) (by omega)]
      omega
  · obtain ⟨q1, q2, q3⟩ := H p hp
    exact ⟨q1, q2, by omega⟩
theorem PxM.drops {w h : Nat} : ∀ (ds : List Drp) (m : Int) (ps : List Px), PxM m ps → 0 ≤ m → m + ds.length < 1000000 → PxM (m + ds.length) (dropsPx w h ps ds)
  | [], m, ps, H, _, _ => by rw [show m + (([] : List Drp).length : Int) = m by simp]; exact H
  | d :: ds, m, ps, H, h0, hm => by
    rw [List.length_cons] at hm ⊢
    have h1 := H.drop (w := w) (h := h) h0 (by omega) d
    have := PxM.drops (w := w) (h := h) ds (m + 1) _ h1 (by omega) (by omega)
    rw [show m + ((ds.length + 1 : Nat) : Int) = m + 1 + (ds.length : Int) by omega]
    exact this
theorem drops_ok (w h n : Nat) (ds : List Drp) : ∀ p ∈ dropsPx w h (List.replicate n Px.zero) (ds.take 200), PxN p := by
  intro p hp
  have hz : PxM 0 (List.replicate n Px.zero) := fun p hp => by rw [List.eq_of_mem_replicate hp]; exact ⟨fun _ => clean_zero.1, Int.le_refl _, Int.le_refl _⟩
  have hl : (ds.take 200).length ≤ 200 := by rw [List.length_take]; omega
  obtain ⟨q1, q2, q3⟩ := PxM.drops (w := w) (h := h) (ds.take 200) 0 _ hz (Int.le_refl _) (by omega) p hp
  exact ⟨q1, by omega⟩

section
variable {R : Type}
theorem PIC_open {β : Type} (w h : Int) (a : Option GA) (n : Nat) (S D : Int) (B : Nat) (f : Int → Int → Option GA × Nat → Int → Int → Nat → Option β) :
    ((ivTup 2 (PICV w h a n S D B)).bind fun c3 => (ivAgg 3 (c3.getD 0 undefI)).bind fun c4 => (ivInt .i64 (c4.getD 0 undefI)).bind fun x5 => (ivInt .i64 (c4.getD 1 undefI)).bind fun x6 => (ivSlice (c4.getD 2 undefI)).bind fun x7 => (ivAgg 3 (c3.getD 1 undefI)).bind fun c8 => (ivInt .i64 (c8.getD 0 undefI)).bind fun x9 => (ivInt .i64 (c8.getD 1 undefI)).bind fun x10 => (ivFloat .f64 (c8.getD 2 undefI)).bind fun x11 => f x5 x6 x7 x9 x10 x11) = f w h (a, n) S D B := rfl

end
end Go.LI.Film
