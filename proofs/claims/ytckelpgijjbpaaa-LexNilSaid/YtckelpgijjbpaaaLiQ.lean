/- What comes back from a call is what came back. -/
import Derived.Test.YtckelpgijjbpaaaLiA
namespace Go.LI
open Go

section
variable {R : Type} {P : Program}

theorem ivasInt_out {kd : IntKind} {v : IV} {n : Int} (h : ivInt kd v = some n) : v = .int kd n := by
  cases v with
  | int k m =>
    simp only [ivInt] at h
    by_cases hk : k = kd
    · subst hk; simp at h; rw [h]
    · rw [show (k == kd) = false by simpa using hk] at h; cases h
  | _ => cases h
theorem ivasFloat_out {kd : FloatKind} {v : IV} {n : Nat} (h : ivFloat kd v = some n) : v = .float kd n := by
  cases v with
  | float k m =>
    simp only [ivFloat] at h
    by_cases hk : k = kd
    · subst hk; simp at h; rw [h]
    · rw [show (k == kd) = false by simpa using hk] at h; cases h
  | _ => cases h
theorem ivasAgg_out {n : Nat} {v : IV} {cs : List IV} (h : ivAgg n v = some cs) : v = .agg cs ∧ cs.length = n := by
  cases v with
  | agg k =>
    simp only [ivAgg] at h
    by_cases hk : k.length = n
    · rw [show (k.length == n) = true by simpa using hk] at h; injection h with h; subst h; exact ⟨rfl, hk⟩
    · rw [show (k.length == n) = false by simpa using hk] at h; cases h
  | _ => cases h
theorem ivasTup_out {n : Nat} {v : IV} {cs : List IV} (h : ivTup n v = some cs) : v = .tuple cs ∧ cs.length = n := by
  cases v with
  | tuple k =>
    simp only [ivTup] at h
    by_cases hk : k.length = n
    · rw [show (k.length == n) = true by simpa using hk] at h; injection h with h; subst h; exact ⟨rfl, hk⟩
    · rw [show (k.length == n) = false by simpa using hk] at h; cases h
  | _ => cases h

theorem castL_out {l : Leaf} {v : IV} {k : IV → Option R} {r : R} (h : castL l v k = some r) : k v = some r := by
  cases l <;> simp only [castL] at h
  case raw => exact h
  case int => split at h; (rename_i n hn; rw [ivasInt_out hn]; exact h); cases h
  case float => split at h; (rename_i n hn; rw [ivasFloat_out hn]; exact h); cases h
  case bool => cases v <;> first | (cases h; done) | exact h
  case str => cases v <;> first | (cases h; done) | exact h
  case ptr => cases v <;> first | (cases h; done) | exact h
  case slice => cases v <;> first | (cases h; done) | exact h

theorem castCells_out : ∀ {ls : List Leaf} {cs : List IV} {i : Nat} {k : List IV → Option R} {r : R}, castCells ls cs i k = some r → i + ls.length = cs.length → k (cs.drop i) = some r
  | [], cs, i, k, r, h, hl => by rw [List.drop_of_length_le (by simp at hl; omega)]; exact h
  | l :: ls, cs, i, k, r, h, hl => by
    have h1 := castL_out h
    have h2 := castCells_out h1 (by simp at hl; omega)
    have hlt : i < cs.length := by simp at hl; omega
    rw [List.drop_eq_getElem_cons hlt]
    simpa [List.getD, hlt] using h2

theorem cast1_out {t : TypeId} {v : IV} {k : IV → Option R} {r : R} (h : cast1 P t v k = some r) : k v = some r := by
  unfold cast1 at h
  split at h
  · split at h
    · rename_i hl
      split at h
      · rename_i cs hcs
        obtain ⟨rfl, hc⟩ := ivasAgg_out hcs
        have := castCells_out h (by rw [hl, hc]; simp)
        simpa using this
      · cases h
    · cases h
  · split at h
    · exact castL_out h
    · exact h

theorem castTs_out : ∀ {ls : List TypeId} {cs : List IV} {i : Nat} {k : List IV → Option R} {r : R}, castTs P ls cs i k = some r → i + ls.length = cs.length → k (cs.drop i) = some r
  | [], cs, i, k, r, h, hl => by rw [List.drop_of_length_le (by simp at hl; omega)]; exact h
  | l :: ls, cs, i, k, r, h, hl => by
    have h1 := cast1_out h
    have h2 := castTs_out h1 (by simp at hl; omega)
    have hlt : i < cs.length := by simp at hl; omega
    rw [List.drop_eq_getElem_cons hlt]
    simpa [List.getD, hlt] using h2

theorem castT_out {t : TypeId} {v : IV} {k : IV → Option R} {r : R} (h : castT P t v k = some r) : k v = some r := by
  unfold castT at h
  split at h
  · split at h
    · rename_i cs hcs
      obtain ⟨rfl, hc⟩ := ivasTup_out hcs
      have := castTs_out h (by rw [← hc]; simp)
      simpa using this
    · cases h
  · exact cast1_out h

end
end Go.LI
