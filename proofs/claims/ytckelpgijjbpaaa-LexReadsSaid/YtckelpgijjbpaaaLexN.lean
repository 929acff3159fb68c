/- LexReads: what the interpreter gives is true, whole. -/
import Derived.Test.YtckelpgijjbpaaaLexM
namespace Go.LI.Lex
open Go.Proofs.Ytckelpgijjbpaaa Go Go.Proofs Go.LI
set_option linter.unusedVariables false
set_option linter.unusedSimpArgs false

section
variable {R : Type}
abbrev S8 (O : Ora R) : Prop := ∀ (G : GH) (k : IV → GH → Option R), O 8 [] G k = k (.bool true) G
abbrev S10 (F : Nat) (O : Ora R) : Prop := ∀ {t : List UInt8}, t.length < 4000000 → ∀ (G : GH) {out : List Tk × Int × Int}, allR F t 1 0 = some out →
    ∃ a' G' r, Laid G' r a' out.1 ∧ (∀ i, i < G.length → G'[i]? = G[i]?) ∧ ∀ k : IV → GH → Option R, O 10 [.str t] G k = k (.tuple [.slice a' out.1.length, .int .i64 out.2.1, .int .i64 out.2.2]) G'
abbrev S11 (F : Nat) (O : Ora R) : Prop := ∀ {t : List UInt8}, t.length < 4000000 → ∀ (G : GH) {out : List Tk × Int × Int}, allR F t 1 0 = some out →
    ∃ a' G' r, Laid G' r a' out.1 ∧ (∀ i, i < G.length → G'[i]? = G[i]?) ∧ ∀ k : IV → GH → Option R, O 11 [.str t] G k = k (.tuple [.slice a' out.1.length, .int .i64 out.2.1, .int .i64 out.2.2]) G'
abbrev S12 (O : Ora R) : Prop := ∀ (t : List UInt8) (G : GH) (k : IV → GH → Option R), O 12 [.str t] G k = k (.ptr (some (gaddr G))) (gnew G [.str t, .int .i64 0, .int .i64 1, .int .i64 0, .int .i64 0] 58)
theorem s12 (fuel n : Nat) : S12 (runC (R := R) Try.prog lo0 fuel (n + 1)) := by
  intro t G k
  rw [r12, e12]

theorem ivSlice_slice (a : Option GA) (n : Nat) : ivSlice (.slice a n) = some (a, n) := rfl
theorem ivTup3 (a b c : IV) : ivTup 3 (.tuple [a, b, c]) = some [a, b, c] := rfl

theorem reads_body {F : Nat} (hF : F = 4000000) {O : Ora R} (h8 : S8 O) (h10 : S10 F O) (h11 : S11 F O) (h12 : S12 O) (h13 : S13 O) (h14 : S14 O) (h15 : S15 O) (h16 : S16B O) (h17 : S17 O) (t : List UInt8) (G : GH) (k : IV → GH → Option R) :
    ∃ G', bodyC Try.prog O lo4 F Try.f4 [.str t] G k = k (.bool true) G' := by
  rw [e4]
  simp only [u4]
  rw [h8]
  simp only [ivBool_bool, Option.bind_some, Bool.not_true, cond_false]
  by_cases hl : decide ((t.length : Int) > 65536) = true
  · exact ⟨G, by rw [hl, cond_true]⟩
  · have hl' : decide ((t.length : Int) > 65536) = false := by simpa using hl
    have hlen : t.length < 4000000 := by simp at hl'; omega
    obtain ⟨out, ho⟩ : ∃ out, allR F t 1 0 = some out := by
      have := allR_some 3999999 t 1 0 (by omega) (by omega)
      rw [hF]; exact this
    obtain ⟨hn, hts⟩ := allR_facts F t 1 0 out (by omega) (by omega) ho
    obtain ⟨a1, G1, r1, L1, f1, q1⟩ := h10 hlen G ho
    obtain ⟨a2, G2, r2, L2, f2, q2⟩ := h11 hlen G1 ho
    rw [hl', cond_false, q1]
    simp only [ivTup3, getD0, getD1, getD2, ivSlice_slice, ivInt_i64, Option.bind_some]
    rw [q2]
    simp only [ivTup3, getD0, getD1, getD2, ivSlice_slice, ivInt_i64, Option.bind_some, L4_0, l4_0, u4_0]
    rw [stepN_F (by omega), show (out.2.1 != out.2.1) = false by simp, cond_false, show (out.2.2 != out.2.2) = false by simp, cond_false, show ((out.1.length : Int) != (out.1.length : Int)) = false by simp, cond_false]
    simp only [a4_0N, L4_1]
    rw [h12, ivPtr_ptr, Option.bind_some, h13, ivPtr_ptr, Option.bind_some]
    -- the heap behind the two new readers
    have A1 : At G1 a1 out.1 := L1.at
    have A2 : At G2 a2 out.1 := L2.at
    have lt1 : ∀ y, a1 = some y → y.b < G1.length := by
      intro y hy; subst hy; exact (List.getElem?_eq_some_iff.1 A1.2).1
    have lt2 : ∀ y, a2 = some y → y.b < G2.length := by
      intro y hy; subst hy; exact (List.getElem?_eq_some_iff.1 A2.2).1
    have A1' : At G2 a1 out.1 := A1.grow fun y hy => f2 _ (lt1 y hy)
    have lt1' : ∀ y, a1 = some y → y.b < G2.length := by
      intro y hy; subst hy; exact (List.getElem?_eq_some_iff.1 A1'.2).1
    have hr : (gnew G2 [.str t, .int .i64 0, .int .i64 1, .int .i64 0, .int .i64 0] 58)[G2.length]? = some (rs t t 1 0 0) := new_r G2 t
    have hl3 : (gnew G2 [.str t, .int .i64 0, .int .i64 1, .int .i64 0, .int .i64 0] 58).length = G2.length + 1 := by simp [gnew]
    have hg3 : ∀ j, j < G2.length → (gnew G2 [.str t, .int .i64 0, .int .i64 1, .int .i64 0, .int .i64 0] 58)[j]? = G2[j]? := fun j hj => List.getElem?_append_left hj
    rw [show gaddr G2 = ⟨G2.length, 0⟩ from rfl]
    generalize gnew G2 [.str t, .int .i64 0, .int .i64 1, .int .i64 0, .int .i64 0] 58 = G3 at hr hl3 hg3
    have hw := new_w G3 t
    have hg4 : ∀ j, j < G3.length → (gnew G3 [.str t, .int .i64 0, .int .i64 1, .int .i64 0, .int .i64 0] 47)[j]? = G3[j]? := fun j hj => List.getElem?_append_left hj
    rw [show gaddr G3 = ⟨G3.length, 0⟩ from rfl]
    generalize gnew G3 [.str t, .int .i64 0, .int .i64 1, .int .i64 0, .int .i64 0] 47 = G4 at hw hg4
    have hB : Both t out.1 a1 a2 G2.length G3.length t 1 0 0 G4 := by
      refine ⟨by rw [hg4 _ (by omega)]; exact hr, ⟨t, 0, hw, fun _ => ⟨rfl, rfl⟩⟩, ?_, ?_, by omega, ?_, ?_⟩
      · exact A1'.grow fun y hy => by have := lt1' y hy; rw [hg4 _ (by omega), hg3 _ (by omega)]
      · exact A2.grow fun y hy => by have := lt2 y hy; rw [hg4 _ (by omega), hg3 _ (by omega)]
      · intro y hy; have := lt1' y hy; omega
      · intro y hy; have := lt2 y hy; omega
    obtain ⟨G', hL⟩ := reads_loop (F := F) (by omega) h14 h15 h16 h17 hlen hts (by omega) (a4_1ret O k) (a4_10 O k) (out.1.length + 3) 0 F t 1 0 0 G4 hB (List.suffix_refl _) (by omega) (by omega) (by omega) (by omega) (by omega) (by omega) (by omega)
    exact ⟨G', hL⟩

theorem s4 (t : List UInt8) : runC (R := IV) Try.prog lo0 4000000 51 4 [.str t] [] (fun v _ => some v) = some (.bool true) := by
  rw [r4]
  obtain ⟨G', h⟩ := reads_body (F := 4000000) rfl (O := runC (R := IV) Try.prog lo0 4000000 50) (fun G k => awake G k) (fun hl G out ho => s10 45 hl G rfl ho) (fun hl G out ho => w11 rfl 45 hl G ho) (s12 _ 49) (fun t G k => w13 _ 49 t G k) (w14 _ 49) (s15B 46) (w16B (Nat.le_refl _) 46) (s17 _ 49) t [] (fun v _ => some v)
  exact h
end
end Go.LI.Lex
