/- The reader of a text: All; a number's digits. -/
import Derived.Test.YtckelpgijjbpaaaLexZ
namespace Go.LI.Lex
open Go.Proofs.Ytckelpgijjbpaaa Go Go.Proofs Go.LI
set_option linter.unusedVariables false
set_option linter.unusedSimpArgs false
attribute [local irreducible] runL

theorem ivPtr_ptr (a : Option GA) : ivPtr (.ptr a) = some a := rfl

/-- 'All' of a text. -/
theorem s10b {R : Type} (m : Nat) {t : List UInt8} (hlen : t.length < 1152921504606846976) (G : GH) {f : Nat} (hf : f = 1152921504606846976) {out : List Tk × Int × Int} (ho : allR f t 1 0 = some out) :
    ∃ a' G' r, Laid G' r a' out.1 ∧ (∀ y, a' = some y → G.length ≤ y.b) ∧ (∀ i, i < G.length → G'[i]? = G[i]?) ∧ ∀ k : IV → GH → Option R, runL Try.prog lexLib lo0 1152921504606846976 (m + 5) 10 [.str t] G k = k (.tuple [.slice a' out.1.length, .int .i64 out.2.1, .int .i64 out.2.2]) G' := by
  have hr : (gnew G [.str t, .int .i64 0, .int .i64 1, .int .i64 0, .int .i64 0] 58)[G.length]? = some (rs t t 1 0 0) := by simp [gnew, rs, rd]
  obtain ⟨a', G', h1, hN, h0, h2⟩ := l10_spec (R := R) m hlen G.length (Nat.le_refl _) f t 1 0 _ none [] out (fun y hy => by cases hy) hr (List.suffix_refl _) (by omega) (by omega) (by omega) (by omega) rfl (by simp) ho
  refine ⟨a', G', G.length, by simpa using h1, hN, fun i hi => by rw [h0 i hi]; exact List.getElem?_append_left hi, fun k => ?_⟩
  have h3 := h2 (fun s2a s2n s3 s4 G => k (.tuple [.slice s2a s2n, .int .i64 s3, .int .i64 s4]) G)
  rw [r10, e10, r12, e12, ivPtr_ptr, Option.bind_some, ← hf]
  rw [← hf] at h3
  exact h3.trans (by rw [List.nil_append])
theorem s10 {R : Type} (m : Nat) {t : List UInt8} (hlen : t.length < 1152921504606846976) (G : GH) {f : Nat} (hf : f = 1152921504606846976) {out : List Tk × Int × Int} (ho : allR f t 1 0 = some out) :
    ∃ a' G' r, Laid G' r a' out.1 ∧ (∀ i, i < G.length → G'[i]? = G[i]?) ∧ ∀ k : IV → GH → Option R, runL Try.prog lexLib lo0 1152921504606846976 (m + 5) 10 [.str t] G k = k (.tuple [.slice a' out.1.length, .int .i64 out.2.1, .int .i64 out.2.2]) G' := by
  obtain ⟨a', G', r, h1, _, h2⟩ := s10b (R := R) m hlen G hf ho
  exact ⟨a', G', r, h1, h2⟩
end Go.LI.Lex
