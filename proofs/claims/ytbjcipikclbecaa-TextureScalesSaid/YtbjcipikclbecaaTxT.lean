/- TextureMixes: the law, and over the interpreter. -/
import Derived.Test.YtbjcipikclbecaaTxS
namespace Go.LI.Film
open Go.Proofs.Ytbjcipikclbecaa Go Go.Proofs Go.LI Go.LI.Fl
set_option linter.unusedVariables false
set_option linter.unusedSimpArgs false
set_option maxRecDepth 100000
set_option exponentiation.threshold 2500

section
variable {R : Type} {O : Ora R}
theorem Mx.f1 {c l h : Nat} (m : Mx c l h) (w : c < 2 ^ 64) (f : fin c = true) : fle .f64 l (zw c) = true := by
  rw [fle_sv m.nl (zw_num (num_fin w f))]
  exact decide_eq_true m.lo
theorem Mx.f2 {c l h : Nat} (m : Mx c l h) (w : c < 2 ^ 64) (f : fin c = true) : fle .f64 (zw c) h = true := by
  rw [fle_sv (zw_num (num_fin w f)) m.nh]
  exact decide_eq_true m.hi
/-! ### Over the interpreter -/
theorem yCkq {F n : Nat} (hF : 1000 ≤ F) (hn : 7 ≤ n) : SCkq (runC (R := R) Try.prog lo0 F n) := by
  obtain ⟨n, rfl⟩ : ∃ j, n = j + 1 := ⟨n - 1, by omega⟩
  intro a pa c m ts G hT hw hc
  obtain ⟨G', k1, h1⟩ := ckq_body (O := runC (R := R) Try.prog lo0 F n) (yChp (by omega) (by omega)) hF a pa c m ts G hT hw hc
  exact ⟨G', k1, fun k => by rw [show fn_texture_Check = 10 from rfl, r_texture_Check]; exact h1 k⟩
end
end Go.LI.Film
