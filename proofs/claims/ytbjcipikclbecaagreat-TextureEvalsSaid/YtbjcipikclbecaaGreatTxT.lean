/- TextureMixes: the law, and over the interpreter. -/
import Derived.Test.YtbjcipikclbecaaGreatTxR
set_option linter.unusedVariables false
set_option linter.unusedSimpArgs false
set_option maxRecDepth 100000
set_option exponentiation.threshold 2500
namespace Go.LI.Film
open Go.Proofs.YtbjcipikclbecaaGreat Go Go.Proofs Go.LI Go.LI.Fl
section
variable {R : Type} {O : Ora R}
theorem Mx.f1 {c l h : Nat} (m : Mx c l h) (w : c < 2 ^ 64) (f : fin c = true) : fle .f64 l (zw c) = true := by
  rw [zxF m.nl (zwF (zeD w f))]
  exact decide_eq_true m.lo
theorem Mx.f2 {c l h : Nat} (m : Mx c l h) (w : c < 2 ^ 64) (f : fin c = true) : fle .f64 (zw c) h = true := by
  rw [zxF (zwF (zeD w f)) m.nh]
  exact decide_eq_true m.hi
theorem zJt {F n : Nat} (hF : 1000 ≤ F) (hn : 7 ≤ n) : zJL (runC (R := R) Tryz.prog lo0 F n) := by
  obtain ⟨n, rfl⟩ : ∃ j, n = j + 1 := ⟨n - 1, by omega⟩
  intro a pa c m ts G hT hw hc
  obtain ⟨G', k1, h1⟩ := zDH (O := runC (R := R) Tryz.prog lo0 F n) (zJU (by omega) (by omega)) hF a pa c m ts G hT hw hc
  exact ⟨G', k1, fun k => by rw [show zgl = 15 from rfl, zt9]; exact h1 k⟩
end
end Go.LI.Film
