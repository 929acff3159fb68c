/- FilmNarrows: the law's run. -/
import Derived.Test.YtmhoddmenfondaaRdN4
import Derived.Test.YtmhoddmenfondaaFilmAw
namespace Go.LI.Film
open Go.Proofs.Ytmhoddmenfondaa Go Go.Proofs Go.LI Go.LI.Fl
set_option linter.unusedVariables false
set_option maxRecDepth 100000
theorem narrows_run {R : Type} {F N : Nat} (hF : F = 1152921504606846976) (hN : N = 50) {x y : Nat} (hx : x < 2 ^ 64) (hy : y < 2 ^ 64) (k : IV → GH → Option R) : runC Try.prog lo0 F (N + 1) 4 [.float .f64 x, .float .f64 y] [] k = k (.bool true) [] := by
  have hAw : SAw (runC (R := R) Try.prog lo0 F N) := by
    intro G k
    rw [hF, hN]
    exact awake60 G k
  exact s4 (by omega) (by omega) hAw hx hy [] k
theorem narrows_ok (x y : Nat) (hx : x < 2 ^ 64) (hy : y < 2 ^ 64) : runC Try.prog lo0 1152921504606846976 51 4 [.float .f64 x, .float .f64 y] [] (fun v _ => some v) = some (.bool true) := narrows_run rfl rfl hx hy _
end Go.LI.Film
