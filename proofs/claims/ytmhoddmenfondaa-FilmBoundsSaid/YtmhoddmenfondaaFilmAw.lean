/- Awake, by a run of the interpreter with a great fuel. -/
import Derived.Test.YtmhoddmenfondaaFilmA
namespace Go.LI.Film
open Go.Proofs.Ytmhoddmenfondaa Go Go.Proofs Go.LI
set_option maxRecDepth 100000
theorem awake60 {R : Type} (G : GH) (k : IV → GH → Option R) : (runC Try.prog lo0 1152921504606846976 50 10 [] G k) = k (.bool true) G := by kernel_rfl
end Go.LI.Film
