/- Awake, and FilmNil. -/
import Derived.Test.YtmhoddmenfondaaFilmA
namespace Go.LI.Film
open Go.Proofs.Ytmhoddmenfondaa Go Go.Proofs Go.LI
set_option maxRecDepth 100000
set_option linter.unusedVariables false
theorem awake {R : Type} (G : GH) (k : IV → GH → Option R) : (runC Try.prog lo0 4000000 50 10 [] G k) = k (.bool true) G := by kernel_rfl
theorem s9 {R : Type} (x y x0 y0 x1 y1 : Int) (G : GH) (k : IV → GH → Option R) : (runC Try.prog lo0 4000000 60 9 [.int .i64 x, .int .i64 y, .agg [.int .i64 x0, .int .i64 y0, .int .i64 x1, .int .i64 y1]] G k) = k (.bool true) G := by kernel_rfl
end Go.LI.Film
