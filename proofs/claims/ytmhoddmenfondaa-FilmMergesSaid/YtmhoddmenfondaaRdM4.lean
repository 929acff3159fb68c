/- FilmMerges: the walk over the interpreter, awake given. -/
import Derived.Test.YtmhoddmenfondaaRdM3
namespace Go.LI.Film
open Go.Proofs.Ytmhoddmenfondaa Go Go.Proofs Go.LI Go.LI.Fl
set_option linter.unusedVariables false
set_option linter.unusedSimpArgs false
set_option maxRecDepth 100000
section
variable {R : Type}
theorem s5 {F N : Nat} (hF : 1100 ≤ F) (hN : 20 ≤ N) (hAw : SAw (runC (R := R) Try.prog lo0 F N)) {G : GH} {sa sb : Option GA} {n m : Nat} {ds es : List Drp} (hD : Drps G G.length sa n ds) (hE : Drps G G.length sb m es) (hn : n < F ∧ n < 2 ^ 60) (hm : m < F ∧ m < 2 ^ 60) (x0 y0 x1 y1 : Int) (k : IV → GH → Option R) :
    ∃ G', runC (R := R) Try.prog lo0 F (N + 1) 5 [.slice sa n, .slice sb m, .agg [.int .i64 x0, .int .i64 y0, .int .i64 x1, .int .i64 y1]] G k = k (.bool true) G' := by
  obtain ⟨G', h⟩ := merges_body (O := runC (R := R) Try.prog lo0 F N) (F := F) hF hAw (wValidD (by omega)) (wDropped hF (by omega)) (wFNew (by omega) (by omega)) (wFPixel (by omega)) (wRSamePx (by omega)) (wMerge hF (by omega)) (wMergeNil (by omega) (by omega)) hD hE hn hm x0 y0 x1 y1 k
  refine ⟨G', ?_⟩
  rw [r_law19_FilmMerges, e_law19_FilmMerges]
  exact h
end
end Go.LI.Film
