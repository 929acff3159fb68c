/- FilmJobs: the law's run. -/
import Derived.Test.YtmhoddmenfondaaFilmL
namespace Go.LI.Film
open Go.Proofs.Ytmhoddmenfondaa Go Go.Proofs Go.LI
set_option linter.unusedVariables false
set_option maxRecDepth 100000
variable {R : Type}

theorem awake_any {F : Nat} (hF : F = 4000000) (G : GH) (k : IV → GH → Option R) : (runC Try.prog lo0 F 50 10 [] G k) = k (.bool true) G := by subst hF; exact awake G k
theorem r11' {F n : Nat} (hF : 4000000 ≤ F) : CJ (runC (R := R) Try.prog lo0 F (n + 1)) 11 := by
  intro w h s hs G k
  rw [r11]
  exact b11 hF hs G k
theorem r12' {F n : Nat} (hF : 4000000 ≤ F) : CJ (runC (R := R) Try.prog lo0 F (n + 1)) 12 := by
  intro w h s hs G k
  rw [r12]
  exact b12 hF hs G k
theorem s3F {F : Nat} (hF : F = 4000000) (w h s : Int) (hs : s < 9223372036854775808) (k : IV → GH → Option R) :
    ∃ G', runC Try.prog lo0 F 51 3 [.int .i64 w, .int .i64 h, .int .i64 s] [] k = k (.bool true) G' := by
  rw [r3]
  exact b3 (by omega) (awake_any hF) (r11' (by omega)) (r12' (by omega)) hs [] k
theorem s3 (w h s : Int) (hs : s < 9223372036854775808) : runC Try.prog lo0 4000000 51 3 [.int .i64 w, .int .i64 h, .int .i64 s] [] (fun v _ => some v) = some (.bool true) := by
  obtain ⟨G', h⟩ := s3F rfl w h s hs (fun v _ => some v)
  exact h
end Go.LI.Film
