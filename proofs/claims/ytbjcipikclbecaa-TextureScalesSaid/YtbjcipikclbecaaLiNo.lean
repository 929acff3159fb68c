/- The interpreter without a shelf is the interpreter. -/
import Derived.Test.YtbjcipikclbecaaLiAll3
namespace Go.LI
open Go
theorem runL_none {R : Type} (P : Program) (lo : Nat → List Nat) (fuel : Nat) : ∀ n : Nat, runL (R := R) P (fun _ _ => none) lo fuel n = runC P lo fuel n := by
  intro n
  induction n with
  | zero => funext f args G k; rfl
  | succ n ih =>
    funext f args G k
    simp only [runL, runC, ih]
    cases P.funcs[f]? <;> rfl
end Go.LI
