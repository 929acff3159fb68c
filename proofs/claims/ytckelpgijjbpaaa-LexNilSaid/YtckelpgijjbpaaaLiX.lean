/- Environments of which little is known; what follows a part that forgets. -/
import Derived.Test.YtckelpgijjbpaaaLiT
namespace Go.LI
open Go

def mkG : Nat → Nat → List (Nat × IV) → List IV
  | 0, _, _ => []
  | n + 1, i, [] => .any :: mkG n (i + 1) []
  | n + 1, i, (j, v) :: l => bif j == i then v :: mkG n (i + 1) l else .any :: mkG n (i + 1) ((j, v) :: l)
/-- An environment in which only these are known. -/
def mkE (n : Nat) (l : List (Nat × IV)) : List IV := mkG n 0 l

section
variable {R : Type}
def kpK (lo : List Nat) (h : Nat) (k : Ex → List IV → List (List IV) → GH → Option R) : Ex → List IV → List (List IV) → GH → Option R := fun e env F G => k e (keepE lo h e env) F G
/-- A loop's body. -/
def loopB (P : Program) (O : Ora R) (lo : List Nat) (fuel : Nat) (c : Code) (h : Nat) : List IV → List (List IV) → GH → (Ex → List IV → List (List IV) → GH → Option R) → Option R :=
  fun env F G k => codeC P O lo fuel c env F G (kpK lo h k)
/-- A round. -/
def loopD (P : Program) (O : Ora R) (lo : List Nat) (fuel : Nat) (c : Code) (h : Nat) : List IV → List (List IV) → GH → (Ex → List IV → List (List IV) → GH → Option R) → Option R :=
  fun env F G k => codeC P O lo fuel c env F G (kpD lo h F.length k)
end
end Go.LI
