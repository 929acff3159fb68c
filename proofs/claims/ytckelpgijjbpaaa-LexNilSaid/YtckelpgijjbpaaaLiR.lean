/- Places within a code, and what follows a place. -/
import Derived.Test.YtckelpgijjbpaaaLiN
namespace Go.LI
open Go

/-- The part of a code at a place. -/
def nav (c : Code) : List Nat → Code
  | [] => c
  | d :: ds => match c with
    | .seq a b => nav (if d = 0 then a else b) ds
    | .cond _ a b => nav (if d = 0 then a else b) ds
    | .block _ c => nav c ds
    | .loop c => nav c ds
    | c => c

def drawAt (P : Program) (c : Code) : Bool :=
  match c with
  | .region _ ops d => if d then drawOk P ops else true
  | _ => false

/-- What follows the part of a code at a place. -/
def contC {R : Type} (P : Program) (O : Ora R) (lo : List Nat) (fuel : Nat) (c : Code) : List Nat → (Ex → List IV → List (List IV) → GH → Option R) → (Ex → List IV → List (List IV) → GH → Option R)
  | [], k => k
  | d :: ds, k => match c with
    | .seq a b => if d = 0 then contC P O lo fuel a ds (fun e env F G => match e with
        | .normal => codeC P O lo fuel b env F G k
        | e => k e env F G) else contC P O lo fuel b ds k
    | .cond _ a b => if d = 0 then contC P O lo fuel a ds k else contC P O lo fuel b ds k
    | .block id c => contC P O lo fuel c ds (fun e env F G => match e with
        | .exit j => if j = id then k .normal env F G else k (.exit j) env F G
        | e => k e env F G)
    | _ => k

end Go.LI

namespace Go.LI
/-- What a loop's body goes on with. -/
def loopK {R : Type} (body : List IV → List (List IV) → GH → (Ex → List IV → List (List IV) → GH → Option R) → Option R) (n : Nat) (k : Ex → List IV → List (List IV) → GH → Option R) :
    Ex → List IV → List (List IV) → GH → Option R := fun e env F G => match e with
  | .normal => loopN body n env F G k
  | e => k e env F G
variable {R : Type} {body : List IV → List (List IV) → GH → (Ex → List IV → List (List IV) → GH → Option R) → Option R} {n : Nat} {env : List IV} {F : List (List IV)} {G : GH} {k : Ex → List IV → List (List IV) → GH → Option R}
theorem loopN_succ : loopN body (n + 1) env F G k = body env F G (loopK body n k) := rfl
theorem loopK_normal : loopK body n k .normal env F G = loopN body n env F G k := rfl
theorem loopK_exit {i : Nat} : loopK body n k (.exit i) env F G = k (.exit i) env F G := rfl
theorem loopK_ret : loopK body n k .ret env F G = k .ret env F G := rfl
theorem stepN_succ {x : Option R} : stepN (n + 1) x = x := rfl
end Go.LI
