/- A picture of one sample as a texture: Eval, and the law. -/
import Derived.Test.YtbjcipikclbecaaGreatTxC
import Derived.Test.YtbjcipikclbecaaGreatTxN
set_option linter.unusedVariables false
set_option linter.unusedSimpArgs false
set_option maxRecDepth 100000
set_option exponentiation.threshold 2500
namespace Go.LI.Film
open Go.Proofs.YtbjcipikclbecaaGreat Go Go.Proofs Go.LI Go.LI.Fl
section
variable {R : Type} {O : Ora R}
theorem zII (x y z : IV) : zY 3 (.tuple [x, y, z]) = some [x, y, z] := rfl
abbrev SQAw (O : Ora R) : Prop := ∀ (G : GH) (k : IV → GH → Option R), O zni [] G k = k (.bool true) G
end
end Go.LI.Film
