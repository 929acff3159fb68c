/- Mixes: Eval, and the law. -/
import Derived.Test.YtbjcipikclbecaaTxR
namespace Go.LI.Film
open Go.Proofs.Ytbjcipikclbecaa Go Go.Proofs Go.LI Go.LI.Fl
set_option linter.unusedVariables false
set_option linter.unusedSimpArgs false
set_option maxRecDepth 100000
set_option exponentiation.threshold 2500
section
variable {R : Type} {O : Ora R}
end
end Go.LI.Film
