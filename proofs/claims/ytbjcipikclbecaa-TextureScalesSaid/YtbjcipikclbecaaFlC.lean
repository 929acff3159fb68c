/- Words of middling numbers; quotients of whole numbers. -/
import Derived.Test.YtbjcipikclbecaaFlB
set_option linter.unusedVariables false
set_option exponentiation.threshold 2000
namespace Go.LI.Fl
open Ieee

variable (f : Format)

end Go.LI.Fl
