/- Awake and small numbers' texts, by runs of the interpreter. -/
import Derived.Test.YtmhoddmenfondaaDoorDoorA
namespace Go.LI.Door
open Go.Proofs.YtmhoddmenfondaaDoor Go Go.Proofs Go.LI
set_option maxRecDepth 100000
theorem awake60 {R : Type} (G : GH) (k : IV → GH → Option R) : (runC Tryd.prog lo0 1152921504606846976 50 9 [] G k) = k (.bool true) G := by kernel_rfl
end Go.LI.Door
