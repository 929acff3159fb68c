/-
  No cell of these rows narrows 'for every input' (looked for: loops, veiled, ifaces, maps, wideKeys, modest, calm, conditions, laid).
  DERIVED. THE GIVEN ROWS OF THIS SEAT. 1 by the template 'for every input the law returns true; each argument reads behind the call as it read before'; 0 by the template 'total and deterministic' (their statements: YtbjcipikclbecaaGreatTotals.lean).
  GIVEN WITH THE SEED: the statements are not yours to turn. If you find one false, say at which input.
  Laid BY PROGRAM, IN A SANDBOX (cutbox-rows.mjs): the forced cells as the released guide's own fill.sh prints them over the translation f0fcfc43d72bbae1… (all of the seat's roots in one cut). By AI agents, Wed Nov 11 2026. No macro, syntax, notation, axiom, sorry.
-/
import Derived.Test.YtbjcipikclbecaaGreatChecked
import GoSem.Claim
import GoSem.ClaimJoined
import GoSem.ClaimMapViews
import Derived.JoinedTies
import Derived.KernelRfl
namespace Go.Proofs.YtbjcipikclbecaaGreat
/- THE CELL 'sum', in the pinned program and in every row, IS THE sha256 OF THE DUMP (.gsa) THAT YtbjcipikclbecaaGreatProg.lean LOADS. Nothing in Lean hashes anything: it is a label: what it is worth is what the hold of that sum in a sandbox is worth. -/
noncomputable def Tryz.pinned : Pinned := { name := "ytbjcipikclbecaagreat", sum := "f0fcfc43d72bbae1dae011c9cc89489e2b6b3e3ae40b99b5f35633a3d09fdc56", checked := Tryz.checked }
namespace Rows
def none {H : Type} : Left H := { results := [], args := [] }

/-- 'lanternlaw09.TextureEvals': WHATEVER THE INPUT: true; the input reads as it did. -/
def textureEvalsSpec : ChangeSpec := { name := "textureEvals", fn := fun _ => fun
  | [d] => { results := [.lit (.bool true)], args := [d] }
  | _ => none }
def textureEvalsRow : OpenClaim := { program := "ytbjcipikclbecaagreat", sum := "f0fcfc43d72bbae1dae011c9cc89489e2b6b3e3ae40b99b5f35633a3d09fdc56", func := "lantern/lanternlaw09.TextureEvals", spec := "textureEvals", inPlace := ["math.Float64frombits", "math.Float64bits", "math.archFloor", "math.archTrunc", "math/bits.Add64", "math/bits.Sub64"], unfollowed := true, recurses := true, apart := false }
def TextureEvalsSaid : Prop := textureEvalsRow.holds Tryz.pinned (OpenSpec.ofChange textureEvalsSpec)

/-- ITS FALSE NEIGHBOUR: 'it returns false'. Refute it at one input. -/
def textureEvalsWrong : ChangeSpec := { name := "textureEvals", fn := fun _ => fun
  | [d] => { results := [.lit (.bool false)], args := [d] }
  | _ => none }
def TextureEvalsWrongFalsely : Prop := textureEvalsRow.holds Tryz.pinned (OpenSpec.ofChange textureEvalsWrong)

/- THE SECOND FORM. 'bulk': how many values and letters a reading holds, each counted each time it is reached (what is shared counts as often as it is met; a slice's spare places count too). A statement '..UptoSaid' is the law's where the arguments, and the package variables that the reading takes, are together of bulk at most 1048576: NARROWER than '..Said'. Prove '..Said' where nothing that the law and all that it calls make is longer than what came in: it says more and counts as full. Else prove '..UptoSaid'. A law counts once. -/
mutual
def uptoBulk {H : Type} : DataW H → Nat
  | .lit (.string bytes) => bytes.length + 1
  | .lit _ => 1
  | .nil => 1
  | .ptr d => uptoBulk d + 1
  | .slice elems spare => uptoBulkAll elems + uptoBulkAll spare + 1
  | .agg parts => uptoBulkAll parts + 1
  | .iface _ d => uptoBulk d + 1
  | .map entries => uptoBulkEntries entries + 1
  | .held _ => 1
def uptoBulkAll {H : Type} : List (DataW H) → Nat
  | [] => 0
  | d :: r => uptoBulk d + uptoBulkAll r
def uptoBulkEntries {H : Type} : List (Lit × DataW H) → Nat
  | [] => 0
  | x :: r => uptoBulkEntry x + uptoBulkEntries r
def uptoBulkEntry {H : Type} : Lit × DataW H → Nat
  | (.string bytes, d) => bytes.length + uptoBulk d + 1
  | (_, d) => uptoBulk d + 1
 end
def uptoSmall : (H : Type) → List (DataW H) → Bool := fun _ ds => decide (uptoBulkAll ds ≤ 1048576)
def OpenSpec.upto (s : _root_.Go.ChangeSpec) : _root_.Go.OpenSpec := { _root_.Go.OpenSpec.ofChange s with cond := some uptoSmall }

/-- 'lanternlaw09.TextureEvals', WHERE WHAT IT READS IS OF BULK AT MOST 1048576: true; the input reads as it did. -/
def textureEvalsUptoRow : OpenClaim := { program := "ytbjcipikclbecaagreat", sum := "f0fcfc43d72bbae1dae011c9cc89489e2b6b3e3ae40b99b5f35633a3d09fdc56", func := "lantern/lanternlaw09.TextureEvals", spec := "textureEvals", inPlace := ["math.Float64frombits", "math.Float64bits", "math.archFloor", "math.archTrunc", "math/bits.Add64", "math/bits.Sub64"], unfollowed := true, recurses := true, apart := false, narrowed := true }
def TextureEvalsUptoSaid : Prop := textureEvalsUptoRow.holds Tryz.pinned (OpenSpec.upto textureEvalsSpec)

end Rows
end Go.Proofs.YtbjcipikclbecaaGreat
