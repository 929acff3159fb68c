/-
  No cell of these rows narrows 'for every input' (looked for: loops, veiled, ifaces, maps, wideKeys, modest, calm, conditions, laid).
  DERIVED. THE GIVEN ROWS OF THIS SEAT. 5 by the template 'for every input the law returns true; each argument reads behind the call as it read before'; 0 by the template 'total and deterministic' (their statements: YtbjcipikclbecaaTotals.lean).
  GIVEN WITH THE SEED: the statements are not yours to turn. If you find one false, say at which input.
  Laid BY PROGRAM, IN A SANDBOX (cutbox-rows.mjs): the forced cells as the released guide's own fill.sh prints them over the translation e4c1f92eed6a3668… (all of the seat's roots in one cut). By AI agents, Wed Nov 11 2026. No macro, syntax, notation, axiom, sorry.
-/
import Derived.Test.YtbjcipikclbecaaChecked
import GoSem.Claim
import GoSem.ClaimJoined
import GoSem.ClaimMapViews
import Derived.JoinedTies
import Derived.KernelRfl
namespace Go.Proofs.Ytbjcipikclbecaa
/- THE CELL 'sum', in the pinned program and in every row, IS THE sha256 OF THE DUMP (.gsa) THAT YtbjcipikclbecaaProg.lean LOADS. Nothing in Lean hashes anything: it is a label: what it is worth is what the hold of that sum in a sandbox is worth. -/
noncomputable def Try.pinned : Pinned := { name := "ytbjcipikclbecaa", sum := "e4c1f92eed6a3668bf01a3966d8da679d575d6f433582e4ca3c9f7634650e171", checked := Try.checked }
namespace Rows
def none {H : Type} : Left H := { results := [], args := [] }

/-- 'lanternlaw09.TextureChecks': WHATEVER THE INPUT: true; the input reads as it did. -/
def textureChecksSpec : ChangeSpec := { name := "textureChecks", fn := fun _ => fun
  | [d1, d2] => { results := [.lit (.bool true)], args := [d1, d2] }
  | _ => none }
def textureChecksRow : OpenClaim := { program := "ytbjcipikclbecaa", sum := "e4c1f92eed6a3668bf01a3966d8da679d575d6f433582e4ca3c9f7634650e171", func := "lantern/lanternlaw09.TextureChecks", spec := "textureChecks", inPlace := ["math.Float64frombits", "math.Float64bits", "math.archFloor", "math.archTrunc", "math/bits.Add64", "math/bits.Sub64"], unfollowed := true, recurses := true, apart := false }
def TextureChecksSaid : Prop := textureChecksRow.holds Try.pinned (OpenSpec.ofChange textureChecksSpec)

/-- ITS FALSE NEIGHBOUR: 'it returns false'. Refute it at one input. -/
def textureChecksWrong : ChangeSpec := { name := "textureChecks", fn := fun _ => fun
  | [d1, d2] => { results := [.lit (.bool false)], args := [d1, d2] }
  | _ => none }
def TextureChecksWrongFalsely : Prop := textureChecksRow.holds Try.pinned (OpenSpec.ofChange textureChecksWrong)

/-- 'lanternlaw09.TextureNests': WHATEVER THE INPUT: true; the input reads as it did. -/
def textureNestsSpec : ChangeSpec := { name := "textureNests", fn := fun _ => fun
  | [d1, d2] => { results := [.lit (.bool true)], args := [d1, d2] }
  | _ => none }
def textureNestsRow : OpenClaim := { program := "ytbjcipikclbecaa", sum := "e4c1f92eed6a3668bf01a3966d8da679d575d6f433582e4ca3c9f7634650e171", func := "lantern/lanternlaw09.TextureNests", spec := "textureNests", inPlace := ["math.Float64frombits", "math.Float64bits", "math.archFloor", "math.archTrunc", "math/bits.Add64", "math/bits.Sub64"], unfollowed := true, recurses := true, apart := false }
def TextureNestsSaid : Prop := textureNestsRow.holds Try.pinned (OpenSpec.ofChange textureNestsSpec)

/-- ITS FALSE NEIGHBOUR: 'it returns false'. Refute it at one input. -/
def textureNestsWrong : ChangeSpec := { name := "textureNests", fn := fun _ => fun
  | [d1, d2] => { results := [.lit (.bool false)], args := [d1, d2] }
  | _ => none }
def TextureNestsWrongFalsely : Prop := textureNestsRow.holds Try.pinned (OpenSpec.ofChange textureNestsWrong)

/-- 'lanternlaw09.TextureMixes': WHATEVER THE INPUT: true; the input reads as it did. -/
def textureMixesSpec : ChangeSpec := { name := "textureMixes", fn := fun _ => fun
  | [d1, d2, d3, d4] => { results := [.lit (.bool true)], args := [d1, d2, d3, d4] }
  | _ => none }
def textureMixesRow : OpenClaim := { program := "ytbjcipikclbecaa", sum := "e4c1f92eed6a3668bf01a3966d8da679d575d6f433582e4ca3c9f7634650e171", func := "lantern/lanternlaw09.TextureMixes", spec := "textureMixes", inPlace := ["math.Float64frombits", "math.Float64bits", "math.archFloor", "math.archTrunc", "math/bits.Add64", "math/bits.Sub64"], unfollowed := true, recurses := true, apart := false }
def TextureMixesSaid : Prop := textureMixesRow.holds Try.pinned (OpenSpec.ofChange textureMixesSpec)

/-- ITS FALSE NEIGHBOUR: 'it returns false'. Refute it at one input. -/
def textureMixesWrong : ChangeSpec := { name := "textureMixes", fn := fun _ => fun
  | [d1, d2, d3, d4] => { results := [.lit (.bool false)], args := [d1, d2, d3, d4] }
  | _ => none }
def TextureMixesWrongFalsely : Prop := textureMixesRow.holds Try.pinned (OpenSpec.ofChange textureMixesWrong)

/-- 'lanternlaw09.TextureScales': WHATEVER THE INPUT: true; the input reads as it did. -/
def textureScalesSpec : ChangeSpec := { name := "textureScales", fn := fun _ => fun
  | [d] => { results := [.lit (.bool true)], args := [d] }
  | _ => none }
def textureScalesRow : OpenClaim := { program := "ytbjcipikclbecaa", sum := "e4c1f92eed6a3668bf01a3966d8da679d575d6f433582e4ca3c9f7634650e171", func := "lantern/lanternlaw09.TextureScales", spec := "textureScales", inPlace := ["math.Float64frombits", "math.Float64bits", "math.archFloor", "math.archTrunc", "math/bits.Add64", "math/bits.Sub64"], unfollowed := true, recurses := true, apart := false }
def TextureScalesSaid : Prop := textureScalesRow.holds Try.pinned (OpenSpec.ofChange textureScalesSpec)

/-- ITS FALSE NEIGHBOUR: 'it returns false'. Refute it at one input. -/
def textureScalesWrong : ChangeSpec := { name := "textureScales", fn := fun _ => fun
  | [d] => { results := [.lit (.bool false)], args := [d] }
  | _ => none }
def TextureScalesWrongFalsely : Prop := textureScalesRow.holds Try.pinned (OpenSpec.ofChange textureScalesWrong)

/-- 'lanternlaw09.TextureSingle': WHATEVER THE INPUT: true; the input reads as it did. -/
def textureSingleSpec : ChangeSpec := { name := "textureSingle", fn := fun _ => fun
  | [d1, d2, d3, d4] => { results := [.lit (.bool true)], args := [d1, d2, d3, d4] }
  | _ => none }
def textureSingleRow : OpenClaim := { program := "ytbjcipikclbecaa", sum := "e4c1f92eed6a3668bf01a3966d8da679d575d6f433582e4ca3c9f7634650e171", func := "lantern/lanternlaw09.TextureSingle", spec := "textureSingle", inPlace := ["math.Float64frombits", "math.Float64bits", "math.archFloor", "math.archTrunc", "math/bits.Add64", "math/bits.Sub64"], unfollowed := true, recurses := true, apart := false }
def TextureSingleSaid : Prop := textureSingleRow.holds Try.pinned (OpenSpec.ofChange textureSingleSpec)

/-- ITS FALSE NEIGHBOUR: 'it returns false'. Refute it at one input. -/
def textureSingleWrong : ChangeSpec := { name := "textureSingle", fn := fun _ => fun
  | [d1, d2, d3, d4] => { results := [.lit (.bool false)], args := [d1, d2, d3, d4] }
  | _ => none }
def TextureSingleWrongFalsely : Prop := textureSingleRow.holds Try.pinned (OpenSpec.ofChange textureSingleWrong)

/- THE SECOND FORM. 'bulk': how many values and letters a reading holds, each counted each time it is reached (what is shared counts as often as it is met; a slice's spare places count too). A statement '..UptoSaid' is the law's where the arguments, and the package variables that the reading takes, are together of bulk at most 1048576: NARROWER than '..Said'. Prove '..Said' where nothing that the law and all that it calls make is longer than what came in: it says more and counts as full. Else prove '..UptoSaid'. A law counts once. -/
mutual
def uptoBulk {H : Type} : DataW H → Nat
  | .lit (.string bytes) => bytes.length + 1
  | .lit _ => 1
  | .nil => 1
  | .ptr d => uptoBulk d + 1
  | .slice elems spare => uptoBulkAll elems + uptoBulkAll spare + 1
  | .agg parts => uptoBulkAll parts + 1
  | .iface _ d => uptoBulk d + 1
  | .map entries => uptoBulkEntries entries + 1
  | .held _ => 1
def uptoBulkAll {H : Type} : List (DataW H) → Nat
  | [] => 0
  | d :: r => uptoBulk d + uptoBulkAll r
def uptoBulkEntries {H : Type} : List (Lit × DataW H) → Nat
  | [] => 0
  | x :: r => uptoBulkEntry x + uptoBulkEntries r
def uptoBulkEntry {H : Type} : Lit × DataW H → Nat
  | (.string bytes, d) => bytes.length + uptoBulk d + 1
  | (_, d) => uptoBulk d + 1
 end
def uptoSmall : (H : Type) → List (DataW H) → Bool := fun _ ds => decide (uptoBulkAll ds ≤ 1048576)
def OpenSpec.upto (s : _root_.Go.ChangeSpec) : _root_.Go.OpenSpec := { _root_.Go.OpenSpec.ofChange s with cond := some uptoSmall }

/-- 'lanternlaw09.TextureChecks', WHERE WHAT IT READS IS OF BULK AT MOST 1048576: true; the input reads as it did. -/
def textureChecksUptoRow : OpenClaim := { program := "ytbjcipikclbecaa", sum := "e4c1f92eed6a3668bf01a3966d8da679d575d6f433582e4ca3c9f7634650e171", func := "lantern/lanternlaw09.TextureChecks", spec := "textureChecks", inPlace := ["math.Float64frombits", "math.Float64bits", "math.archFloor", "math.archTrunc", "math/bits.Add64", "math/bits.Sub64"], unfollowed := true, recurses := true, apart := false, narrowed := true }
def TextureChecksUptoSaid : Prop := textureChecksUptoRow.holds Try.pinned (OpenSpec.upto textureChecksSpec)

/-- 'lanternlaw09.TextureNests', WHERE WHAT IT READS IS OF BULK AT MOST 1048576: true; the input reads as it did. -/
def textureNestsUptoRow : OpenClaim := { program := "ytbjcipikclbecaa", sum := "e4c1f92eed6a3668bf01a3966d8da679d575d6f433582e4ca3c9f7634650e171", func := "lantern/lanternlaw09.TextureNests", spec := "textureNests", inPlace := ["math.Float64frombits", "math.Float64bits", "math.archFloor", "math.archTrunc", "math/bits.Add64", "math/bits.Sub64"], unfollowed := true, recurses := true, apart := false, narrowed := true }
def TextureNestsUptoSaid : Prop := textureNestsUptoRow.holds Try.pinned (OpenSpec.upto textureNestsSpec)

/-- 'lanternlaw09.TextureMixes', WHERE WHAT IT READS IS OF BULK AT MOST 1048576: true; the input reads as it did. -/
def textureMixesUptoRow : OpenClaim := { program := "ytbjcipikclbecaa", sum := "e4c1f92eed6a3668bf01a3966d8da679d575d6f433582e4ca3c9f7634650e171", func := "lantern/lanternlaw09.TextureMixes", spec := "textureMixes", inPlace := ["math.Float64frombits", "math.Float64bits", "math.archFloor", "math.archTrunc", "math/bits.Add64", "math/bits.Sub64"], unfollowed := true, recurses := true, apart := false, narrowed := true }
def TextureMixesUptoSaid : Prop := textureMixesUptoRow.holds Try.pinned (OpenSpec.upto textureMixesSpec)

/-- 'lanternlaw09.TextureScales', WHERE WHAT IT READS IS OF BULK AT MOST 1048576: true; the input reads as it did. -/
def textureScalesUptoRow : OpenClaim := { program := "ytbjcipikclbecaa", sum := "e4c1f92eed6a3668bf01a3966d8da679d575d6f433582e4ca3c9f7634650e171", func := "lantern/lanternlaw09.TextureScales", spec := "textureScales", inPlace := ["math.Float64frombits", "math.Float64bits", "math.archFloor", "math.archTrunc", "math/bits.Add64", "math/bits.Sub64"], unfollowed := true, recurses := true, apart := false, narrowed := true }
def TextureScalesUptoSaid : Prop := textureScalesUptoRow.holds Try.pinned (OpenSpec.upto textureScalesSpec)

/-- 'lanternlaw09.TextureSingle', WHERE WHAT IT READS IS OF BULK AT MOST 1048576: true; the input reads as it did. -/
def textureSingleUptoRow : OpenClaim := { program := "ytbjcipikclbecaa", sum := "e4c1f92eed6a3668bf01a3966d8da679d575d6f433582e4ca3c9f7634650e171", func := "lantern/lanternlaw09.TextureSingle", spec := "textureSingle", inPlace := ["math.Float64frombits", "math.Float64bits", "math.archFloor", "math.archTrunc", "math/bits.Add64", "math/bits.Sub64"], unfollowed := true, recurses := true, apart := false, narrowed := true }
def TextureSingleUptoSaid : Prop := textureSingleUptoRow.holds Try.pinned (OpenSpec.upto textureSingleSpec)

end Rows
end Go.Proofs.Ytbjcipikclbecaa
