/-
  No cell of these rows narrows 'for every input' (looked for: loops, veiled, ifaces, maps, wideKeys, modest, calm, conditions, laid).
  DERIVED. THE GIVEN ROWS OF THIS SEAT. 7 by the template 'for every input the law returns true; each argument reads behind the call as it read before'; 0 by the template 'total and deterministic' (their statements: YtmhoddmenfondaaTotals.lean).
  GIVEN WITH THE SEED: the statements are not yours to turn. If you find one false, say at which input.
  Laid BY PROGRAM, IN A SANDBOX (cutbox-rows.mjs): the forced cells as the released guide's own fill.sh prints them over the translation 956e1b466569389b… (all of the seat's roots in one cut). By AI agents, Wed Nov 11 2026. No macro, syntax, notation, axiom, sorry.
-/
import Derived.Test.YtmhoddmenfondaaChecked
import GoSem.Claim
import GoSem.ClaimJoined
import GoSem.ClaimMapViews
import Derived.JoinedTies
import Derived.KernelRfl
namespace Go.Proofs.Ytmhoddmenfondaa
/- THE CELL 'sum', in the pinned program and in every row, IS THE sha256 OF THE DUMP (.gsa) THAT YtmhoddmenfondaaProg.lean LOADS. Nothing in Lean hashes anything: it is a label: what it is worth is what the hold of that sum in a sandbox is worth. -/
noncomputable def Try.pinned : Pinned := { name := "ytmhoddmenfondaa", sum := "956e1b466569389b6aaa8fe54426efe8913c6848fe1ca20ea5fb8a5d9faf8d91", checked := Try.checked }
namespace Rows
def none {H : Type} : Left H := { results := [], args := [] }

/-- 'lanternlaw19.FilmJobs': WHATEVER THE INPUT: true; the input reads as it did. -/
def filmJobsSpec : ChangeSpec := { name := "filmJobs", fn := fun _ => fun
  | [d1, d2, d3] => { results := [.lit (.bool true)], args := [d1, d2, d3] }
  | _ => none }
def filmJobsRow : OpenClaim := { program := "ytmhoddmenfondaa", sum := "956e1b466569389b6aaa8fe54426efe8913c6848fe1ca20ea5fb8a5d9faf8d91", func := "lantern/lanternlaw19.FilmJobs", spec := "filmJobs", inPlace := ["math.Float64frombits", "math.Float64bits", "math/bits.Add64", "math/bits.Sub64"], unfollowed := true, recurses := true, named := ["math/bits.divideError", "math/bits.overflowError"], apart := false }
def FilmJobsSaid : Prop := filmJobsRow.holds Try.pinned (OpenSpec.ofChange filmJobsSpec)

/-- ITS FALSE NEIGHBOUR: 'it returns false'. Refute it at one input. -/
def filmJobsWrong : ChangeSpec := { name := "filmJobs", fn := fun _ => fun
  | [d1, d2, d3] => { results := [.lit (.bool false)], args := [d1, d2, d3] }
  | _ => none }
def FilmJobsWrongFalsely : Prop := filmJobsRow.holds Try.pinned (OpenSpec.ofChange filmJobsWrong)

/-- 'lanternlaw19.FilmNarrows': WHATEVER THE INPUT: true; the input reads as it did. -/
def filmNarrowsSpec : ChangeSpec := { name := "filmNarrows", fn := fun _ => fun
  | [d1, d2] => { results := [.lit (.bool true)], args := [d1, d2] }
  | _ => none }
def filmNarrowsRow : OpenClaim := { program := "ytmhoddmenfondaa", sum := "956e1b466569389b6aaa8fe54426efe8913c6848fe1ca20ea5fb8a5d9faf8d91", func := "lantern/lanternlaw19.FilmNarrows", spec := "filmNarrows", inPlace := ["math.Float64frombits", "math.Float64bits", "math/bits.Add64", "math/bits.Sub64", "math.Float32frombits", "math.Float32bits"], unfollowed := true, recurses := true, named := ["math/bits.divideError", "math/bits.overflowError"], apart := false }
def FilmNarrowsSaid : Prop := filmNarrowsRow.holds Try.pinned (OpenSpec.ofChange filmNarrowsSpec)

/-- ITS FALSE NEIGHBOUR: 'it returns false'. Refute it at one input. -/
def filmNarrowsWrong : ChangeSpec := { name := "filmNarrows", fn := fun _ => fun
  | [d1, d2] => { results := [.lit (.bool false)], args := [d1, d2] }
  | _ => none }
def FilmNarrowsWrongFalsely : Prop := filmNarrowsRow.holds Try.pinned (OpenSpec.ofChange filmNarrowsWrong)

/-- 'lanternlaw19.FilmMerges': WHATEVER THE INPUT: true; the input reads as it did. -/
def filmMergesSpec : ChangeSpec := { name := "filmMerges", fn := fun _ => fun
  | [d1, d2, d3] => { results := [.lit (.bool true)], args := [d1, d2, d3] }
  | _ => none }
def filmMergesRow : OpenClaim := { program := "ytmhoddmenfondaa", sum := "956e1b466569389b6aaa8fe54426efe8913c6848fe1ca20ea5fb8a5d9faf8d91", func := "lantern/lanternlaw19.FilmMerges", spec := "filmMerges", inPlace := ["math.Float64frombits", "math.Float64bits", "math/bits.Add64", "math/bits.Sub64"], unfollowed := true, recurses := true, named := ["math/bits.divideError", "math/bits.overflowError"], apart := false }
def FilmMergesSaid : Prop := filmMergesRow.holds Try.pinned (OpenSpec.ofChange filmMergesSpec)

/-- ITS FALSE NEIGHBOUR: 'it returns false'. Refute it at one input. -/
def filmMergesWrong : ChangeSpec := { name := "filmMerges", fn := fun _ => fun
  | [d1, d2, d3] => { results := [.lit (.bool false)], args := [d1, d2, d3] }
  | _ => none }
def FilmMergesWrongFalsely : Prop := filmMergesRow.holds Try.pinned (OpenSpec.ofChange filmMergesWrong)

/-- 'lanternlaw19.FilmTiles': WHATEVER THE INPUT: true; the input reads as it did. -/
def filmTilesSpec : ChangeSpec := { name := "filmTiles", fn := fun _ => fun
  | [d1, d2, d3, d4] => { results := [.lit (.bool true)], args := [d1, d2, d3, d4] }
  | _ => none }
def filmTilesRow : OpenClaim := { program := "ytmhoddmenfondaa", sum := "956e1b466569389b6aaa8fe54426efe8913c6848fe1ca20ea5fb8a5d9faf8d91", func := "lantern/lanternlaw19.FilmTiles", spec := "filmTiles", inPlace := ["math.Float64frombits", "math.Float64bits", "math/bits.Add64", "math/bits.Sub64"], unfollowed := true, recurses := true, named := ["math/bits.divideError", "math/bits.overflowError"], apart := false }
def FilmTilesSaid : Prop := filmTilesRow.holds Try.pinned (OpenSpec.ofChange filmTilesSpec)

/-- ITS FALSE NEIGHBOUR: 'it returns false'. Refute it at one input. -/
def filmTilesWrong : ChangeSpec := { name := "filmTiles", fn := fun _ => fun
  | [d1, d2, d3, d4] => { results := [.lit (.bool false)], args := [d1, d2, d3, d4] }
  | _ => none }
def FilmTilesWrongFalsely : Prop := filmTilesRow.holds Try.pinned (OpenSpec.ofChange filmTilesWrong)

/-- 'lanternlaw19.FilmBounds': WHATEVER THE INPUT: true; the input reads as it did. -/
def filmBoundsSpec : ChangeSpec := { name := "filmBounds", fn := fun _ => fun
  | [d1, d2, d3] => { results := [.lit (.bool true)], args := [d1, d2, d3] }
  | _ => none }
def filmBoundsRow : OpenClaim := { program := "ytmhoddmenfondaa", sum := "956e1b466569389b6aaa8fe54426efe8913c6848fe1ca20ea5fb8a5d9faf8d91", func := "lantern/lanternlaw19.FilmBounds", spec := "filmBounds", inPlace := ["math.Float64frombits", "math.Float64bits", "math/bits.Add64", "math/bits.Sub64"], unfollowed := true, recurses := true, named := ["math/bits.divideError", "math/bits.overflowError"], apart := false }
def FilmBoundsSaid : Prop := filmBoundsRow.holds Try.pinned (OpenSpec.ofChange filmBoundsSpec)

/-- ITS FALSE NEIGHBOUR: 'it returns false'. Refute it at one input. -/
def filmBoundsWrong : ChangeSpec := { name := "filmBounds", fn := fun _ => fun
  | [d1, d2, d3] => { results := [.lit (.bool false)], args := [d1, d2, d3] }
  | _ => none }
def FilmBoundsWrongFalsely : Prop := filmBoundsRow.holds Try.pinned (OpenSpec.ofChange filmBoundsWrong)

/-- 'lanternlaw19.FilmAdds': WHATEVER THE INPUT: true; the input reads as it did. -/
def filmAddsSpec : ChangeSpec := { name := "filmAdds", fn := fun _ => fun
  | [d1, d2, d3] => { results := [.lit (.bool true)], args := [d1, d2, d3] }
  | _ => none }
def filmAddsRow : OpenClaim := { program := "ytmhoddmenfondaa", sum := "956e1b466569389b6aaa8fe54426efe8913c6848fe1ca20ea5fb8a5d9faf8d91", func := "lantern/lanternlaw19.FilmAdds", spec := "filmAdds", inPlace := ["math.Float64frombits", "math.Float64bits", "math/bits.Add64", "math/bits.Sub64", "math.Float32frombits"], unfollowed := true, recurses := true, named := ["math/bits.divideError", "math/bits.overflowError"], apart := false }
def FilmAddsSaid : Prop := filmAddsRow.holds Try.pinned (OpenSpec.ofChange filmAddsSpec)

/-- ITS FALSE NEIGHBOUR: 'it returns false'. Refute it at one input. -/
def filmAddsWrong : ChangeSpec := { name := "filmAdds", fn := fun _ => fun
  | [d1, d2, d3] => { results := [.lit (.bool false)], args := [d1, d2, d3] }
  | _ => none }
def FilmAddsWrongFalsely : Prop := filmAddsRow.holds Try.pinned (OpenSpec.ofChange filmAddsWrong)

/-- 'lanternlaw19.FilmNil': WHATEVER THE INPUT: true; the input reads as it did. -/
def filmNilSpec : ChangeSpec := { name := "filmNil", fn := fun _ => fun
  | [d1, d2, d3] => { results := [.lit (.bool true)], args := [d1, d2, d3] }
  | _ => none }
def filmNilRow : OpenClaim := { program := "ytmhoddmenfondaa", sum := "956e1b466569389b6aaa8fe54426efe8913c6848fe1ca20ea5fb8a5d9faf8d91", func := "lantern/lanternlaw19.FilmNil", spec := "filmNil", inPlace := ["math.Float64frombits", "math.Float64bits", "math/bits.Add64", "math/bits.Sub64"], unfollowed := true, recurses := true, named := ["math/bits.divideError", "math/bits.overflowError"], apart := false }
def FilmNilSaid : Prop := filmNilRow.holds Try.pinned (OpenSpec.ofChange filmNilSpec)

/-- ITS FALSE NEIGHBOUR: 'it returns false'. Refute it at one input. -/
def filmNilWrong : ChangeSpec := { name := "filmNil", fn := fun _ => fun
  | [d1, d2, d3] => { results := [.lit (.bool false)], args := [d1, d2, d3] }
  | _ => none }
def FilmNilWrongFalsely : Prop := filmNilRow.holds Try.pinned (OpenSpec.ofChange filmNilWrong)

/- THE SECOND FORM. 'bulk': how many values and letters a reading holds, each counted each time it is reached (what is shared counts as often as it is met; a slice's spare places count too). A statement '..UptoSaid' is the law's where the arguments, and the package variables that the reading takes, are together of bulk at most 1048576: NARROWER than '..Said'. Prove '..Said' where nothing that the law and all that it calls make is longer than what came in: it says more and counts as full. Else prove '..UptoSaid'. A law counts once. -/
mutual
def uptoBulk {H : Type} : DataW H → Nat
  | .lit (.string bytes) => bytes.length + 1
  | .lit _ => 1
  | .nil => 1
  | .ptr d => uptoBulk d + 1
  | .slice elems spare => uptoBulkAll elems + uptoBulkAll spare + 1
  | .agg parts => uptoBulkAll parts + 1
  | .iface _ d => uptoBulk d + 1
  | .map entries => uptoBulkEntries entries + 1
  | .held _ => 1
def uptoBulkAll {H : Type} : List (DataW H) → Nat
  | [] => 0
  | d :: r => uptoBulk d + uptoBulkAll r
def uptoBulkEntries {H : Type} : List (Lit × DataW H) → Nat
  | [] => 0
  | x :: r => uptoBulkEntry x + uptoBulkEntries r
def uptoBulkEntry {H : Type} : Lit × DataW H → Nat
  | (.string bytes, d) => bytes.length + uptoBulk d + 1
  | (_, d) => uptoBulk d + 1
 end
def uptoSmall : (H : Type) → List (DataW H) → Bool := fun _ ds => decide (uptoBulkAll ds ≤ 1048576)
def OpenSpec.upto (s : _root_.Go.ChangeSpec) : _root_.Go.OpenSpec := { _root_.Go.OpenSpec.ofChange s with cond := some uptoSmall }

/-- 'lanternlaw19.FilmJobs', WHERE WHAT IT READS IS OF BULK AT MOST 1048576: true; the input reads as it did. -/
def filmJobsUptoRow : OpenClaim := { program := "ytmhoddmenfondaa", sum := "956e1b466569389b6aaa8fe54426efe8913c6848fe1ca20ea5fb8a5d9faf8d91", func := "lantern/lanternlaw19.FilmJobs", spec := "filmJobs", inPlace := ["math.Float64frombits", "math.Float64bits", "math/bits.Add64", "math/bits.Sub64"], unfollowed := true, recurses := true, named := ["math/bits.divideError", "math/bits.overflowError"], apart := false, narrowed := true }
def FilmJobsUptoSaid : Prop := filmJobsUptoRow.holds Try.pinned (OpenSpec.upto filmJobsSpec)

/-- 'lanternlaw19.FilmNarrows', WHERE WHAT IT READS IS OF BULK AT MOST 1048576: true; the input reads as it did. -/
def filmNarrowsUptoRow : OpenClaim := { program := "ytmhoddmenfondaa", sum := "956e1b466569389b6aaa8fe54426efe8913c6848fe1ca20ea5fb8a5d9faf8d91", func := "lantern/lanternlaw19.FilmNarrows", spec := "filmNarrows", inPlace := ["math.Float64frombits", "math.Float64bits", "math/bits.Add64", "math/bits.Sub64", "math.Float32frombits", "math.Float32bits"], unfollowed := true, recurses := true, named := ["math/bits.divideError", "math/bits.overflowError"], apart := false, narrowed := true }
def FilmNarrowsUptoSaid : Prop := filmNarrowsUptoRow.holds Try.pinned (OpenSpec.upto filmNarrowsSpec)

/-- 'lanternlaw19.FilmMerges', WHERE WHAT IT READS IS OF BULK AT MOST 1048576: true; the input reads as it did. -/
def filmMergesUptoRow : OpenClaim := { program := "ytmhoddmenfondaa", sum := "956e1b466569389b6aaa8fe54426efe8913c6848fe1ca20ea5fb8a5d9faf8d91", func := "lantern/lanternlaw19.FilmMerges", spec := "filmMerges", inPlace := ["math.Float64frombits", "math.Float64bits", "math/bits.Add64", "math/bits.Sub64"], unfollowed := true, recurses := true, named := ["math/bits.divideError", "math/bits.overflowError"], apart := false, narrowed := true }
def FilmMergesUptoSaid : Prop := filmMergesUptoRow.holds Try.pinned (OpenSpec.upto filmMergesSpec)

/-- 'lanternlaw19.FilmTiles', WHERE WHAT IT READS IS OF BULK AT MOST 1048576: true; the input reads as it did. -/
def filmTilesUptoRow : OpenClaim := { program := "ytmhoddmenfondaa", sum := "956e1b466569389b6aaa8fe54426efe8913c6848fe1ca20ea5fb8a5d9faf8d91", func := "lantern/lanternlaw19.FilmTiles", spec := "filmTiles", inPlace := ["math.Float64frombits", "math.Float64bits", "math/bits.Add64", "math/bits.Sub64"], unfollowed := true, recurses := true, named := ["math/bits.divideError", "math/bits.overflowError"], apart := false, narrowed := true }
def FilmTilesUptoSaid : Prop := filmTilesUptoRow.holds Try.pinned (OpenSpec.upto filmTilesSpec)

/-- 'lanternlaw19.FilmBounds', WHERE WHAT IT READS IS OF BULK AT MOST 1048576: true; the input reads as it did. -/
def filmBoundsUptoRow : OpenClaim := { program := "ytmhoddmenfondaa", sum := "956e1b466569389b6aaa8fe54426efe8913c6848fe1ca20ea5fb8a5d9faf8d91", func := "lantern/lanternlaw19.FilmBounds", spec := "filmBounds", inPlace := ["math.Float64frombits", "math.Float64bits", "math/bits.Add64", "math/bits.Sub64"], unfollowed := true, recurses := true, named := ["math/bits.divideError", "math/bits.overflowError"], apart := false, narrowed := true }
def FilmBoundsUptoSaid : Prop := filmBoundsUptoRow.holds Try.pinned (OpenSpec.upto filmBoundsSpec)

/-- 'lanternlaw19.FilmAdds', WHERE WHAT IT READS IS OF BULK AT MOST 1048576: true; the input reads as it did. -/
def filmAddsUptoRow : OpenClaim := { program := "ytmhoddmenfondaa", sum := "956e1b466569389b6aaa8fe54426efe8913c6848fe1ca20ea5fb8a5d9faf8d91", func := "lantern/lanternlaw19.FilmAdds", spec := "filmAdds", inPlace := ["math.Float64frombits", "math.Float64bits", "math/bits.Add64", "math/bits.Sub64", "math.Float32frombits"], unfollowed := true, recurses := true, named := ["math/bits.divideError", "math/bits.overflowError"], apart := false, narrowed := true }
def FilmAddsUptoSaid : Prop := filmAddsUptoRow.holds Try.pinned (OpenSpec.upto filmAddsSpec)

/-- 'lanternlaw19.FilmNil', WHERE WHAT IT READS IS OF BULK AT MOST 1048576: true; the input reads as it did. -/
def filmNilUptoRow : OpenClaim := { program := "ytmhoddmenfondaa", sum := "956e1b466569389b6aaa8fe54426efe8913c6848fe1ca20ea5fb8a5d9faf8d91", func := "lantern/lanternlaw19.FilmNil", spec := "filmNil", inPlace := ["math.Float64frombits", "math.Float64bits", "math/bits.Add64", "math/bits.Sub64"], unfollowed := true, recurses := true, named := ["math/bits.divideError", "math/bits.overflowError"], apart := false, narrowed := true }
def FilmNilUptoSaid : Prop := filmNilUptoRow.holds Try.pinned (OpenSpec.upto filmNilSpec)

end Rows
end Go.Proofs.Ytmhoddmenfondaa
