/-
  No cell of these rows narrows 'for every input' (looked for: loops, veiled, ifaces, maps, wideKeys, modest, calm, conditions, laid).
  DERIVED. THE GIVEN ROWS OF THIS SEAT. 5 by the template 'for every input the law returns true; each argument reads behind the call as it read before'; 0 by the template 'total and deterministic' (their statements: YtckelpgijjbpaaaTotals.lean).
  GIVEN WITH THE SEED: the statements are not yours to turn. If you find one false, say at which input.
  Laid BY PROGRAM, IN A SANDBOX (cutbox-rows.mjs): the forced cells as the released guide's own fill.sh prints them over the translation d421de2d655afa92… (all of the seat's roots in one cut). By AI agents, Wed Nov 11 2026. No macro, syntax, notation, axiom, sorry.
-/
import Derived.Test.YtckelpgijjbpaaaChecked
import GoSem.Claim
import GoSem.ClaimJoined
import GoSem.ClaimMapViews
import Derived.JoinedTies
import Derived.KernelRfl
namespace Go.Proofs.Ytckelpgijjbpaaa
/- THE CELL 'sum', in the pinned program and in every row, IS THE sha256 OF THE DUMP (.gsa) THAT YtckelpgijjbpaaaProg.lean LOADS. Nothing in Lean hashes anything: it is a label: what it is worth is what the hold of that sum in a sandbox is worth. -/
noncomputable def Try.pinned : Pinned := { name := "ytckelpgijjbpaaa", sum := "d421de2d655afa925f3409faf28f17e7e6e0a079a162f75ec404586c6accc235", checked := Try.checked }
namespace Rows
def none {H : Type} : Left H := { results := [], args := [] }

/-- 'lanternlaw15.LexNumbers': WHATEVER THE INPUT: true; the input reads as it did. -/
def lexNumbersSpec : ChangeSpec := { name := "lexNumbers", fn := fun _ => fun
  | [d1, d2, d3] => { results := [.lit (.bool true)], args := [d1, d2, d3] }
  | _ => none }
def lexNumbersRow : OpenClaim := { program := "ytckelpgijjbpaaa", sum := "d421de2d655afa925f3409faf28f17e7e6e0a079a162f75ec404586c6accc235", func := "lantern/lanternlaw15.LexNumbers", spec := "lexNumbers", unfollowed := true, recurses := true, apart := false }
def LexNumbersSaid : Prop := lexNumbersRow.holds Try.pinned (OpenSpec.ofChange lexNumbersSpec)

/-- ITS FALSE NEIGHBOUR: 'it returns false'. Refute it at one input. -/
def lexNumbersWrong : ChangeSpec := { name := "lexNumbers", fn := fun _ => fun
  | [d1, d2, d3] => { results := [.lit (.bool false)], args := [d1, d2, d3] }
  | _ => none }
def LexNumbersWrongFalsely : Prop := lexNumbersRow.holds Try.pinned (OpenSpec.ofChange lexNumbersWrong)

/-- 'lanternlaw15.LexReads': WHATEVER THE INPUT: true; the input reads as it did. -/
def lexReadsSpec : ChangeSpec := { name := "lexReads", fn := fun _ => fun
  | [d] => { results := [.lit (.bool true)], args := [d] }
  | _ => none }
def lexReadsRow : OpenClaim := { program := "ytckelpgijjbpaaa", sum := "d421de2d655afa925f3409faf28f17e7e6e0a079a162f75ec404586c6accc235", func := "lantern/lanternlaw15.LexReads", spec := "lexReads", unfollowed := true, recurses := true, apart := false }
def LexReadsSaid : Prop := lexReadsRow.holds Try.pinned (OpenSpec.ofChange lexReadsSpec)

/-- ITS FALSE NEIGHBOUR: 'it returns false'. Refute it at one input. -/
def lexReadsWrong : ChangeSpec := { name := "lexReads", fn := fun _ => fun
  | [d] => { results := [.lit (.bool false)], args := [d] }
  | _ => none }
def LexReadsWrongFalsely : Prop := lexReadsRow.holds Try.pinned (OpenSpec.ofChange lexReadsWrong)

/-- 'lanternlaw15.LexNil': WHATEVER THE INPUT: true; the input reads as it did. -/
def lexNilSpec : ChangeSpec := { name := "lexNil", fn := fun _ => fun
  | [d] => { results := [.lit (.bool true)], args := [d] }
  | _ => none }
def lexNilRow : OpenClaim := { program := "ytckelpgijjbpaaa", sum := "d421de2d655afa925f3409faf28f17e7e6e0a079a162f75ec404586c6accc235", func := "lantern/lanternlaw15.LexNil", spec := "lexNil", inPlace := ["internal/bytealg.IndexByteString", "internal/bytealg.IndexString"], unfollowed := true, recurses := true, named := ["internal/bytealg.MaxLen"], apart := false }
def LexNilSaid : Prop := lexNilRow.holds Try.pinned (OpenSpec.ofChange lexNilSpec)

/-- ITS FALSE NEIGHBOUR: 'it returns false'. Refute it at one input. -/
def lexNilWrong : ChangeSpec := { name := "lexNil", fn := fun _ => fun
  | [d] => { results := [.lit (.bool false)], args := [d] }
  | _ => none }
def LexNilWrongFalsely : Prop := lexNilRow.holds Try.pinned (OpenSpec.ofChange lexNilWrong)

/-- 'lanternlaw15.LexApart': WHATEVER THE INPUT: true; the input reads as it did. -/
def lexApartSpec : ChangeSpec := { name := "lexApart", fn := fun _ => fun
  | [d1, d2] => { results := [.lit (.bool true)], args := [d1, d2] }
  | _ => none }
def lexApartRow : OpenClaim := { program := "ytckelpgijjbpaaa", sum := "d421de2d655afa925f3409faf28f17e7e6e0a079a162f75ec404586c6accc235", func := "lantern/lanternlaw15.LexApart", spec := "lexApart", inPlace := ["internal/bytealg.CountString", "internal/bytealg.IndexByteString", "internal/bytealg.IndexString"], unfollowed := true, recurses := true, named := ["internal/bytealg.MaxLen"], apart := false }
def LexApartSaid : Prop := lexApartRow.holds Try.pinned (OpenSpec.ofChange lexApartSpec)

/-- ITS FALSE NEIGHBOUR: 'it returns false'. Refute it at one input. -/
def lexApartWrong : ChangeSpec := { name := "lexApart", fn := fun _ => fun
  | [d1, d2] => { results := [.lit (.bool false)], args := [d1, d2] }
  | _ => none }
def LexApartWrongFalsely : Prop := lexApartRow.holds Try.pinned (OpenSpec.ofChange lexApartWrong)

/-- 'lanternlaw15.LexBlanks': WHATEVER THE INPUT: true; the input reads as it did. -/
def lexBlanksSpec : ChangeSpec := { name := "lexBlanks", fn := fun _ => fun
  | [d1, d2] => { results := [.lit (.bool true)], args := [d1, d2] }
  | _ => none }
def lexBlanksRow : OpenClaim := { program := "ytckelpgijjbpaaa", sum := "d421de2d655afa925f3409faf28f17e7e6e0a079a162f75ec404586c6accc235", func := "lantern/lanternlaw15.LexBlanks", spec := "lexBlanks", inPlace := ["internal/abi.NoEscape", "internal/bytealg.MakeNoZero"], unfollowed := true, recurses := true, apart := false }
def LexBlanksSaid : Prop := lexBlanksRow.holds Try.pinned (OpenSpec.ofChange lexBlanksSpec)

/-- ITS FALSE NEIGHBOUR: 'it returns false'. Refute it at one input. -/
def lexBlanksWrong : ChangeSpec := { name := "lexBlanks", fn := fun _ => fun
  | [d1, d2] => { results := [.lit (.bool false)], args := [d1, d2] }
  | _ => none }
def LexBlanksWrongFalsely : Prop := lexBlanksRow.holds Try.pinned (OpenSpec.ofChange lexBlanksWrong)

/- THE SECOND FORM. 'bulk': how many values and letters a reading holds, each counted each time it is reached (what is shared counts as often as it is met; a slice's spare places count too). A statement '..UptoSaid' is the law's where the arguments, and the package variables that the reading takes, are together of bulk at most 1048576: NARROWER than '..Said'. Prove '..Said' where nothing that the law and all that it calls make is longer than what came in: it says more and counts as full. Else prove '..UptoSaid'. A law counts once. -/
mutual
def uptoBulk {H : Type} : DataW H → Nat
  | .lit (.string bytes) => bytes.length + 1
  | .lit _ => 1
  | .nil => 1
  | .ptr d => uptoBulk d + 1
  | .slice elems spare => uptoBulkAll elems + uptoBulkAll spare + 1
  | .agg parts => uptoBulkAll parts + 1
  | .iface _ d => uptoBulk d + 1
  | .map entries => uptoBulkEntries entries + 1
  | .held _ => 1
def uptoBulkAll {H : Type} : List (DataW H) → Nat
  | [] => 0
  | d :: r => uptoBulk d + uptoBulkAll r
def uptoBulkEntries {H : Type} : List (Lit × DataW H) → Nat
  | [] => 0
  | x :: r => uptoBulkEntry x + uptoBulkEntries r
def uptoBulkEntry {H : Type} : Lit × DataW H → Nat
  | (.string bytes, d) => bytes.length + uptoBulk d + 1
  | (_, d) => uptoBulk d + 1
 end
def uptoSmall : (H : Type) → List (DataW H) → Bool := fun _ ds => decide (uptoBulkAll ds ≤ 1048576)
def OpenSpec.upto (s : _root_.Go.ChangeSpec) : _root_.Go.OpenSpec := { _root_.Go.OpenSpec.ofChange s with cond := some uptoSmall }

/-- 'lanternlaw15.LexNumbers', WHERE WHAT IT READS IS OF BULK AT MOST 1048576: true; the input reads as it did. -/
def lexNumbersUptoRow : OpenClaim := { program := "ytckelpgijjbpaaa", sum := "d421de2d655afa925f3409faf28f17e7e6e0a079a162f75ec404586c6accc235", func := "lantern/lanternlaw15.LexNumbers", spec := "lexNumbers", unfollowed := true, recurses := true, apart := false, narrowed := true }
def LexNumbersUptoSaid : Prop := lexNumbersUptoRow.holds Try.pinned (OpenSpec.upto lexNumbersSpec)

/-- 'lanternlaw15.LexReads', WHERE WHAT IT READS IS OF BULK AT MOST 1048576: true; the input reads as it did. -/
def lexReadsUptoRow : OpenClaim := { program := "ytckelpgijjbpaaa", sum := "d421de2d655afa925f3409faf28f17e7e6e0a079a162f75ec404586c6accc235", func := "lantern/lanternlaw15.LexReads", spec := "lexReads", unfollowed := true, recurses := true, apart := false, narrowed := true }
def LexReadsUptoSaid : Prop := lexReadsUptoRow.holds Try.pinned (OpenSpec.upto lexReadsSpec)

/-- 'lanternlaw15.LexNil', WHERE WHAT IT READS IS OF BULK AT MOST 1048576: true; the input reads as it did. -/
def lexNilUptoRow : OpenClaim := { program := "ytckelpgijjbpaaa", sum := "d421de2d655afa925f3409faf28f17e7e6e0a079a162f75ec404586c6accc235", func := "lantern/lanternlaw15.LexNil", spec := "lexNil", inPlace := ["internal/bytealg.IndexByteString", "internal/bytealg.IndexString"], unfollowed := true, recurses := true, named := ["internal/bytealg.MaxLen"], apart := false, narrowed := true }
def LexNilUptoSaid : Prop := lexNilUptoRow.holds Try.pinned (OpenSpec.upto lexNilSpec)

/-- 'lanternlaw15.LexApart', WHERE WHAT IT READS IS OF BULK AT MOST 1048576: true; the input reads as it did. -/
def lexApartUptoRow : OpenClaim := { program := "ytckelpgijjbpaaa", sum := "d421de2d655afa925f3409faf28f17e7e6e0a079a162f75ec404586c6accc235", func := "lantern/lanternlaw15.LexApart", spec := "lexApart", inPlace := ["internal/bytealg.CountString", "internal/bytealg.IndexByteString", "internal/bytealg.IndexString"], unfollowed := true, recurses := true, named := ["internal/bytealg.MaxLen"], apart := false, narrowed := true }
def LexApartUptoSaid : Prop := lexApartUptoRow.holds Try.pinned (OpenSpec.upto lexApartSpec)

/-- 'lanternlaw15.LexBlanks', WHERE WHAT IT READS IS OF BULK AT MOST 1048576: true; the input reads as it did. -/
def lexBlanksUptoRow : OpenClaim := { program := "ytckelpgijjbpaaa", sum := "d421de2d655afa925f3409faf28f17e7e6e0a079a162f75ec404586c6accc235", func := "lantern/lanternlaw15.LexBlanks", spec := "lexBlanks", inPlace := ["internal/abi.NoEscape", "internal/bytealg.MakeNoZero"], unfollowed := true, recurses := true, apart := false, narrowed := true }
def LexBlanksUptoSaid : Prop := lexBlanksUptoRow.holds Try.pinned (OpenSpec.upto lexBlanksSpec)

end Rows
end Go.Proofs.Ytckelpgijjbpaaa
