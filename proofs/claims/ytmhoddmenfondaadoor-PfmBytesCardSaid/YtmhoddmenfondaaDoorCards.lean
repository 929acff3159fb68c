/-
  DERIVED. GIVEN WITH THE SEED: THE CARDS: each row of YtmhoddmenfondaaDoorRows.lean that lists a variable, with what it lists TIED to the program's text (the seventh form; the later family's looks); each row that meets fmt, with fmt's text TOLD by the authors' own Lean function (tested against real Go, not proved from fmt's source: count such statements apart). THE CARD IS WHAT COUNTS. Prove the row's statement (the work); the ties are given (YtmhoddmenfondaaDoorTie.lean); close each card by the builder's one call (the guide's Derived/Test/ToyasCard.lean, 'card_holds'). Laid BY PROGRAM, IN A SANDBOX (cutbox-door.mjs). By AI agents, Wed Nov 11 2026. No macro, syntax, notation, axiom, sorry.
-/
import Derived.Test.YtmhoddmenfondaaDoorRows
import GoSem.ClaimSeven
namespace Go.Proofs.YtmhoddmenfondaaDoor
namespace Rows

/-- THE TIED CARD OF 'lanternlaw08.PfmWrites'. -/
def pfmWritesCard : Claim7 := { stood := { row := pfmWritesRow, standIns := [], harness := (true, "10bc5a0ebc618454d5ac8b0362d199b3bd96b986d9b50c18cf25c547fd9cf7f2"), looks := false }, kinds := [], alts := [], laidByText := true, laidKinds := [.data, .data, .data], laidTests := true, laidLooks := .later }
def PfmWritesCardSaid : Prop := Claim7.holds Tryd.pinned (.plain (OpenSpec.ofChange pfmWritesSpec)) pfmWritesCard

/-- THE TIED CARD OF 'lanternlaw08.PfmSizes'. -/
def pfmSizesCard : Claim7 := { stood := { row := pfmSizesRow, standIns := [], harness := (true, "10bc5a0ebc618454d5ac8b0362d199b3bd96b986d9b50c18cf25c547fd9cf7f2"), looks := false }, kinds := [], alts := [], laidByText := true, laidKinds := [.data, .data, .data], laidTests := true, laidLooks := .later }
def PfmSizesCardSaid : Prop := Claim7.holds Tryd.pinned (.plain (OpenSpec.ofChange pfmSizesSpec)) pfmSizesCard

/-- THE TIED CARD OF 'lanternlaw08.PfmBytes'. -/
def pfmBytesCard : Claim7 := { stood := { row := pfmBytesRow, standIns := [], harness := (true, "10bc5a0ebc618454d5ac8b0362d199b3bd96b986d9b50c18cf25c547fd9cf7f2"), looks := false }, kinds := [], alts := [], laidByText := true, laidKinds := [.data, .data, .data], laidTests := true, laidLooks := .later }
def PfmBytesCardSaid : Prop := Claim7.holds Tryd.pinned (.plain (OpenSpec.ofChange pfmBytesSpec)) pfmBytesCard

/-- THE TIED CARD OF 'lanternlaw08.PfmTurned'. -/
def pfmTurnedCard : Claim7 := { stood := { row := pfmTurnedRow, standIns := [], harness := (true, "10bc5a0ebc618454d5ac8b0362d199b3bd96b986d9b50c18cf25c547fd9cf7f2"), looks := false }, kinds := [], alts := [], laidByText := true, laidKinds := [.data, .data, .data], laidTests := true, laidLooks := .later }
def PfmTurnedCardSaid : Prop := Claim7.holds Tryd.pinned (.plain (OpenSpec.ofChange pfmTurnedSpec)) pfmTurnedCard

/-- THE TIED CARD OF 'lanternlaw08.PfmBack'. -/
def pfmBackCard : Claim7 := { stood := { row := pfmBackRow, standIns := [], harness := (true, "10bc5a0ebc618454d5ac8b0362d199b3bd96b986d9b50c18cf25c547fd9cf7f2"), looks := false }, kinds := [], alts := [], laidByText := true, laidKinds := [.data, .data, .data], laidTests := true, laidLooks := .later }
def PfmBackCardSaid : Prop := Claim7.holds Tryd.pinned (.plain (OpenSpec.ofChange pfmBackSpec)) pfmBackCard

/-- THE TIED CARD OF 'lanternlaw08.PfmReads'. -/
def pfmReadsCard : Claim7 := { stood := { row := pfmReadsRow, standIns := [], harness := (true, "10bc5a0ebc618454d5ac8b0362d199b3bd96b986d9b50c18cf25c547fd9cf7f2"), looks := false }, kinds := [], alts := [], laidByText := true, laidKinds := [.data, .data, .data], laidTests := true, laidLooks := .later }
def PfmReadsCardSaid : Prop := Claim7.holds Tryd.pinned (.plain (OpenSpec.ofChange pfmReadsSpec)) pfmReadsCard

/-- THE SECOND FORM's CARD OF 'lanternlaw08.PfmWrites'. -/
def pfmWritesUptoCard : Claim7 := { stood := { row := pfmWritesUptoRow, standIns := [], harness := (true, "10bc5a0ebc618454d5ac8b0362d199b3bd96b986d9b50c18cf25c547fd9cf7f2"), looks := false }, kinds := [], alts := [], laidByText := true, laidKinds := [.data, .data, .data], laidTests := true, laidLooks := .later }
def PfmWritesUptoCardSaid : Prop := Claim7.holds Tryd.pinned (.plain (OpenSpec.upto pfmWritesSpec)) pfmWritesUptoCard

/-- THE SECOND FORM's CARD OF 'lanternlaw08.PfmSizes'. -/
def pfmSizesUptoCard : Claim7 := { stood := { row := pfmSizesUptoRow, standIns := [], harness := (true, "10bc5a0ebc618454d5ac8b0362d199b3bd96b986d9b50c18cf25c547fd9cf7f2"), looks := false }, kinds := [], alts := [], laidByText := true, laidKinds := [.data, .data, .data], laidTests := true, laidLooks := .later }
def PfmSizesUptoCardSaid : Prop := Claim7.holds Tryd.pinned (.plain (OpenSpec.upto pfmSizesSpec)) pfmSizesUptoCard

/-- THE SECOND FORM's CARD OF 'lanternlaw08.PfmBytes'. -/
def pfmBytesUptoCard : Claim7 := { stood := { row := pfmBytesUptoRow, standIns := [], harness := (true, "10bc5a0ebc618454d5ac8b0362d199b3bd96b986d9b50c18cf25c547fd9cf7f2"), looks := false }, kinds := [], alts := [], laidByText := true, laidKinds := [.data, .data, .data], laidTests := true, laidLooks := .later }
def PfmBytesUptoCardSaid : Prop := Claim7.holds Tryd.pinned (.plain (OpenSpec.upto pfmBytesSpec)) pfmBytesUptoCard

/-- THE SECOND FORM's CARD OF 'lanternlaw08.PfmTurned'. -/
def pfmTurnedUptoCard : Claim7 := { stood := { row := pfmTurnedUptoRow, standIns := [], harness := (true, "10bc5a0ebc618454d5ac8b0362d199b3bd96b986d9b50c18cf25c547fd9cf7f2"), looks := false }, kinds := [], alts := [], laidByText := true, laidKinds := [.data, .data, .data], laidTests := true, laidLooks := .later }
def PfmTurnedUptoCardSaid : Prop := Claim7.holds Tryd.pinned (.plain (OpenSpec.upto pfmTurnedSpec)) pfmTurnedUptoCard

/-- THE SECOND FORM's CARD OF 'lanternlaw08.PfmBack'. -/
def pfmBackUptoCard : Claim7 := { stood := { row := pfmBackUptoRow, standIns := [], harness := (true, "10bc5a0ebc618454d5ac8b0362d199b3bd96b986d9b50c18cf25c547fd9cf7f2"), looks := false }, kinds := [], alts := [], laidByText := true, laidKinds := [.data, .data, .data], laidTests := true, laidLooks := .later }
def PfmBackUptoCardSaid : Prop := Claim7.holds Tryd.pinned (.plain (OpenSpec.upto pfmBackSpec)) pfmBackUptoCard

/-- THE SECOND FORM's CARD OF 'lanternlaw08.PfmReads'. -/
def pfmReadsUptoCard : Claim7 := { stood := { row := pfmReadsUptoRow, standIns := [], harness := (true, "10bc5a0ebc618454d5ac8b0362d199b3bd96b986d9b50c18cf25c547fd9cf7f2"), looks := false }, kinds := [], alts := [], laidByText := true, laidKinds := [.data, .data, .data], laidTests := true, laidLooks := .later }
def PfmReadsUptoCardSaid : Prop := Claim7.holds Tryd.pinned (.plain (OpenSpec.upto pfmReadsSpec)) pfmReadsUptoCard
end Rows
end Go.Proofs.YtmhoddmenfondaaDoor
