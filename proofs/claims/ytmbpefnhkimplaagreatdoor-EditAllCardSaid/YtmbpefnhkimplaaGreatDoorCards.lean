/-
  DERIVED. GIVEN WITH THE SEED: THE CARDS: each row of YtmbpefnhkimplaaGreatDoorRows.lean that lists a variable, with what it lists TIED to the program's text (the seventh form; the later family's looks); each row that meets fmt, with fmt's text TOLD by the authors' own Lean function (tested against real Go, not proved from fmt's source: count such statements apart). THE CARD IS WHAT COUNTS. Prove the row's statement (the work); the ties are given (YtmbpefnhkimplaaGreatDoorTie.lean); close each card by the builder's one call (the guide's Derived/Test/ToyasCard.lean, 'card_holds'). Laid BY PROGRAM, IN A SANDBOX (cutbox-door.mjs). By AI agents, Wed Nov 11 2026. No macro, syntax, notation, axiom, sorry.
-/
import Derived.Test.YtmbpefnhkimplaaGreatDoorRows
import GoSem.ClaimSeven
namespace Go.Proofs.YtmbpefnhkimplaaGreatDoor
namespace Rows

/-- THE TIED CARD OF 'armadalaw11.EditSets'. -/
def editSetsCard : Claim7 := { stood := { row := editSetsRow, standIns := [], harness := (true, "496dd1483d0bda906c37f8e0f85f4c660e19dc15adcc1c3e15d43ef483c9624e"), looks := true }, kinds := [], alts := [], laidByText := true, laidKinds := [.data, .data, .data, .data, .handle, .sentinel, .sentinel, .pinned], laidTests := true, laidLooks := .later }
def EditSetsCardSaid : Prop := Claim7.holds Tryz.pinned (.plain (OpenSpec.ofChange editSetsSpec)) editSetsCard

/-- THE TIED CARD OF 'armadalaw11.EditAdds'. -/
def editAddsCard : Claim7 := { stood := { row := editAddsRow, standIns := [], harness := (true, "496dd1483d0bda906c37f8e0f85f4c660e19dc15adcc1c3e15d43ef483c9624e"), looks := true }, kinds := [], alts := [], laidByText := true, laidKinds := [.data, .data, .data, .data, .handle, .sentinel, .sentinel, .pinned], laidTests := true, laidLooks := .later }
def EditAddsCardSaid : Prop := Claim7.holds Tryz.pinned (.plain (OpenSpec.ofChange editAddsSpec)) editAddsCard

/-- THE TIED CARD OF 'armadalaw11.EditOrder'. -/
def editOrderCard : Claim7 := { stood := { row := editOrderRow, standIns := [], harness := (true, "496dd1483d0bda906c37f8e0f85f4c660e19dc15adcc1c3e15d43ef483c9624e"), looks := true }, kinds := [], alts := [], laidByText := true, laidKinds := [.data, .data, .data, .data, .handle, .sentinel, .sentinel, .pinned], laidTests := true, laidLooks := .later }
def EditOrderCardSaid : Prop := Claim7.holds Tryz.pinned (.plain (OpenSpec.ofChange editOrderSpec)) editOrderCard

/-- THE TIED CARD OF 'armadalaw11.EditAll'. -/
def editAllCard : Claim7 := { stood := { row := editAllRow, standIns := [], harness := (true, "496dd1483d0bda906c37f8e0f85f4c660e19dc15adcc1c3e15d43ef483c9624e"), looks := true }, kinds := [], alts := [], laidByText := true, laidKinds := [.data, .data, .data, .data, .handle, .sentinel, .sentinel, .pinned], laidTests := true, laidLooks := .later }
def EditAllCardSaid : Prop := Claim7.holds Tryz.pinned (.plain (OpenSpec.ofChange editAllSpec)) editAllCard

/-- THE TIED CARD OF 'armadalaw11.EditBytes'. -/
def editBytesCard : Claim7 := { stood := { row := editBytesRow, standIns := [], harness := (true, "496dd1483d0bda906c37f8e0f85f4c660e19dc15adcc1c3e15d43ef483c9624e"), looks := true }, kinds := [], alts := [], laidByText := true, laidKinds := [.data, .data, .data, .data, .handle, .sentinel, .sentinel, .pinned], laidTests := true, laidLooks := .later }
def EditBytesCardSaid : Prop := Claim7.holds Tryz.pinned (.plain (OpenSpec.ofChange editBytesSpec)) editBytesCard

/-- THE TIED CARD OF 'armadalaw10.ManiBack'. -/
def maniBackCard : Claim7 := { stood := { row := maniBackRow, standIns := [], harness := (true, "496dd1483d0bda906c37f8e0f85f4c660e19dc15adcc1c3e15d43ef483c9624e"), looks := true }, kinds := [], alts := [], laidByText := true, laidKinds := [.data, .data, .data, .data, .handle, .sentinel, .sentinel, .pinned], laidTests := true, laidLooks := .later }
def ManiBackCardSaid : Prop := Claim7.holds Tryz.pinned (.plain (OpenSpec.ofChange maniBackSpec)) maniBackCard

/-- THE TIED CARD OF 'armadalaw10.ManiNotes'. -/
def maniNotesCard : Claim7 := { stood := { row := maniNotesRow, standIns := [], harness := (true, "496dd1483d0bda906c37f8e0f85f4c660e19dc15adcc1c3e15d43ef483c9624e"), looks := true }, kinds := [], alts := [], laidByText := true, laidKinds := [.data, .data, .data, .data, .handle, .sentinel, .sentinel, .pinned], laidTests := true, laidLooks := .later }
def ManiNotesCardSaid : Prop := Claim7.holds Tryz.pinned (.plain (OpenSpec.ofChange maniNotesSpec)) maniNotesCard

/-- THE TIED CARD OF 'armadalaw10.ManiBlocks'. -/
def maniBlocksCard : Claim7 := { stood := { row := maniBlocksRow, standIns := [], harness := (true, "496dd1483d0bda906c37f8e0f85f4c660e19dc15adcc1c3e15d43ef483c9624e"), looks := true }, kinds := [], alts := [], laidByText := true, laidKinds := [.data, .data, .data, .data, .handle, .sentinel, .sentinel, .pinned], laidTests := true, laidLooks := .later }
def ManiBlocksCardSaid : Prop := Claim7.holds Tryz.pinned (.plain (OpenSpec.ofChange maniBlocksSpec)) maniBlocksCard

/-- THE TIED CARD OF 'armadalaw10.ManiCut'. -/
def maniCutCard : Claim7 := { stood := { row := maniCutRow, standIns := [], harness := (true, "496dd1483d0bda906c37f8e0f85f4c660e19dc15adcc1c3e15d43ef483c9624e"), looks := true }, kinds := [], alts := [], laidByText := true, laidKinds := [.data, .data, .data, .data, .handle, .sentinel, .sentinel, .pinned], laidTests := true, laidLooks := .later }
def ManiCutCardSaid : Prop := Claim7.holds Tryz.pinned (.plain (OpenSpec.ofChange maniCutSpec)) maniCutCard

/-- THE SECOND FORM's CARD OF 'armadalaw11.EditSets'. -/
def editSetsUptoCard : Claim7 := { stood := { row := editSetsUptoRow, standIns := [], harness := (true, "496dd1483d0bda906c37f8e0f85f4c660e19dc15adcc1c3e15d43ef483c9624e"), looks := true }, kinds := [], alts := [], laidByText := true, laidKinds := [.data, .data, .data, .data, .handle, .sentinel, .sentinel, .pinned], laidTests := true, laidLooks := .later }
def EditSetsUptoCardSaid : Prop := Claim7.holds Tryz.pinned (.plain (OpenSpec.upto editSetsSpec)) editSetsUptoCard

/-- THE SECOND FORM's CARD OF 'armadalaw11.EditAdds'. -/
def editAddsUptoCard : Claim7 := { stood := { row := editAddsUptoRow, standIns := [], harness := (true, "496dd1483d0bda906c37f8e0f85f4c660e19dc15adcc1c3e15d43ef483c9624e"), looks := true }, kinds := [], alts := [], laidByText := true, laidKinds := [.data, .data, .data, .data, .handle, .sentinel, .sentinel, .pinned], laidTests := true, laidLooks := .later }
def EditAddsUptoCardSaid : Prop := Claim7.holds Tryz.pinned (.plain (OpenSpec.upto editAddsSpec)) editAddsUptoCard

/-- THE SECOND FORM's CARD OF 'armadalaw11.EditOrder'. -/
def editOrderUptoCard : Claim7 := { stood := { row := editOrderUptoRow, standIns := [], harness := (true, "496dd1483d0bda906c37f8e0f85f4c660e19dc15adcc1c3e15d43ef483c9624e"), looks := true }, kinds := [], alts := [], laidByText := true, laidKinds := [.data, .data, .data, .data, .handle, .sentinel, .sentinel, .pinned], laidTests := true, laidLooks := .later }
def EditOrderUptoCardSaid : Prop := Claim7.holds Tryz.pinned (.plain (OpenSpec.upto editOrderSpec)) editOrderUptoCard

/-- THE SECOND FORM's CARD OF 'armadalaw11.EditAll'. -/
def editAllUptoCard : Claim7 := { stood := { row := editAllUptoRow, standIns := [], harness := (true, "496dd1483d0bda906c37f8e0f85f4c660e19dc15adcc1c3e15d43ef483c9624e"), looks := true }, kinds := [], alts := [], laidByText := true, laidKinds := [.data, .data, .data, .data, .handle, .sentinel, .sentinel, .pinned], laidTests := true, laidLooks := .later }
def EditAllUptoCardSaid : Prop := Claim7.holds Tryz.pinned (.plain (OpenSpec.upto editAllSpec)) editAllUptoCard

/-- THE SECOND FORM's CARD OF 'armadalaw11.EditBytes'. -/
def editBytesUptoCard : Claim7 := { stood := { row := editBytesUptoRow, standIns := [], harness := (true, "496dd1483d0bda906c37f8e0f85f4c660e19dc15adcc1c3e15d43ef483c9624e"), looks := true }, kinds := [], alts := [], laidByText := true, laidKinds := [.data, .data, .data, .data, .handle, .sentinel, .sentinel, .pinned], laidTests := true, laidLooks := .later }
def EditBytesUptoCardSaid : Prop := Claim7.holds Tryz.pinned (.plain (OpenSpec.upto editBytesSpec)) editBytesUptoCard

/-- THE SECOND FORM's CARD OF 'armadalaw10.ManiBack'. -/
def maniBackUptoCard : Claim7 := { stood := { row := maniBackUptoRow, standIns := [], harness := (true, "496dd1483d0bda906c37f8e0f85f4c660e19dc15adcc1c3e15d43ef483c9624e"), looks := true }, kinds := [], alts := [], laidByText := true, laidKinds := [.data, .data, .data, .data, .handle, .sentinel, .sentinel, .pinned], laidTests := true, laidLooks := .later }
def ManiBackUptoCardSaid : Prop := Claim7.holds Tryz.pinned (.plain (OpenSpec.upto maniBackSpec)) maniBackUptoCard

/-- THE SECOND FORM's CARD OF 'armadalaw10.ManiNotes'. -/
def maniNotesUptoCard : Claim7 := { stood := { row := maniNotesUptoRow, standIns := [], harness := (true, "496dd1483d0bda906c37f8e0f85f4c660e19dc15adcc1c3e15d43ef483c9624e"), looks := true }, kinds := [], alts := [], laidByText := true, laidKinds := [.data, .data, .data, .data, .handle, .sentinel, .sentinel, .pinned], laidTests := true, laidLooks := .later }
def ManiNotesUptoCardSaid : Prop := Claim7.holds Tryz.pinned (.plain (OpenSpec.upto maniNotesSpec)) maniNotesUptoCard

/-- THE SECOND FORM's CARD OF 'armadalaw10.ManiBlocks'. -/
def maniBlocksUptoCard : Claim7 := { stood := { row := maniBlocksUptoRow, standIns := [], harness := (true, "496dd1483d0bda906c37f8e0f85f4c660e19dc15adcc1c3e15d43ef483c9624e"), looks := true }, kinds := [], alts := [], laidByText := true, laidKinds := [.data, .data, .data, .data, .handle, .sentinel, .sentinel, .pinned], laidTests := true, laidLooks := .later }
def ManiBlocksUptoCardSaid : Prop := Claim7.holds Tryz.pinned (.plain (OpenSpec.upto maniBlocksSpec)) maniBlocksUptoCard

/-- THE SECOND FORM's CARD OF 'armadalaw10.ManiCut'. -/
def maniCutUptoCard : Claim7 := { stood := { row := maniCutUptoRow, standIns := [], harness := (true, "496dd1483d0bda906c37f8e0f85f4c660e19dc15adcc1c3e15d43ef483c9624e"), looks := true }, kinds := [], alts := [], laidByText := true, laidKinds := [.data, .data, .data, .data, .handle, .sentinel, .sentinel, .pinned], laidTests := true, laidLooks := .later }
def ManiCutUptoCardSaid : Prop := Claim7.holds Tryz.pinned (.plain (OpenSpec.upto maniCutSpec)) maniCutUptoCard
end Rows
end Go.Proofs.YtmbpefnhkimplaaGreatDoor
