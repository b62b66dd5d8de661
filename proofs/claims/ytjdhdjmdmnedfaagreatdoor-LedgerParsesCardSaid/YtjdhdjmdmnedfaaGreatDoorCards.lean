/-
  DERIVED. GIVEN WITH THE SEED: THE CARDS: each row of YtjdhdjmdmnedfaaGreatDoorRows.lean that lists a variable, with what it lists TIED to the program's text (the seventh form; the later family's looks); each row that meets fmt, with fmt's text TOLD by the authors' own Lean function (tested against real Go, not proved from fmt's source: count such statements apart). THE CARD IS WHAT COUNTS. Prove the row's statement (the work); the ties are given (YtjdhdjmdmnedfaaGreatDoorTie.lean); close each card by the builder's one call (the guide's Derived/Test/ToyasCard.lean, 'card_holds'). Laid BY PROGRAM, IN A SANDBOX (cutbox-door.mjs). By AI agents, Wed Nov 11 2026. No macro, syntax, notation, axiom, sorry.
-/
import Derived.Test.YtjdhdjmdmnedfaaGreatDoorRows
import GoSem.ClaimSeven
namespace Go.Proofs.YtjdhdjmdmnedfaaGreatDoor
namespace Rows

/-- THE TIED CARD OF 'armadalaw15.LedgerParses'. -/
def ledgerParsesCard : Claim7 := { stood := { row := ledgerParsesRow, standIns := [], harness := (true, "9787d040dd11b893677cd18e3780c00b05160280badf643062b6180f6cdb35a5"), looks := true }, kinds := [], alts := [], laidByText := true, laidKinds := [.data, .data, .data, .data, .sentinel, .sentinel, .pinned], laidTests := true, laidLooks := .later }
def LedgerParsesCardSaid : Prop := Claim7.holds Tryz.pinned (.plain (OpenSpec.ofChange ledgerParsesSpec)) ledgerParsesCard

/-- THE TIED CARD OF 'armadalaw15.LedgerTells'. -/
def ledgerTellsCard : Claim7 := { stood := { row := ledgerTellsRow, standIns := [], harness := (true, "9787d040dd11b893677cd18e3780c00b05160280badf643062b6180f6cdb35a5"), looks := true }, kinds := [], alts := [], laidByText := true, laidKinds := [.data, .data, .data, .data, .sentinel, .sentinel, .pinned], laidTests := true, laidLooks := .later }
def LedgerTellsCardSaid : Prop := Claim7.holds Tryz.pinned (.plain (OpenSpec.ofChange ledgerTellsSpec)) ledgerTellsCard

/-- THE SECOND FORM's CARD OF 'armadalaw15.LedgerParses'. -/
def ledgerParsesUptoCard : Claim7 := { stood := { row := ledgerParsesUptoRow, standIns := [], harness := (true, "9787d040dd11b893677cd18e3780c00b05160280badf643062b6180f6cdb35a5"), looks := true }, kinds := [], alts := [], laidByText := true, laidKinds := [.data, .data, .data, .data, .sentinel, .sentinel, .pinned], laidTests := true, laidLooks := .later }
def LedgerParsesUptoCardSaid : Prop := Claim7.holds Tryz.pinned (.plain (OpenSpec.upto ledgerParsesSpec)) ledgerParsesUptoCard

/-- THE SECOND FORM's CARD OF 'armadalaw15.LedgerTells'. -/
def ledgerTellsUptoCard : Claim7 := { stood := { row := ledgerTellsUptoRow, standIns := [], harness := (true, "9787d040dd11b893677cd18e3780c00b05160280badf643062b6180f6cdb35a5"), looks := true }, kinds := [], alts := [], laidByText := true, laidKinds := [.data, .data, .data, .data, .sentinel, .sentinel, .pinned], laidTests := true, laidLooks := .later }
def LedgerTellsUptoCardSaid : Prop := Claim7.holds Tryz.pinned (.plain (OpenSpec.upto ledgerTellsSpec)) ledgerTellsUptoCard
end Rows
end Go.Proofs.YtjdhdjmdmnedfaaGreatDoor
