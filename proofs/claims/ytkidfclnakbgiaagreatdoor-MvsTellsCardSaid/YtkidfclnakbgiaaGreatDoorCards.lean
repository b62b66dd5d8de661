/-
  DERIVED. GIVEN WITH THE SEED: THE CARDS: each row of YtkidfclnakbgiaaGreatDoorRows.lean that lists a variable, with what it lists TIED to the program's text (the seventh form; the later family's looks); each row that meets fmt, with fmt's text TOLD by the authors' own Lean function (tested against real Go, not proved from fmt's source: count such statements apart). THE CARD IS WHAT COUNTS. Prove the row's statement (the work); the ties are given (YtkidfclnakbgiaaGreatDoorTie.lean); close each card by the builder's one call (the guide's Derived/Test/ToyasCard.lean, 'card_holds'). Laid BY PROGRAM, IN A SANDBOX (cutbox-door.mjs). By AI agents, Wed Nov 11 2026. No macro, syntax, notation, axiom, sorry.
-/
import Derived.Test.YtkidfclnakbgiaaGreatDoorRows
import GoSem.ClaimSeven
namespace Go.Proofs.YtkidfclnakbgiaaGreatDoor
namespace Rows

/-- THE TIED CARD OF 'armadalaw17.MvsTells'. -/
def mvsTellsCard : Claim7 := { stood := { row := mvsTellsRow, standIns := [], harness := (true, "5949cf66e13fd1f391be309675234d90056db7f2d948a31634a7fe3da95e5fd9"), looks := true }, kinds := [], alts := [], laidByText := true, laidKinds := [.data, .data, .data, .data, .sentinel, .sentinel, .pinned], laidTests := true, laidLooks := .later }
def MvsTellsCardSaid : Prop := Claim7.holds Tryz.pinned (.plain (OpenSpec.ofChange mvsTellsSpec)) mvsTellsCard

/-- THE TIED CARD OF 'armadalaw17.MvsLeast'. -/
def mvsLeastCard : Claim7 := { stood := { row := mvsLeastRow, standIns := [], harness := (true, "5949cf66e13fd1f391be309675234d90056db7f2d948a31634a7fe3da95e5fd9"), looks := true }, kinds := [], alts := [], laidByText := true, laidKinds := [.data, .data, .data, .data, .sentinel, .sentinel, .pinned], laidTests := true, laidLooks := .later }
def MvsLeastCardSaid : Prop := Claim7.holds Tryz.pinned (.plain (OpenSpec.ofChange mvsLeastSpec)) mvsLeastCard

/-- THE TIED CARD OF 'armadalaw17.MvsUps'. -/
def mvsUpsCard : Claim7 := { stood := { row := mvsUpsRow, standIns := [], harness := (true, "5949cf66e13fd1f391be309675234d90056db7f2d948a31634a7fe3da95e5fd9"), looks := true }, kinds := [], alts := [], laidByText := true, laidKinds := [.data, .data, .data, .data, .sentinel, .sentinel, .pinned], laidTests := true, laidLooks := .later }
def MvsUpsCardSaid : Prop := Claim7.holds Tryz.pinned (.plain (OpenSpec.ofChange mvsUpsSpec)) mvsUpsCard

/-- THE TIED CARD OF 'armadalaw17.MvsDowns'. -/
def mvsDownsCard : Claim7 := { stood := { row := mvsDownsRow, standIns := [], harness := (true, "5949cf66e13fd1f391be309675234d90056db7f2d948a31634a7fe3da95e5fd9"), looks := true }, kinds := [], alts := [], laidByText := true, laidKinds := [.data, .data, .data, .data, .sentinel, .sentinel, .pinned], laidTests := true, laidLooks := .later }
def MvsDownsCardSaid : Prop := Claim7.holds Tryz.pinned (.plain (OpenSpec.ofChange mvsDownsSpec)) mvsDownsCard

/-- THE TIED CARD OF 'armadalaw17.MvsRoots'. -/
def mvsRootsCard : Claim7 := { stood := { row := mvsRootsRow, standIns := [], harness := (true, "5949cf66e13fd1f391be309675234d90056db7f2d948a31634a7fe3da95e5fd9"), looks := true }, kinds := [], alts := [], laidByText := true, laidKinds := [.data, .data, .data, .data, .sentinel, .sentinel, .pinned], laidTests := true, laidLooks := .later }
def MvsRootsCardSaid : Prop := Claim7.holds Tryz.pinned (.plain (OpenSpec.ofChange mvsRootsSpec)) mvsRootsCard

/-- THE TIED CARD OF 'armadalaw17.MvsAgain'. -/
def mvsAgainCard : Claim7 := { stood := { row := mvsAgainRow, standIns := [], harness := (true, "5949cf66e13fd1f391be309675234d90056db7f2d948a31634a7fe3da95e5fd9"), looks := true }, kinds := [], alts := [], laidByText := true, laidKinds := [.data, .data, .data, .data, .sentinel, .sentinel, .pinned], laidTests := true, laidLooks := .later }
def MvsAgainCardSaid : Prop := Claim7.holds Tryz.pinned (.plain (OpenSpec.ofChange mvsAgainSpec)) mvsAgainCard

/-- THE TIED CARD OF 'armadalaw17.MvsAlone'. -/
def mvsAloneCard : Claim7 := { stood := { row := mvsAloneRow, standIns := [], harness := (true, "5949cf66e13fd1f391be309675234d90056db7f2d948a31634a7fe3da95e5fd9"), looks := true }, kinds := [], alts := [], laidByText := true, laidKinds := [.data, .data, .data, .data, .sentinel, .sentinel, .pinned], laidTests := true, laidLooks := .later }
def MvsAloneCardSaid : Prop := Claim7.holds Tryz.pinned (.plain (OpenSpec.ofChange mvsAloneSpec)) mvsAloneCard

/-- THE TIED CARD OF 'armadalaw17.MvsFewer'. -/
def mvsFewerCard : Claim7 := { stood := { row := mvsFewerRow, standIns := [], harness := (true, "5949cf66e13fd1f391be309675234d90056db7f2d948a31634a7fe3da95e5fd9"), looks := true }, kinds := [], alts := [], laidByText := true, laidKinds := [.data, .data, .data, .data, .sentinel, .sentinel, .pinned], laidTests := true, laidLooks := .later }
def MvsFewerCardSaid : Prop := Claim7.holds Tryz.pinned (.plain (OpenSpec.ofChange mvsFewerSpec)) mvsFewerCard

/-- THE SECOND FORM's CARD OF 'armadalaw17.MvsTells'. -/
def mvsTellsUptoCard : Claim7 := { stood := { row := mvsTellsUptoRow, standIns := [], harness := (true, "5949cf66e13fd1f391be309675234d90056db7f2d948a31634a7fe3da95e5fd9"), looks := true }, kinds := [], alts := [], laidByText := true, laidKinds := [.data, .data, .data, .data, .sentinel, .sentinel, .pinned], laidTests := true, laidLooks := .later }
def MvsTellsUptoCardSaid : Prop := Claim7.holds Tryz.pinned (.plain (OpenSpec.upto mvsTellsSpec)) mvsTellsUptoCard

/-- THE SECOND FORM's CARD OF 'armadalaw17.MvsLeast'. -/
def mvsLeastUptoCard : Claim7 := { stood := { row := mvsLeastUptoRow, standIns := [], harness := (true, "5949cf66e13fd1f391be309675234d90056db7f2d948a31634a7fe3da95e5fd9"), looks := true }, kinds := [], alts := [], laidByText := true, laidKinds := [.data, .data, .data, .data, .sentinel, .sentinel, .pinned], laidTests := true, laidLooks := .later }
def MvsLeastUptoCardSaid : Prop := Claim7.holds Tryz.pinned (.plain (OpenSpec.upto mvsLeastSpec)) mvsLeastUptoCard

/-- THE SECOND FORM's CARD OF 'armadalaw17.MvsUps'. -/
def mvsUpsUptoCard : Claim7 := { stood := { row := mvsUpsUptoRow, standIns := [], harness := (true, "5949cf66e13fd1f391be309675234d90056db7f2d948a31634a7fe3da95e5fd9"), looks := true }, kinds := [], alts := [], laidByText := true, laidKinds := [.data, .data, .data, .data, .sentinel, .sentinel, .pinned], laidTests := true, laidLooks := .later }
def MvsUpsUptoCardSaid : Prop := Claim7.holds Tryz.pinned (.plain (OpenSpec.upto mvsUpsSpec)) mvsUpsUptoCard

/-- THE SECOND FORM's CARD OF 'armadalaw17.MvsDowns'. -/
def mvsDownsUptoCard : Claim7 := { stood := { row := mvsDownsUptoRow, standIns := [], harness := (true, "5949cf66e13fd1f391be309675234d90056db7f2d948a31634a7fe3da95e5fd9"), looks := true }, kinds := [], alts := [], laidByText := true, laidKinds := [.data, .data, .data, .data, .sentinel, .sentinel, .pinned], laidTests := true, laidLooks := .later }
def MvsDownsUptoCardSaid : Prop := Claim7.holds Tryz.pinned (.plain (OpenSpec.upto mvsDownsSpec)) mvsDownsUptoCard

/-- THE SECOND FORM's CARD OF 'armadalaw17.MvsRoots'. -/
def mvsRootsUptoCard : Claim7 := { stood := { row := mvsRootsUptoRow, standIns := [], harness := (true, "5949cf66e13fd1f391be309675234d90056db7f2d948a31634a7fe3da95e5fd9"), looks := true }, kinds := [], alts := [], laidByText := true, laidKinds := [.data, .data, .data, .data, .sentinel, .sentinel, .pinned], laidTests := true, laidLooks := .later }
def MvsRootsUptoCardSaid : Prop := Claim7.holds Tryz.pinned (.plain (OpenSpec.upto mvsRootsSpec)) mvsRootsUptoCard

/-- THE SECOND FORM's CARD OF 'armadalaw17.MvsAgain'. -/
def mvsAgainUptoCard : Claim7 := { stood := { row := mvsAgainUptoRow, standIns := [], harness := (true, "5949cf66e13fd1f391be309675234d90056db7f2d948a31634a7fe3da95e5fd9"), looks := true }, kinds := [], alts := [], laidByText := true, laidKinds := [.data, .data, .data, .data, .sentinel, .sentinel, .pinned], laidTests := true, laidLooks := .later }
def MvsAgainUptoCardSaid : Prop := Claim7.holds Tryz.pinned (.plain (OpenSpec.upto mvsAgainSpec)) mvsAgainUptoCard

/-- THE SECOND FORM's CARD OF 'armadalaw17.MvsAlone'. -/
def mvsAloneUptoCard : Claim7 := { stood := { row := mvsAloneUptoRow, standIns := [], harness := (true, "5949cf66e13fd1f391be309675234d90056db7f2d948a31634a7fe3da95e5fd9"), looks := true }, kinds := [], alts := [], laidByText := true, laidKinds := [.data, .data, .data, .data, .sentinel, .sentinel, .pinned], laidTests := true, laidLooks := .later }
def MvsAloneUptoCardSaid : Prop := Claim7.holds Tryz.pinned (.plain (OpenSpec.upto mvsAloneSpec)) mvsAloneUptoCard

/-- THE SECOND FORM's CARD OF 'armadalaw17.MvsFewer'. -/
def mvsFewerUptoCard : Claim7 := { stood := { row := mvsFewerUptoRow, standIns := [], harness := (true, "5949cf66e13fd1f391be309675234d90056db7f2d948a31634a7fe3da95e5fd9"), looks := true }, kinds := [], alts := [], laidByText := true, laidKinds := [.data, .data, .data, .data, .sentinel, .sentinel, .pinned], laidTests := true, laidLooks := .later }
def MvsFewerUptoCardSaid : Prop := Claim7.holds Tryz.pinned (.plain (OpenSpec.upto mvsFewerSpec)) mvsFewerUptoCard
end Rows
end Go.Proofs.YtkidfclnakbgiaaGreatDoor
