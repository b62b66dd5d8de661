/-
  DERIVED. GIVEN WITH THE SEED: THE CARDS: each row of YtnnogepjkfllnaaGreatDoorRows.lean that lists a variable, with what it lists TIED to the program's text (the seventh form; the later family's looks); each row that meets fmt, with fmt's text TOLD by the authors' own Lean function (tested against real Go, not proved from fmt's source: count such statements apart). THE CARD IS WHAT COUNTS. Prove the row's statement (the work); the ties are given (YtnnogepjkfllnaaGreatDoorTie.lean); close each card by the builder's one call (the guide's Derived/Test/ToyasCard.lean, 'card_holds'). Laid BY PROGRAM, IN A SANDBOX (cutbox-door.mjs). By AI agents, Wed Nov 11 2026. No macro, syntax, notation, axiom, sorry.
-/
import Derived.Test.YtnnogepjkfllnaaGreatDoorRows
import GoSem.ClaimSeven
namespace Go.Proofs.YtnnogepjkfllnaaGreatDoor
namespace Rows

/-- THE TIED CARD OF 'armadalaw15.LedgerParses'. -/
def ledgerParsesCard : Claim7 := { stood := { row := ledgerParsesRow, standIns := [], harness := (true, "467e72078bdb4086deb25c68794a13b6caf9d6440c40e548494a61aec24032e9"), looks := true }, kinds := [], alts := [], laidByText := true, laidKinds := [.data, .data, .data, .data, .sentinel, .sentinel, .pinned], laidTests := true, laidLooks := .later }
def LedgerParsesCardSaid : Prop := Claim7.holds Tryz.pinned (.plain (OpenSpec.ofChange ledgerParsesSpec)) ledgerParsesCard

/-- THE TIED CARD OF 'armadalaw15.LedgerTells'. -/
def ledgerTellsCard : Claim7 := { stood := { row := ledgerTellsRow, standIns := [], harness := (true, "467e72078bdb4086deb25c68794a13b6caf9d6440c40e548494a61aec24032e9"), looks := true }, kinds := [], alts := [], laidByText := true, laidKinds := [.data, .data, .data, .data, .sentinel, .sentinel, .pinned], laidTests := true, laidLooks := .later }
def LedgerTellsCardSaid : Prop := Claim7.holds Tryz.pinned (.plain (OpenSpec.ofChange ledgerTellsSpec)) ledgerTellsCard

/-- THE TIED CARD OF 'armadalaw15.LedgerBack'. -/
def ledgerBackCard : Claim7 := { stood := { row := ledgerBackRow, standIns := [], harness := (true, "467e72078bdb4086deb25c68794a13b6caf9d6440c40e548494a61aec24032e9"), looks := true }, kinds := [], alts := [], laidByText := true, laidKinds := [.data, .data, .data, .data, .sentinel, .sentinel, .pinned], laidTests := true, laidLooks := .later }
def LedgerBackCardSaid : Prop := Claim7.holds Tryz.pinned (.plain (OpenSpec.ofChange ledgerBackSpec)) ledgerBackCard

/-- THE TIED CARD OF 'armadalaw15.LedgerGrows'. -/
def ledgerGrowsCard : Claim7 := { stood := { row := ledgerGrowsRow, standIns := [], harness := (true, "467e72078bdb4086deb25c68794a13b6caf9d6440c40e548494a61aec24032e9"), looks := true }, kinds := [], alts := [], laidByText := true, laidKinds := [.data, .data, .data, .data, .sentinel, .sentinel, .pinned], laidTests := true, laidLooks := .later }
def LedgerGrowsCardSaid : Prop := Claim7.holds Tryz.pinned (.plain (OpenSpec.ofChange ledgerGrowsSpec)) ledgerGrowsCard

/-- THE TIED CARD OF 'armadalaw15.LedgerCut'. -/
def ledgerCutCard : Claim7 := { stood := { row := ledgerCutRow, standIns := [], harness := (true, "467e72078bdb4086deb25c68794a13b6caf9d6440c40e548494a61aec24032e9"), looks := true }, kinds := [], alts := [], laidByText := true, laidKinds := [.data, .data, .data, .data, .sentinel, .sentinel, .pinned], laidTests := true, laidLooks := .later }
def LedgerCutCardSaid : Prop := Claim7.holds Tryz.pinned (.plain (OpenSpec.ofChange ledgerCutSpec)) ledgerCutCard

/-- THE TIED CARD OF 'armadalaw15.LedgerRises'. -/
def ledgerRisesCard : Claim7 := { stood := { row := ledgerRisesRow, standIns := [], harness := (true, "467e72078bdb4086deb25c68794a13b6caf9d6440c40e548494a61aec24032e9"), looks := true }, kinds := [], alts := [], laidByText := true, laidKinds := [.data, .data, .data, .data, .sentinel, .sentinel, .pinned], laidTests := true, laidLooks := .later }
def LedgerRisesCardSaid : Prop := Claim7.holds Tryz.pinned (.plain (OpenSpec.ofChange ledgerRisesSpec)) ledgerRisesCard

/-- THE SECOND FORM's CARD OF 'armadalaw15.LedgerParses'. -/
def ledgerParsesUptoCard : Claim7 := { stood := { row := ledgerParsesUptoRow, standIns := [], harness := (true, "467e72078bdb4086deb25c68794a13b6caf9d6440c40e548494a61aec24032e9"), looks := true }, kinds := [], alts := [], laidByText := true, laidKinds := [.data, .data, .data, .data, .sentinel, .sentinel, .pinned], laidTests := true, laidLooks := .later }
def LedgerParsesUptoCardSaid : Prop := Claim7.holds Tryz.pinned (.plain (OpenSpec.upto ledgerParsesSpec)) ledgerParsesUptoCard

/-- THE SECOND FORM's CARD OF 'armadalaw15.LedgerTells'. -/
def ledgerTellsUptoCard : Claim7 := { stood := { row := ledgerTellsUptoRow, standIns := [], harness := (true, "467e72078bdb4086deb25c68794a13b6caf9d6440c40e548494a61aec24032e9"), looks := true }, kinds := [], alts := [], laidByText := true, laidKinds := [.data, .data, .data, .data, .sentinel, .sentinel, .pinned], laidTests := true, laidLooks := .later }
def LedgerTellsUptoCardSaid : Prop := Claim7.holds Tryz.pinned (.plain (OpenSpec.upto ledgerTellsSpec)) ledgerTellsUptoCard

/-- THE SECOND FORM's CARD OF 'armadalaw15.LedgerBack'. -/
def ledgerBackUptoCard : Claim7 := { stood := { row := ledgerBackUptoRow, standIns := [], harness := (true, "467e72078bdb4086deb25c68794a13b6caf9d6440c40e548494a61aec24032e9"), looks := true }, kinds := [], alts := [], laidByText := true, laidKinds := [.data, .data, .data, .data, .sentinel, .sentinel, .pinned], laidTests := true, laidLooks := .later }
def LedgerBackUptoCardSaid : Prop := Claim7.holds Tryz.pinned (.plain (OpenSpec.upto ledgerBackSpec)) ledgerBackUptoCard

/-- THE SECOND FORM's CARD OF 'armadalaw15.LedgerGrows'. -/
def ledgerGrowsUptoCard : Claim7 := { stood := { row := ledgerGrowsUptoRow, standIns := [], harness := (true, "467e72078bdb4086deb25c68794a13b6caf9d6440c40e548494a61aec24032e9"), looks := true }, kinds := [], alts := [], laidByText := true, laidKinds := [.data, .data, .data, .data, .sentinel, .sentinel, .pinned], laidTests := true, laidLooks := .later }
def LedgerGrowsUptoCardSaid : Prop := Claim7.holds Tryz.pinned (.plain (OpenSpec.upto ledgerGrowsSpec)) ledgerGrowsUptoCard

/-- THE SECOND FORM's CARD OF 'armadalaw15.LedgerCut'. -/
def ledgerCutUptoCard : Claim7 := { stood := { row := ledgerCutUptoRow, standIns := [], harness := (true, "467e72078bdb4086deb25c68794a13b6caf9d6440c40e548494a61aec24032e9"), looks := true }, kinds := [], alts := [], laidByText := true, laidKinds := [.data, .data, .data, .data, .sentinel, .sentinel, .pinned], laidTests := true, laidLooks := .later }
def LedgerCutUptoCardSaid : Prop := Claim7.holds Tryz.pinned (.plain (OpenSpec.upto ledgerCutSpec)) ledgerCutUptoCard

/-- THE SECOND FORM's CARD OF 'armadalaw15.LedgerRises'. -/
def ledgerRisesUptoCard : Claim7 := { stood := { row := ledgerRisesUptoRow, standIns := [], harness := (true, "467e72078bdb4086deb25c68794a13b6caf9d6440c40e548494a61aec24032e9"), looks := true }, kinds := [], alts := [], laidByText := true, laidKinds := [.data, .data, .data, .data, .sentinel, .sentinel, .pinned], laidTests := true, laidLooks := .later }
def LedgerRisesUptoCardSaid : Prop := Claim7.holds Tryz.pinned (.plain (OpenSpec.upto ledgerRisesSpec)) ledgerRisesUptoCard
end Rows
end Go.Proofs.YtnnogepjkfllnaaGreatDoor
