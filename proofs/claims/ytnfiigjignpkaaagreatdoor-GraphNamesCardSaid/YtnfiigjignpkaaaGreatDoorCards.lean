/-
  DERIVED. GIVEN WITH THE SEED: THE CARDS: each row of YtnfiigjignpkaaaGreatDoorRows.lean that lists a variable, with what it lists TIED to the program's text (the seventh form; the later family's looks); each row that meets fmt, with fmt's text TOLD by the authors' own Lean function (tested against real Go, not proved from fmt's source: count such statements apart). THE CARD IS WHAT COUNTS. Prove the row's statement (the work); the ties are given (YtnfiigjignpkaaaGreatDoorTie.lean); close each card by the builder's one call (the guide's Derived/Test/ToyasCard.lean, 'card_holds'). Laid BY PROGRAM, IN A SANDBOX (cutbox-door.mjs). By AI agents, Wed Nov 11 2026. No macro, syntax, notation, axiom, sorry.
-/
import Derived.Test.YtnfiigjignpkaaaGreatDoorRows
import GoSem.ClaimSeven
namespace Go.Proofs.YtnfiigjignpkaaaGreatDoor
namespace Rows

/-- THE TIED CARD OF 'armadalaw16.GraphTells'. -/
def graphTellsCard : Claim7 := { stood := { row := graphTellsRow, standIns := [], harness := (true, "f76865aebec105446824ef4fc250f5829d81d697fd31bf23389957d1582360a2"), looks := true }, kinds := [], alts := [], laidByText := true, laidKinds := [.data, .data, .data, .data, .sentinel, .sentinel, .pinned], laidTests := true, laidLooks := .later }
def GraphTellsCardSaid : Prop := Claim7.holds Tryz.pinned (.plain (OpenSpec.ofChange graphTellsSpec)) graphTellsCard

/-- THE TIED CARD OF 'armadalaw16.GraphOrder'. -/
def graphOrderCard : Claim7 := { stood := { row := graphOrderRow, standIns := [], harness := (true, "f76865aebec105446824ef4fc250f5829d81d697fd31bf23389957d1582360a2"), looks := true }, kinds := [], alts := [], laidByText := true, laidKinds := [.data, .data, .data, .data, .sentinel, .sentinel, .pinned], laidTests := true, laidLooks := .later }
def GraphOrderCardSaid : Prop := Claim7.holds Tryz.pinned (.plain (OpenSpec.ofChange graphOrderSpec)) graphOrderCard

/-- THE TIED CARD OF 'armadalaw16.GraphUp'. -/
def graphUpCard : Claim7 := { stood := { row := graphUpRow, standIns := [], harness := (true, "f76865aebec105446824ef4fc250f5829d81d697fd31bf23389957d1582360a2"), looks := true }, kinds := [], alts := [], laidByText := true, laidKinds := [.data, .data, .data, .data, .sentinel, .sentinel, .pinned], laidTests := true, laidLooks := .later }
def GraphUpCardSaid : Prop := Claim7.holds Tryz.pinned (.plain (OpenSpec.ofChange graphUpSpec)) graphUpCard

/-- THE TIED CARD OF 'armadalaw16.GraphMore'. -/
def graphMoreCard : Claim7 := { stood := { row := graphMoreRow, standIns := [], harness := (true, "f76865aebec105446824ef4fc250f5829d81d697fd31bf23389957d1582360a2"), looks := true }, kinds := [], alts := [], laidByText := true, laidKinds := [.data, .data, .data, .data, .sentinel, .sentinel, .pinned], laidTests := true, laidLooks := .later }
def GraphMoreCardSaid : Prop := Claim7.holds Tryz.pinned (.plain (OpenSpec.ofChange graphMoreSpec)) graphMoreCard

/-- THE TIED CARD OF 'armadalaw16.GraphNames'. -/
def graphNamesCard : Claim7 := { stood := { row := graphNamesRow, standIns := [], harness := (true, "f76865aebec105446824ef4fc250f5829d81d697fd31bf23389957d1582360a2"), looks := true }, kinds := [], alts := [], laidByText := true, laidKinds := [.data, .data, .data, .data, .sentinel, .sentinel, .pinned], laidTests := true, laidLooks := .later }
def GraphNamesCardSaid : Prop := Claim7.holds Tryz.pinned (.plain (OpenSpec.ofChange graphNamesSpec)) graphNamesCard

/-- THE SECOND FORM's CARD OF 'armadalaw16.GraphTells'. -/
def graphTellsUptoCard : Claim7 := { stood := { row := graphTellsUptoRow, standIns := [], harness := (true, "f76865aebec105446824ef4fc250f5829d81d697fd31bf23389957d1582360a2"), looks := true }, kinds := [], alts := [], laidByText := true, laidKinds := [.data, .data, .data, .data, .sentinel, .sentinel, .pinned], laidTests := true, laidLooks := .later }
def GraphTellsUptoCardSaid : Prop := Claim7.holds Tryz.pinned (.plain (OpenSpec.upto graphTellsSpec)) graphTellsUptoCard

/-- THE SECOND FORM's CARD OF 'armadalaw16.GraphOrder'. -/
def graphOrderUptoCard : Claim7 := { stood := { row := graphOrderUptoRow, standIns := [], harness := (true, "f76865aebec105446824ef4fc250f5829d81d697fd31bf23389957d1582360a2"), looks := true }, kinds := [], alts := [], laidByText := true, laidKinds := [.data, .data, .data, .data, .sentinel, .sentinel, .pinned], laidTests := true, laidLooks := .later }
def GraphOrderUptoCardSaid : Prop := Claim7.holds Tryz.pinned (.plain (OpenSpec.upto graphOrderSpec)) graphOrderUptoCard

/-- THE SECOND FORM's CARD OF 'armadalaw16.GraphUp'. -/
def graphUpUptoCard : Claim7 := { stood := { row := graphUpUptoRow, standIns := [], harness := (true, "f76865aebec105446824ef4fc250f5829d81d697fd31bf23389957d1582360a2"), looks := true }, kinds := [], alts := [], laidByText := true, laidKinds := [.data, .data, .data, .data, .sentinel, .sentinel, .pinned], laidTests := true, laidLooks := .later }
def GraphUpUptoCardSaid : Prop := Claim7.holds Tryz.pinned (.plain (OpenSpec.upto graphUpSpec)) graphUpUptoCard

/-- THE SECOND FORM's CARD OF 'armadalaw16.GraphMore'. -/
def graphMoreUptoCard : Claim7 := { stood := { row := graphMoreUptoRow, standIns := [], harness := (true, "f76865aebec105446824ef4fc250f5829d81d697fd31bf23389957d1582360a2"), looks := true }, kinds := [], alts := [], laidByText := true, laidKinds := [.data, .data, .data, .data, .sentinel, .sentinel, .pinned], laidTests := true, laidLooks := .later }
def GraphMoreUptoCardSaid : Prop := Claim7.holds Tryz.pinned (.plain (OpenSpec.upto graphMoreSpec)) graphMoreUptoCard

/-- THE SECOND FORM's CARD OF 'armadalaw16.GraphNames'. -/
def graphNamesUptoCard : Claim7 := { stood := { row := graphNamesUptoRow, standIns := [], harness := (true, "f76865aebec105446824ef4fc250f5829d81d697fd31bf23389957d1582360a2"), looks := true }, kinds := [], alts := [], laidByText := true, laidKinds := [.data, .data, .data, .data, .sentinel, .sentinel, .pinned], laidTests := true, laidLooks := .later }
def GraphNamesUptoCardSaid : Prop := Claim7.holds Tryz.pinned (.plain (OpenSpec.upto graphNamesSpec)) graphNamesUptoCard
end Rows
end Go.Proofs.YtnfiigjignpkaaaGreatDoor
