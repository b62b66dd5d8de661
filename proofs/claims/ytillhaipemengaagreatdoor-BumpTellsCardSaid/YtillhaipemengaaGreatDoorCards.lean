/-
  DERIVED. GIVEN WITH THE SEED: THE CARDS: each row of YtillhaipemengaaGreatDoorRows.lean that lists a variable, with what it lists TIED to the program's text (the seventh form; the later family's looks); each row that meets fmt, with fmt's text TOLD by the authors' own Lean function (tested against real Go, not proved from fmt's source: count such statements apart). THE CARD IS WHAT COUNTS. Prove the row's statement (the work); the ties are given (YtillhaipemengaaGreatDoorTie.lean); close each card by the builder's one call (the guide's Derived/Test/ToyasCard.lean, 'card_holds'). Laid BY PROGRAM, IN A SANDBOX (cutbox-door.mjs). By AI agents, Wed Nov 11 2026. No macro, syntax, notation, axiom, sorry.
-/
import Derived.Test.YtillhaipemengaaGreatDoorRows
import GoSem.ClaimSeven
namespace Go.Proofs.YtillhaipemengaaGreatDoor
namespace Rows

/-- THE TIED CARD OF 'armadalaw18.BumpTells'. -/
def bumpTellsCard : Claim7 := { stood := { row := bumpTellsRow, standIns := [], harness := (true, "f6bb216b3d5a21fbd52da762281c3b2ade8256e45710a715403b1dc021bf5dbc"), looks := true }, kinds := [], alts := [], laidByText := true, laidKinds := [.data, .data, .data, .data, .sentinel, .sentinel, .pinned], laidTests := true, laidLooks := .later }
def BumpTellsCardSaid : Prop := Claim7.holds Tryz.pinned (.plain (OpenSpec.ofChange bumpTellsSpec)) bumpTellsCard

/-- THE TIED CARD OF 'armadalaw18.BumpReleases'. -/
def bumpReleasesCard : Claim7 := { stood := { row := bumpReleasesRow, standIns := [], harness := (true, "f6bb216b3d5a21fbd52da762281c3b2ade8256e45710a715403b1dc021bf5dbc"), looks := true }, kinds := [], alts := [], laidByText := true, laidKinds := [.data, .data, .data, .data, .sentinel, .sentinel, .pinned], laidTests := true, laidLooks := .later }
def BumpReleasesCardSaid : Prop := Claim7.holds Tryz.pinned (.plain (OpenSpec.ofChange bumpReleasesSpec)) bumpReleasesCard

/-- THE TIED CARD OF 'armadalaw18.BumpClosed'. -/
def bumpClosedCard : Claim7 := { stood := { row := bumpClosedRow, standIns := [], harness := (true, "f6bb216b3d5a21fbd52da762281c3b2ade8256e45710a715403b1dc021bf5dbc"), looks := true }, kinds := [], alts := [], laidByText := true, laidKinds := [.data, .data, .data, .data, .sentinel, .sentinel, .pinned], laidTests := true, laidLooks := .later }
def BumpClosedCardSaid : Prop := Claim7.holds Tryz.pinned (.plain (OpenSpec.ofChange bumpClosedSpec)) bumpClosedCard

/-- THE TIED CARD OF 'armadalaw18.BumpMore'. -/
def bumpMoreCard : Claim7 := { stood := { row := bumpMoreRow, standIns := [], harness := (true, "f6bb216b3d5a21fbd52da762281c3b2ade8256e45710a715403b1dc021bf5dbc"), looks := true }, kinds := [], alts := [], laidByText := true, laidKinds := [.data, .data, .data, .data, .sentinel, .sentinel, .pinned], laidTests := true, laidLooks := .later }
def BumpMoreCardSaid : Prop := Claim7.holds Tryz.pinned (.plain (OpenSpec.ofChange bumpMoreSpec)) bumpMoreCard

/-- THE TIED CARD OF 'armadalaw18.BumpEdits'. -/
def bumpEditsCard : Claim7 := { stood := { row := bumpEditsRow, standIns := [], harness := (true, "f6bb216b3d5a21fbd52da762281c3b2ade8256e45710a715403b1dc021bf5dbc"), looks := true }, kinds := [], alts := [], laidByText := true, laidKinds := [.data, .data, .data, .data, .sentinel, .sentinel, .pinned], laidTests := true, laidLooks := .later }
def BumpEditsCardSaid : Prop := Claim7.holds Tryz.pinned (.plain (OpenSpec.ofChange bumpEditsSpec)) bumpEditsCard

/-- THE SECOND FORM's CARD OF 'armadalaw18.BumpTells'. -/
def bumpTellsUptoCard : Claim7 := { stood := { row := bumpTellsUptoRow, standIns := [], harness := (true, "f6bb216b3d5a21fbd52da762281c3b2ade8256e45710a715403b1dc021bf5dbc"), looks := true }, kinds := [], alts := [], laidByText := true, laidKinds := [.data, .data, .data, .data, .sentinel, .sentinel, .pinned], laidTests := true, laidLooks := .later }
def BumpTellsUptoCardSaid : Prop := Claim7.holds Tryz.pinned (.plain (OpenSpec.upto bumpTellsSpec)) bumpTellsUptoCard

/-- THE SECOND FORM's CARD OF 'armadalaw18.BumpReleases'. -/
def bumpReleasesUptoCard : Claim7 := { stood := { row := bumpReleasesUptoRow, standIns := [], harness := (true, "f6bb216b3d5a21fbd52da762281c3b2ade8256e45710a715403b1dc021bf5dbc"), looks := true }, kinds := [], alts := [], laidByText := true, laidKinds := [.data, .data, .data, .data, .sentinel, .sentinel, .pinned], laidTests := true, laidLooks := .later }
def BumpReleasesUptoCardSaid : Prop := Claim7.holds Tryz.pinned (.plain (OpenSpec.upto bumpReleasesSpec)) bumpReleasesUptoCard

/-- THE SECOND FORM's CARD OF 'armadalaw18.BumpClosed'. -/
def bumpClosedUptoCard : Claim7 := { stood := { row := bumpClosedUptoRow, standIns := [], harness := (true, "f6bb216b3d5a21fbd52da762281c3b2ade8256e45710a715403b1dc021bf5dbc"), looks := true }, kinds := [], alts := [], laidByText := true, laidKinds := [.data, .data, .data, .data, .sentinel, .sentinel, .pinned], laidTests := true, laidLooks := .later }
def BumpClosedUptoCardSaid : Prop := Claim7.holds Tryz.pinned (.plain (OpenSpec.upto bumpClosedSpec)) bumpClosedUptoCard

/-- THE SECOND FORM's CARD OF 'armadalaw18.BumpMore'. -/
def bumpMoreUptoCard : Claim7 := { stood := { row := bumpMoreUptoRow, standIns := [], harness := (true, "f6bb216b3d5a21fbd52da762281c3b2ade8256e45710a715403b1dc021bf5dbc"), looks := true }, kinds := [], alts := [], laidByText := true, laidKinds := [.data, .data, .data, .data, .sentinel, .sentinel, .pinned], laidTests := true, laidLooks := .later }
def BumpMoreUptoCardSaid : Prop := Claim7.holds Tryz.pinned (.plain (OpenSpec.upto bumpMoreSpec)) bumpMoreUptoCard

/-- THE SECOND FORM's CARD OF 'armadalaw18.BumpEdits'. -/
def bumpEditsUptoCard : Claim7 := { stood := { row := bumpEditsUptoRow, standIns := [], harness := (true, "f6bb216b3d5a21fbd52da762281c3b2ade8256e45710a715403b1dc021bf5dbc"), looks := true }, kinds := [], alts := [], laidByText := true, laidKinds := [.data, .data, .data, .data, .sentinel, .sentinel, .pinned], laidTests := true, laidLooks := .later }
def BumpEditsUptoCardSaid : Prop := Claim7.holds Tryz.pinned (.plain (OpenSpec.upto bumpEditsSpec)) bumpEditsUptoCard
end Rows
end Go.Proofs.YtillhaipemengaaGreatDoor
