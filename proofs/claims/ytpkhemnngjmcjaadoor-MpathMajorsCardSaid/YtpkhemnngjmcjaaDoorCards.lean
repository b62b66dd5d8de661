/-
  DERIVED. GIVEN WITH THE SEED: THE CARDS: each row of YtpkhemnngjmcjaaDoorRows.lean that lists a variable, with what it lists TIED to the program's text (the seventh form; the later family's looks); each row that meets fmt, with fmt's text TOLD by the authors' own Lean function (tested against real Go, not proved from fmt's source: count such statements apart). THE CARD IS WHAT COUNTS. Prove the row's statement (the work); the ties are given (YtpkhemnngjmcjaaDoorTie.lean); close each card by the builder's one call (the guide's Derived/Test/ToyasCard.lean, 'card_holds'). Laid BY PROGRAM, IN A SANDBOX (cutbox-door.mjs). By AI agents, Wed Nov 11 2026. No macro, syntax, notation, axiom, sorry.
-/
import Derived.Test.YtpkhemnngjmcjaaDoorRows
import GoSem.ClaimSeven
namespace Go.Proofs.YtpkhemnngjmcjaaDoor
namespace Rows

/-- THE TIED CARD OF 'armadalaw08.MpathMajors'. -/
def mpathMajorsCard : Claim7 := { stood := { row := mpathMajorsRow, standIns := [], harness := (true, "0ab6c8be288a0e4b9ae35fd56e8828ff82b3edbbc70c4b84e32c15c3f36d97f6"), looks := true }, kinds := [], alts := [], laidByText := true, laidKinds := [.data, .data, .data, .data, .sentinel, .sentinel, .pinned], laidTests := true, laidLooks := .later }
def MpathMajorsCardSaid : Prop := Claim7.holds Tryd.pinned (.plain (OpenSpec.ofChange mpathMajorsSpec)) mpathMajorsCard

/-- THE TIED CARD OF 'armadalaw08.MpathParts'. -/
def mpathPartsCard : Claim7 := { stood := { row := mpathPartsRow, standIns := [], harness := (true, "0ab6c8be288a0e4b9ae35fd56e8828ff82b3edbbc70c4b84e32c15c3f36d97f6"), looks := true }, kinds := [], alts := [], laidByText := true, laidKinds := [.data, .data, .data, .data, .sentinel, .sentinel, .pinned], laidTests := true, laidLooks := .later }
def MpathPartsCardSaid : Prop := Claim7.holds Tryd.pinned (.plain (OpenSpec.ofChange mpathPartsSpec)) mpathPartsCard

/-- THE SECOND FORM's CARD OF 'armadalaw08.MpathMajors'. -/
def mpathMajorsUptoCard : Claim7 := { stood := { row := mpathMajorsUptoRow, standIns := [], harness := (true, "0ab6c8be288a0e4b9ae35fd56e8828ff82b3edbbc70c4b84e32c15c3f36d97f6"), looks := true }, kinds := [], alts := [], laidByText := true, laidKinds := [.data, .data, .data, .data, .sentinel, .sentinel, .pinned], laidTests := true, laidLooks := .later }
def MpathMajorsUptoCardSaid : Prop := Claim7.holds Tryd.pinned (.plain (OpenSpec.upto mpathMajorsSpec)) mpathMajorsUptoCard

/-- THE SECOND FORM's CARD OF 'armadalaw08.MpathParts'. -/
def mpathPartsUptoCard : Claim7 := { stood := { row := mpathPartsUptoRow, standIns := [], harness := (true, "0ab6c8be288a0e4b9ae35fd56e8828ff82b3edbbc70c4b84e32c15c3f36d97f6"), looks := true }, kinds := [], alts := [], laidByText := true, laidKinds := [.data, .data, .data, .data, .sentinel, .sentinel, .pinned], laidTests := true, laidLooks := .later }
def MpathPartsUptoCardSaid : Prop := Claim7.holds Tryd.pinned (.plain (OpenSpec.upto mpathPartsSpec)) mpathPartsUptoCard
end Rows
end Go.Proofs.YtpkhemnngjmcjaaDoor
