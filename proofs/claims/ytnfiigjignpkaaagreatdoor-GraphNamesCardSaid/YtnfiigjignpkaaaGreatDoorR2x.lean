-- Written by a program of this place (myprint.py) out of the translation. Not trusted: Lean checks it.
import Derived.Test.YtnfiigjignpkaaaGreatDoorR2x0
import Derived.Test.YtnfiigjignpkaaaGreatDoorR2x1
namespace Go.Proofs.YtnfiigjignpkaaaGreatDoor.R2
open Go.RowKit Go.Proofs.YtnfiigjignpkaaaGreatDoor Go.Proofs.YtnfiigjignpkaaaGreatDoor.K0 Go.Proofs.YtnfiigjignpkaaaGreatDoor.R1 Go.Proofs.YtnfiigjignpkaaaGreatDoorW.PrintWords Go.Proofs.YtnfiigjignpkaaaGreatDoorW.PrintLast Go.Proofs.YtnfiigjignpkaaaGreatDoorW.PrintMore
attribute [local go_sem] max2_int min2_int max_two min_two max_three min_three max_four min_four   -- for this text's walks alone
set_option linter.unusedVariables false
set_option linter.unusedSimpArgs false

end Go.Proofs.YtnfiigjignpkaaaGreatDoor.R2
