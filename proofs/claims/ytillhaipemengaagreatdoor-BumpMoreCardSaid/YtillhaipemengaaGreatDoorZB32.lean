/- The texts RBx0 in one file, without what these claims do not use (put together by prune2.py). -/
import Derived.Test.YtillhaipemengaaGreatDoorZB5
import Derived.Test.YtillhaipemengaaGreatDoorZB6
import Derived.Test.YtillhaipemengaaGreatDoorZB8
import Derived.Test.YtillhaipemengaaGreatDoorZB16
import Derived.Test.YtillhaipemengaaGreatDoorZB27
import Derived.Test.YtillhaipemengaaGreatDoorZB30
import Derived.Test.YtillhaipemengaaGreatDoorZB28
import Derived.Test.YtillhaipemengaaGreatDoorZB14
import Derived.Test.YtillhaipemengaaGreatDoorZB13
section
namespace Go.Proofs.YtillhaipemengaaGreatDoor.RB
open Go.RowKit Go.Proofs.YtillhaipemengaaGreatDoor Go.Proofs.YtillhaipemengaaGreatDoor.K0 Go.Proofs.YtillhaipemengaaGreatDoor.R1 Go.Proofs.YtillhaipemengaaGreatDoor.R2 Go.Proofs.YtillhaipemengaaGreatDoor.R3 Go.Proofs.YtillhaipemengaaGreatDoor.R4 Go.Proofs.YtillhaipemengaaGreatDoorW.PrintWords Go.Proofs.YtillhaipemengaaGreatDoorW.PrintLast Go.Proofs.YtillhaipemengaaGreatDoorW.PrintMore
attribute [local go_sem] max2_int min2_int max_two min_two max_three min_three max_four min_four
set_option linter.unusedVariables false
set_option linter.unusedSimpArgs false
end Go.Proofs.YtillhaipemengaaGreatDoor.RB
end
