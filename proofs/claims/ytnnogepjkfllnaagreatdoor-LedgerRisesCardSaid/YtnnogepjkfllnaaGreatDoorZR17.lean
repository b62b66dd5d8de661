/- The texts R2x, R3x0 in one file, without what this claim does not use (put together by prune.py). -/
import Derived.Test.YtnnogepjkfllnaaGreatDoorZR15
import Derived.Test.YtnnogepjkfllnaaGreatDoorZR16
import Derived.Test.YtnnogepjkfllnaaGreatDoorZR6
import Derived.Test.YtnnogepjkfllnaaGreatDoorZR7
import Derived.Test.YtnnogepjkfllnaaGreatDoorZR10
import Derived.Test.YtnnogepjkfllnaaGreatDoorZR12
import Derived.Test.YtnnogepjkfllnaaGreatDoorZR14
section
namespace Go.Proofs.YtnnogepjkfllnaaGreatDoor.R2
open Go.RowKit Go.Proofs.YtnnogepjkfllnaaGreatDoor Go.Proofs.YtnnogepjkfllnaaGreatDoor.K0 Go.Proofs.YtnnogepjkfllnaaGreatDoor.R1 Go.Proofs.YtnnogepjkfllnaaGreatDoorW.PrintWords Go.Proofs.YtnnogepjkfllnaaGreatDoorW.PrintLast Go.Proofs.YtnnogepjkfllnaaGreatDoorW.PrintMore
attribute [local go_sem] max2_int min2_int max_two min_two max_three min_three max_four min_four
set_option linter.unusedVariables false
set_option linter.unusedSimpArgs false
end Go.Proofs.YtnnogepjkfllnaaGreatDoor.R2
end

section
namespace Go.Proofs.YtnnogepjkfllnaaGreatDoor.R3
open Go.RowKit Go.Proofs.YtnnogepjkfllnaaGreatDoor Go.Proofs.YtnnogepjkfllnaaGreatDoor.K0 Go.Proofs.YtnnogepjkfllnaaGreatDoor.R1 Go.Proofs.YtnnogepjkfllnaaGreatDoorW.PrintWords Go.Proofs.YtnnogepjkfllnaaGreatDoorW.PrintLast Go.Proofs.YtnnogepjkfllnaaGreatDoorW.PrintMore
attribute [local go_sem] max2_int min2_int max_two min_two max_three min_three max_four min_four
set_option linter.unusedVariables false
set_option linter.unusedSimpArgs false
end Go.Proofs.YtnnogepjkfllnaaGreatDoor.R3
end
