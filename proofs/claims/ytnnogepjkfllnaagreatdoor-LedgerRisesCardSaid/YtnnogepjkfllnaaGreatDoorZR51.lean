/- The texts LRisesx0 in one file, without what this claim does not use (put together by prune.py). -/
import Derived.Test.YtnnogepjkfllnaaGreatDoorZR6
import Derived.Test.YtnnogepjkfllnaaGreatDoorZR7
import Derived.Test.YtnnogepjkfllnaaGreatDoorZR10
import Derived.Test.YtnnogepjkfllnaaGreatDoorZR17
import Derived.Test.YtnnogepjkfllnaaGreatDoorZR20
import Derived.Test.YtnnogepjkfllnaaGreatDoorZR25
import Derived.Test.YtnnogepjkfllnaaGreatDoorZR34
import Derived.Test.YtnnogepjkfllnaaGreatDoorZR36
import Derived.Test.YtnnogepjkfllnaaGreatDoorZR47
import Derived.Test.YtnnogepjkfllnaaGreatDoorZR37
section
namespace Go.Proofs.YtnnogepjkfllnaaGreatDoor.LRises
open Go.RowKit Go.Proofs.YtnnogepjkfllnaaGreatDoor Go.Proofs.YtnnogepjkfllnaaGreatDoor.K0 Go.Proofs.YtnnogepjkfllnaaGreatDoor.R1 Go.Proofs.YtnnogepjkfllnaaGreatDoor.R2 Go.Proofs.YtnnogepjkfllnaaGreatDoor.R3 Go.Proofs.YtnnogepjkfllnaaGreatDoor.R4 Go.Proofs.YtnnogepjkfllnaaGreatDoor.R5 Go.Proofs.YtnnogepjkfllnaaGreatDoor.RS Go.Proofs.YtnnogepjkfllnaaGreatDoor.RD Go.Proofs.YtnnogepjkfllnaaGreatDoorW.PrintWords Go.Proofs.YtnnogepjkfllnaaGreatDoorW.PrintLast Go.Proofs.YtnnogepjkfllnaaGreatDoorW.PrintMore
attribute [local go_sem] max2_int min2_int max_two min_two max_three min_three max_four min_four
set_option linter.unusedVariables false
set_option linter.unusedSimpArgs false
end Go.Proofs.YtnnogepjkfllnaaGreatDoor.LRises
end
