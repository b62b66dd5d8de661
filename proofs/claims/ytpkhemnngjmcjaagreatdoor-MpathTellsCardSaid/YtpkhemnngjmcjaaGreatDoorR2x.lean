-- Written by a program of this place (myprint.py) out of the translation. Not trusted: Lean checks it.
import Derived.Test.YtpkhemnngjmcjaaGreatDoorR2x0
import Derived.Test.YtpkhemnngjmcjaaGreatDoorR2x1
import Derived.Test.YtpkhemnngjmcjaaGreatDoorR2x2
import Derived.Test.YtpkhemnngjmcjaaGreatDoorR2x3
namespace Go.Proofs.YtpkhemnngjmcjaaGreatDoor.R2
open Go.RowKit Go.Proofs.YtpkhemnngjmcjaaGreatDoor Go.Proofs.YtpkhemnngjmcjaaGreatDoor.K0 Go.Proofs.YtpkhemnngjmcjaaGreatDoor.R1 Go.Proofs.YtpkhemnngjmcjaaGreatDoorW.PrintWords Go.Proofs.YtpkhemnngjmcjaaGreatDoorW.PrintLast Go.Proofs.YtpkhemnngjmcjaaGreatDoorW.PrintMore
attribute [local go_sem] max2_int min2_int max_two min_two max_three min_three max_four min_four   -- for this text's walks alone
set_option linter.unusedVariables false
set_option linter.unusedSimpArgs false

end Go.Proofs.YtpkhemnngjmcjaaGreatDoor.R2
