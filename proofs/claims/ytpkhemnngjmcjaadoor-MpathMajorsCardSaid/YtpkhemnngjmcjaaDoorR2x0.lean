-- Written by a program of this place (myprint.py) out of the translation. Not trusted: Lean checks it.
import Derived.Test.YtpkhemnngjmcjaaDoorK0x
import Derived.Test.YtpkhemnngjmcjaaDoorR1x
import Derived.Test.YtpkhemnngjmcjaaDoorPath
import Derived.Test.YtpkhemnngjmcjaaDoorVerCheck
import Derived.Test.YtpkhemnngjmcjaaDoorMajor
import Derived.Test.YtpkhemnngjmcjaaDoorMsplit
namespace Go.Proofs.YtpkhemnngjmcjaaDoor.R2
open Go.RowKit Go.Proofs.YtpkhemnngjmcjaaDoor Go.Proofs.YtpkhemnngjmcjaaDoor.K0 Go.Proofs.YtpkhemnngjmcjaaDoor.R1 Go.Proofs.YtpkhemnngjmcjaaDoorW.PrintWords Go.Proofs.YtpkhemnngjmcjaaDoorW.PrintLast Go.Proofs.YtpkhemnngjmcjaaDoorW.PrintMore
attribute [local go_sem] max2_int min2_int max_two min_two max_three min_three max_four min_four   -- for this text's walks alone
set_option linter.unusedVariables false
set_option linter.unusedSimpArgs false


end Go.Proofs.YtpkhemnngjmcjaaDoor.R2
