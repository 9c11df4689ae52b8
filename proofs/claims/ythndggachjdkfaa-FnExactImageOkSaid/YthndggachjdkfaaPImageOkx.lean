-- Lines for this claim, written by the session's own program wip/myprint.py. Not trusted: Lean checks them.
import Derived.Test.YthndggachjdkfaaPImageOkx0
import Derived.Test.YthndggachjdkfaaPImageOkx1
import Derived.Test.YthndggachjdkfaaPImageOkx2
import Derived.Test.YthndggachjdkfaaPImageOkx3
namespace Go.Proofs.Ythndggachjdkfaa.PImageOk
open Go.RowKit Go.Proofs.YthndggachjdkfaaW.PrintWords Go.Proofs.YthndggachjdkfaaW.PrintLast Go.Proofs.YthndggachjdkfaaW.PrintMore
attribute [local go_sem] max2_int min2_int max_two min_two max_three min_three max_four min_four   -- for this text's walks alone
set_option linter.unusedVariables false
set_option linter.unusedSimpArgs false

end Go.Proofs.Ythndggachjdkfaa.PImageOk
