-- Lines for this claim, written by the session's own program wip/myprint.py. Not trusted: Lean checks them.
import Derived.Test.YthndggachjdkfaaPMachineOkx0
import Derived.Test.YthndggachjdkfaaPMachineOkx1
import Derived.Test.YthndggachjdkfaaPMachineOkx2
import Derived.Test.YthndggachjdkfaaPMachineOkx3
import Derived.Test.YthndggachjdkfaaPMachineOkx4
import Derived.Test.YthndggachjdkfaaPMachineOkx5
namespace Go.Proofs.Ythndggachjdkfaa.PMachineOk
open Go.RowKit Go.Proofs.YthndggachjdkfaaW.PrintWords Go.Proofs.YthndggachjdkfaaW.PrintLast Go.Proofs.YthndggachjdkfaaW.PrintMore
attribute [local go_sem] max2_int min2_int max_two min_two max_three min_three max_four min_four   -- for this text's walks alone
set_option linter.unusedVariables false
set_option linter.unusedSimpArgs false

end Go.Proofs.Ythndggachjdkfaa.PMachineOk
