-- Lines for this claim, written by the session's own program wip/myprint.py. Not trusted: Lean checks them.
import Derived.Test.YtgbpofhabhabcaaPEncx0
import Derived.Test.YtgbpofhabhabcaaPEncx1
import Derived.Test.YtgbpofhabhabcaaPEncx2
import Derived.Test.YtgbpofhabhabcaaPEncx3
import Derived.Test.YtgbpofhabhabcaaPEncx4
import Derived.Test.YtgbpofhabhabcaaPEncx5
import Derived.Test.YtgbpofhabhabcaaPEncx6
import Derived.Test.YtgbpofhabhabcaaPEncx7
namespace Go.Proofs.Ytgbpofhabhabcaa.PEnc
open Go.RowKit Go.Proofs.YtgbpofhabhabcaaW.PrintWords Go.Proofs.YtgbpofhabhabcaaW.PrintLast Go.Proofs.YtgbpofhabhabcaaW.PrintMore
attribute [local go_sem] max2_int min2_int max_two min_two max_three min_three max_four min_four   -- for this text's walks alone
set_option linter.unusedVariables false
set_option linter.unusedSimpArgs false

end Go.Proofs.Ytgbpofhabhabcaa.PEnc
