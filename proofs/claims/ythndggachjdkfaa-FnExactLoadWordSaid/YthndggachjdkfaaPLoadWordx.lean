-- Lines for this claim, written by the session's own program wip/myprint.py. Not trusted: Lean checks them.
import Derived.Test.YthndggachjdkfaaPLoadWordx0
import Derived.Test.YthndggachjdkfaaPLoadWordx1
import Derived.Test.YthndggachjdkfaaPLoadWordx2
import Derived.Test.YthndggachjdkfaaPLoadWordx3
import Derived.Test.YthndggachjdkfaaPLoadWordx4
import Derived.Test.YthndggachjdkfaaPLoadWordx5
import Derived.Test.YthndggachjdkfaaPLoadWordx6
import Derived.Test.YthndggachjdkfaaPLoadWordx7
namespace Go.Proofs.Ythndggachjdkfaa.PLoadWord
open Go.RowKit Go.Proofs.YthndggachjdkfaaW.PrintWords Go.Proofs.YthndggachjdkfaaW.PrintLast Go.Proofs.YthndggachjdkfaaW.PrintMore
attribute [local go_sem] max2_int min2_int max_two min_two max_three min_three max_four min_four   -- for this text's walks alone
set_option linter.unusedVariables false
set_option linter.unusedSimpArgs false

end Go.Proofs.Ythndggachjdkfaa.PLoadWord
