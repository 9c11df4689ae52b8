/- Walks: the program's step and its run. -/
import Derived.Test.YthndggachjdkfaaVStepA
import Derived.Test.YthndggachjdkfaaVStepB
import Derived.Test.YthndggachjdkfaaVStepC
import Derived.Test.YthndggachjdkfaaVStepE
import Derived.Test.YthndggachjdkfaaVStepF
namespace Go.Proofs.Ythndggachjdkfaa
open Go.RowKit
set_option maxRecDepth 20000
set_option linter.unusedSimpArgs false
set_option linter.unusedVariables false
end Go.Proofs.Ythndggachjdkfaa
