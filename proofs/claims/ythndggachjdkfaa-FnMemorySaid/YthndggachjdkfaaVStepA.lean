/- Walks: the program's step: what the registers compute. -/
import Derived.Test.YthndggachjdkfaaVStepI
namespace Go.Proofs.Ythndggachjdkfaa
open Go.RowKit
set_option maxRecDepth 20000
set_option linter.unusedSimpArgs false
set_option linter.unusedVariables false
end Go.Proofs.Ythndggachjdkfaa
