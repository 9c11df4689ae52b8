/- Every exported constant of the program is the document's. No condition. -/
import Derived.Test.YtgbpofhabhabcaaPConstantsx1
namespace Go.Proofs.Ytgbpofhabhabcaa.Pure
open Go.RowKit Go.Proofs.Ytgbpofhabhabcaa.PConstants
theorem FnExactConstants : laws_FnExactConstants.Pure := rfl
end Go.Proofs.Ytgbpofhabhabcaa.Pure
