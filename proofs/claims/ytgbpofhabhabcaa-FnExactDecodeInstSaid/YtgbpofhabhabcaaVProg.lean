/- The program's own facts for walks. -/
import Derived.Test.YtgbpofhabhabcaaVA
import Derived.Test.YtgbpofhabhabcaaProg
namespace Go.Proofs.Ytgbpofhabhabcaa
theorem fol : Try.prog.follows .mixedOrders = true := by kernel_rfl
end Go.Proofs.Ytgbpofhabhabcaa
