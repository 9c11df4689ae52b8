/- The program's own facts for walks. -/
import Derived.Test.YthndggachjdkfaaVA
import Derived.Test.YthndggachjdkfaaProg
namespace Go.Proofs.Ythndggachjdkfaa
theorem fol : Try.prog.follows .mixedOrders = true := by kernel_rfl
end Go.Proofs.Ythndggachjdkfaa
