/- The program's own facts for walks. -/
import Derived.Test.YthndggachjdkfaaDoorVA
import Derived.Test.YthndggachjdkfaaDoorProg
namespace Go.Proofs.YthndggachjdkfaaDoor
theorem fol : Tryd.prog.follows .mixedOrders = true := by kernel_rfl
end Go.Proofs.YthndggachjdkfaaDoor
