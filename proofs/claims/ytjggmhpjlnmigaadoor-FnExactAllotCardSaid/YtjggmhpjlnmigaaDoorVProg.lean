/- The program's own facts for walks. -/
import Derived.Test.YtjggmhpjlnmigaaDoorVA
import Derived.Test.YtjggmhpjlnmigaaDoorProg
namespace Go.Proofs.YtjggmhpjlnmigaaDoor
theorem fol : Tryd.prog.follows .mixedOrders = true := by kernel_rfl
end Go.Proofs.YtjggmhpjlnmigaaDoor
