/- The program's own facts for walks. -/
import Derived.Test.YtjggmhpjlnmigaaVA
import Derived.Test.YtjggmhpjlnmigaaProg
namespace Go.Proofs.Ytjggmhpjlnmigaa
theorem fol : Try.prog.follows .mixedOrders = true := by kernel_rfl
end Go.Proofs.Ytjggmhpjlnmigaa
