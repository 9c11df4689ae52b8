-- Lines for this claim, written by the session's own program wip/myprint.py. Not trusted: Lean checks them.
import Derived.Test.YtgbpofhabhabcaaProg
import Derived.Below
import Derived.Deep.Draws
import Derived.Deep.AppendLies
import Derived.Maps.AppendAt
import Derived.OwnWalk
import Derived.Laws.BytesArg
import Derived.Laws.MakeOwn
import Derived.Laws.OwnMore
import Derived.Deep.OwnRows
import Derived.Tactics
import Derived.Lib.ConvBytes
import Derived.Laws.Slices
import Derived.WalkKit
import Derived.KernelRfl
import Derived.RowKit3
import Derived.Deep.LoopGhost
import Derived.Deep.QuietTactic
import Derived.BigQuiet
import Derived.WideLaws
import Derived.Deep.DeepCutAuto
import Derived.Deep.CutBlock
import Derived.Deep.RegionHeld3
import Derived.Laws.Rows
import Derived.Lib.AppendStr
import Derived.ArgAppend
import Derived.Laws.IdiomCopy
import Derived.OrdersHeld
import Derived.Laws.BitsLemmas
import Derived.RowKit
import Derived.BigRegion
import Derived.RegionTactic
import Derived.ChangeAlike
import Derived.BigQuiet
import Derived.Deep.QuietTactic
import Derived.Test.YtgbpofhabhabcaaWWords
import Derived.Test.YtgbpofhabhabcaaWLast
import Derived.Test.YtgbpofhabhabcaaWTab
import Derived.Test.YtgbpofhabhabcaaWFour
import Derived.Test.YtgbpofhabhabcaaWQPut
import Derived.Test.YtgbpofhabhabcaaWApart
import Derived.Test.YtgbpofhabhabcaaWArr
import Derived.Test.YtgbpofhabhabcaaWZeros
import Derived.Test.YtgbpofhabhabcaaWFoot
import Derived.Test.YtgbpofhabhabcaaWKept
import Derived.Test.YtgbpofhabhabcaaWShare
import Derived.Test.YtgbpofhabhabcaaWN
import Derived.Test.YtgbpofhabhabcaaWFootNe
import Derived.Test.YtgbpofhabhabcaaWAt
import Derived.Test.YtgbpofhabhabcaaWEqStruct
import Derived.Test.YtgbpofhabhabcaaWRepsOne
import Derived.Test.YtgbpofhabhabcaaWInv
import Derived.Test.YtgbpofhabhabcaaWInvWords
import Derived.Test.YtgbpofhabhabcaaWGuard
import Derived.Test.YtgbpofhabhabcaaWNEv
import Derived.Test.YtgbpofhabhabcaaWMore
namespace Go.Proofs.Ytgbpofhabhabcaa.PEnc
open Go.RowKit Go.Proofs.YtgbpofhabhabcaaW.PrintWords Go.Proofs.YtgbpofhabhabcaaW.PrintLast Go.Proofs.YtgbpofhabhabcaaW.PrintMore
attribute [local go_sem] max2_int min2_int max_two min_two max_three min_three max_four min_four   -- for this text's walks alone
set_option linter.unusedVariables false
set_option linter.unusedSimpArgs false



def errW : Option Int → Value
  | none => .nilIface
  | some c => .iface 0 (.int .i64 c)
theorem errW_none : errW none = .nilIface := rfl
theorem errW_some (c : Int) : errW (some c) = .iface 0 (.int .i64 c) := rfl

theorem info3 : (Try.prog.info? 3).map (fun i => (i.zero, i.size, i.bytes)) = some (some (.int .i64 0), 1, 8) := by kernel_rfl
-- the values' own types

end Go.Proofs.Ytgbpofhabhabcaa.PEnc
