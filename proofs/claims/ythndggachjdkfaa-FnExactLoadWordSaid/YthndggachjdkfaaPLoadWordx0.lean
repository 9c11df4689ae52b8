-- Lines for this claim, written by the session's own program wip/myprint.py. Not trusted: Lean checks them.
import Derived.Test.YthndggachjdkfaaProg
import Derived.Below
import Derived.Deep.Draws
import Derived.Deep.AppendLies
import Derived.Maps.AppendAt
import Derived.OwnWalk
import Derived.Laws.BytesArg
import Derived.Laws.MakeOwn
import Derived.Laws.OwnMore
import Derived.Deep.OwnRows
import Derived.Tactics
import Derived.Lib.ConvBytes
import Derived.Laws.Slices
import Derived.WalkKit
import Derived.KernelRfl
import Derived.RowKit3
import Derived.Deep.LoopGhost
import Derived.Deep.QuietTactic
import Derived.BigQuiet
import Derived.WideLaws
import Derived.Deep.DeepCutAuto
import Derived.Deep.CutBlock
import Derived.Deep.RegionHeld3
import Derived.Laws.Rows
import Derived.Lib.AppendStr
import Derived.ArgAppend
import Derived.Laws.IdiomCopy
import Derived.OrdersHeld
import Derived.Laws.BitsLemmas
import Derived.RowKit
import Derived.BigRegion
import Derived.RegionTactic
import Derived.ChangeAlike
import Derived.BigQuiet
import Derived.Deep.QuietTactic
import Derived.Lib.SliceRun
import Derived.Test.YthndggachjdkfaaWWords
import Derived.Test.YthndggachjdkfaaWLast
import Derived.Test.YthndggachjdkfaaWTab
import Derived.Test.YthndggachjdkfaaWFour
import Derived.Test.YthndggachjdkfaaWQPut
import Derived.Test.YthndggachjdkfaaWApart
import Derived.Test.YthndggachjdkfaaWArr
import Derived.Test.YthndggachjdkfaaWZeros
import Derived.Test.YthndggachjdkfaaWFoot
import Derived.Test.YthndggachjdkfaaWKept
import Derived.Test.YthndggachjdkfaaWShare
import Derived.Test.YthndggachjdkfaaWN
import Derived.Test.YthndggachjdkfaaWFootNe
import Derived.Test.YthndggachjdkfaaWAt
import Derived.Test.YthndggachjdkfaaWEqStruct
import Derived.Test.YthndggachjdkfaaWRepsOne
import Derived.Test.YthndggachjdkfaaWInv
import Derived.Test.YthndggachjdkfaaWInvWords
import Derived.Test.YthndggachjdkfaaWGuard
import Derived.Test.YthndggachjdkfaaWNEv
import Derived.Test.YthndggachjdkfaaWMore
namespace Go.Proofs.Ythndggachjdkfaa.PLoadWord
open Go.RowKit Go.Proofs.YthndggachjdkfaaW.PrintWords Go.Proofs.YthndggachjdkfaaW.PrintLast Go.Proofs.YthndggachjdkfaaW.PrintMore
attribute [local go_sem] max2_int min2_int max_two min_two max_three min_three max_four min_four   -- for this text's walks alone
set_option linter.unusedVariables false
set_option linter.unusedSimpArgs false



def errW : Option Int → Value
  | none => .nilIface
  | some c => .iface 0 (.int .i64 c)
theorem errW_none : errW none = .nilIface := rfl
theorem errW_some (c : Int) : errW (some c) = .iface 0 (.int .i64 c) := rfl

theorem info3 : (Try.prog.info? 3).map (fun i => (i.zero, i.size, i.bytes)) = some (some (.int .i64 0), 1, 8) := by kernel_rfl
theorem info5 : (Try.prog.info? 5).map (fun i => (i.zero, i.size, i.bytes)) = some (some (.int .u8 0), 1, 1) := by kernel_rfl
-- the values' own types

end Go.Proofs.Ythndggachjdkfaa.PLoadWord
