/-
  NARROWER THAN 'FOR EVERY INPUT', by the rows' own cells (each row's printed sentence says how): FnExactStepMachine: laid · FnExactRunMachine: laid · FnSplit: laid · FnStep: laid.
  DERIVED. THE GIVEN ROWS OF THIS SEAT. 4 by the template 'for every input the law returns true; each argument reads behind the call as it read before'; 0 by the template 'total and deterministic' (their statements: YthndggachjdkfaaDoorTotals.lean).
  GIVEN WITH THE SEED: the statements are not yours to turn. If you find one false, say at which input.
  Laid BY PROGRAM, IN A SANDBOX (cutbox-rows.mjs): the forced cells as the released guide's own fill.sh prints them over the translation b39600c6d6320e4a… (all of the seat's roots in one cut). By AI agents, Wed Nov 11 2026. No macro, syntax, notation, axiom, sorry.
-/
import Derived.Test.YthndggachjdkfaaDoorChecked
import GoSem.Claim
import GoSem.ClaimJoined
import GoSem.ClaimMapViews
import Derived.JoinedTies
import Derived.KernelRfl
namespace Go.Proofs.YthndggachjdkfaaDoor
/- THE CELL 'sum', in the pinned program and in every row, IS THE sha256 OF THE DUMP (.gsa) THAT YthndggachjdkfaaDoorProg.lean LOADS. Nothing in Lean hashes anything: it is a label: what it is worth is what the hold of that sum in a sandbox is worth. -/
noncomputable def Tryd.pinned : Pinned := { name := "ythndggachjdkfaadoor", sum := "b39600c6d6320e4a130e4007770096bb023d991e896022a2db10a5fe6b4d5de8", checked := Tryd.checked }
namespace Rows
def none {H : Type} : Left H := { results := [], args := [] }

/- WHAT THE LISTED PACKAGE-LEVEL VARIABLES READ AS WHEN THE CALL BEGINS. Each datum BY PROGRAM (the guide's laid-datum.mjs) off the statement by which the dump's own 'gosem.cut.vars' lays the variable. In a bare row this is a premise. The card (YthndggachjdkfaaDoorCards.lean) ties it to the program's text. -/
def laid_loop_example_s01681_impl_loadKinds {H : Type} : DataW H := .slice [.lit (.int .i64 1), .lit (.int .i64 3), .lit (.int .i64 5), .lit (.int .i64 2), .lit (.int .i64 4)] []
def laid_loop_example_s01681_impl_storeKinds {H : Type} : DataW H := .slice [.lit (.int .i64 2), .lit (.int .i64 4), .lit (.int .i64 5)] []
def laid_loop_example_s01681_impl_immOps {H : Type} : DataW H := .slice [.lit (.int .i64 1), .lit (.int .i64 4), .lit (.int .i64 5), .lit (.int .i64 6), .lit (.int .i64 9), .lit (.int .i64 10), .lit (.int .i64 3), .lit (.int .i64 7), .lit (.int .i64 8)] []

/-- 'laws.FnExactStepMachine': WHATEVER THE INPUT: true; the input reads as it did. -/
def fnExactStepMachineSpec : ChangeSpec := { name := "fnExactStepMachine", vars := ["loop.example/s01681/impl.immOps", "loop.example/s01681/impl.loadKinds", "loop.example/s01681/impl.storeKinds"], fn := fun _ => fun
  | [d, g1, g2, g3] => { results := [.lit (.bool true)], args := [d], vars := [g1, g2, g3] }
  | _ => none }
def fnExactStepMachineRow : OpenClaim := { program := "ythndggachjdkfaadoor", sum := "b39600c6d6320e4a130e4007770096bb023d991e896022a2db10a5fe6b4d5de8", func := "loop.example/s01681/laws.FnExactStepMachine", spec := "fnExactStepMachine", unfollowed := true, recurses := true, named := ["loop.example/s01681/impl.immOps", "loop.example/s01681/impl.loadKinds", "loop.example/s01681/impl.storeKinds"], apart := false, laid := [("loop.example/s01681/impl.loadKinds", laid_loop_example_s01681_impl_loadKinds), ("loop.example/s01681/impl.storeKinds", laid_loop_example_s01681_impl_storeKinds), ("loop.example/s01681/impl.immOps", laid_loop_example_s01681_impl_immOps)] }
def FnExactStepMachineSaid : Prop := fnExactStepMachineRow.holds Tryd.pinned (OpenSpec.ofChange fnExactStepMachineSpec)

/-- ITS FALSE NEIGHBOUR: 'it returns false'. Refute it at one input. -/
def fnExactStepMachineWrong : ChangeSpec := { name := "fnExactStepMachine", vars := ["loop.example/s01681/impl.immOps", "loop.example/s01681/impl.loadKinds", "loop.example/s01681/impl.storeKinds"], fn := fun _ => fun
  | [d, g1, g2, g3] => { results := [.lit (.bool false)], args := [d], vars := [g1, g2, g3] }
  | _ => none }
def FnExactStepMachineWrongFalsely : Prop := fnExactStepMachineRow.holds Tryd.pinned (OpenSpec.ofChange fnExactStepMachineWrong)

/-- 'laws.FnExactRunMachine': WHATEVER THE INPUT: true; the input reads as it did. -/
def fnExactRunMachineSpec : ChangeSpec := { name := "fnExactRunMachine", vars := ["loop.example/s01681/impl.immOps", "loop.example/s01681/impl.loadKinds", "loop.example/s01681/impl.storeKinds"], fn := fun _ => fun
  | [d1, d2, g1, g2, g3] => { results := [.lit (.bool true)], args := [d1, d2], vars := [g1, g2, g3] }
  | _ => none }
def fnExactRunMachineRow : OpenClaim := { program := "ythndggachjdkfaadoor", sum := "b39600c6d6320e4a130e4007770096bb023d991e896022a2db10a5fe6b4d5de8", func := "loop.example/s01681/laws.FnExactRunMachine", spec := "fnExactRunMachine", unfollowed := true, recurses := true, named := ["loop.example/s01681/impl.immOps", "loop.example/s01681/impl.loadKinds", "loop.example/s01681/impl.storeKinds"], apart := false, laid := [("loop.example/s01681/impl.loadKinds", laid_loop_example_s01681_impl_loadKinds), ("loop.example/s01681/impl.storeKinds", laid_loop_example_s01681_impl_storeKinds), ("loop.example/s01681/impl.immOps", laid_loop_example_s01681_impl_immOps)] }
def FnExactRunMachineSaid : Prop := fnExactRunMachineRow.holds Tryd.pinned (OpenSpec.ofChange fnExactRunMachineSpec)

/-- ITS FALSE NEIGHBOUR: 'it returns false'. Refute it at one input. -/
def fnExactRunMachineWrong : ChangeSpec := { name := "fnExactRunMachine", vars := ["loop.example/s01681/impl.immOps", "loop.example/s01681/impl.loadKinds", "loop.example/s01681/impl.storeKinds"], fn := fun _ => fun
  | [d1, d2, g1, g2, g3] => { results := [.lit (.bool false)], args := [d1, d2], vars := [g1, g2, g3] }
  | _ => none }
def FnExactRunMachineWrongFalsely : Prop := fnExactRunMachineRow.holds Tryd.pinned (OpenSpec.ofChange fnExactRunMachineWrong)

/-- 'laws.FnSplit': WHATEVER THE INPUT: true; the input reads as it did. -/
def fnSplitSpec : ChangeSpec := { name := "fnSplit", vars := ["loop.example/s01681/impl.immOps", "loop.example/s01681/impl.loadKinds", "loop.example/s01681/impl.storeKinds"], fn := fun _ => fun
  | [d1, d2, g1, g2, g3] => { results := [.lit (.bool true)], args := [d1, d2], vars := [g1, g2, g3] }
  | _ => none }
def fnSplitRow : OpenClaim := { program := "ythndggachjdkfaadoor", sum := "b39600c6d6320e4a130e4007770096bb023d991e896022a2db10a5fe6b4d5de8", func := "loop.example/s01681/laws.FnSplit", spec := "fnSplit", unfollowed := true, recurses := true, named := ["loop.example/s01681/impl.immOps", "loop.example/s01681/impl.loadKinds", "loop.example/s01681/impl.storeKinds"], apart := false, laid := [("loop.example/s01681/impl.loadKinds", laid_loop_example_s01681_impl_loadKinds), ("loop.example/s01681/impl.storeKinds", laid_loop_example_s01681_impl_storeKinds), ("loop.example/s01681/impl.immOps", laid_loop_example_s01681_impl_immOps)] }
def FnSplitSaid : Prop := fnSplitRow.holds Tryd.pinned (OpenSpec.ofChange fnSplitSpec)

/-- ITS FALSE NEIGHBOUR: 'it returns false'. Refute it at one input. -/
def fnSplitWrong : ChangeSpec := { name := "fnSplit", vars := ["loop.example/s01681/impl.immOps", "loop.example/s01681/impl.loadKinds", "loop.example/s01681/impl.storeKinds"], fn := fun _ => fun
  | [d1, d2, g1, g2, g3] => { results := [.lit (.bool false)], args := [d1, d2], vars := [g1, g2, g3] }
  | _ => none }
def FnSplitWrongFalsely : Prop := fnSplitRow.holds Tryd.pinned (OpenSpec.ofChange fnSplitWrong)

/-- 'laws.FnStep': WHATEVER THE INPUT: true; the input reads as it did. -/
def fnStepSpec : ChangeSpec := { name := "fnStep", vars := ["loop.example/s01681/impl.immOps", "loop.example/s01681/impl.loadKinds", "loop.example/s01681/impl.storeKinds"], fn := fun _ => fun
  | [d, g1, g2, g3] => { results := [.lit (.bool true)], args := [d], vars := [g1, g2, g3] }
  | _ => none }
def fnStepRow : OpenClaim := { program := "ythndggachjdkfaadoor", sum := "b39600c6d6320e4a130e4007770096bb023d991e896022a2db10a5fe6b4d5de8", func := "loop.example/s01681/laws.FnStep", spec := "fnStep", unfollowed := true, recurses := true, named := ["loop.example/s01681/impl.immOps", "loop.example/s01681/impl.loadKinds", "loop.example/s01681/impl.storeKinds"], apart := false, laid := [("loop.example/s01681/impl.loadKinds", laid_loop_example_s01681_impl_loadKinds), ("loop.example/s01681/impl.storeKinds", laid_loop_example_s01681_impl_storeKinds), ("loop.example/s01681/impl.immOps", laid_loop_example_s01681_impl_immOps)] }
def FnStepSaid : Prop := fnStepRow.holds Tryd.pinned (OpenSpec.ofChange fnStepSpec)

/-- ITS FALSE NEIGHBOUR: 'it returns false'. Refute it at one input. -/
def fnStepWrong : ChangeSpec := { name := "fnStep", vars := ["loop.example/s01681/impl.immOps", "loop.example/s01681/impl.loadKinds", "loop.example/s01681/impl.storeKinds"], fn := fun _ => fun
  | [d, g1, g2, g3] => { results := [.lit (.bool false)], args := [d], vars := [g1, g2, g3] }
  | _ => none }
def FnStepWrongFalsely : Prop := fnStepRow.holds Tryd.pinned (OpenSpec.ofChange fnStepWrong)

/- THE SECOND FORM. 'bulk': how many values and letters a reading holds, each counted each time it is reached (what is shared counts as often as it is met; a slice's spare places count too). A statement '..UptoSaid' is the law's where the arguments, and the package variables that the reading takes, are together of bulk at most 1048576: NARROWER than '..Said'. Prove '..Said' where nothing that the law and all that it calls make is longer than what came in: it says more and counts as full. Else prove '..UptoSaid'. A law counts once. -/
mutual
def uptoBulk {H : Type} : DataW H → Nat
  | .lit (.string bytes) => bytes.length + 1
  | .lit _ => 1
  | .nil => 1
  | .ptr d => uptoBulk d + 1
  | .slice elems spare => uptoBulkAll elems + uptoBulkAll spare + 1
  | .agg parts => uptoBulkAll parts + 1
  | .iface _ d => uptoBulk d + 1
  | .map entries => uptoBulkEntries entries + 1
  | .held _ => 1
def uptoBulkAll {H : Type} : List (DataW H) → Nat
  | [] => 0
  | d :: r => uptoBulk d + uptoBulkAll r
def uptoBulkEntries {H : Type} : List (Lit × DataW H) → Nat
  | [] => 0
  | x :: r => uptoBulkEntry x + uptoBulkEntries r
def uptoBulkEntry {H : Type} : Lit × DataW H → Nat
  | (.string bytes, d) => bytes.length + uptoBulk d + 1
  | (_, d) => uptoBulk d + 1
 end
def uptoSmall : (H : Type) → List (DataW H) → Bool := fun _ ds => decide (uptoBulkAll ds ≤ 1048576)
def OpenSpec.upto (s : _root_.Go.ChangeSpec) : _root_.Go.OpenSpec := { _root_.Go.OpenSpec.ofChange s with cond := some uptoSmall }

/-- 'laws.FnExactStepMachine', WHERE WHAT IT READS IS OF BULK AT MOST 1048576: true; the input reads as it did. -/
def fnExactStepMachineUptoRow : OpenClaim := { program := "ythndggachjdkfaadoor", sum := "b39600c6d6320e4a130e4007770096bb023d991e896022a2db10a5fe6b4d5de8", func := "loop.example/s01681/laws.FnExactStepMachine", spec := "fnExactStepMachine", unfollowed := true, recurses := true, named := ["loop.example/s01681/impl.immOps", "loop.example/s01681/impl.loadKinds", "loop.example/s01681/impl.storeKinds"], apart := false, laid := [("loop.example/s01681/impl.loadKinds", laid_loop_example_s01681_impl_loadKinds), ("loop.example/s01681/impl.storeKinds", laid_loop_example_s01681_impl_storeKinds), ("loop.example/s01681/impl.immOps", laid_loop_example_s01681_impl_immOps)], narrowed := true }
def FnExactStepMachineUptoSaid : Prop := fnExactStepMachineUptoRow.holds Tryd.pinned (OpenSpec.upto fnExactStepMachineSpec)

/-- 'laws.FnExactRunMachine', WHERE WHAT IT READS IS OF BULK AT MOST 1048576: true; the input reads as it did. -/
def fnExactRunMachineUptoRow : OpenClaim := { program := "ythndggachjdkfaadoor", sum := "b39600c6d6320e4a130e4007770096bb023d991e896022a2db10a5fe6b4d5de8", func := "loop.example/s01681/laws.FnExactRunMachine", spec := "fnExactRunMachine", unfollowed := true, recurses := true, named := ["loop.example/s01681/impl.immOps", "loop.example/s01681/impl.loadKinds", "loop.example/s01681/impl.storeKinds"], apart := false, laid := [("loop.example/s01681/impl.loadKinds", laid_loop_example_s01681_impl_loadKinds), ("loop.example/s01681/impl.storeKinds", laid_loop_example_s01681_impl_storeKinds), ("loop.example/s01681/impl.immOps", laid_loop_example_s01681_impl_immOps)], narrowed := true }
def FnExactRunMachineUptoSaid : Prop := fnExactRunMachineUptoRow.holds Tryd.pinned (OpenSpec.upto fnExactRunMachineSpec)

/-- 'laws.FnSplit', WHERE WHAT IT READS IS OF BULK AT MOST 1048576: true; the input reads as it did. -/
def fnSplitUptoRow : OpenClaim := { program := "ythndggachjdkfaadoor", sum := "b39600c6d6320e4a130e4007770096bb023d991e896022a2db10a5fe6b4d5de8", func := "loop.example/s01681/laws.FnSplit", spec := "fnSplit", unfollowed := true, recurses := true, named := ["loop.example/s01681/impl.immOps", "loop.example/s01681/impl.loadKinds", "loop.example/s01681/impl.storeKinds"], apart := false, laid := [("loop.example/s01681/impl.loadKinds", laid_loop_example_s01681_impl_loadKinds), ("loop.example/s01681/impl.storeKinds", laid_loop_example_s01681_impl_storeKinds), ("loop.example/s01681/impl.immOps", laid_loop_example_s01681_impl_immOps)], narrowed := true }
def FnSplitUptoSaid : Prop := fnSplitUptoRow.holds Tryd.pinned (OpenSpec.upto fnSplitSpec)

/-- 'laws.FnStep', WHERE WHAT IT READS IS OF BULK AT MOST 1048576: true; the input reads as it did. -/
def fnStepUptoRow : OpenClaim := { program := "ythndggachjdkfaadoor", sum := "b39600c6d6320e4a130e4007770096bb023d991e896022a2db10a5fe6b4d5de8", func := "loop.example/s01681/laws.FnStep", spec := "fnStep", unfollowed := true, recurses := true, named := ["loop.example/s01681/impl.immOps", "loop.example/s01681/impl.loadKinds", "loop.example/s01681/impl.storeKinds"], apart := false, laid := [("loop.example/s01681/impl.loadKinds", laid_loop_example_s01681_impl_loadKinds), ("loop.example/s01681/impl.storeKinds", laid_loop_example_s01681_impl_storeKinds), ("loop.example/s01681/impl.immOps", laid_loop_example_s01681_impl_immOps)], narrowed := true }
def FnStepUptoSaid : Prop := fnStepUptoRow.holds Tryd.pinned (OpenSpec.upto fnStepSpec)

end Rows
end Go.Proofs.YthndggachjdkfaaDoor
