/-
  DERIVED. GIVEN WITH THE SEED: THE PROGRAM's TIES (one call each: nine closed facts by the kernel) AND EACH ROW's TIE, after the 31st guide's Derived/Test/Toyas{Tie, Card}.lean. No idea stands in it: it is a product of the set-up. Laid BY PROGRAM, IN A SANDBOX (cutbox-door.mjs). By AI agents, Wed Nov 11 2026. No macro, syntax, notation, axiom, sorry.
-/
import Derived.Test.YthndggachjdkfaaDoorRows
import Derived.LaidByTextLater
import Derived.SevenTiedAt
import Derived.LaidSub
import Derived.LaidOnce
namespace Go.Proofs.YthndggachjdkfaaDoor
open Go
set_option maxRecDepth 100000
theorem seatTie1 : Tryd.prog.laidByTextLater [("loop.example/s01681/impl.loadKinds", Rows.laid_loop_example_s01681_impl_loadKinds), ("loop.example/s01681/impl.storeKinds", Rows.laid_loop_example_s01681_impl_storeKinds), ("loop.example/s01681/impl.immOps", Rows.laid_loop_example_s01681_impl_immOps)] [.data, .data, .data] true :=
  Program.laidByTextLater_by_one 24 8 10 (by kernel_rfl) (by kernel_rfl) (by kernel_rfl) (by kernel_rfl) (by kernel_rfl) (by kernel_rfl) (fun _ _ => by kernel_rfl)
theorem noOwnUnsafe : Tryd.pinned.checked.prog.headLifts.contains "ownunsafe" = false := by kernel_rfl
theorem tie : Tryd.prog.laidByTextLater [("loop.example/s01681/impl.loadKinds", Rows.laid_loop_example_s01681_impl_loadKinds), ("loop.example/s01681/impl.storeKinds", Rows.laid_loop_example_s01681_impl_storeKinds), ("loop.example/s01681/impl.immOps", Rows.laid_loop_example_s01681_impl_immOps)] [.data, .data, .data] true :=
  Program.laidByTextLater.sub seatTie1 ["loop.example/s01681/impl.loadKinds", "loop.example/s01681/impl.storeKinds", "loop.example/s01681/impl.immOps"] (by kernel_rfl) (by kernel_rfl)
theorem fnExactStepMachine_row_tie : Rows.fnExactStepMachineRow.laidByTextAt .later Tryd.pinned [.data, .data, .data] true :=
  OpenClaim.laidByTextAt_later rfl rfl tie noOwnUnsafe
theorem fnExactRunMachine_row_tie : Rows.fnExactRunMachineRow.laidByTextAt .later Tryd.pinned [.data, .data, .data] true :=
  OpenClaim.laidByTextAt_later rfl rfl tie noOwnUnsafe
theorem fnSplit_row_tie : Rows.fnSplitRow.laidByTextAt .later Tryd.pinned [.data, .data, .data] true :=
  OpenClaim.laidByTextAt_later rfl rfl tie noOwnUnsafe
theorem fnStep_row_tie : Rows.fnStepRow.laidByTextAt .later Tryd.pinned [.data, .data, .data] true :=
  OpenClaim.laidByTextAt_later rfl rfl tie noOwnUnsafe
theorem fnExactStepMachineUpto_row_tie : Rows.fnExactStepMachineUptoRow.laidByTextAt .later Tryd.pinned [.data, .data, .data] true :=
  OpenClaim.laidByTextAt_later rfl rfl tie noOwnUnsafe
theorem fnExactRunMachineUpto_row_tie : Rows.fnExactRunMachineUptoRow.laidByTextAt .later Tryd.pinned [.data, .data, .data] true :=
  OpenClaim.laidByTextAt_later rfl rfl tie noOwnUnsafe
theorem fnSplitUpto_row_tie : Rows.fnSplitUptoRow.laidByTextAt .later Tryd.pinned [.data, .data, .data] true :=
  OpenClaim.laidByTextAt_later rfl rfl tie noOwnUnsafe
theorem fnStepUpto_row_tie : Rows.fnStepUptoRow.laidByTextAt .later Tryd.pinned [.data, .data, .data] true :=
  OpenClaim.laidByTextAt_later rfl rfl tie noOwnUnsafe
end Go.Proofs.YthndggachjdkfaaDoor
