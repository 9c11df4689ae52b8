/-
  DERIVED. GIVEN WITH THE SEED: THE PROGRAM's TIES (one call each: nine closed facts by the kernel) AND EACH ROW's TIE, after the 31st guide's Derived/Test/Toyas{Tie, Card}.lean. No idea stands in it: it is a product of the set-up. Laid BY PROGRAM, IN A SANDBOX (cutbox-door.mjs). By AI agents, Wed Nov 11 2026. No macro, syntax, notation, axiom, sorry.
-/
import Derived.Test.YtjggmhpjlnmigaaDoorRows
import Derived.LaidByTextLater
import Derived.SevenTiedAt
import Derived.LaidSub
import Derived.LaidOnce
namespace Go.Proofs.YtjggmhpjlnmigaaDoor
open Go
set_option maxRecDepth 100000
theorem seatTie1 : Tryd.prog.laidByTextLater [("math/bits.deBruijn64tab", Rows.laid_math_bits_deBruijn64tab), ("loop.example/s01681/impl.irTests", Rows.laid_loop_example_s01681_impl_irTests), ("loop.example/s01681/impl.allotted", Rows.laid_loop_example_s01681_impl_allotted)] [.data, .widerDeep, .widerDeep] true :=
  Program.laidByTextLater_by_one 24 8 65 (by kernel_rfl) (by kernel_rfl) (by kernel_rfl) (by kernel_rfl) (by kernel_rfl) (by kernel_rfl) (fun _ _ => by kernel_rfl)
theorem noOwnUnsafe : Tryd.pinned.checked.prog.headLifts.contains "ownunsafe" = false := by kernel_rfl
theorem tie : Tryd.prog.laidByTextLater [("math/bits.deBruijn64tab", Rows.laid_math_bits_deBruijn64tab), ("loop.example/s01681/impl.irTests", Rows.laid_loop_example_s01681_impl_irTests)] [.data, .widerDeep] true :=
  Program.laidByTextLater.sub seatTie1 ["math/bits.deBruijn64tab", "loop.example/s01681/impl.irTests"] (by kernel_rfl) (by kernel_rfl)
theorem fnExactLiveBefore_row_tie : Rows.fnExactLiveBeforeRow.laidByTextAt .later Tryd.pinned [.data, .widerDeep] true :=
  OpenClaim.laidByTextAt_later rfl rfl tie noOwnUnsafe
theorem fnExactSpans_row_tie : Rows.fnExactSpansRow.laidByTextAt .later Tryd.pinned [.data, .widerDeep] true :=
  OpenClaim.laidByTextAt_later rfl rfl tie noOwnUnsafe
theorem tie2 : Tryd.prog.laidByTextLater [("math/bits.deBruijn64tab", Rows.laid_math_bits_deBruijn64tab), ("loop.example/s01681/impl.irTests", Rows.laid_loop_example_s01681_impl_irTests), ("loop.example/s01681/impl.allotted", Rows.laid_loop_example_s01681_impl_allotted)] [.data, .widerDeep, .widerDeep] true :=
  Program.laidByTextLater.sub seatTie1 ["math/bits.deBruijn64tab", "loop.example/s01681/impl.irTests", "loop.example/s01681/impl.allotted"] (by kernel_rfl) (by kernel_rfl)
theorem fnExactAllot_row_tie : Rows.fnExactAllotRow.laidByTextAt .later Tryd.pinned [.data, .widerDeep, .widerDeep] true :=
  OpenClaim.laidByTextAt_later rfl rfl tie2 noOwnUnsafe
theorem fnExactLiveBeforeUpto_row_tie : Rows.fnExactLiveBeforeUptoRow.laidByTextAt .later Tryd.pinned [.data, .widerDeep] true :=
  OpenClaim.laidByTextAt_later rfl rfl tie noOwnUnsafe
theorem fnExactSpansUpto_row_tie : Rows.fnExactSpansUptoRow.laidByTextAt .later Tryd.pinned [.data, .widerDeep] true :=
  OpenClaim.laidByTextAt_later rfl rfl tie noOwnUnsafe
theorem fnExactAllotUpto_row_tie : Rows.fnExactAllotUptoRow.laidByTextAt .later Tryd.pinned [.data, .widerDeep, .widerDeep] true :=
  OpenClaim.laidByTextAt_later rfl rfl tie2 noOwnUnsafe
end Go.Proofs.YtjggmhpjlnmigaaDoor
