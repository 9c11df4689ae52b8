/- Walks: the program's run of the machine. -/
import Derived.Test.YthndggachjdkfaaVStepG
import Derived.Test.YthndggachjdkfaaVLw
namespace Go.Proofs.Ythndggachjdkfaa
open Go.RowKit
set_option maxRecDepth 20000
set_option linter.unusedSimpArgs false
set_option linter.unusedVariables false
theorem runN_step {k : Nat} {m : Mac} (hg : goes m = true) : runN (k + 1) m = runN k (step1 m) := by rw [runN, if_pos hg]
theorem runN_stop {k : Nat} {m : Mac} (hg : goes m = false) : runN k m = m := by
  cases k with
  | zero => rfl
  | succ k => rw [runN, if_neg (by rw [hg]; simp)]
theorem iMok_v {h : Hp} {x : MH} {m : Mac} {t : Bool} (ht : mok m = t) (r : RdM h x m) (b : Small x) : HC Try.prog 19 [x.v m] h fun v h' => v = .bool t ∧ Ext h h' := ht ▸ iMok_c r b
theorem runM_yes {m : Mac} (h : mok m = true) (fuel : Int) : runM m fuel = runN fuel.toNat m := if_pos h
theorem runM_no {m : Mac} (h : mok m = false) (fuel : Int) : runM m fuel = m := if_neg (by rw [h]; simp)
end Go.Proofs.Ythndggachjdkfaa
