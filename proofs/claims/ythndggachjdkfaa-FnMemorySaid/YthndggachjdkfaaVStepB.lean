/- Walks: the program's step: loads and stores. -/
import Derived.Test.YthndggachjdkfaaVStepI
namespace Go.Proofs.Ythndggachjdkfaa
open Go.RowKit
set_option maxRecDepth 20000
set_option linter.unusedSimpArgs false
set_option linter.unusedVariables false
theorem stM_form (m : Mac) (kd a w : Int) : ∃ d s, stM m kd a w = { m with data := d, stack := s } := by
  unfold stM
  split
  · exact ⟨m.data, m.stack, rfl⟩
  · split
    · exact ⟨_, m.stack, rfl⟩
    · exact ⟨m.data, _, rfl⟩
theorem ldK_ks (op : Int) (h : 28 ≤ op ∧ op ≤ 32) : ks (ldK op) ≠ 0 := by
  have : op = 28 ∨ op = 29 ∨ op = 30 ∨ op = 31 ∨ op = 32 := by omega
  rcases this with rfl | rfl | rfl | rfl | rfl <;> decide
theorem stK_ks (op : Int) (h : 34 ≤ op ∧ op ≤ 36) : ks (stK op) ≠ 0 := by
  have : op = 34 ∨ op = 35 ∨ op = 36 := by omega
  rcases this with rfl | rfl | rfl <;> decide
end Go.Proofs.Ythndggachjdkfaa
