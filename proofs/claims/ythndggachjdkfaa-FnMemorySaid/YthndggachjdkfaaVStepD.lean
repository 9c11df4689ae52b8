/- Walks: the program's step: calls to the world. -/
import Derived.Test.YthndggachjdkfaaVStepI
namespace Go.Proofs.Ythndggachjdkfaa
open Go.RowKit
set_option maxRecDepth 20000
set_option linter.unusedSimpArgs false
set_option linter.unusedVariables false
theorem rd_cell {h : Hp} {A : Option Addr} {kd : IntKind} {l : List Int} {b o j : Nat} (r : Rd h A (ints kd l)) (e : A = some ⟨b, o, none⟩) (hj : j < l.length) : hcell h b (o + j * 1) = some (.int kd (l.getD j 0)) := by
  obtain ⟨b', o', e', h'⟩ := r j (.int kd (l.getD j 0)) (by rw [getD_lt hj]; simp [hj])
  rw [e] at e'
  cases e'
  rw [Nat.mul_one]
  exact h'
end Go.Proofs.Ythndggachjdkfaa
