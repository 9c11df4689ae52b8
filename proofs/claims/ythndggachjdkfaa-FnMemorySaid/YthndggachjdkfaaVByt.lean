/- Rows of bytes that a law is given. -/
import Derived.Test.YthndggachjdkfaaVMem2
import Derived.Test.YthndggachjdkfaaVArg
namespace Go.Proofs.Ythndggachjdkfaa
open Go.RowKit
set_option linter.unusedVariables false
theorem byt_of_row {w : World} {A : Option Addr} {n c : Nat} {zs : List Int} (hr : (A = none ∧ n = 0 ∧ c = 0 ∧ zs = []) ∨
    ∃ x, A = some x ∧ n ≤ c ∧ c ≤ maxLen ∧ zs.length = c ∧ (∀ i, i < zs.length → w.cell? (x.add i) = some (.int .u8 (zs.getD i 0))) ∧ ∀ n ∈ zs, (Lit.int .u8 n).wf = true) :
    Byt (zs.take n) := by
  intro y hy
  have hy := List.mem_of_mem_take hy
  rcases hr with ⟨_, _, _, rfl⟩ | ⟨_, _, _, _, _, _, hw⟩
  · cases hy
  · have := hw y hy
    simp [Lit.wf, IntKind.min, IntKind.max, IntKind.signed, IntKind.bits] at this
    omega
theorem nc_of_row {k : IntKind} {w : World} {A : Option Addr} {n c : Nat} {zs : List Int} (hr : (A = none ∧ n = 0 ∧ c = 0 ∧ zs = []) ∨
    ∃ x, A = some x ∧ n ≤ c ∧ c ≤ maxLen ∧ zs.length = c ∧ (∀ i, i < zs.length → w.cell? (x.add i) = some (.int k (zs.getD i 0))) ∧ ∀ n ∈ zs, (Lit.int k n).wf = true) : n ≤ c := by
  rcases hr with ⟨_, rfl, rfl, _⟩ | ⟨_, _, h, _⟩
  · exact Nat.le_refl _
  · exact h
end Go.Proofs.Ythndggachjdkfaa
