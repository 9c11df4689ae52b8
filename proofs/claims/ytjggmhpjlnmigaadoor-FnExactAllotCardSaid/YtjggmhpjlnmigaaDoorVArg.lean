/- What a law's arguments are to the calculus. -/
import Derived.Test.YtjggmhpjlnmigaaDoorVLw
import Derived.OpenShut
namespace Go.Proofs.YtjggmhpjlnmigaaDoor
open Go.RowKit
theorem rd_of_row {k : IntKind} {w : World} {A : Option Addr} {n c : Nat} {zs : List Int} (hr : (A = none ∧ n = 0 ∧ c = 0 ∧ zs = []) ∨
    ∃ x, A = some x ∧ n ≤ c ∧ c ≤ maxLen ∧ zs.length = c ∧ (∀ i, i < zs.length → w.cell? (x.add i) = some (.int k (zs.getD i 0))) ∧ ∀ n ∈ zs, (Lit.int k n).wf = true) :
    Rd w.heap A (ints k (zs.take n)) ∧ (zs.take n).length = n ∧ n ≤ 9223372036854775807 := by
  rcases hr with ⟨rfl, rfl, rfl, rfl⟩ | ⟨x, rfl, h1, h2, h3, h4, _⟩
  · exact ⟨Rd.nil _ _, rfl, by decide⟩
  · refine ⟨fun j v hj => ?_, by simp; omega, Nat.le_trans h1 (Nat.le_trans h2 (by decide))⟩
    have hlt := (List.getElem?_eq_some_iff.mp hj).1
    have hlt : j < n ∧ j < zs.length := by simp at hlt; omega
    have hc := h4 j (by omega)
    obtain ⟨b, o, sp⟩ := x
    cases sp with
    | some t =>
      exfalso
      have hc := h4 0 (by omega)
      unfold World.cell? Addr.add at hc
      simp at hc
      split at hc <;> simp at hc
    | none =>
      refine ⟨b, o, rfl, ?_⟩
      rw [cell_add] at hc
      rw [hc, ← hj]
      simp [ints, List.getD, hlt.1, hlt.2]
theorem wf_i64 {a : Int} (h : (Lit.int .i64 a).wf = true) : -9223372036854775808 ≤ a ∧ a ≤ 9223372036854775807 := by
  simp [Lit.wf, IntKind.min, IntKind.max, IntKind.signed, IntKind.bits] at h
  omega
end Go.Proofs.YtjggmhpjlnmigaaDoor
