/- Trees: the law over its arguments as they come. -/
import Derived.Test.YtjggmhpjlnmigaaVTree2
namespace Go.Proofs.Ytjggmhpjlnmigaa
open Go.RowKit
set_option maxRecDepth 20000
set_option linter.unusedVariables false
abbrev shNode : Sh := .cons (.int .i64) (.cons (.int .i64) (.cons (.int .i64) (.cons .str (.cons (.sl (.int .i64)) (.cons (.int .i64) (.cons (.int .i64) .nil))))))
theorem node_of {h : Hp} (r : List Value) (_ : r.length = shNode.size) (o : RdS h shNode r) : ∃ x : Nd, r = x.cells ∧ NdR h x := by
  obtain ⟨_, _, rfl, _, ⟨k, rfl, _⟩, _, _, rfl, _, ⟨m, rfl, _⟩, _, _, rfl, _, ⟨n, rfl, _⟩, _, _, rfl, _, ⟨s, rfl, hs⟩, _, _, rfl, _, kids, _, _, rfl, _, ⟨line, rfl, _⟩, _, _, rfl, _, ⟨col, rfl, _⟩, rfl⟩ := o
  have kids' := kids
  obtain ⟨A, c, d, rfl, _⟩ := kids
  obtain ⟨l, r1, r2, r3, r4, _⟩ := RdS.nums kids'
  exact ⟨⟨k, m, n, s, ⟨A, c, d⟩, l, line, col⟩, rfl, r1, r2, Nat.le_trans r3 (Nat.le_trans r4 (by decide)), Nat.le_trans hs (by decide)⟩
theorem tree_of {h : Hp} {v : Value} (r : RdA h (.cons (.sl shNode) .nil) v) : ∃ A n c xs, v = .agg #[.slice A n c] ∧ NdsR h A n xs := by
  obtain ⟨l, rfl, _, _, rfl, _, ⟨A, n, c, rfl, h1, h2, rows, r1, r2, r3⟩, rfl⟩ := r
  obtain ⟨xs, e1, e2, e3⟩ := RdS.rows (cl := Nd.cells) (Q := NdR h) node_of rows r3
  rw [e1] at r2
  exact ⟨A, n, c, xs, rfl, r2, by omega, Nat.le_trans h1 (Nat.le_trans h2 (by decide)), e3⟩
theorem lawTree_r {h : Hp} {v w : Value} (r : RdA h (.cons (.sl shNode) .nil) v) (r' : RdA h (.cons (.sl shNode) .nil) w) : HC Try.prog 4 [v, w] h fun v h' => v = .bool true ∧ Ext h h' := by
  obtain ⟨A, n, c, xs, rfl, ox⟩ := tree_of r
  obtain ⟨B, m, d, ys, rfl, oy⟩ := tree_of r'
  exact lawTree_c ox oy
end Go.Proofs.Ytjggmhpjlnmigaa
