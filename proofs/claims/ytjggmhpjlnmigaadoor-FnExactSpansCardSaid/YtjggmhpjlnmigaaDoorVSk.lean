/- The law of Spans. -/
import Derived.Test.YtjggmhpjlnmigaaDoorVSj
import Derived.Test.YtjggmhpjlnmigaaDoorVSpans0
namespace Go.Proofs.YtjggmhpjlnmigaaDoor
open Go.RowKit
theorem sSp (Q : Hp → Prop) : SpanC Q 15 (fun F => spans (Fu.of F)) := fun h f _ o _ => (sSp_c o).mono fun v h' ⟨A, n, c, e, hn, s⟩ => ⟨A, n, c, e, hn, by show Sep h h' [SpP A n c (spans (Fu.of f.full))]; rw [spans_full]; exact s⟩
theorem iSp : SpanC GQ 16 (fun F => spans (Fu.of F)) := fun h f q o _ => (iSp_c q o).mono fun v h' ⟨A, n, c, e, hn, s⟩ => ⟨A, n, c, e, hn, by show Sep h h' [SpP A n c (spans (Fu.of f.full))]; rw [spans_full]; exact s⟩
theorem lawSpans {h : Hp} {v : Value} (q : GQ h) (r : RdA h shFun v) : HC Tryd.prog 4 [v] h fun v h' => v = .bool true ∧ Ext h h' := lawSpan_r GQ.ext (sSp GQ) iSp q r
end Go.Proofs.YtjggmhpjlnmigaaDoor
