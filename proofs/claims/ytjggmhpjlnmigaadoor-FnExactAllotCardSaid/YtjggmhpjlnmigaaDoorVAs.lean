/- The law of Allot. -/
import Derived.Test.YtjggmhpjlnmigaaDoorVAr
import Derived.Test.YtjggmhpjlnmigaaDoorVAllot0
namespace Go.Proofs.YtjggmhpjlnmigaaDoor
open Go.RowKit
set_option maxRecDepth 20000
set_option linter.unusedSimpArgs false
set_option linter.unusedVariables false
theorem alls_full (f : Fu) : alls (Fu.of f.full) = alls f := by
  unfold alls
  rw [fok_full, spans_full]
theorem sAllot_c {h : Hp} {f : Fu} (o : FuOk h f) : HC Tryd.prog 20 [f.v] h fun v h' => ∃ A n c, v = .slice A n c ∧ n ≤ 2000 ∧ Sep h h' [PlP A n c (alls f)] := by
  refine hc_of Tryd.func20 (rfl : Tryd.f20.body = some _) Tryd.ntmps20 Tryd.results20 Tryd.call20 rfl ?_; have HS := Sep.nil h; conv => whnf
  refine EvNew.sep HS ?_
  intro bf gbf HS1 xbf
  replace HS := HS1
  clear HS1
  conv => whnf
  repeat' ((first | ((with_reducible refine EvCall.mk (HC.mono (sFok_c (o.ext HS.to_ext)) ?_)); (rintro _ hN ⟨rfl, hX⟩); replace HS := HS.ext hX) | (with_reducible first | refine EvSeq.go ?_ | refine EvIf.tt ?_ | refine EvIf.ff ?_) | ((with_reducible refine EvIf.mk (fun c => ?_) (fun c => ?_)) <;> (try simp only [cs_] at c) <;> (try (exfalso; first | omega | (revert c; decide)))) | ((with_reducible refine EvNew.sep HS ?_); intro bN hN HS1 hX; replace HS := HS1; clear HS1) | (with_reducible refine EvLdN.q HS (by repeat first | exact .h | apply Spot.t) (fun hC => ?_))) <;> conv => whnf)
  · refine ⟨_, 0, 0, rfl, by omega, ?_⟩
    have e : alls f = [] := by
      unfold alls
      rw [c]
      rfl
    rw [e]
    exact (HS.pp0 _).take [_]
  · have g := good_of c
    have hrg := g.rg
    have ok := spans_ok g
    refine EvCall.mk ((sAl_c (o.ext HS.to_ext) g rfl ok).mono ?_)
    rintro _ h1 ⟨A, d, od, rfl, io, HS1⟩
    replace HS := HS.join1 HS1
    clear HS1
    conv => whnf
    repeat' (fail <;> conv => whnf)
    refine ⟨A, _, d, rfl, by omega, ?_⟩
    have e : alls f = (stA ((List.range f.rg.toNat).map (span f)) od od.length).1 := by
      unfold alls
      have es : spans f = (List.range f.rg.toNat).map (span f) := by
        unfold spans
        rw [c]
        rfl
      rw [c, es, ordS_eq io]
      rfl
    rw [e]
    exact HS.take [_]
theorem sAllot (Q : Hp → Prop) : PlaceC Q 20 (fun F => alls (Fu.of F)) := fun h f _ o _ => (sAllot_c o).mono fun v h' ⟨A, n, c, e, hn, s⟩ => ⟨A, n, c, e, hn, by show Sep h h' [PlP A n c (alls (Fu.of f.full))]; rw [alls_full]; exact s⟩
theorem iAllot : PlaceC GR 21 (fun F => alls (Fu.of F)) := fun h f q o _ => (iAl_c q o).mono fun v h' ⟨A, n, c, e, hn, s⟩ => ⟨A, n, c, e, hn, by show Sep h h' [PlP A n c (alls (Fu.of f.full))]; rw [alls_full]; exact s⟩
theorem lawAllot {h : Hp} {v : Value} (q : GR h) (r : RdA h shFun v) : HC Tryd.prog 5 [v] h fun v h' => v = .bool true ∧ Ext h h' := lawAllot_r GR.ext (sAllot GR) iAllot q r
end Go.Proofs.YtjggmhpjlnmigaaDoor
