/- The law of Allot, out of the two functions' contracts. -/
import Derived.Test.YtjggmhpjlnmigaaDoorVLive0
import Derived.Test.YtjggmhpjlnmigaaDoorVPp
namespace Go.Proofs.YtjggmhpjlnmigaaDoor
open Go.RowKit
set_option maxRecDepth 20000
set_option linter.unusedSimpArgs false
set_option linter.unusedVariables false
/-- what a function that answers places is to show -/
def PlaceC (Q : Hp → Prop) (F : FuncId) (sp : Full → List Pl) : Prop := ∀ (h : Hp) (f : Fu), Q h → FuOk h f → wt f.cl ≤ 8000000 → HC Tryd.prog F [f.v] h fun v h' => ∃ A n c, v = .slice A n c ∧ n ≤ 2000 ∧ Sep h h' [PlP A n c (sp f.full)]
set_option maxHeartbeats 8000000 in
theorem lawAllot_of {Q : Hp → Prop} (qe : ∀ {h h' : Hp}, Ext h h' → Q h → Q h') {sp : Full → List Pl} (sL : PlaceC Q 20 sp) (iL : PlaceC Q 21 sp) {h : Hp} {f : Fu} (q : Q h) (o : FuR h f) : HC Tryd.prog 5 [f.v] h fun v h' => v = .bool true ∧ Ext h h' := by
  refine hc_of Tryd.func5 (rfl : Tryd.f5.body = some _) Tryd.ntmps5 Tryd.results5 Tryd.call5 rfl ?_; have HS := Sep.nil h; conv => whnf
  repeat' ((first | ((with_reducible refine EvNew.sep HS ?_); intro bN hN HS1 hX; replace HS := HS1; clear HS1) | (with_reducible refine EvLdN.q HS (by repeat first | exact .h | apply Spot.t) (fun hC => ?_))) <;> conv => whnf)
  refine EvCall.mk ((szFun_c (o.ext HS.to_ext) _ (by decide) (by decide)).mono ?_)
  rintro _ hN ⟨⟨r, rfl, r0, r1, r2⟩, hX⟩
  replace HS := HS.ext hX
  conv => whnf
  repeat' ((first | (with_reducible first | refine EvSeq.go ?_ | refine EvIf.tt ?_ | refine EvIf.ff ?_) | ((with_reducible refine EvIf.mk (fun c => ?_) (fun c => ?_)) <;> (try simp only [cs_] at c) <;> (try (exfalso; first | omega | (revert c; decide)))) | (with_reducible refine EvLdN.q HS (by repeat first | exact .h | apply Spot.t) (fun hC => ?_))) <;> conv => whnf)
  · exact ⟨rfl, HS.to_ext⟩
  obtain ⟨b1, b2, b3, b4⟩ := r2 (by assumption)
  have ok := o.ok b1 b2 b4
  repeat' (fail <;> conv => whnf)
  refine EvCall.mk ((toFun_m (ok.ext HS.to_ext) b3 b1).mono ?_)
  rintro _ hN ⟨d1, g1, rfl, q1, w1, s1, c1, x1, k1, HS1⟩
  replace HS := HS.join1 HS1
  clear HS1
  conv => whnf
  repeat' (fail <;> conv => whnf)
  refine EvCall.mk ((sL _ g1 (qe HS.to_ext q) (k1 _ _ _ 0 HS rfl) w1).mono ?_)
  rintro _ hN ⟨A0, n0, ca0, rfl, m0, HS1⟩
  rw [q1] at HS1
  replace HS := HS.join1 HS1
  clear HS1
  conv => whnf
  repeat' ((with_reducible refine EvLdN.q HS (by repeat first | exact .h | apply Spot.t) (fun hC => ?_)) <;> conv => whnf)
  refine EvCall.mk ((toFun_m (ok.ext HS.to_ext) b3 b1).mono ?_)
  rintro _ hN ⟨d2, g2, rfl, q2, w2, s2, c2, x2, k2, HS1⟩
  replace HS := HS.join1 HS1
  clear HS1
  conv => whnf
  repeat' ((first | ((with_reducible refine EvNew.sep HS ?_); intro bN hN HS1 hX; replace HS := HS1; clear HS1) | (with_reducible refine EvLdN.q HS (by repeat first | exact .h | apply Spot.t) (fun hC => ?_)) | ((with_reducible refine EvSt.q HS (by repeat first | exact .h | apply Spot.t) ?_); (conv => whnf); intro hN HS1 hU; replace HS := HS1; clear HS1)) <;> conv => whnf)
  refine EvCall.mk ((iL _ g2 (qe HS.to_ext q) (k2 _ _ _ 1 HS rfl) w2).mono ?_)
  rintro _ hN ⟨A1, n1, ca1, rfl, m1, HS1⟩
  rw [q2] at HS1
  replace HS := HS.join1 HS1
  clear HS1
  conv => whnf
  repeat' ((with_reducible first | refine EvSeq.go ?_ | refine EvIf.tt ?_ | refine EvIf.ff ?_) <;> conv => whnf)
  obtain rfl : n1 = n0 := (HS.ppl 0 rfl).1.symm.trans (HS.ppl 3 rfl).1
  refine EvCall.mk ((eqPls_c (HS.ppr 0 rfl) (HS.ppr 3 rfl) (HS.ppl 0 rfl).1 (by omega)).mono ?_)
  rintro _ hN ⟨rfl, hX⟩
  replace HS := HS.ext hX
  conv => whnf
  repeat' ((first | ((with_reducible refine EvDraw.ord (id := 10) (.go 0 (.go 1 (.alt 2 (.alt 3 (.go 4 .done) .stop) .stop))) fol ?_ ?_ ?_); kernel_rfl; kernel_rfl) | (with_reducible first | refine EvSeq.go ?_ | refine EvIf.tt ?_ | refine EvIf.ff ?_) | ((with_reducible refine EvIf.mk (fun c => ?_) (fun c => ?_)) <;> (try simp only [cs_] at c) <;> (try (exfalso; first | omega | (revert c; decide)))) | (with_reducible refine EvLdN.q HS (by repeat first | exact .h | apply Spot.t) (fun hC => ?_))) <;> conv => whnf)
  refine EvCall.mk ((toFun_m (ok.ext HS.to_ext) b3 b1).mono ?_)
  rintro _ hN ⟨d3, g3, rfl, q3, w3, s3, c3, x3, k3, HS1⟩
  replace HS := HS.join1 HS1
  clear HS1
  conv => whnf
  repeat' ((first | ((with_reducible refine Hole.mk (kK ?_)); clear kK) | ((with_reducible refine EvKeep.nq (A := keepK _ _ (Hole _) _) HS (by repeat first | exact .h | apply Spot.t) ?_ ?_); assumption; intro hC) | ((fail_if_success with_reducible refine EvKeep.hole ?_); (with_reducible refine EvKeep.abs (fun X kK => ?_)))) <;> conv => whnf)
  refine EvCall.mk ((eqFun_c (k2 _ _ _ 3 HS rfl) (k3 _ _ _ 0 HS rfl) (q2.trans q3.symm)).mono ?_)
  rintro _ hN ⟨rfl, hX⟩
  replace HS := HS.ext hX
  conv => whnf
  repeat' ((first | ((with_reducible refine EvIf.mk (fun c => ?_) (fun c => ?_)) <;> (try simp only [cs_] at c) <;> (try (exfalso; first | omega | (revert c; decide)))) | (with_reducible refine EvLdN.q HS (by repeat first | exact .h | apply Spot.t) (fun hC => ?_))) <;> conv => whnf)
  refine EvCall.mk ((markFun_c (HS.front 3 rfl) c2 (by omega) (by omega) (by decide) (by decide) x2).mono ?_)
  rintro _ hN ⟨rfl, HS1⟩
  replace HS := HS1
  clear HS1
  dsimp only [List.eraseIdx] at HS
  conv => whnf
  repeat' ((first | (with_reducible first | refine EvSeq.go ?_ | refine EvIf.tt ?_ | refine EvIf.ff ?_) | ((with_reducible refine EvIf.mk (fun c => ?_) (fun c => ?_)) <;> (try simp only [cs_] at c) <;> (try (exfalso; first | omega | (revert c; decide))))) <;> conv => whnf)
  refine EvCall.mk ((eqPls_c (HS.ppr 1 rfl) (HS.ppr 3 rfl) (HS.ppl 1 rfl).1 (by omega)).mono ?_)
  rintro _ hN ⟨rfl, hX⟩
  replace HS := HS.ext hX
  conv => whnf
  repeat' ((first | (with_reducible first | refine EvSeq.go ?_ | refine EvIf.tt ?_ | refine EvIf.ff ?_) | ((with_reducible refine EvIf.mk (fun c => ?_) (fun c => ?_)) <;> (try simp only [cs_] at c) <;> (try (exfalso; first | omega | (revert c; decide))))) <;> conv => whnf)
  refine EvCall.mk ((markPls_c (HS.front 1 rfl) (by omega) (by decide) (by decide)).mono ?_)
  rintro _ hN ⟨rfl, HS1⟩
  replace HS := HS1
  clear HS1
  dsimp only [List.eraseIdx] at HS
  conv => whnf
  repeat' (fail <;> conv => whnf)
  refine EvCall.mk ((heldPls_c (HS.ppr 0 rfl) (by omega) (by decide) (by decide)).mono ?_)
  rintro _ _ ⟨rfl, rfl⟩
  conv => whnf
  repeat' ((first | (with_reducible first | refine EvSeq.go ?_ | refine EvIf.tt ?_ | refine EvIf.ff ?_) | ((with_reducible refine EvIf.mk (fun c => ?_) (fun c => ?_)) <;> (try simp only [cs_] at c) <;> (try (exfalso; first | omega | (revert c; decide)))) | (with_reducible refine EvLdN.q HS (by repeat first | exact .h | apply Spot.t) (fun hC => ?_))) <;> conv => whnf)
  refine EvCall.mk ((toFun_m (ok.ext HS.to_ext) b3 b1).mono ?_)
  rintro _ hN ⟨d4, g4, rfl, q4, w4, s4, c4, x4, k4, HS1⟩
  replace HS := HS.join1 HS1
  clear HS1
  conv => whnf
  repeat' (fail <;> conv => whnf)
  refine EvCall.mk ((iL _ g4 (qe HS.to_ext q) (k4 _ _ _ 0 HS rfl) w4).mono ?_)
  rintro _ hN ⟨A2, n2, ca2, rfl, m2, HS1⟩
  rw [q4] at HS1
  replace HS := HS.join1 HS1
  clear HS1
  conv => whnf
  repeat' ((with_reducible first | refine EvSeq.go ?_ | refine EvIf.tt ?_ | refine EvIf.ff ?_) <;> conv => whnf)
  obtain rfl : n2 = n1 := (HS.ppl 0 rfl).1.symm.trans (HS.ppl 5 rfl).1
  refine EvCall.mk ((eqPls_c (HS.ppr 0 rfl) (HS.ppr 5 rfl) (HS.ppl 0 rfl).1 (by omega)).mono ?_)
  rintro _ hN ⟨rfl, hX⟩
  replace HS := HS.ext hX
  conv => whnf
  repeat' (((with_reducible refine EvIf.mk (fun c => ?_) (fun c => ?_)) <;> (try simp only [cs_] at c) <;> (try (exfalso; first | omega | (revert c; decide)))) <;> conv => whnf)
  refine EvCall.mk ((heldPls_c (HS.ppr 2 rfl) (by omega) (by decide) (by decide)).mono ?_)
  rintro _ _ ⟨rfl, rfl⟩
  conv => whnf
  repeat' ((first | (with_reducible first | refine EvSeq.go ?_ | refine EvIf.tt ?_ | refine EvIf.ff ?_) | ((with_reducible refine EvIf.mk (fun c => ?_) (fun c => ?_)) <;> (try simp only [cs_] at c) <;> (try (exfalso; first | omega | (revert c; decide))))) <;> conv => whnf)
  exact ⟨rfl, HS.to_ext⟩
theorem lawAllot_r {Q : Hp → Prop} (qe : ∀ {h h' : Hp}, Ext h h' → Q h → Q h') {sp : Full → List Pl} (sL : PlaceC Q 20 sp) (iL : PlaceC Q 21 sp) {h : Hp} {v : Value} (q : Q h) (r : RdA h shFun v) : HC Tryd.prog 5 [v] h fun v h' => v = .bool true ∧ Ext h h' := by
  obtain ⟨f, rfl, o⟩ := fun_of r
  exact lawAllot_of qe sL iL q o
end Go.Proofs.YtjggmhpjlnmigaaDoor
