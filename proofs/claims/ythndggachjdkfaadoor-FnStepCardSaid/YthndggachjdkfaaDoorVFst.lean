/- The law of one step. -/
import Derived.Test.YthndggachjdkfaaDoorVDr6
namespace Go.Proofs.YthndggachjdkfaaDoor
open Go.RowKit
set_option maxRecDepth 20000
set_option linter.unusedSimpArgs false
set_option linter.unusedVariables false
/-- Code as it was, and at most one register turned, nothing else of note with it -/
def One (m m' : Mac) : Prop := m'.code = m.code ∧ (m'.regs = m.regs ∨ ∃ (i : Nat) (v : Int), m'.regs = m.regs.set i v ∧ m'.data = m.data ∧ m'.stack = m.stack ∧ m'.out = m.out)
theorem One.refl (m : Mac) : One m m := ⟨rfl, .inl rfl⟩
theorem One.setR (m : Mac) (d v : Int) (p : Int) : One m (nx (setR m d v) p) := by
  refine ⟨rfl, ?_⟩
  show rset m.regs d v = m.regs ∨ _
  unfold rset
  split
  · exact .inl rfl
  · rename_i h
    refine .inr ⟨d.toNat, v % 4294967296, ?_, rfl, rfl, rfl⟩
    show rset m.regs d v = _
    unfold rset
    rw [if_neg h]
theorem One.stM (m : Mac) (k a w p : Int) : One m (nx (stM m k a w) p) := by
  unfold Go.Proofs.YthndggachjdkfaaDoor.stM
  split
  · exact ⟨rfl, .inl rfl⟩
  · split <;> exact ⟨rfl, .inl rfl⟩
theorem One.ecl (m : Mac) : One m (ecl m).1 := by
  unfold Go.Proofs.YthndggachjdkfaaDoor.ecl
  split
  · split <;> exact ⟨rfl, .inl rfl⟩
  split
  · cases m.inp with
    | nil => exact ⟨rfl, .inr ⟨10, 4294967295, rfl, rfl, rfl, rfl⟩⟩
    | cons b r => exact ⟨rfl, .inr ⟨10, b, rfl, rfl, rfl, rfl⟩⟩
  split
  · exact ⟨rfl, .inl rfl⟩
  split
  · exact ⟨rfl, .inl rfl⟩
  · exact ⟨rfl, .inl rfl⟩
theorem One.doI (m : Mac) (i : Ins) : One m (doI m i).1 := by
  unfold Go.Proofs.YthndggachjdkfaaDoor.doI
  split
  · exact One.setR _ _ _ _
  split
  · exact One.setR _ _ _ _
  split
  · split
    · exact One.refl _
    · exact One.setR _ _ _ _
  split
  · exact One.setR _ _ _ _
  split
  · split
    · exact One.refl _
    · exact One.stM _ _ _ _ _
  split
  · exact ⟨rfl, .inl rfl⟩
  split
  · exact One.setR _ _ _ _
  split
  · exact One.setR _ _ _ _
  split
  · exact One.setR _ _ _ _
  split
  · exact One.refl _
  · exact One.ecl _
theorem One.step1 (m : Mac) : One m (step1 m) := by
  have h : One { m with steps := m.steps + 1 } (stp { m with steps := m.steps + 1 }).1 := by
    unfold stp
    split
    · split
      · exact One.refl _
      · exact One.doI _ _
    · exact One.refl _
  unfold Go.Proofs.YthndggachjdkfaaDoor.step1
  dsimp only
  split
  · exact h
  · exact h
theorem One.run (m : Mac) : One m (runM m 1) := by
  cases h : mok m with
  | false => rw [runM_no h]; exact One.refl m
  | true =>
    rw [runM_yes h]
    show One m (runN 1 m)
    unfold runN
    split
    · exact One.step1 m
    · exact One.refl m
theorem sStep_m {h : Hp} {x : MH} {m : Mac} (r : RdM h x m) (l : Len 200001 m) (b : B4 m) : HC Tryd.prog 8 [x.v m] h fun v h' => ∃ y : MH, v = y.v (runM m 1) ∧ Sep h h' [Mo y (runM m 1)] :=
  (sStep_c r (l.small r) b).mono fun v h' ⟨y, e, s⟩ => ⟨y, e, s.foldM⟩
theorem iStep_m {h : Hp} {x : MH} {m : Mac} (hg : Glob h) (r : RdM h x m) (l : Len 200001 m) (b : B4 m) : HC Tryd.prog 10 [x.v m] h fun v h' => ∃ y : MH, v = y.v (runM m 1) ∧ Sep h h' [Mo y (runM m 1)] :=
  (iStep_c hg r (l.small r) b).mono fun v h' ⟨y, e, s⟩ => ⟨y, e, s.foldM⟩
theorem sameInts_e {h : Hp} {A B : Option Addr} {n m c d : Nat} {l l' : List Int} (r : Rd h A (ints .i64 l)) (r' : Rd h B (ints .i64 l')) (hl : l.length = n) (hl' : l'.length = m) (e : l = l') (hn : n ≤ 1000000000) : HC Tryd.prog 21 [.slice A n c, .slice B m d] h fun v h' => v = .bool true ∧ h' = h := by
  subst e
  subst hl
  subst hl'
  exact sameInts_c r r' rfl hn
theorem set_get {l : List Int} {i k : Nat} {v : Int} (hk : k < l.length) (hk' : k < (l.set i v).length) (e : ¬(l.set i v)[k] = l[k]) : k = i := by
  rcases Nat.decEq i k with h | h
  · exact absurd (List.getElem_set_ne h hk') e
  · exact h.symm
theorem set_at {l l' : List Int} {i k : Nat} {v : Int} (e : l' = l.set i v) (hk : k < l.length) (hk' : k < l'.length) (c : ¬l'[k] = l[k]) : k = i := by
  subst e
  exact set_get hk hk' c
theorem set_same {l l' : List Int} {k : Nat} (e : l' = l) (hk : k < l.length) (hk' : k < l'.length) : l'[k] = l[k] := by subst e; rfl
set_option maxHeartbeats 8000000 in
theorem lawStep1_c {h : Hp} (hG : Glob h) {x : Hdr} {l : List Int} (r : Rd h x.a (ints .u8 l)) (by_ : Byt l) (rl : l.length = x.n) (nc : x.n ≤ x.c) (nb : x.n ≤ 9223372036854775807) :
    HC Tryd.prog 6 [x.v] h fun v h' => v = .bool true ∧ Ext h h' := by
  have hb : Byt (l.take 1500) := fun x hx => by_ x (List.mem_of_mem_take hx)
  have hm := dmac_b hb 0
  refine hc_of Tryd.func6 (rfl : Tryd.f6.body = some _) Tryd.ntmps6 Tryd.results6 Tryd.call6 rfl ?_; have HS := Sep.nil h; conv => whnf
  repeat' ((first | (with_reducible first | refine EvSeq.go ?_ | refine EvIf.tt ?_ | refine EvIf.ff ?_) | ((with_reducible refine Hole.mk (kK ?_)); clear kK) | ((with_reducible refine EvIf.mk (fun c => ?_) (fun c => ?_)) <;> (try simp only [cs_] at c) <;> (try (exfalso; first | omega | (revert c; decide)))) | ((with_reducible refine EvNew.sep HS ?_); intro bN hN HS1 hX; replace HS := HS1; clear HS1) | ((with_reducible refine EvIdx.lit ?_ ?_ ?_); (first | omega | decide); (first | omega | decide)) | ((with_reducible first | refine EvNe.mk ?_ ?_ | refine EvGe.mk ?_ ?_); (first | decide | omega)) | ((with_reducible refine EvLd.q HS (by repeat first | exact .h | apply Spot.t) ?_); (conv => whnf); intro hC) | (with_reducible refine EvLdN.q HS (by repeat first | exact .h | apply Spot.t) (fun hC => ?_)) | ((with_reducible refine EvSt.q HS (by repeat first | exact .h | apply Spot.t) ?_); (conv => whnf); intro hN HS1 hU; replace HS := HS1; clear HS1) | ((with_reducible refine EvKeep.cq (A := keepK _ _ (Hole _) _) HS (by repeat first | exact .h | apply Spot.t) ?_); (conv => whnf); (refine ⟨?_, ?_⟩); assumption; intro hC) | ((with_reducible refine EvKeep.nq (A := keepK _ _ (Hole _) _) HS (by repeat first | exact .h | apply Spot.t) ?_ ?_); assumption; intro hC) | ((fail_if_success with_reducible refine EvKeep.hole ?_); (with_reducible refine EvKeep.abs (fun X kK => ?_)))) <;> conv => whnf)
  · exact ⟨rfl, HS.to_ext⟩
  have cD := fun g (q : Ext h g) => drawStep_e (h := g) (x := x) (r.ext q) by_ rl nc (by omega)
  generalize (dmac (l.take 1500) 0).1 = m at *
  have hm1 := runM_len' hm.1 hm.2 1
  have hone := One.run m
  refine EvCall.mk ((cD _ HS.to_ext).mono ?_)
  rintro _ hN ⟨u, rfl, HS1⟩
  replace HS := HS.join1 HS1
  clear HS1
  conv => whnf
  repeat' ((first | (with_reducible first | refine EvSeq.go ?_ | refine EvIf.tt ?_ | refine EvIf.ff ?_) | ((with_reducible refine Hole.mk (kK ?_)); clear kK) | ((with_reducible refine EvIf.mk (fun c => ?_) (fun c => ?_)) <;> (try simp only [cs_] at c) <;> (try (exfalso; first | omega | (revert c; decide)))) | ((with_reducible refine EvNew.sep HS ?_); intro bN hN HS1 hX; replace HS := HS1; clear HS1) | ((with_reducible refine EvIdx.lit ?_ ?_ ?_); (first | omega | decide); (first | omega | decide)) | ((with_reducible first | refine EvNe.mk ?_ ?_ | refine EvGe.mk ?_ ?_); (first | decide | omega)) | ((with_reducible refine EvLd.q HS (by repeat first | exact .h | apply Spot.t) ?_); (conv => whnf); intro hC) | (with_reducible refine EvLdN.q HS (by repeat first | exact .h | apply Spot.t) (fun hC => ?_)) | ((with_reducible refine EvSt.q HS (by repeat first | exact .h | apply Spot.t) ?_); (conv => whnf); intro hN HS1 hU; replace HS := HS1; clear HS1) | ((with_reducible refine EvKeep.cq (A := keepK _ _ (Hole _) _) HS (by repeat first | exact .h | apply Spot.t) ?_); (conv => whnf); (refine ⟨?_, ?_⟩); assumption; intro hC) | ((with_reducible refine EvKeep.nq (A := keepK _ _ (Hole _) _) HS (by repeat first | exact .h | apply Spot.t) ?_ ?_); assumption; intro hC) | ((fail_if_success with_reducible refine EvKeep.hole ?_); (with_reducible refine EvKeep.abs (fun X kK => ?_)))) <;> conv => whnf)
  refine EvCall.mk ((sStep_m (HS.rdm_i 1 rfl) hm.2 hm.1).mono ?_)
  rintro _ hN ⟨w, rfl, HS1⟩
  replace HS := HS.join1 HS1
  clear HS1
  conv => whnf
  repeat' ((first | (with_reducible first | refine EvSeq.go ?_ | refine EvIf.tt ?_ | refine EvIf.ff ?_) | ((with_reducible refine Hole.mk (kK ?_)); clear kK) | ((with_reducible refine EvIf.mk (fun c => ?_) (fun c => ?_)) <;> (try simp only [cs_] at c) <;> (try (exfalso; first | omega | (revert c; decide)))) | ((with_reducible refine EvNew.sep HS ?_); intro bN hN HS1 hX; replace HS := HS1; clear HS1) | ((with_reducible refine EvIdx.lit ?_ ?_ ?_); (first | omega | decide); (first | omega | decide)) | ((with_reducible first | refine EvNe.mk ?_ ?_ | refine EvGe.mk ?_ ?_); (first | decide | omega)) | ((with_reducible refine EvLd.q HS (by repeat first | exact .h | apply Spot.t) ?_); (conv => whnf); intro hC) | (with_reducible refine EvLdN.q HS (by repeat first | exact .h | apply Spot.t) (fun hC => ?_)) | ((with_reducible refine EvSt.q HS (by repeat first | exact .h | apply Spot.t) ?_); (conv => whnf); intro hN HS1 hU; replace HS := HS1; clear HS1) | ((with_reducible refine EvKeep.cq (A := keepK _ _ (Hole _) _) HS (by repeat first | exact .h | apply Spot.t) ?_); (conv => whnf); (refine ⟨?_, ?_⟩); assumption; intro hC) | ((with_reducible refine EvKeep.nq (A := keepK _ _ (Hole _) _) HS (by repeat first | exact .h | apply Spot.t) ?_ ?_); assumption; intro hC) | ((fail_if_success with_reducible refine EvKeep.hole ?_); (with_reducible refine EvKeep.abs (fun X kK => ?_)))) <;> conv => whnf)
  refine EvCall.mk ((cD _ HS.to_ext).mono ?_)
  rintro _ hN ⟨u2, rfl, HS1⟩
  replace HS := HS.join1 HS1
  clear HS1
  conv => whnf
  repeat' ((first | (with_reducible first | refine EvSeq.go ?_ | refine EvIf.tt ?_ | refine EvIf.ff ?_) | ((with_reducible refine Hole.mk (kK ?_)); clear kK) | ((with_reducible refine EvIf.mk (fun c => ?_) (fun c => ?_)) <;> (try simp only [cs_] at c) <;> (try (exfalso; first | omega | (revert c; decide)))) | ((with_reducible refine EvNew.sep HS ?_); intro bN hN HS1 hX; replace HS := HS1; clear HS1) | ((with_reducible refine EvIdx.lit ?_ ?_ ?_); (first | omega | decide); (first | omega | decide)) | ((with_reducible first | refine EvNe.mk ?_ ?_ | refine EvGe.mk ?_ ?_); (first | decide | omega)) | ((with_reducible refine EvLd.q HS (by repeat first | exact .h | apply Spot.t) ?_); (conv => whnf); intro hC) | (with_reducible refine EvLdN.q HS (by repeat first | exact .h | apply Spot.t) (fun hC => ?_)) | ((with_reducible refine EvSt.q HS (by repeat first | exact .h | apply Spot.t) ?_); (conv => whnf); intro hN HS1 hU; replace HS := HS1; clear HS1) | ((with_reducible refine EvKeep.cq (A := keepK _ _ (Hole _) _) HS (by repeat first | exact .h | apply Spot.t) ?_); (conv => whnf); (refine ⟨?_, ?_⟩); assumption; intro hC) | ((with_reducible refine EvKeep.nq (A := keepK _ _ (Hole _) _) HS (by repeat first | exact .h | apply Spot.t) ?_ ?_); assumption; intro hC) | ((fail_if_success with_reducible refine EvKeep.hole ?_); (with_reducible refine EvKeep.abs (fun X kK => ?_)))) <;> conv => whnf)
  refine EvCall.mk ((iStep_m (hG.ext HS.to_ext) (HS.rdm_i 0 rfl) hm.2 hm.1).mono ?_)
  rintro _ hN ⟨o, rfl, HS1⟩
  replace HS := HS.join1 HS1
  clear HS1
  conv => whnf
  repeat' ((first | ((with_reducible refine EvDraw.ord (id := 6) (.go 0 (.go 1 (.alt 2 (.go 3 (.go 4 (.go 5 (.go 7 (.alt 6 (.alt 8 (.go 9 (.go 10 .done)) .stop) .stop))))) .stop))) fol ?_ ?_ ?_); kernel_rfl; kernel_rfl) | ((with_reducible refine EvDraw.ord (id := 16) (.go 0 (.go 1 (.go 2 (.go 3 (.go 4 (.go 5 (.go 6 (.go 7 (.go 8 (.go 9 (.go 10 .done))))))))))) fol ?_ ?_ ?_); kernel_rfl; kernel_rfl) | (with_reducible first | refine EvSeq.go ?_ | refine EvIf.tt ?_ | refine EvIf.ff ?_) | ((with_reducible refine Hole.mk (kK ?_)); clear kK) | ((with_reducible refine EvIf.mk (fun c => ?_) (fun c => ?_)) <;> (try simp only [cs_] at c) <;> (try (exfalso; first | omega | (revert c; decide)))) | ((with_reducible refine EvNew.sep HS ?_); intro bN hN HS1 hX; replace HS := HS1; clear HS1) | ((with_reducible refine EvIdx.lit ?_ ?_ ?_); (first | omega | decide); (first | omega | decide)) | ((with_reducible first | refine EvNe.mk ?_ ?_ | refine EvGe.mk ?_ ?_); (first | decide | omega)) | ((with_reducible refine EvLd.q HS (by repeat first | exact .h | apply Spot.t) ?_); (conv => whnf); intro hC) | (with_reducible refine EvLdN.q HS (by repeat first | exact .h | apply Spot.t) (fun hC => ?_)) | ((with_reducible refine EvSt.q HS (by repeat first | exact .h | apply Spot.t) ?_); (conv => whnf); intro hN HS1 hU; replace HS := HS1; clear HS1) | ((with_reducible refine EvKeep.cq (A := keepK _ _ (Hole _) _) HS (by repeat first | exact .h | apply Spot.t) ?_); (conv => whnf); (refine ⟨?_, ?_⟩); assumption; intro hC) | ((with_reducible refine EvKeep.nq (A := keepK _ _ (Hole _) _) HS (by repeat first | exact .h | apply Spot.t) ?_ ?_); assumption; intro hC) | ((fail_if_success with_reducible refine EvKeep.hole ?_); (with_reducible refine EvKeep.abs (fun X kK => ?_)))) <;> conv => whnf)
  refine EvCall.mk ((sameM_m (HS.rdm_i 1 rfl) (HS.rdm_i 4 rfl) rfl hm1.2).mono ?_)
  rintro _ hN ⟨rfl, hX⟩
  replace HS := HS.ext hX
  generalize hM : runM m 1 = M at *
  conv => whnf
  repeat' ((first | ((with_reducible refine EvDraw.ord (id := 6) (.go 0 (.go 1 (.alt 2 (.go 3 (.go 4 (.go 5 (.go 7 (.alt 6 (.alt 8 (.go 9 (.go 10 .done)) .stop) .stop))))) .stop))) fol ?_ ?_ ?_); kernel_rfl; kernel_rfl) | ((with_reducible refine EvDraw.ord (id := 16) (.go 0 (.go 1 (.go 2 (.go 3 (.go 4 (.go 5 (.go 6 (.go 7 (.go 8 (.go 9 (.go 10 .done))))))))))) fol ?_ ?_ ?_); kernel_rfl; kernel_rfl) | ((with_reducible refine EvCall.mk (HC.mono (iMok_c (HS.rdm_i 6 rfl) (hm.2.small (HS.rdm_i 6 rfl))) ?_)); (rintro _ hN ⟨rfl, hX⟩); replace HS := HS.ext hX) | ((with_reducible refine EvCall.mk (HC.mono (sMok_c (HS.rdm_i 6 rfl) (hm.2.small (HS.rdm_i 6 rfl))) ?_)); (rintro _ hN ⟨rfl, hX⟩); replace HS := HS.ext hX) | (with_reducible first | refine EvSeq.go ?_ | refine EvIf.tt ?_ | refine EvIf.ff ?_) | ((with_reducible refine Hole.mk (kK ?_)); clear kK) | ((with_reducible refine EvIf.mk (fun c => ?_) (fun c => ?_)) <;> (try simp only [cs_] at c) <;> (try (exfalso; first | omega | (revert c; decide)))) | ((with_reducible refine EvNew.sep HS ?_); intro bN hN HS1 hX; replace HS := HS1; clear HS1) | ((with_reducible refine EvIdx.lit ?_ ?_ ?_); (first | omega | decide); (first | omega | decide)) | ((with_reducible first | refine EvNe.mk ?_ ?_ | refine EvGe.mk ?_ ?_); (first | decide | omega)) | ((with_reducible refine EvLd.q HS (by repeat first | exact .h | apply Spot.t) ?_); (conv => whnf); intro hC) | (with_reducible refine EvLdN.q HS (by repeat first | exact .h | apply Spot.t) (fun hC => ?_)) | ((with_reducible refine EvSt.q HS (by repeat first | exact .h | apply Spot.t) ?_); (conv => whnf); intro hN HS1 hU; replace HS := HS1; clear HS1) | ((with_reducible refine EvKeep.cq (A := keepK _ _ (Hole _) _) HS (by repeat first | exact .h | apply Spot.t) ?_); (conv => whnf); (refine ⟨?_, ?_⟩); assumption; intro hC) | ((with_reducible refine EvKeep.nq (A := keepK _ _ (Hole _) _) HS (by repeat first | exact .h | apply Spot.t) ?_ ?_); assumption; intro hC) | ((fail_if_success with_reducible refine EvKeep.hole ?_); (with_reducible refine EvKeep.abs (fun X kK => ?_)))) <;> conv => whnf)
  · refine EvCall.mk ((sameM_m (HS.rdm_i 1 rfl) (HS.rdm_i 6 rfl) (by rw [← hM, runM_no c]) hm1.2).mono ?_)
    rintro _ hN ⟨rfl, hX⟩
    replace HS := HS.ext hX
    conv => whnf
    repeat' ((first | ((with_reducible refine EvDraw.ord (id := 6) (.go 0 (.go 1 (.alt 2 (.go 3 (.go 4 (.go 5 (.go 7 (.alt 6 (.alt 8 (.go 9 (.go 10 .done)) .stop) .stop))))) .stop))) fol ?_ ?_ ?_); kernel_rfl; kernel_rfl) | ((with_reducible refine EvDraw.ord (id := 16) (.go 0 (.go 1 (.go 2 (.go 3 (.go 4 (.go 5 (.go 6 (.go 7 (.go 8 (.go 9 (.go 10 .done))))))))))) fol ?_ ?_ ?_); kernel_rfl; kernel_rfl) | (with_reducible first | refine EvSeq.go ?_ | refine EvIf.tt ?_ | refine EvIf.ff ?_) | ((with_reducible refine Hole.mk (kK ?_)); clear kK) | ((with_reducible refine EvIf.mk (fun c => ?_) (fun c => ?_)) <;> (try simp only [cs_] at c) <;> (try (exfalso; first | omega | (revert c; decide)))) | ((with_reducible refine EvNew.sep HS ?_); intro bN hN HS1 hX; replace HS := HS1; clear HS1) | ((with_reducible refine EvIdx.lit ?_ ?_ ?_); (first | omega | decide); (first | omega | decide)) | ((with_reducible first | refine EvNe.mk ?_ ?_ | refine EvGe.mk ?_ ?_); (first | decide | omega)) | ((with_reducible refine EvLd.q HS (by repeat first | exact .h | apply Spot.t) ?_); (conv => whnf); intro hC) | (with_reducible refine EvLdN.q HS (by repeat first | exact .h | apply Spot.t) (fun hC => ?_)) | ((with_reducible refine EvSt.q HS (by repeat first | exact .h | apply Spot.t) ?_); (conv => whnf); intro hN HS1 hU; replace HS := HS1; clear HS1) | ((with_reducible refine EvKeep.cq (A := keepK _ _ (Hole _) _) HS (by repeat first | exact .h | apply Spot.t) ?_); (conv => whnf); (refine ⟨?_, ?_⟩); assumption; intro hC) | ((with_reducible refine EvKeep.nq (A := keepK _ _ (Hole _) _) HS (by repeat first | exact .h | apply Spot.t) ?_ ?_); assumption; intro hC) | ((fail_if_success with_reducible refine EvKeep.hole ?_); (with_reducible refine EvKeep.abs (fun X kK => ?_)))) <;> conv => whnf)
    exact ⟨rfl, HS.to_ext⟩
  · have okM : Ok M := by
      rw [← hM, runM_yes c]
      exact (ok_of c hm.1.1 hm.1.2.1 hm.1.2.2.1 hm.1.2.2.2).runN _
    have okm : Ok m := ok_of c hm.1.1 hm.1.2.1 hm.1.2.2.1 hm.1.2.2.2
    refine EvCall.mk ((iMok_v okM.mok (HS.rdm_i 1 rfl) (hm1.2.small (HS.rdm_i 1 rfl))).mono ?_)
    rintro _ hN ⟨rfl, hX⟩
    replace HS := HS.ext hX
    conv => whnf
    repeat' ((first | ((with_reducible refine EvDraw.ord (id := 6) (.go 0 (.go 1 (.alt 2 (.go 3 (.go 4 (.go 5 (.go 7 (.alt 6 (.alt 8 (.go 9 (.go 10 .done)) .stop) .stop))))) .stop))) fol ?_ ?_ ?_); kernel_rfl; kernel_rfl) | ((with_reducible refine EvDraw.ord (id := 16) (.go 0 (.go 1 (.go 2 (.go 3 (.go 4 (.go 5 (.go 6 (.go 7 (.go 8 (.go 9 (.go 10 .done))))))))))) fol ?_ ?_ ?_); kernel_rfl; kernel_rfl) | (with_reducible first | refine EvSeq.go ?_ | refine EvIf.tt ?_ | refine EvIf.ff ?_) | ((with_reducible refine Hole.mk (kK ?_)); clear kK) | ((with_reducible refine EvIf.mk (fun c => ?_) (fun c => ?_)) <;> (try simp only [cs_] at c) <;> (try (exfalso; first | omega | (revert c; decide)))) | ((with_reducible refine EvNew.sep HS ?_); intro bN hN HS1 hX; replace HS := HS1; clear HS1) | ((with_reducible refine EvIdx.lit ?_ ?_ ?_); (first | omega | decide); (first | omega | decide)) | ((with_reducible first | refine EvNe.mk ?_ ?_ | refine EvGe.mk ?_ ?_); (first | decide | omega)) | ((with_reducible refine EvLd.q HS (by repeat first | exact .h | apply Spot.t) ?_); (conv => whnf); intro hC) | (with_reducible refine EvLdN.q HS (by repeat first | exact .h | apply Spot.t) (fun hC => ?_)) | ((with_reducible refine EvSt.q HS (by repeat first | exact .h | apply Spot.t) ?_); (conv => whnf); intro hN HS1 hU; replace HS := HS1; clear HS1) | ((with_reducible refine EvKeep.cq (A := keepK _ _ (Hole _) _) HS (by repeat first | exact .h | apply Spot.t) ?_); (conv => whnf); (refine ⟨?_, ?_⟩); assumption; intro hC) | ((with_reducible refine EvKeep.nq (A := keepK _ _ (Hole _) _) HS (by repeat first | exact .h | apply Spot.t) ?_ ?_); assumption; intro hC) | ((fail_if_success with_reducible refine EvKeep.hole ?_); (with_reducible refine EvKeep.abs (fun X kK => ?_)))) <;> conv => whnf)
    have ro := HS.rdm_i 1 rfl
    have ru := HS.rdm_i 6 rfl
    refine EvCall.mk ((sameInts_e ro.c ru.c ro.cl ru.cl hone.1 (hm1.2.small ro).c).mono ?_)
    rintro _ _ ⟨rfl, rfl⟩
    conv => whnf
    repeat' ((first | ((with_reducible refine EvDraw.ord (id := 6) (.go 0 (.go 1 (.alt 2 (.go 3 (.go 4 (.go 5 (.go 7 (.alt 6 (.alt 8 (.go 9 (.go 10 .done)) .stop) .stop))))) .stop))) fol ?_ ?_ ?_); kernel_rfl; kernel_rfl) | ((with_reducible refine EvDraw.ord (id := 16) (.go 0 (.go 1 (.go 2 (.go 3 (.go 4 (.go 5 (.go 6 (.go 7 (.go 8 (.go 9 (.go 10 .done))))))))))) fol ?_ ?_ ?_); kernel_rfl; kernel_rfl) | (with_reducible first | refine EvSeq.go ?_ | refine EvIf.tt ?_ | refine EvIf.ff ?_) | ((with_reducible refine Hole.mk (kK ?_)); clear kK) | ((with_reducible refine EvIf.mk (fun c => ?_) (fun c => ?_)) <;> (try simp only [cs_] at c) <;> (try (exfalso; first | omega | (revert c; decide)))) | ((with_reducible refine EvNew.sep HS ?_); intro bN hN HS1 hX; replace HS := HS1; clear HS1) | ((with_reducible refine EvIdx.lit ?_ ?_ ?_); (first | omega | decide); (first | omega | decide)) | ((with_reducible first | refine EvNe.mk ?_ ?_ | refine EvGe.mk ?_ ?_); (first | decide | omega)) | ((with_reducible refine EvLd.q HS (by repeat first | exact .h | apply Spot.t) ?_); (conv => whnf); intro hC) | (with_reducible refine EvLdN.q HS (by repeat first | exact .h | apply Spot.t) (fun hC => ?_)) | ((with_reducible refine EvSt.q HS (by repeat first | exact .h | apply Spot.t) ?_); (conv => whnf); intro hN HS1 hU; replace HS := HS1; clear HS1) | ((with_reducible refine EvKeep.cq (A := keepK _ _ (Hole _) _) HS (by repeat first | exact .h | apply Spot.t) ?_); (conv => whnf); (refine ⟨?_, ?_⟩); assumption; intro hC) | ((with_reducible refine EvKeep.nq (A := keepK _ _ (Hole _) _) HS (by repeat first | exact .h | apply Spot.t) ?_ ?_); assumption; intro hC) | ((fail_if_success with_reducible refine EvKeep.hole ?_); (with_reducible refine EvKeep.abs (fun X kK => ?_)))) <;> conv => whnf)
    have z1 := okM.r0
    have z2 := okm.r0
    have l1 := ro.rl
    have l2 := ru.rl
    rename Hp => g
    rcases hone.2 with he | ⟨i, v, he, hd, hs, ho⟩
    · refine EvLoop.keep ([6, 7, 47, 48, 49, 50, 51, 52, 53, 54, 55, 56, 57, 58, 59, 60, 61, 62, 63], 9) (α := Nat) (fun k => [(7, .int .i64 (k : Int)), (6, .int .i64 0)]) (fun k h' => h' = g ∧ k ≤ 32) (fun k => 32 - k) 0 (by (repeat' (first | exact trivial | refine ⟨rfl, ?_⟩))) ⟨rfl, Nat.zero_le _⟩ ?_
      rintro k _ ⟨rfl, hk⟩
      conv => whnf
      repeat' ((first | ((with_reducible refine EvDraw.ord (id := 6) (.go 0 (.go 1 (.alt 2 (.go 3 (.go 4 (.go 5 (.go 7 (.alt 6 (.alt 8 (.go 9 (.go 10 .done)) .stop) .stop))))) .stop))) fol ?_ ?_ ?_); kernel_rfl; kernel_rfl) | ((with_reducible refine EvDraw.ord (id := 16) (.go 0 (.go 1 (.go 2 (.go 3 (.go 4 (.go 5 (.go 6 (.go 7 (.go 8 (.go 9 (.go 10 .done))))))))))) fol ?_ ?_ ?_); kernel_rfl; kernel_rfl) | ((with_reducible refine EvIdx.rd ro.r (by simpa using l1) (by omega) (by omega) ?_); intro bI oI eI hI) | ((with_reducible refine EvIdx.rd ru.r (by simpa using l2) (by omega) (by omega) ?_); intro bI oI eI hI) | ((with_reducible refine EvLd.row (by assumption) (by omega) ?_)) | ((with_reducible refine EvStr.rd ro.d ro.dl ?_)) | ((with_reducible refine EvStr.rd ro.s ro.sl ?_)) | ((with_reducible refine EvStr.rd ro.o ro.ol ?_)) | ((with_reducible refine EvStr.rd ru.d ru.dl ?_)) | ((with_reducible refine EvStr.rd ru.s ru.sl ?_)) | ((with_reducible refine EvStr.rd ru.o ru.ol ?_)) | (with_reducible first | refine EvSeq.go ?_ | refine EvIf.tt ?_ | refine EvIf.ff ?_) | ((with_reducible refine Hole.mk (kK ?_)); clear kK) | ((with_reducible refine EvIf.mk (fun c => ?_) (fun c => ?_)) <;> (try simp only [cs_] at c) <;> (try (exfalso; first | omega | (revert c; decide)))) | ((with_reducible refine EvNew.sep HS ?_); intro bN hN HS1 hX; replace HS := HS1; clear HS1) | ((with_reducible refine EvIdx.lit ?_ ?_ ?_); (first | omega | decide); (first | omega | decide)) | ((with_reducible first | refine EvNe.mk ?_ ?_ | refine EvGe.mk ?_ ?_); (first | decide | omega)) | ((with_reducible refine EvLd.q HS (by repeat first | exact .h | apply Spot.t) ?_); (conv => whnf); intro hC) | (with_reducible refine EvLdN.q HS (by repeat first | exact .h | apply Spot.t) (fun hC => ?_)) | ((with_reducible refine EvSt.q HS (by repeat first | exact .h | apply Spot.t) ?_); (conv => whnf); intro hN HS1 hU; replace HS := HS1; clear HS1) | ((with_reducible refine EvKeep.cq (A := keepK _ _ (Hole _) _) HS (by repeat first | exact .h | apply Spot.t) ?_); (conv => whnf); (refine ⟨?_, ?_⟩); assumption; intro hC) | ((with_reducible refine EvKeep.nq (A := keepK _ _ (Hole _) _) HS (by repeat first | exact .h | apply Spot.t) ?_ ?_); assumption; intro hC) | ((fail_if_success with_reducible refine EvKeep.hole ?_); (with_reducible refine EvKeep.abs (fun X kK => ?_)))) <;> conv => whnf)
      · exact absurd (set_same he (k := (k : Int).toNat) (by omega) (by omega)) c
      · exact ⟨k + 1, ⟨congrArg (fun z => some (Value.int .i64 z)) ((i64w _ (by omega) (by omega)).trans (by omega)), (by (repeat' (first | exact trivial | refine ⟨rfl, ?_⟩)))⟩, ⟨rfl, by omega⟩, by omega⟩
      all_goals first
        | exact ⟨rfl, HS.to_ext⟩
        | exact absurd rfl c
    · refine EvLoop.keep ([6, 7, 47, 48, 49, 50, 51, 52, 53, 54, 55, 56, 57, 58, 59, 60, 61, 62, 63], 9) (α := Nat × Nat) (fun k => [(7, .int .i64 (k.1 : Int)), (6, .int .i64 (k.2 : Int))]) (fun k h' => h' = g ∧ k.1 ≤ 32 ∧ (k.2 = 0 ∨ k.2 = 1 ∧ i < k.1)) (fun k => 32 - k.1) (0, 0) (by (repeat' (first | exact trivial | refine ⟨rfl, ?_⟩))) ⟨rfl, Nat.zero_le _, .inl rfl⟩ ?_
      rintro ⟨k, q⟩ _ ⟨rfl, hk, hq⟩
      dsimp only at hk hq
      conv => whnf
      repeat' ((first | ((with_reducible refine EvDraw.ord (id := 6) (.go 0 (.go 1 (.alt 2 (.go 3 (.go 4 (.go 5 (.go 7 (.alt 6 (.alt 8 (.go 9 (.go 10 .done)) .stop) .stop))))) .stop))) fol ?_ ?_ ?_); kernel_rfl; kernel_rfl) | ((with_reducible refine EvDraw.ord (id := 16) (.go 0 (.go 1 (.go 2 (.go 3 (.go 4 (.go 5 (.go 6 (.go 7 (.go 8 (.go 9 (.go 10 .done))))))))))) fol ?_ ?_ ?_); kernel_rfl; kernel_rfl) | ((with_reducible refine EvIdx.rd ro.r (by simpa using l1) (by omega) (by omega) ?_); intro bI oI eI hI) | ((with_reducible refine EvIdx.rd ru.r (by simpa using l2) (by omega) (by omega) ?_); intro bI oI eI hI) | ((with_reducible refine EvLd.row (by assumption) (by omega) ?_)) | ((with_reducible refine EvStr.rd ro.d ro.dl ?_)) | ((with_reducible refine EvStr.rd ro.s ro.sl ?_)) | ((with_reducible refine EvStr.rd ro.o ro.ol ?_)) | ((with_reducible refine EvStr.rd ru.d ru.dl ?_)) | ((with_reducible refine EvStr.rd ru.s ru.sl ?_)) | ((with_reducible refine EvStr.rd ru.o ru.ol ?_)) | (with_reducible first | refine EvSeq.go ?_ | refine EvIf.tt ?_ | refine EvIf.ff ?_) | ((with_reducible refine Hole.mk (kK ?_)); clear kK) | ((with_reducible refine EvIf.mk (fun c => ?_) (fun c => ?_)) <;> (try simp only [cs_] at c) <;> (try (exfalso; first | omega | (revert c; decide)))) | ((with_reducible refine EvNew.sep HS ?_); intro bN hN HS1 hX; replace HS := HS1; clear HS1) | ((with_reducible refine EvIdx.lit ?_ ?_ ?_); (first | omega | decide); (first | omega | decide)) | ((with_reducible first | refine EvNe.mk ?_ ?_ | refine EvGe.mk ?_ ?_); (first | decide | omega)) | ((with_reducible refine EvLd.q HS (by repeat first | exact .h | apply Spot.t) ?_); (conv => whnf); intro hC) | (with_reducible refine EvLdN.q HS (by repeat first | exact .h | apply Spot.t) (fun hC => ?_)) | ((with_reducible refine EvSt.q HS (by repeat first | exact .h | apply Spot.t) ?_); (conv => whnf); intro hN HS1 hU; replace HS := HS1; clear HS1) | ((with_reducible refine EvKeep.cq (A := keepK _ _ (Hole _) _) HS (by repeat first | exact .h | apply Spot.t) ?_); (conv => whnf); (refine ⟨?_, ?_⟩); assumption; intro hC) | ((with_reducible refine EvKeep.nq (A := keepK _ _ (Hole _) _) HS (by repeat first | exact .h | apply Spot.t) ?_ ?_); assumption; intro hC) | ((fail_if_success with_reducible refine EvKeep.hole ?_); (with_reducible refine EvKeep.abs (fun X kK => ?_)))) <;> conv => whnf)
      · have hki := set_at he (k := (k : Int).toNat) (by omega) (by omega) c
        obtain rfl : q = 0 := by omega
        exact ⟨(k + 1, 1), ⟨congrArg (fun z => some (Value.int .i64 z)) ((i64w _ (by dsimp only; omega) (by dsimp only; omega)).trans (by dsimp only; omega)), congrArg (fun z => some (Value.int .i64 z)) ((i64w _ (by dsimp only; omega) (by dsimp only; omega)).trans (by dsimp only; omega)), (by (repeat' (first | exact trivial | refine ⟨rfl, ?_⟩)))⟩, ⟨rfl, by dsimp only; omega, .inr ⟨rfl, by dsimp only; omega⟩⟩, by dsimp only; omega⟩
      · exact ⟨(k + 1, q), ⟨congrArg (fun z => some (Value.int .i64 z)) ((i64w _ (by dsimp only; omega) (by dsimp only; omega)).trans (by dsimp only; omega)), (by (repeat' (first | exact trivial | refine ⟨rfl, ?_⟩)))⟩, ⟨rfl, by dsimp only; omega, by dsimp only; omega⟩, by dsimp only; omega⟩
      all_goals
        have q1 : (bstr M.data).toList = (bstr m.data).toList := by rw [hd]
        have q2 : (bstr M.stack).toList = (bstr m.stack).toList := by rw [hs]
        first
        | exact ⟨rfl, HS.to_ext⟩
        | exact absurd q1 (by assumption)
        | exact absurd q2 (by assumption)
        | (refine ⟨congrArg Value.bool ?_, HS.to_ext⟩; rw [ho]; simp; done)
        | (exfalso; dsimp only at *; omega)
end Go.Proofs.YthndggachjdkfaaDoor
