/- Walks: the program's step and its run. -/
import Derived.Test.YthndggachjdkfaaDoorVStepA
import Derived.Test.YthndggachjdkfaaDoorVStepB
import Derived.Test.YthndggachjdkfaaDoorVStepC
import Derived.Test.YthndggachjdkfaaDoorVStepE
import Derived.Test.YthndggachjdkfaaDoorVStepF
namespace Go.Proofs.YthndggachjdkfaaDoor
open Go.RowKit
set_option maxRecDepth 20000
set_option linter.unusedSimpArgs false
set_option linter.unusedVariables false
theorem step_i {h0 h : Hp} {L : List Asn} {x : MH} {m : Mac} {b : Nat} (hg : Glob h0) (HS : Sep h0 h (Bx b (x.cs m) 27 :: (x.own m ++ L))) (ok : Ok m) {i : Ins} (hpc : isPc m.code.length m.pc = true) (hi : ins (m.code.getD ((m.pc - 65536) / 4).toNat 0) = some i) :
    HC Tryd.prog 56 [.pointer (some ⟨b, 0, none⟩)] h fun v h' => ∃ x' : MH, v = .int .i64 (doI m i).2 ∧ Sep h0 h' (Bx b (x'.cs (doI m i).1) 27 :: (x'.own (doI m i).1 ++ L)) := by
  have q := iok_d (ins_ok hi)
  by_cases h1 : i.op ≤ 18
  · exact step_alu hg HS ok hpc hi h1
  by_cases h2 : i.op ≤ 27
  · exact step_imm hg HS ok hpc hi ⟨by omega, h2⟩
  by_cases h3 : i.op ≤ 32
  · exact step_ld hg HS ok hpc hi ⟨by omega, h3⟩
  by_cases h4 : i.op = 33
  · exact step_jalr hg HS ok hpc hi h4
  by_cases h5 : i.op ≤ 36
  · exact step_st hg HS ok hpc hi ⟨by omega, h5⟩
  by_cases h6 : i.op ≤ 42
  · exact step_br hg HS ok hpc hi ⟨by omega, h6⟩
  by_cases h7 : i.op = 43
  · exact step_lui hg HS ok hpc hi h7
  by_cases h8 : i.op = 44
  · exact step_auipc hg HS ok hpc hi h8
  by_cases h9 : i.op = 45
  · exact step_jal hg HS ok hpc hi h9
  by_cases h10 : i.op = 47
  · exact step_eb hg HS ok hpc hi h10
  by_cases n1 : m.regs.getD (Int.toNat 17) 0 = 1
  · exact step_ec1 hg HS ok hpc hi (by omega) n1
  by_cases n2 : m.regs.getD (Int.toNat 17) 0 = 2
  · exact step_ec2 hg HS ok hpc hi (by omega) n2
  · exact step_ec3 hg HS ok hpc hi (by omega) n1 n2
set_option maxHeartbeats 8000000 in
theorem step_c {h0 h : Hp} {L : List Asn} {x : MH} {m : Mac} {b : Nat} (hg : Glob h0) (HS : Sep h0 h (Bx b (x.cs m) 27 :: (x.own m ++ L))) (ok : Ok m) :
    HC Tryd.prog 56 [.pointer (some ⟨b, 0, none⟩)] h fun v h' => ∃ x' : MH, v = .int .i64 (stp m).2 ∧ Sep h0 h' (Bx b (x'.cs (stp m).1) 27 :: (x'.own (stp m).1 ++ L)) := by
  have r := HS.tail.rdm
  have hcl := r.cl
  have c1 := ok.c1
  have p0 := ok.p0
  have p1 := ok.p1
  by_cases hpc : isPc m.code.length m.pc = true
  · cases hi : ins (m.code.getD ((m.pc - 65536) / 4).toNat 0) with
    | some i =>
      have e : stp m = doI m i := by unfold stp; rw [if_pos hpc, hi]
      rw [e]
      exact step_i hg HS ok hpc hi
    | none =>
      have e : stp m = (m, 2) := by unfold stp; rw [if_pos hpc, hi]
      rw [e]
      have hpc' : isPc x.c.n m.pc = true := by rw [← hcl]; exact hpc
      obtain ⟨ei, i0, i1, _⟩ := isPc_at hpc' p1
      refine hc_of Tryd.func56 (rfl : Tryd.f56.body = some _) Tryd.ntmps56 Tryd.results56 Tryd.call56 rfl ?_; conv => whnf
      repeat' ((first | ((with_reducible refine EvDraw.ord (id := 1) (.go 0 (.go 1 (.go 2 (.go 3 (.go 4 (.go 5 (.go 6 (.go 7 (.alt 8 (.go 9 .done) .stop))))))))) fol ?_ ?_ ?_); kernel_rfl; kernel_rfl) | ((with_reducible refine EvDraw.ord (id := 3) (.go 0 (.go 1 (.go 2 (.go 3 (.go 4 (.go 5 (.go 6 (.go 7 (.go 8 (.go 9 (.go 10 (.go 11 (.alt 12 (.go 13 (.go 14 (.go 15 (.alt 16 (.alt 17 (.go 18 .done) .stop) .stop)))) (.alt 16 (.alt 12 (.go 13 (.go 14 (.go 15 (.alt 17 (.go 18 .done) .stop)))) .stop) .stop)))))))))))))) fol ?_ ?_ ?_); kernel_rfl; kernel_rfl) | ((with_reducible refine EvDraw.ord (id := 6) (.go 0 (.go 1 (.go 2 (.go 3 (.go 4 (.go 5 (.go 6 (.go 7 (.go 8 (.go 9 (.go 10 (.go 11 (.go 12 (.go 13 (.go 14 (.go 15 (.go 16 (.go 17 .done)))))))))))))))))) fol ?_ ?_ ?_); kernel_rfl; kernel_rfl) | ((with_reducible refine EvDraw.ord (id := 31) (.go 0 (.go 1 (.go 2 (.go 3 (.go 4 (.go 5 (.go 6 (.go 7 (.go 8 (.alt 9 (.go 10 (.go 11 (.go 12 (.go 13 (.go 14 .done))))) .stop)))))))))) fol ?_ ?_ ?_); kernel_rfl; kernel_rfl) | ((with_reducible refine EvDraw.ord (id := 34) (.go 0 (.go 1 (.go 2 (.go 3 (.go 4 (.go 5 (.go 6 (.go 7 (.go 8 (.go 9 (.go 10 (.alt 11 (.go 12 (.go 13 (.go 14 (.go 15 (.go 16 .done))))) .stop)))))))))))) fol ?_ ?_ ?_); kernel_rfl; kernel_rfl) | ((with_reducible refine EvDraw.ord (id := 43) (.go 0 (.go 1 (.go 2 (.go 3 (.go 4 (.go 5 (.go 6 (.go 7 (.go 8 (.go 9 (.go 10 (.go 11 (.alt 12 (.go 13 .done) .stop))))))))))))) fol ?_ ?_ ?_); kernel_rfl; kernel_rfl) | ((with_reducible refine EvDraw.ord (id := 61) (.go 0 (.go 1 (.go 2 (.go 3 (.go 4 (.go 5 (.go 6 (.go 7 (.go 8 (.alt 9 .done .stop)))))))))) fol ?_ ?_ ?_); kernel_rfl; kernel_rfl) | ((with_reducible refine EvDraw.ord (id := 15) (.go 0 (.go 1 (.go 2 (.go 3 (.go 4 (.go 5 (.go 6 (.go 7 (.go 8 (.go 9 (.go 10 (.go 11 (.alt 12 (.alt 13 (.go 14 (.go 15 (.alt 16 .done .stop))) .stop) .stop))))))))))))) fol ?_ ?_ ?_); kernel_rfl; kernel_rfl) | ((with_reducible refine EvDraw.ord (id := 17) (.go 0 (.go 1 (.go 2 (.go 3 (.alt 4 (.go 5 (.alt 6 .done .stop)) .stop))))) fol ?_ ?_ ?_); kernel_rfl; kernel_rfl) | ((with_reducible refine EvDraw.ord (id := 19) (.go 0 (.go 1 (.go 2 (.go 3 (.go 4 (.go 5 (.go 6 (.go 7 (.go 8 (.go 9 (.go 10 (.go 11 (.alt 12 .done .stop))))))))))))) fol ?_ ?_ ?_); kernel_rfl; kernel_rfl) | ((with_reducible refine EvDraw.ord (id := 20) (.go 0 (.go 1 (.go 2 (.go 3 (.go 4 (.go 5 (.go 6 (.go 7 (.alt 8 .done .stop))))))))) fol ?_ ?_ ?_); kernel_rfl; kernel_rfl) | ((with_reducible refine EvDraw.ord (id := 22) (.go 0 (.go 1 (.go 2 (.go 3 (.go 4 (.go 5 (.go 6 (.go 7 (.go 8 (.go 9 (.alt 10 (.go 11 (.go 12 (.alt 13 .done .stop))) .stop))))))))))) fol ?_ ?_ ?_); kernel_rfl; kernel_rfl) | ((with_reducible refine EvDraw.ord (id := 25) (.go 0 (.go 1 (.go 2 (.go 3 (.alt 4 (.go 5 (.go 6 (.alt 7 .done .stop))) .stop))))) fol ?_ ?_ ?_); kernel_rfl; kernel_rfl) | ((with_reducible refine EvDraw.ord (id := 67) (.go 0 (.go 1 (.alt 2 (.go 3 (.go 4 (.alt 5 .done .stop))) .stop))) fol ?_ ?_ ?_); kernel_rfl; kernel_rfl) | ((with_reducible refine EvCall.mk (HC.mono (isPc_v _ _ _ _ _ hpc' _ (by omega) (by omega) (by omega)) ?_)); (rintro _ _ ⟨rfl, rfl⟩)) | ((with_reducible refine And.intro ?_ ?_)) | ((refine EvIdx.intj _ ei (HS.rd 7 rfl) (HS.len 7 rfl).1 i0 i1 ?_); intro bI oI eI hI) | ((with_reducible refine EvKeep.same ?_)) | ((with_reducible refine EvLd.at_ (by assumption) ?_)) | ((with_reducible refine EvCall.mk (HC.mono (iDec_none hi _) ?_)); (rintro _ hN ⟨rfl, hX⟩); replace HS := HS.ext hX) | ((refine EvKeep.ext (A := keepK _ _ (Hole _) _) hX (by exact hcell_lt hI) ?_)) | (with_reducible first | refine EvSeq.go ?_ | refine EvIf.tt ?_ | refine EvIf.ff ?_) | ((with_reducible refine Hole.mk (kK ?_)); clear kK) | ((with_reducible refine EvIf.mk (fun c => ?_) (fun c => ?_)) <;> (try simp only [cs_] at c) <;> (try (exfalso; first | omega | (revert c; decide)))) | ((with_reducible refine EvNew.sep HS ?_); intro bN hN HS1 hX; replace HS := HS1; clear HS1) | ((with_reducible refine EvIdx.lit ?_ ?_ ?_); (first | omega | decide); (first | omega | decide)) | ((with_reducible first | refine EvNe.mk ?_ ?_ | refine EvGe.mk ?_ ?_); (first | decide | omega)) | ((with_reducible refine EvLd.q HS (by repeat first | exact .h | apply Spot.t) ?_); (conv => whnf); intro hC) | (with_reducible refine EvLdN.q HS (by repeat first | exact .h | apply Spot.t) (fun hC => ?_)) | ((with_reducible refine EvSt.q HS (by repeat first | exact .h | apply Spot.t) ?_); (conv => whnf); intro hN HS1 hU; replace HS := HS1; clear HS1) | ((with_reducible refine EvKeep.cq (A := keepK _ _ (Hole _) _) HS (by repeat first | exact .h | apply Spot.t) ?_); (conv => whnf); (refine ⟨?_, ?_⟩); assumption; intro hC) | ((with_reducible refine EvKeep.nq (A := keepK _ _ (Hole _) _) HS (by repeat first | exact .h | apply Spot.t) ?_ ?_); assumption; intro hC) | ((fail_if_success with_reducible refine EvKeep.hole ?_); (with_reducible refine EvKeep.abs (fun X kK => ?_)))) <;> conv => whnf)
      all_goals exact ⟨x, rfl, HS.tail.tail⟩
  · have e : stp m = (m, 1) := by unfold stp; rw [if_neg hpc]
    rw [e]
    have hpc' : isPc x.c.n m.pc = false := by rw [← hcl]; simpa using hpc
    refine hc_of Tryd.func56 (rfl : Tryd.f56.body = some _) Tryd.ntmps56 Tryd.results56 Tryd.call56 rfl ?_; conv => whnf
    repeat' ((first | ((with_reducible refine EvDraw.ord (id := 1) (.go 0 (.go 1 (.go 2 (.go 3 (.go 4 (.go 5 (.go 6 (.go 7 (.alt 8 (.go 9 .done) .stop))))))))) fol ?_ ?_ ?_); kernel_rfl; kernel_rfl) | ((with_reducible refine EvDraw.ord (id := 3) (.go 0 (.go 1 (.go 2 (.go 3 (.go 4 (.go 5 (.go 6 (.go 7 (.go 8 (.go 9 (.go 10 (.go 11 (.alt 12 (.go 13 (.go 14 (.go 15 (.alt 16 (.alt 17 (.go 18 .done) .stop) .stop)))) (.alt 16 (.alt 12 (.go 13 (.go 14 (.go 15 (.alt 17 (.go 18 .done) .stop)))) .stop) .stop)))))))))))))) fol ?_ ?_ ?_); kernel_rfl; kernel_rfl) | ((with_reducible refine EvDraw.ord (id := 6) (.go 0 (.go 1 (.go 2 (.go 3 (.go 4 (.go 5 (.go 6 (.go 7 (.go 8 (.go 9 (.go 10 (.go 11 (.go 12 (.go 13 (.go 14 (.go 15 (.go 16 (.go 17 .done)))))))))))))))))) fol ?_ ?_ ?_); kernel_rfl; kernel_rfl) | ((with_reducible refine EvDraw.ord (id := 31) (.go 0 (.go 1 (.go 2 (.go 3 (.go 4 (.go 5 (.go 6 (.go 7 (.go 8 (.alt 9 (.go 10 (.go 11 (.go 12 (.go 13 (.go 14 .done))))) .stop)))))))))) fol ?_ ?_ ?_); kernel_rfl; kernel_rfl) | ((with_reducible refine EvDraw.ord (id := 34) (.go 0 (.go 1 (.go 2 (.go 3 (.go 4 (.go 5 (.go 6 (.go 7 (.go 8 (.go 9 (.go 10 (.alt 11 (.go 12 (.go 13 (.go 14 (.go 15 (.go 16 .done))))) .stop)))))))))))) fol ?_ ?_ ?_); kernel_rfl; kernel_rfl) | ((with_reducible refine EvDraw.ord (id := 43) (.go 0 (.go 1 (.go 2 (.go 3 (.go 4 (.go 5 (.go 6 (.go 7 (.go 8 (.go 9 (.go 10 (.go 11 (.alt 12 (.go 13 .done) .stop))))))))))))) fol ?_ ?_ ?_); kernel_rfl; kernel_rfl) | ((with_reducible refine EvDraw.ord (id := 61) (.go 0 (.go 1 (.go 2 (.go 3 (.go 4 (.go 5 (.go 6 (.go 7 (.go 8 (.alt 9 .done .stop)))))))))) fol ?_ ?_ ?_); kernel_rfl; kernel_rfl) | ((with_reducible refine EvDraw.ord (id := 15) (.go 0 (.go 1 (.go 2 (.go 3 (.go 4 (.go 5 (.go 6 (.go 7 (.go 8 (.go 9 (.go 10 (.go 11 (.alt 12 (.alt 13 (.go 14 (.go 15 (.alt 16 .done .stop))) .stop) .stop))))))))))))) fol ?_ ?_ ?_); kernel_rfl; kernel_rfl) | ((with_reducible refine EvDraw.ord (id := 17) (.go 0 (.go 1 (.go 2 (.go 3 (.alt 4 (.go 5 (.alt 6 .done .stop)) .stop))))) fol ?_ ?_ ?_); kernel_rfl; kernel_rfl) | ((with_reducible refine EvDraw.ord (id := 19) (.go 0 (.go 1 (.go 2 (.go 3 (.go 4 (.go 5 (.go 6 (.go 7 (.go 8 (.go 9 (.go 10 (.go 11 (.alt 12 .done .stop))))))))))))) fol ?_ ?_ ?_); kernel_rfl; kernel_rfl) | ((with_reducible refine EvDraw.ord (id := 20) (.go 0 (.go 1 (.go 2 (.go 3 (.go 4 (.go 5 (.go 6 (.go 7 (.alt 8 .done .stop))))))))) fol ?_ ?_ ?_); kernel_rfl; kernel_rfl) | ((with_reducible refine EvDraw.ord (id := 22) (.go 0 (.go 1 (.go 2 (.go 3 (.go 4 (.go 5 (.go 6 (.go 7 (.go 8 (.go 9 (.alt 10 (.go 11 (.go 12 (.alt 13 .done .stop))) .stop))))))))))) fol ?_ ?_ ?_); kernel_rfl; kernel_rfl) | ((with_reducible refine EvDraw.ord (id := 25) (.go 0 (.go 1 (.go 2 (.go 3 (.alt 4 (.go 5 (.go 6 (.alt 7 .done .stop))) .stop))))) fol ?_ ?_ ?_); kernel_rfl; kernel_rfl) | ((with_reducible refine EvDraw.ord (id := 67) (.go 0 (.go 1 (.alt 2 (.go 3 (.go 4 (.alt 5 .done .stop))) .stop))) fol ?_ ?_ ?_); kernel_rfl; kernel_rfl) | ((with_reducible refine EvCall.mk (HC.mono (isPc_v _ _ _ _ _ hpc' _ (by omega) (by omega) (by omega)) ?_)); (rintro _ _ ⟨rfl, rfl⟩)) | ((with_reducible refine EvKeep.same ?_)) | (with_reducible first | refine EvSeq.go ?_ | refine EvIf.tt ?_ | refine EvIf.ff ?_) | ((with_reducible refine Hole.mk (kK ?_)); clear kK) | ((with_reducible refine EvIf.mk (fun c => ?_) (fun c => ?_)) <;> (try simp only [cs_] at c) <;> (try (exfalso; first | omega | (revert c; decide)))) | ((with_reducible refine EvNew.sep HS ?_); intro bN hN HS1 hX; replace HS := HS1; clear HS1) | ((with_reducible refine EvIdx.lit ?_ ?_ ?_); (first | omega | decide); (first | omega | decide)) | ((with_reducible first | refine EvNe.mk ?_ ?_ | refine EvGe.mk ?_ ?_); (first | decide | omega)) | ((with_reducible refine EvLd.q HS (by repeat first | exact .h | apply Spot.t) ?_); (conv => whnf); intro hC) | (with_reducible refine EvLdN.q HS (by repeat first | exact .h | apply Spot.t) (fun hC => ?_)) | ((with_reducible refine EvSt.q HS (by repeat first | exact .h | apply Spot.t) ?_); (conv => whnf); intro hN HS1 hU; replace HS := HS1; clear HS1) | ((with_reducible refine EvKeep.cq (A := keepK _ _ (Hole _) _) HS (by repeat first | exact .h | apply Spot.t) ?_); (conv => whnf); (refine ⟨?_, ?_⟩); assumption; intro hC) | ((with_reducible refine EvKeep.nq (A := keepK _ _ (Hole _) _) HS (by repeat first | exact .h | apply Spot.t) ?_ ?_); assumption; intro hC) | ((fail_if_success with_reducible refine EvKeep.hole ?_); (with_reducible refine EvKeep.abs (fun X kK => ?_)))) <;> conv => whnf)
    all_goals exact ⟨x, rfl, HS.tail⟩
end Go.Proofs.YthndggachjdkfaaDoor
