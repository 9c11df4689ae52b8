/- Walks: instructions to words, by the reference. -/
import Derived.Test.YthndggachjdkfaaVInst6
namespace Go.Proofs.Ythndggachjdkfaa
open Go.RowKit
set_option maxRecDepth 20000
set_option linter.unusedSimpArgs false
set_option linter.unusedVariables false
theorem sForm_v (op f : Int) (hf : frm op = f) (h : Hp) : HC Try.prog 119 [.int .i64 op] h fun v h' => v = .int .i64 f ∧ h' = h := by
  subst hf; exact l2Form_c op h
set_option maxHeartbeats 4000000 in
theorem sEnc_c (op d s t n : Int) (ho : iok op d s t n = true) (h : Hp) : HC Try.prog 126 [inst op d s t n] h fun v h' => v = .tuple #[.int .i64 (enc op d s t n), .bool true] ∧ Ext h h' := by
  have hx := ho
  unfold iok at hx
  simp only [decide_eq_true_eq] at hx
  obtain ⟨h0, hd, hs, ht, u1, u2, u3, v1, v2, v3, v4, v5, v6⟩ := hx
  obtain ⟨o1, o2⟩ := frm_range op h0
  have hr := par_range op o1 o2
  have o42 : frm op ≤ 5 → op ≤ 42 := by unfold frm; omega
  rcases frm_cases op with e | e | e | e | e | e | e | e | e
  · exact absurd e h0
  all_goals
    rw [e] at u1 u2 u3 v1 v2 v3 v4 v5 v6 o42
    refine hc_of Try.func126 (rfl : Try.f126.body = some _) Try.ntmps126 Try.results126 Try.call126 rfl ?_; have HS := Sep.nil h; conv => whnf
    repeat' ((first | ((with_reducible refine EvDraw.ord (id := 4) (.go 0 (.go 1 (.go 3 (.go 4 (.go 5 (.alt 2 (.alt 6 (.go 7 (.go 8 .done)) .stop) .stop)))))) fol ?_ ?_ ?_); kernel_rfl; kernel_rfl) | ((with_reducible refine EvDraw.ord (id := 8) (.go 0 (.go 1 (.go 2 (.go 5 (.go 6 (.go 7 (.alt 3 (.go 4 (.go 8 (.go 9 (.alt 10 .done .stop)))) .stop))))))) fol ?_ ?_ ?_); kernel_rfl; kernel_rfl) | ((with_reducible refine EvKeep.same ?_)) | ((with_reducible refine EvCall.mk (HC.mono (sInstOk_v op d s t n _ ho _) ?_)); (rintro _ hN ⟨rfl, hX⟩); replace HS := HS.ext hX) | ((with_reducible refine EvCall.mk (HC.mono (sForm_v op _ e _) ?_)); (rintro _ _ ⟨rfl, rfl⟩)) | ((with_reducible refine EvCall.mk (HC.mono (l2C_c op _ o1 o2) ?_)); (rintro _ hN ⟨rfl, hX⟩); replace HS := HS.ext hX) | ((with_reducible refine EvCall.mk (HC.mono (l2Imm_c _ n _ (by decide) (by decide) (fun _ => by omega) (fun _ => by omega)) ?_)); (rintro _ _ ⟨rfl, rfl⟩)) | ((with_reducible refine EvCall.mk (HC.mono (l2F3_c op _ o1 (by omega)) ?_)); (rintro _ hN ⟨rfl, hX⟩); replace HS := HS.ext hX) | ((with_reducible refine EvCall.mk (HC.mono (l2F7_c op _ o1 o2) ?_)); (rintro _ hN ⟨rfl, hX⟩); replace HS := HS.ext hX) | (with_reducible first | refine EvSeq.go ?_ | refine EvIf.tt ?_ | refine EvIf.ff ?_) | ((with_reducible refine Hole.mk (kK ?_)); clear kK) | ((with_reducible refine EvIf.mk (fun c => ?_) (fun c => ?_)) <;> (try simp only [cs_] at c) <;> (try (exfalso; first | omega | (revert c; decide)))) | ((with_reducible refine EvNew.sep HS ?_); intro bN hN HS1 hX; replace HS := HS1; clear HS1) | ((with_reducible refine EvIdx.lit ?_ ?_ ?_); (first | omega | decide); (first | omega | decide)) | ((with_reducible first | refine EvNe.mk ?_ ?_ | refine EvGe.mk ?_ ?_); (first | decide | omega)) | ((with_reducible refine EvLd.q HS (by repeat first | exact .h | apply Spot.t) ?_); (conv => whnf); intro hC) | (with_reducible refine EvLdN.q HS (by repeat first | exact .h | apply Spot.t) (fun hC => ?_)) | ((with_reducible refine EvSt.q HS (by repeat first | exact .h | apply Spot.t) ?_); (conv => whnf); intro hN HS1 hU; replace HS := HS1; clear HS1) | ((with_reducible refine EvKeep.cq (A := keepK _ _ (Hole _) _) HS (by repeat first | exact .h | apply Spot.t) ?_); (conv => whnf); (refine ⟨?_, ?_⟩); assumption; intro hC) | ((with_reducible refine EvKeep.nq (A := keepK _ _ (Hole _) _) HS (by repeat first | exact .h | apply Spot.t) ?_ ?_); assumption; intro hC) | ((fail_if_success with_reducible refine EvKeep.hole ?_); (with_reducible refine EvKeep.abs (fun X kK => ?_)))) <;> conv => whnf)
    refine ⟨?_, HS.to_ext⟩
    refine congrArg (fun x => Value.tuple #[Value.int .i64 x, .bool true]) ?_
    clear HS
    unfold enc immw
    rw [e]
    simp only [Int.reduceEq, if_true, if_false]
    have g0 := fl_lt 11 0 n 4096 (by decide)
    have g1 := fl_lt 11 5 n 128 (by decide)
    have g2 := fl_lt 4 0 n 32 (by decide)
    have g3 := fl_lt 12 12 n 2 (by decide)
    have g4 := fl_lt 10 5 n 64 (by decide)
    have g5 := fl_lt 4 1 n 16 (by decide)
    have g6 := fl_lt 11 11 n 2 (by decide)
    have g7 := fl_lt 20 20 n 2 (by decide)
    have g8 := fl_lt 10 1 n 1024 (by decide)
    have g9 := fl_lt 19 12 n 256 (by decide)
    generalize fl 11 0 n = q0 at *
    generalize fl 11 5 n = q1 at *
    generalize fl 4 0 n = q2 at *
    generalize fl 12 12 n = q3 at *
    generalize fl 10 5 n = q4 at *
    generalize fl 4 1 n = q5 at *
    generalize fl 11 11 n = q6 at *
    generalize fl 20 20 n = q7 at *
    generalize fl 10 1 n = q8 at *
    generalize fl 19 12 n = q9 at *
    generalize (par op).1 = pc at *
    generalize (par op).2.1 = f3 at *
    generalize (par op).2.2 = f7 at *
    have h46 : frm op = 8 → 46 ≤ op := by unfold frm; omega
    rw [e] at h46
    simp (disch := omega) only [i64w]
    omega
end Go.Proofs.Ythndggachjdkfaa
