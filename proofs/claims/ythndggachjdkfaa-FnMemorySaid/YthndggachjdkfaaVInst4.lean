/- Walks: is an instruction well formed. -/
import Derived.Test.YthndggachjdkfaaVInst3
namespace Go.Proofs.Ythndggachjdkfaa
open Go.RowKit
set_option maxRecDepth 20000
set_option linter.unusedSimpArgs false
set_option linter.unusedVariables false
/-- An instruction is well formed. -/
def iok (op d s t n : Int) : Bool := decide (frm op ≠ 0 ∧ (0 ≤ d ∧ d ≤ 31) ∧ (0 ≤ s ∧ s ≤ 31) ∧ (0 ≤ t ∧ t ≤ 31) ∧
  (frm op = 1 ∨ frm op = 2 ∨ frm op = 3 ∨ frm op = 6 ∨ frm op = 7 ∨ d = 0) ∧ (frm op = 1 ∨ frm op = 2 ∨ frm op = 3 ∨ frm op = 4 ∨ frm op = 5 ∨ s = 0) ∧ (frm op = 1 ∨ frm op = 4 ∨ frm op = 5 ∨ t = 0) ∧
  ((frm op = 2 ∨ frm op = 4) → -2048 ≤ n ∧ n ≤ 2047) ∧ (frm op = 3 → 0 ≤ n ∧ n ≤ 31) ∧ (frm op = 5 → -4096 ≤ n ∧ n ≤ 4094 ∧ n % 2 = 0) ∧ (frm op = 6 → 0 ≤ n ∧ n ≤ 1048575) ∧
  (frm op = 7 → -1048576 ≤ n ∧ n ≤ 1048574 ∧ n % 2 = 0) ∧ ((frm op = 1 ∨ frm op = 8) → n = 0))
theorem frm_cases (op : Int) : frm op = 0 ∨ frm op = 1 ∨ frm op = 2 ∨ frm op = 3 ∨ frm op = 4 ∨ frm op = 5 ∨ frm op = 6 ∨ frm op = 7 ∨ frm op = 8 := by
  unfold frm; omega
theorem tmod2 (n : Int) : Int.tmod n 2 = 0 ↔ n % 2 = 0 := by
  by_cases h : 0 ≤ n
  · rw [tmod_pos h]
  · rw [tmod_neg (by omega)]; omega
theorem formOf_v (op f : Int) (hf : letr (frm op) = f) (h : Hp) : HC Try.prog 107 [.int .i64 op] h fun v h' => v = .int .u8 f ∧ h' = h := by
  subst hf; exact formOf_c op h
abbrev inst (op d s t n : Int) : Value := .agg #[.int .i64 op, .int .i64 d, .int .i64 s, .int .i64 t, .int .i64 n]
set_option maxHeartbeats 4000000 in
theorem iInstOk_c (op d s t n : Int) (h : Hp) : HC Try.prog 98 [inst op d s t n] h fun v h' => v = .bool (iok op d s t n) ∧ Ext h h' := by
  have ht := tmod2 n
  refine hc_of Try.func98 (rfl : Try.f98.body = some _) Try.ntmps98 Try.results98 Try.call98 rfl ?_; have HS := Sep.nil h; conv => whnf
  repeat' ((first | (with_reducible first | refine EvSeq.go ?_ | refine EvIf.tt ?_ | refine EvIf.ff ?_) | ((with_reducible refine Hole.mk (kK ?_)); clear kK) | ((with_reducible refine EvIf.mk (fun c => ?_) (fun c => ?_)) <;> (try simp only [cs_] at c) <;> (try (exfalso; first | omega | (revert c; decide)))) | ((with_reducible refine EvNew.sep HS ?_); intro bN hN HS1 hX; replace HS := HS1; clear HS1) | ((with_reducible refine EvIdx.lit ?_ ?_ ?_); (first | omega | decide); (first | omega | decide)) | ((with_reducible first | refine EvNe.mk ?_ ?_ | refine EvGe.mk ?_ ?_); (first | decide | omega)) | ((with_reducible refine EvLd.q HS (by repeat first | exact .h | apply Spot.t) ?_); (conv => whnf); intro hC) | (with_reducible refine EvLdN.q HS (by repeat first | exact .h | apply Spot.t) (fun hC => ?_)) | ((with_reducible refine EvSt.q HS (by repeat first | exact .h | apply Spot.t) ?_); (conv => whnf); intro hN HS1 hU; replace HS := HS1; clear HS1) | ((with_reducible refine EvKeep.cq (A := keepK _ _ (Hole _) _) HS (by repeat first | exact .h | apply Spot.t) ?_); (conv => whnf); (refine ⟨?_, ?_⟩); assumption; intro hC) | ((with_reducible refine EvKeep.nq (A := keepK _ _ (Hole _) _) HS (by repeat first | exact .h | apply Spot.t) ?_ ?_); assumption; intro hC) | ((fail_if_success with_reducible refine EvKeep.hole ?_); (with_reducible refine EvKeep.abs (fun X kK => ?_)))) <;> conv => whnf)
  refine EvCall.mk ((isReg_c (some ⟨_, 0, none⟩) 3 [d, s, t] _ (Rd.of_blk (HS.pt_i 0 rfl)) (by simp)).mono ?_)
  rintro _ _ ⟨rfl, rfl⟩
  conv => whnf
  repeat' ((first | (with_reducible first | refine EvSeq.go ?_ | refine EvIf.tt ?_ | refine EvIf.ff ?_) | ((with_reducible refine Hole.mk (kK ?_)); clear kK) | ((with_reducible refine EvIf.mk (fun c => ?_) (fun c => ?_)) <;> (try simp only [cs_] at c) <;> (try (exfalso; first | omega | (revert c; decide)))) | ((with_reducible refine EvNew.sep HS ?_); intro bN hN HS1 hX; replace HS := HS1; clear HS1) | ((with_reducible refine EvIdx.lit ?_ ?_ ?_); (first | omega | decide); (first | omega | decide)) | ((with_reducible first | refine EvNe.mk ?_ ?_ | refine EvGe.mk ?_ ?_); (first | decide | omega)) | ((with_reducible refine EvLd.q HS (by repeat first | exact .h | apply Spot.t) ?_); (conv => whnf); intro hC) | (with_reducible refine EvLdN.q HS (by repeat first | exact .h | apply Spot.t) (fun hC => ?_)) | ((with_reducible refine EvSt.q HS (by repeat first | exact .h | apply Spot.t) ?_); (conv => whnf); intro hN HS1 hU; replace HS := HS1; clear HS1) | ((with_reducible refine EvKeep.cq (A := keepK _ _ (Hole _) _) HS (by repeat first | exact .h | apply Spot.t) ?_); (conv => whnf); (refine ⟨?_, ?_⟩); assumption; intro hC) | ((with_reducible refine EvKeep.nq (A := keepK _ _ (Hole _) _) HS (by repeat first | exact .h | apply Spot.t) ?_ ?_); assumption; intro hC) | ((fail_if_success with_reducible refine EvKeep.hole ?_); (with_reducible refine EvKeep.abs (fun X kK => ?_)))) <;> conv => whnf)
  · refine ⟨?_, HS.to_ext⟩
    congr 1
    unfold iok
    simp at c ⊢
    omega
  · have hr : (0 ≤ d ∧ d ≤ 31) ∧ (0 ≤ s ∧ s ≤ 31) ∧ (0 ≤ t ∧ t ≤ 31) := by simp at c; omega
    clear c
    unfold iok
    rcases frm_cases op with e | e | e | e | e | e | e | e | e
    all_goals
      repeat' ((first | ((with_reducible refine EvDraw.ord (id := 8) (.go 0 (.go 1 (.go 2 (.go 3 (.go 4 (.go 5 (.go 6 (.alt 7 (.go 8 (.alt 9 (.go 10 (.alt 11 .done .stop)) .stop)) .stop)))))))) fol ?_ ?_ ?_); kernel_rfl; kernel_rfl) | ((with_reducible refine EvDraw.ord (id := 10) (.go 0 (.go 1 (.go 2 (.go 3 (.go 4 (.go 5 (.go 6 (.alt 7 (.go 8 (.alt 9 (.go 10 (.alt 11 .done .stop)) .stop)) .stop)))))))) fol ?_ ?_ ?_); kernel_rfl; kernel_rfl) | ((with_reducible refine EvDraw.ord (id := 13) (.go 0 (.go 1 (.go 2 (.go 3 (.go 4 (.go 5 (.go 6 (.alt 7 (.go 8 (.alt 9 (.go 10 (.alt 11 .done .stop)) .stop)) .stop)))))))) fol ?_ ?_ ?_); kernel_rfl; kernel_rfl) | ((with_reducible refine EvDraw.ord (id := 16) (.go 0 (.go 1 (.go 2 (.go 3 (.go 4 (.go 5 (.go 6 (.alt 7 (.go 8 (.alt 9 (.go 10 (.alt 11 .done .stop)) .stop)) .stop)))))))) fol ?_ ?_ ?_); kernel_rfl; kernel_rfl) | ((with_reducible refine EvDraw.ord (id := 19) (.go 0 (.go 1 (.go 2 (.go 3 (.go 4 (.go 5 (.go 6 (.alt 7 (.go 8 (.alt 9 (.go 10 (.alt 11 .done .stop)) .stop)) .stop)))))))) fol ?_ ?_ ?_); kernel_rfl; kernel_rfl) | ((with_reducible refine EvDraw.ord (id := 22) (.go 0 (.go 1 (.go 2 (.go 3 (.go 4 (.alt 5 (.go 6 (.alt 7 .done .stop)) .stop)))))) fol ?_ ?_ ?_); kernel_rfl; kernel_rfl) | ((with_reducible refine EvDraw.ord (id := 25) (.go 0 (.go 1 (.go 2 (.go 3 (.go 4 (.alt 5 (.go 6 (.alt 7 .done .stop)) .stop)))))) fol ?_ ?_ ?_); kernel_rfl; kernel_rfl) | ((with_reducible refine EvEql.inst ?_)) | ((with_reducible refine EvCall.mk (HC.mono (formOf_v op _ (congrArg letr e) _) ?_)); (rintro _ _ ⟨rfl, rfl⟩)) | ((with_reducible refine EvCall.mk (HC.mono (inside_c _ _ _ _) ?_)); (rintro _ _ ⟨rfl, rfl⟩)) | (with_reducible first | refine EvSeq.go ?_ | refine EvIf.tt ?_ | refine EvIf.ff ?_) | ((with_reducible refine Hole.mk (kK ?_)); clear kK) | ((with_reducible refine EvIf.mk (fun c => ?_) (fun c => ?_)) <;> (try simp only [cs_] at c) <;> (try (exfalso; first | omega | (revert c; decide)))) | ((with_reducible refine EvNew.sep HS ?_); intro bN hN HS1 hX; replace HS := HS1; clear HS1) | ((with_reducible refine EvIdx.lit ?_ ?_ ?_); (first | omega | decide); (first | omega | decide)) | ((with_reducible first | refine EvNe.mk ?_ ?_ | refine EvGe.mk ?_ ?_); (first | decide | omega)) | ((with_reducible refine EvLd.q HS (by repeat first | exact .h | apply Spot.t) ?_); (conv => whnf); intro hC) | (with_reducible refine EvLdN.q HS (by repeat first | exact .h | apply Spot.t) (fun hC => ?_)) | ((with_reducible refine EvSt.q HS (by repeat first | exact .h | apply Spot.t) ?_); (conv => whnf); intro hN HS1 hU; replace HS := HS1; clear HS1) | ((with_reducible refine EvKeep.cq (A := keepK _ _ (Hole _) _) HS (by repeat first | exact .h | apply Spot.t) ?_); (conv => whnf); (refine ⟨?_, ?_⟩); assumption; intro hC) | ((with_reducible refine EvKeep.nq (A := keepK _ _ (Hole _) _) HS (by repeat first | exact .h | apply Spot.t) ?_ ?_); assumption; intro hC) | ((fail_if_success with_reducible refine EvKeep.hole ?_); (with_reducible refine EvKeep.abs (fun X kK => ?_)))) <;> conv => whnf)
    all_goals
      refine ⟨?_, HS.to_ext⟩
      show Value.bool _ = Value.bool _
      congr 1
    all_goals (rw [Bool.eq_iff_iff]; simp at *; omega)
end Go.Proofs.Ythndggachjdkfaa
