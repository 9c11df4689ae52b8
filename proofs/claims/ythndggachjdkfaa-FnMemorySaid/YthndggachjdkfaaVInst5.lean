/- Walks: is an instruction well formed, by the reference. -/
import Derived.Test.YthndggachjdkfaaVInst4
namespace Go.Proofs.Ythndggachjdkfaa
open Go.RowKit
set_option maxRecDepth 20000
set_option linter.unusedSimpArgs false
set_option linter.unusedVariables false
def regOk (f k x : Int) : Prop := (0 ≤ x ∧ x ≤ 31) ∧ (prt f / 2 ^ k.toNat % 2 = 0 → x = 0)
theorem prt_bit (f : Int) (k : Nat) (h0 : 0 ≤ f ∧ f ≤ 8) (hk : k < 3) : Int.tmod (IntKind.i64.wrap (Int.tdiv (prt f) (2 ^ k))) 2 = prt f / 2 ^ k % 2 := by
  obtain rfl | rfl | rfl | rfl | rfl | rfl | rfl | rfl | rfl : f = 0 ∨ f = 1 ∨ f = 2 ∨ f = 3 ∨ f = 4 ∨ f = 5 ∨ f = 6 ∨ f = 7 ∨ f = 8 := by omega
  all_goals
    obtain rfl | rfl | rfl : k = 0 ∨ k = 1 ∨ k = 2 := by omega
    all_goals decide
/-- A register that breaks its form's rule. -/
theorem iok_no {op d s t n : Int} (h : ¬((0 ≤ d ∧ d ≤ 31) ∧ (prt (frm op) / 2 ^ 0 % 2 = 0 → d = 0)) ∨ ¬((0 ≤ s ∧ s ≤ 31) ∧ (prt (frm op) / 2 ^ 1 % 2 = 0 → s = 0)) ∨ ¬((0 ≤ t ∧ t ≤ 31) ∧ (prt (frm op) / 2 ^ 2 % 2 = 0 → t = 0))) : iok op d s t n = false := by
  rw [Bool.eq_false_iff]
  intro hh
  unfold iok at hh
  rw [decide_eq_true_eq] at hh
  rcases frm_cases op with e | e | e | e | e | e | e | e | e <;> rw [e] at h hh <;> simp [prt] at h hh <;> omega
set_option maxHeartbeats 4000000 in
theorem sInstOk_c (op d s t n : Int) (h : Hp) : HC Try.prog 120 [inst op d s t n] h fun v h' => v = .bool (iok op d s t n) ∧ Ext h h' := by
  have hfr : 0 ≤ frm op ∧ frm op ≤ 8 := by have := frm_cases op; omega
  have ht := tmod2 n
  refine hc_of Try.func120 (rfl : Try.f120.body = some _) Try.ntmps120 Try.results120 Try.call120 rfl ?_; have HS := Sep.nil h; conv => whnf
  repeat' ((first | ((with_reducible refine EvCall.mk (HC.mono (l2Form_c _ _) ?_)); (rintro _ _ ⟨rfl, rfl⟩)) | (with_reducible first | refine EvSeq.go ?_ | refine EvIf.tt ?_ | refine EvIf.ff ?_) | ((with_reducible refine Hole.mk (kK ?_)); clear kK) | ((with_reducible refine EvIf.mk (fun c => ?_) (fun c => ?_)) <;> (try simp only [cs_] at c) <;> (try (exfalso; first | omega | (revert c; decide)))) | ((with_reducible refine EvNew.sep HS ?_); intro bN hN HS1 hX; replace HS := HS1; clear HS1) | ((with_reducible refine EvIdx.lit ?_ ?_ ?_); (first | omega | decide); (first | omega | decide)) | ((with_reducible first | refine EvNe.mk ?_ ?_ | refine EvGe.mk ?_ ?_); (first | decide | omega)) | ((with_reducible refine EvLd.q HS (by repeat first | exact .h | apply Spot.t) ?_); (conv => whnf); intro hC) | (with_reducible refine EvLdN.q HS (by repeat first | exact .h | apply Spot.t) (fun hC => ?_)) | ((with_reducible refine EvSt.q HS (by repeat first | exact .h | apply Spot.t) ?_); (conv => whnf); intro hN HS1 hU; replace HS := HS1; clear HS1) | ((with_reducible refine EvKeep.cq (A := keepK _ _ (Hole _) _) HS (by repeat first | exact .h | apply Spot.t) ?_); (conv => whnf); (refine ⟨?_, ?_⟩); assumption; intro hC) | ((with_reducible refine EvKeep.nq (A := keepK _ _ (Hole _) _) HS (by repeat first | exact .h | apply Spot.t) ?_ ?_); assumption; intro hC) | ((fail_if_success with_reducible refine EvKeep.hole ?_); (with_reducible refine EvKeep.abs (fun X kK => ?_)))) <;> conv => whnf)
  · refine ⟨?_, HS.to_ext⟩
    show Value.bool _ = Value.bool _
    congr 1
    unfold iok
    simp [c]
  · repeat' ((first | ((with_reducible refine EvCall.mk (HC.mono (l2Parts_c (frm op) _ (by omega) (by omega)) ?_)); (rintro _ hN ⟨rfl, hX⟩); replace HS := HS.ext hX) | (with_reducible first | refine EvSeq.go ?_ | refine EvIf.tt ?_ | refine EvIf.ff ?_) | ((with_reducible refine Hole.mk (kK ?_)); clear kK) | ((with_reducible refine EvIf.mk (fun c => ?_) (fun c => ?_)) <;> (try simp only [cs_] at c) <;> (try (exfalso; first | omega | (revert c; decide)))) | ((with_reducible refine EvNew.sep HS ?_); intro bN hN HS1 hX; replace HS := HS1; clear HS1) | ((with_reducible refine EvIdx.lit ?_ ?_ ?_); (first | omega | decide); (first | omega | decide)) | ((with_reducible first | refine EvNe.mk ?_ ?_ | refine EvGe.mk ?_ ?_); (first | decide | omega)) | ((with_reducible refine EvLd.q HS (by repeat first | exact .h | apply Spot.t) ?_); (conv => whnf); intro hC) | (with_reducible refine EvLdN.q HS (by repeat first | exact .h | apply Spot.t) (fun hC => ?_)) | ((with_reducible refine EvSt.q HS (by repeat first | exact .h | apply Spot.t) ?_); (conv => whnf); intro hN HS1 hU; replace HS := HS1; clear HS1) | ((with_reducible refine EvKeep.cq (A := keepK _ _ (Hole _) _) HS (by repeat first | exact .h | apply Spot.t) ?_); (conv => whnf); (refine ⟨?_, ?_⟩); assumption; intro hC) | ((with_reducible refine EvKeep.nq (A := keepK _ _ (Hole _) _) HS (by repeat first | exact .h | apply Spot.t) ?_ ?_); assumption; intro hC) | ((fail_if_success with_reducible refine EvKeep.hole ?_); (with_reducible refine EvKeep.abs (fun X kK => ?_)))) <;> conv => whnf)
    rename_i bi hi _ bp hp _
    have hp0 : 0 ≤ prt (frm op) ∧ prt (frm op) < 16 := by
      have := frm_cases op
      rcases this with e | e | e | e | e | e | e | e | e <;> rw [e] <;> decide
    refine EvLoop.keep ([2, 6, 24, 25, 26, 27, 28, 29, 30, 31, 32, 33, 34, 35, 36, 37, 38, 39, 40, 41, 42, 43, 44, 45, 46, 47, 48, 49, 50, 51, 52, 53, 54], 10) (α := Int) (fun x => [(6, .int .i64 x)]) (fun x h' => h' = hN ∧ ∃ k : Nat, k ≤ 3 ∧ x = k ∧ (1 ≤ k → regOk (frm op) 0 d) ∧ (2 ≤ k → regOk (frm op) 1 s) ∧ (3 ≤ k → regOk (frm op) 2 t)) (fun x => (3 - x).toNat) 0 (by (repeat' (first | exact trivial | refine ⟨rfl, ?_⟩))) ⟨rfl, 0, by omega, rfl, by omega, by omega, by omega⟩ ?_
    rintro _ _ ⟨rfl, k, hk, rfl, hk1, hk2, hk3⟩
    conv => whnf
    repeat' ((first | (with_reducible first | refine EvSeq.go ?_ | refine EvIf.tt ?_ | refine EvIf.ff ?_) | ((with_reducible refine Hole.mk (kK ?_)); clear kK) | ((with_reducible refine EvIf.mk (fun c => ?_) (fun c => ?_)) <;> (try simp only [cs_] at c) <;> (try (exfalso; first | omega | (revert c; decide)))) | ((with_reducible refine EvNew.sep HS ?_); intro bN hN HS1 hX; replace HS := HS1; clear HS1) | ((with_reducible refine EvIdx.lit ?_ ?_ ?_); (first | omega | decide); (first | omega | decide)) | ((with_reducible first | refine EvNe.mk ?_ ?_ | refine EvGe.mk ?_ ?_); (first | decide | omega)) | ((with_reducible refine EvLd.q HS (by repeat first | exact .h | apply Spot.t) ?_); (conv => whnf); intro hC) | (with_reducible refine EvLdN.q HS (by repeat first | exact .h | apply Spot.t) (fun hC => ?_)) | ((with_reducible refine EvSt.q HS (by repeat first | exact .h | apply Spot.t) ?_); (conv => whnf); intro hN HS1 hU; replace HS := HS1; clear HS1) | ((with_reducible refine EvKeep.cq (A := keepK _ _ (Hole _) _) HS (by repeat first | exact .h | apply Spot.t) ?_); (conv => whnf); (refine ⟨?_, ?_⟩); assumption; intro hC) | ((with_reducible refine EvKeep.nq (A := keepK _ _ (Hole _) _) HS (by repeat first | exact .h | apply Spot.t) ?_ ?_); assumption; intro hC) | ((fail_if_success with_reducible refine EvKeep.hole ?_); (with_reducible refine EvKeep.abs (fun X kK => ?_)))) <;> conv => whnf)
    · have h3 : k = 0 ∨ k = 1 ∨ k = 2 := by omega
      rcases h3 with rfl | rfl | rfl
      all_goals
        repeat' ((first | ((with_reducible refine EvCall.mk (HC.mono (power_i _ _ (by decide) (by decide)) ?_)); (rintro _ _ ⟨rfl, rfl⟩)) | (with_reducible first | refine EvSeq.go ?_ | refine EvIf.tt ?_ | refine EvIf.ff ?_) | ((with_reducible refine Hole.mk (kK ?_)); clear kK) | ((with_reducible refine EvIf.mk (fun c => ?_) (fun c => ?_)) <;> (try simp only [cs_] at c) <;> (try (exfalso; first | omega | (revert c; decide)))) | ((with_reducible refine EvNew.sep HS ?_); intro bN hN HS1 hX; replace HS := HS1; clear HS1) | ((with_reducible refine EvIdx.lit ?_ ?_ ?_); (first | omega | decide); (first | omega | decide)) | ((with_reducible first | refine EvNe.mk ?_ ?_ | refine EvGe.mk ?_ ?_); (first | decide | omega)) | ((with_reducible refine EvLd.q HS (by repeat first | exact .h | apply Spot.t) ?_); (conv => whnf); intro hC) | (with_reducible refine EvLdN.q HS (by repeat first | exact .h | apply Spot.t) (fun hC => ?_)) | ((with_reducible refine EvSt.q HS (by repeat first | exact .h | apply Spot.t) ?_); (conv => whnf); intro hN HS1 hU; replace HS := HS1; clear HS1) | ((with_reducible refine EvKeep.cq (A := keepK _ _ (Hole _) _) HS (by repeat first | exact .h | apply Spot.t) ?_); (conv => whnf); (refine ⟨?_, ?_⟩); assumption; intro hC) | ((with_reducible refine EvKeep.nq (A := keepK _ _ (Hole _) _) HS (by repeat first | exact .h | apply Spot.t) ?_ ?_); assumption; intro hC) | ((fail_if_success with_reducible refine EvKeep.hole ?_); (with_reducible refine EvKeep.abs (fun X kK => ?_)))) <;> conv => whnf)
      all_goals have hb := prt_bit (frm op)
      · exact ⟨congrArg _ (iok_no (.inl (by omega))).symm, HS.to_ext⟩
      · exact ⟨congrArg _ (iok_no (.inl (by omega))).symm, HS.to_ext⟩
      · exact ⟨congrArg _ (iok_no (.inl (by have := hb 0 hfr (by decide); simp at *; omega))).symm, HS.to_ext⟩
      · refine ⟨_, (by (repeat' (first | exact trivial | refine ⟨rfl, ?_⟩))), ⟨rfl, 1, by omega, by decide, ?_, by omega, by omega⟩, by decide⟩
        intro _; refine ⟨by omega, fun hz => by simp at *; omega⟩
      · refine ⟨_, (by (repeat' (first | exact trivial | refine ⟨rfl, ?_⟩))), ⟨rfl, 1, by omega, by decide, ?_, by omega, by omega⟩, by decide⟩
        intro _; refine ⟨by omega, fun hz => by have := hb 0 hfr (by decide); simp at *; omega⟩
      · exact ⟨congrArg _ (iok_no (.inr (.inl (by omega)))).symm, HS.to_ext⟩
      · exact ⟨congrArg _ (iok_no (.inr (.inl (by omega)))).symm, HS.to_ext⟩
      · exact ⟨congrArg _ (iok_no (.inr (.inl (by have := hb 1 hfr (by decide); simp at *; omega)))).symm, HS.to_ext⟩
      · refine ⟨_, (by (repeat' (first | exact trivial | refine ⟨rfl, ?_⟩))), ⟨rfl, 2, by omega, by decide, fun _ => hk1 (by omega), ?_, by omega⟩, by decide⟩
        intro _; refine ⟨by omega, fun hz => by simp at *; omega⟩
      · refine ⟨_, (by (repeat' (first | exact trivial | refine ⟨rfl, ?_⟩))), ⟨rfl, 2, by omega, by decide, fun _ => hk1 (by omega), ?_, by omega⟩, by decide⟩
        intro _; refine ⟨by omega, fun hz => by have := hb 1 hfr (by decide); simp at *; omega⟩
      · exact ⟨congrArg _ (iok_no (.inr (.inr (by omega)))).symm, HS.to_ext⟩
      · exact ⟨congrArg _ (iok_no (.inr (.inr (by omega)))).symm, HS.to_ext⟩
      · exact ⟨congrArg _ (iok_no (.inr (.inr (by have := hb 2 hfr (by decide); simp at *; omega)))).symm, HS.to_ext⟩
      · refine ⟨_, (by (repeat' (first | exact trivial | refine ⟨rfl, ?_⟩))), ⟨rfl, 3, by omega, by decide, fun _ => hk1 (by omega), fun _ => hk2 (by omega), ?_⟩, by decide⟩
        intro _; refine ⟨by omega, fun hz => by simp at *; omega⟩
      · refine ⟨_, (by (repeat' (first | exact trivial | refine ⟨rfl, ?_⟩))), ⟨rfl, 3, by omega, by decide, fun _ => hk1 (by omega), fun _ => hk2 (by omega), ?_⟩, by decide⟩
        intro _; refine ⟨by omega, fun hz => by have := hb 2 hfr (by decide); simp at *; omega⟩
    · obtain rfl : k = 3 := by omega
      have q1 := hk1 (by omega)
      have q2 := hk2 (by omega)
      have q3 := hk3 (by omega)
      repeat' ((first | ((with_reducible refine EvCall.mk (HC.mono (l2Range_c (frm op) _ (by omega) (by omega)) ?_)); (rintro _ _ ⟨rfl, rfl⟩)) | (with_reducible first | refine EvSeq.go ?_ | refine EvIf.tt ?_ | refine EvIf.ff ?_) | ((with_reducible refine Hole.mk (kK ?_)); clear kK) | ((with_reducible refine EvIf.mk (fun c => ?_) (fun c => ?_)) <;> (try simp only [cs_] at c) <;> (try (exfalso; first | omega | (revert c; decide)))) | ((with_reducible refine EvNew.sep HS ?_); intro bN hN HS1 hX; replace HS := HS1; clear HS1) | ((with_reducible refine EvIdx.lit ?_ ?_ ?_); (first | omega | decide); (first | omega | decide)) | ((with_reducible first | refine EvNe.mk ?_ ?_ | refine EvGe.mk ?_ ?_); (first | decide | omega)) | ((with_reducible refine EvLd.q HS (by repeat first | exact .h | apply Spot.t) ?_); (conv => whnf); intro hC) | (with_reducible refine EvLdN.q HS (by repeat first | exact .h | apply Spot.t) (fun hC => ?_)) | ((with_reducible refine EvSt.q HS (by repeat first | exact .h | apply Spot.t) ?_); (conv => whnf); intro hN HS1 hU; replace HS := HS1; clear HS1) | ((with_reducible refine EvKeep.cq (A := keepK _ _ (Hole _) _) HS (by repeat first | exact .h | apply Spot.t) ?_); (conv => whnf); (refine ⟨?_, ?_⟩); assumption; intro hC) | ((with_reducible refine EvKeep.nq (A := keepK _ _ (Hole _) _) HS (by repeat first | exact .h | apply Spot.t) ?_ ?_); assumption; intro hC) | ((fail_if_success with_reducible refine EvKeep.hole ?_); (with_reducible refine EvKeep.abs (fun X kK => ?_)))) <;> conv => whnf)
      have hr : (rng (frm op)).2.2 ≠ 0 := by rcases frm_cases op with e | e | e | e | e | e | e | e | e <;> rw [e] <;> decide
      refine EvNe.mk hr ?_
      conv => whnf
      repeat' ((first | (with_reducible first | refine EvSeq.go ?_ | refine EvIf.tt ?_ | refine EvIf.ff ?_) | ((with_reducible refine Hole.mk (kK ?_)); clear kK) | ((with_reducible refine EvIf.mk (fun c => ?_) (fun c => ?_)) <;> (try simp only [cs_] at c) <;> (try (exfalso; first | omega | (revert c; decide)))) | ((with_reducible refine EvNew.sep HS ?_); intro bN hN HS1 hX; replace HS := HS1; clear HS1) | ((with_reducible refine EvIdx.lit ?_ ?_ ?_); (first | omega | decide); (first | omega | decide)) | ((with_reducible first | refine EvNe.mk ?_ ?_ | refine EvGe.mk ?_ ?_); (first | decide | omega)) | ((with_reducible refine EvLd.q HS (by repeat first | exact .h | apply Spot.t) ?_); (conv => whnf); intro hC) | (with_reducible refine EvLdN.q HS (by repeat first | exact .h | apply Spot.t) (fun hC => ?_)) | ((with_reducible refine EvSt.q HS (by repeat first | exact .h | apply Spot.t) ?_); (conv => whnf); intro hN HS1 hU; replace HS := HS1; clear HS1) | ((with_reducible refine EvKeep.cq (A := keepK _ _ (Hole _) _) HS (by repeat first | exact .h | apply Spot.t) ?_); (conv => whnf); (refine ⟨?_, ?_⟩); assumption; intro hC) | ((with_reducible refine EvKeep.nq (A := keepK _ _ (Hole _) _) HS (by repeat first | exact .h | apply Spot.t) ?_ ?_); assumption; intro hC) | ((fail_if_success with_reducible refine EvKeep.hole ?_); (with_reducible refine EvKeep.abs (fun X kK => ?_)))) <;> conv => whnf)
      all_goals
        refine ⟨?_, HS.to_ext⟩
        show Value.bool _ = Value.bool _
        congr 1
        unfold regOk at q1 q2 q3
        unfold iok
        have fc := frm_cases op
        clear HS
        generalize frm op = f at *
        rcases fc with rfl | rfl | rfl | rfl | rfl | rfl | rfl | rfl | rfl <;> simp [prt, rng] at * <;> first | omega | (rw [Bool.eq_iff_iff]; simp; omega)
end Go.Proofs.Ythndggachjdkfaa
