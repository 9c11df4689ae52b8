/- Walks: the low bytes of a number widened. -/
import Derived.Test.YthndggachjdkfaaVSt2
import Derived.Test.YthndggachjdkfaaVInst2
namespace Go.Proofs.Ythndggachjdkfaa
open Go.RowKit
set_option maxRecDepth 20000
set_option linter.unusedSimpArgs false
set_option linter.unusedVariables false
/-- What Narrow tells. -/
def nar (a b : Int) : Int × Bool :=
  if a = 1 then ((((b + 128) % 256) - 128) % 4294967296, true) else if a = 2 then (b % 256, true)
  else if a = 3 then ((((b + 32768) % 65536) - 32768) % 4294967296, true) else if a = 4 then (b % 65536, true)
  else if a = 5 then (b % 4294967296, true) else (0, false)
abbrev tup2 (x : Int) (y : Bool) : Value := .tuple #[.int .i64 x, .bool y]
theorem tup2_eq {x x' : Int} {y y' : Bool} (h1 : x = x') (h2 : y = y') : tup2 x y = tup2 x' y' := by rw [h1, h2]
theorem iNar_c (a b : Int) (h : Hp) : HC Try.prog 114 [.int .i64 a, .int .i64 b] h fun v h' => v = tup2 (nar a b).1 (nar a b).2 ∧ h' = h := by
  refine hc_of Try.func114 (rfl : Try.f114.body = some _) Try.ntmps114 Try.results114 Try.call114 rfl ?_; have HS := Sep.nil h; conv => whnf
  repeat' ((first | ((with_reducible refine EvCall.mk (HC.mono (iWord_c _ _) ?_)); (rintro _ _ ⟨rfl, rfl⟩)) | (with_reducible first | refine EvSeq.go ?_ | refine EvIf.tt ?_ | refine EvIf.ff ?_) | ((with_reducible refine Hole.mk (kK ?_)); clear kK) | ((with_reducible refine EvIf.mk (fun c => ?_) (fun c => ?_)) <;> (try simp only [cs_] at c) <;> (try (exfalso; first | omega | (revert c; decide)))) | ((with_reducible refine EvNew.sep HS ?_); intro bN hN HS1 hX; replace HS := HS1; clear HS1) | ((with_reducible refine EvIdx.lit ?_ ?_ ?_); (first | omega | decide); (first | omega | decide)) | ((with_reducible first | refine EvNe.mk ?_ ?_ | refine EvGe.mk ?_ ?_); (first | decide | omega)) | ((with_reducible refine EvLd.q HS (by repeat first | exact .h | apply Spot.t) ?_); (conv => whnf); intro hC) | (with_reducible refine EvLdN.q HS (by repeat first | exact .h | apply Spot.t) (fun hC => ?_)) | ((with_reducible refine EvSt.q HS (by repeat first | exact .h | apply Spot.t) ?_); (conv => whnf); intro hN HS1 hU; replace HS := HS1; clear HS1) | ((with_reducible refine EvKeep.cq (A := keepK _ _ (Hole _) _) HS (by repeat first | exact .h | apply Spot.t) ?_); (conv => whnf); (refine ⟨?_, ?_⟩); assumption; intro hC) | ((with_reducible refine EvKeep.nq (A := keepK _ _ (Hole _) _) HS (by repeat first | exact .h | apply Spot.t) ?_ ?_); assumption; intro hC) | ((fail_if_success with_reducible refine EvKeep.hole ?_); (with_reducible refine EvKeep.abs (fun X kK => ?_)))) <;> conv => whnf)
  all_goals
    refine ⟨tup2_eq ?_ ?_, rfl⟩
    all_goals
      unfold nar
      simp (disch := omega) only [if_pos, if_neg, and_255, and_65535, wrap_i8, wrap_i16, i64w]
theorem sNar_c (a b : Int) (h : Hp) : HC Try.prog 35 [.int .i64 a, .int .i64 b] h fun v h' => v = tup2 (nar a b).1 (nar a b).2 ∧ h' = h := by
  have q := tmod_pos (a := b % 4294967296) (b := 256) (by omega)
  have q' := tmod_pos (a := b % 4294967296) (b := 65536) (by omega)
  have q'' := tmod_pos (a := b % 4294967296) (b := 4294967296) (by omega)
  by_cases h0 : ks a = 0
  · have hn : nar a b = (0, false) := by
      unfold ks at h0
      unfold nar
      simp (disch := omega) only [if_neg]
    rw [hn]
    refine hc_of Try.func35 (rfl : Try.f35.body = some _) Try.ntmps35 Try.results35 Try.call35 rfl ?_; have HS := Sep.nil h; conv => whnf
    repeat' ((first | ((with_reducible refine EvCall.mk (HC.mono (sKs_v a 0 h0 _) ?_)); (rintro _ _ ⟨rfl, rfl⟩)) | (with_reducible first | refine EvSeq.go ?_ | refine EvIf.tt ?_ | refine EvIf.ff ?_) | ((with_reducible refine Hole.mk (kK ?_)); clear kK) | ((with_reducible refine EvIf.mk (fun c => ?_) (fun c => ?_)) <;> (try simp only [cs_] at c) <;> (try (exfalso; first | omega | (revert c; decide)))) | ((with_reducible refine EvNew.sep HS ?_); intro bN hN HS1 hX; replace HS := HS1; clear HS1) | ((with_reducible refine EvIdx.lit ?_ ?_ ?_); (first | omega | decide); (first | omega | decide)) | ((with_reducible first | refine EvNe.mk ?_ ?_ | refine EvGe.mk ?_ ?_); (first | decide | omega)) | ((with_reducible refine EvLd.q HS (by repeat first | exact .h | apply Spot.t) ?_); (conv => whnf); intro hC) | (with_reducible refine EvLdN.q HS (by repeat first | exact .h | apply Spot.t) (fun hC => ?_)) | ((with_reducible refine EvSt.q HS (by repeat first | exact .h | apply Spot.t) ?_); (conv => whnf); intro hN HS1 hU; replace HS := HS1; clear HS1) | ((with_reducible refine EvKeep.cq (A := keepK _ _ (Hole _) _) HS (by repeat first | exact .h | apply Spot.t) ?_); (conv => whnf); (refine ⟨?_, ?_⟩); assumption; intro hC) | ((with_reducible refine EvKeep.nq (A := keepK _ _ (Hole _) _) HS (by repeat first | exact .h | apply Spot.t) ?_ ?_); assumption; intro hC) | ((fail_if_success with_reducible refine EvKeep.hole ?_); (with_reducible refine EvKeep.abs (fun X kK => ?_)))) <;> conv => whnf)
    exact ⟨rfl, rfl⟩
  have ha : a = 1 ∨ a = 2 ∨ a = 3 ∨ a = 4 ∨ a = 5 := by unfold ks at h0; omega
  rcases ha with rfl | rfl | rfl | rfl | rfl
  · have e : (2 : Int) ^ (IntKind.i64.wrap (8 * 1)).toNat = 256 := by decide
    have e2 : IntKind.i64.wrap (Int.tdiv 256 2) = 128 := by decide
    refine hc_of Try.func35 (rfl : Try.f35.body = some _) Try.ntmps35 Try.results35 Try.call35 rfl ?_; have HS := Sep.nil h; conv => whnf
    repeat' ((first | ((with_reducible refine EvCall.mk (HC.mono (sKs_v 1 1 rfl _) ?_)); (rintro _ _ ⟨rfl, rfl⟩)) | ((with_reducible refine EvCall.mk (HC.mono (power_i _ _ (by decide) (by decide)) ?_)); (rintro _ _ ⟨rfl, rfl⟩)) | ((with_reducible refine EvCall.mk (HC.mono (sWord_c _ _) ?_)); (rintro _ _ ⟨rfl, rfl⟩)) | (with_reducible first | refine EvSeq.go ?_ | refine EvIf.tt ?_ | refine EvIf.ff ?_) | ((with_reducible refine Hole.mk (kK ?_)); clear kK) | ((with_reducible refine EvIf.mk (fun c => ?_) (fun c => ?_)) <;> (try simp only [cs_] at c) <;> (try (exfalso; first | omega | (revert c; decide)))) | ((with_reducible refine EvNew.sep HS ?_); intro bN hN HS1 hX; replace HS := HS1; clear HS1) | ((with_reducible refine EvIdx.lit ?_ ?_ ?_); (first | omega | decide); (first | omega | decide)) | ((with_reducible first | refine EvNe.mk ?_ ?_ | refine EvGe.mk ?_ ?_); (first | decide | omega)) | ((with_reducible refine EvLd.q HS (by repeat first | exact .h | apply Spot.t) ?_); (conv => whnf); intro hC) | (with_reducible refine EvLdN.q HS (by repeat first | exact .h | apply Spot.t) (fun hC => ?_)) | ((with_reducible refine EvSt.q HS (by repeat first | exact .h | apply Spot.t) ?_); (conv => whnf); intro hN HS1 hU; replace HS := HS1; clear HS1) | ((with_reducible refine EvKeep.cq (A := keepK _ _ (Hole _) _) HS (by repeat first | exact .h | apply Spot.t) ?_); (conv => whnf); (refine ⟨?_, ?_⟩); assumption; intro hC) | ((with_reducible refine EvKeep.nq (A := keepK _ _ (Hole _) _) HS (by repeat first | exact .h | apply Spot.t) ?_ ?_); assumption; intro hC) | ((fail_if_success with_reducible refine EvKeep.hole ?_); (with_reducible refine EvKeep.abs (fun X kK => ?_)))) <;> conv => whnf)
    all_goals
      refine ⟨tup2_eq ?_ rfl, rfl⟩
      simp only [e, e2, q, q', q''] at *
      simp only [nar, Int.reduceEq, if_true, if_false]
      first
      | (rw [i64w _ (by omega) (by omega)]; omega)
      | omega
  · have e : (2 : Int) ^ (IntKind.i64.wrap (8 * 1)).toNat = 256 := by decide
    have e2 : IntKind.i64.wrap (Int.tdiv 256 2) = 128 := by decide
    refine hc_of Try.func35 (rfl : Try.f35.body = some _) Try.ntmps35 Try.results35 Try.call35 rfl ?_; have HS := Sep.nil h; conv => whnf
    repeat' ((first | ((with_reducible refine EvCall.mk (HC.mono (sKs_v 2 1 rfl _) ?_)); (rintro _ _ ⟨rfl, rfl⟩)) | ((with_reducible refine EvCall.mk (HC.mono (power_i _ _ (by decide) (by decide)) ?_)); (rintro _ _ ⟨rfl, rfl⟩)) | ((with_reducible refine EvCall.mk (HC.mono (sWord_c _ _) ?_)); (rintro _ _ ⟨rfl, rfl⟩)) | (with_reducible first | refine EvSeq.go ?_ | refine EvIf.tt ?_ | refine EvIf.ff ?_) | ((with_reducible refine Hole.mk (kK ?_)); clear kK) | ((with_reducible refine EvIf.mk (fun c => ?_) (fun c => ?_)) <;> (try simp only [cs_] at c) <;> (try (exfalso; first | omega | (revert c; decide)))) | ((with_reducible refine EvNew.sep HS ?_); intro bN hN HS1 hX; replace HS := HS1; clear HS1) | ((with_reducible refine EvIdx.lit ?_ ?_ ?_); (first | omega | decide); (first | omega | decide)) | ((with_reducible first | refine EvNe.mk ?_ ?_ | refine EvGe.mk ?_ ?_); (first | decide | omega)) | ((with_reducible refine EvLd.q HS (by repeat first | exact .h | apply Spot.t) ?_); (conv => whnf); intro hC) | (with_reducible refine EvLdN.q HS (by repeat first | exact .h | apply Spot.t) (fun hC => ?_)) | ((with_reducible refine EvSt.q HS (by repeat first | exact .h | apply Spot.t) ?_); (conv => whnf); intro hN HS1 hU; replace HS := HS1; clear HS1) | ((with_reducible refine EvKeep.cq (A := keepK _ _ (Hole _) _) HS (by repeat first | exact .h | apply Spot.t) ?_); (conv => whnf); (refine ⟨?_, ?_⟩); assumption; intro hC) | ((with_reducible refine EvKeep.nq (A := keepK _ _ (Hole _) _) HS (by repeat first | exact .h | apply Spot.t) ?_ ?_); assumption; intro hC) | ((fail_if_success with_reducible refine EvKeep.hole ?_); (with_reducible refine EvKeep.abs (fun X kK => ?_)))) <;> conv => whnf)
    all_goals
      refine ⟨tup2_eq ?_ rfl, rfl⟩
      simp only [e, e2, q, q', q''] at *
      simp only [nar, Int.reduceEq, if_true, if_false]
      first
      | (rw [i64w _ (by omega) (by omega)]; omega)
      | omega
  · have e : (2 : Int) ^ (IntKind.i64.wrap (8 * 2)).toNat = 65536 := by decide
    have e2 : IntKind.i64.wrap (Int.tdiv 65536 2) = 32768 := by decide
    refine hc_of Try.func35 (rfl : Try.f35.body = some _) Try.ntmps35 Try.results35 Try.call35 rfl ?_; have HS := Sep.nil h; conv => whnf
    repeat' ((first | ((with_reducible refine EvCall.mk (HC.mono (sKs_v 3 2 rfl _) ?_)); (rintro _ _ ⟨rfl, rfl⟩)) | ((with_reducible refine EvCall.mk (HC.mono (power_i _ _ (by decide) (by decide)) ?_)); (rintro _ _ ⟨rfl, rfl⟩)) | ((with_reducible refine EvCall.mk (HC.mono (sWord_c _ _) ?_)); (rintro _ _ ⟨rfl, rfl⟩)) | (with_reducible first | refine EvSeq.go ?_ | refine EvIf.tt ?_ | refine EvIf.ff ?_) | ((with_reducible refine Hole.mk (kK ?_)); clear kK) | ((with_reducible refine EvIf.mk (fun c => ?_) (fun c => ?_)) <;> (try simp only [cs_] at c) <;> (try (exfalso; first | omega | (revert c; decide)))) | ((with_reducible refine EvNew.sep HS ?_); intro bN hN HS1 hX; replace HS := HS1; clear HS1) | ((with_reducible refine EvIdx.lit ?_ ?_ ?_); (first | omega | decide); (first | omega | decide)) | ((with_reducible first | refine EvNe.mk ?_ ?_ | refine EvGe.mk ?_ ?_); (first | decide | omega)) | ((with_reducible refine EvLd.q HS (by repeat first | exact .h | apply Spot.t) ?_); (conv => whnf); intro hC) | (with_reducible refine EvLdN.q HS (by repeat first | exact .h | apply Spot.t) (fun hC => ?_)) | ((with_reducible refine EvSt.q HS (by repeat first | exact .h | apply Spot.t) ?_); (conv => whnf); intro hN HS1 hU; replace HS := HS1; clear HS1) | ((with_reducible refine EvKeep.cq (A := keepK _ _ (Hole _) _) HS (by repeat first | exact .h | apply Spot.t) ?_); (conv => whnf); (refine ⟨?_, ?_⟩); assumption; intro hC) | ((with_reducible refine EvKeep.nq (A := keepK _ _ (Hole _) _) HS (by repeat first | exact .h | apply Spot.t) ?_ ?_); assumption; intro hC) | ((fail_if_success with_reducible refine EvKeep.hole ?_); (with_reducible refine EvKeep.abs (fun X kK => ?_)))) <;> conv => whnf)
    all_goals
      refine ⟨tup2_eq ?_ rfl, rfl⟩
      simp only [e, e2, q, q', q''] at *
      simp only [nar, Int.reduceEq, if_true, if_false]
      first
      | (rw [i64w _ (by omega) (by omega)]; omega)
      | omega
  · have e : (2 : Int) ^ (IntKind.i64.wrap (8 * 2)).toNat = 65536 := by decide
    have e2 : IntKind.i64.wrap (Int.tdiv 65536 2) = 32768 := by decide
    refine hc_of Try.func35 (rfl : Try.f35.body = some _) Try.ntmps35 Try.results35 Try.call35 rfl ?_; have HS := Sep.nil h; conv => whnf
    repeat' ((first | ((with_reducible refine EvCall.mk (HC.mono (sKs_v 4 2 rfl _) ?_)); (rintro _ _ ⟨rfl, rfl⟩)) | ((with_reducible refine EvCall.mk (HC.mono (power_i _ _ (by decide) (by decide)) ?_)); (rintro _ _ ⟨rfl, rfl⟩)) | ((with_reducible refine EvCall.mk (HC.mono (sWord_c _ _) ?_)); (rintro _ _ ⟨rfl, rfl⟩)) | (with_reducible first | refine EvSeq.go ?_ | refine EvIf.tt ?_ | refine EvIf.ff ?_) | ((with_reducible refine Hole.mk (kK ?_)); clear kK) | ((with_reducible refine EvIf.mk (fun c => ?_) (fun c => ?_)) <;> (try simp only [cs_] at c) <;> (try (exfalso; first | omega | (revert c; decide)))) | ((with_reducible refine EvNew.sep HS ?_); intro bN hN HS1 hX; replace HS := HS1; clear HS1) | ((with_reducible refine EvIdx.lit ?_ ?_ ?_); (first | omega | decide); (first | omega | decide)) | ((with_reducible first | refine EvNe.mk ?_ ?_ | refine EvGe.mk ?_ ?_); (first | decide | omega)) | ((with_reducible refine EvLd.q HS (by repeat first | exact .h | apply Spot.t) ?_); (conv => whnf); intro hC) | (with_reducible refine EvLdN.q HS (by repeat first | exact .h | apply Spot.t) (fun hC => ?_)) | ((with_reducible refine EvSt.q HS (by repeat first | exact .h | apply Spot.t) ?_); (conv => whnf); intro hN HS1 hU; replace HS := HS1; clear HS1) | ((with_reducible refine EvKeep.cq (A := keepK _ _ (Hole _) _) HS (by repeat first | exact .h | apply Spot.t) ?_); (conv => whnf); (refine ⟨?_, ?_⟩); assumption; intro hC) | ((with_reducible refine EvKeep.nq (A := keepK _ _ (Hole _) _) HS (by repeat first | exact .h | apply Spot.t) ?_ ?_); assumption; intro hC) | ((fail_if_success with_reducible refine EvKeep.hole ?_); (with_reducible refine EvKeep.abs (fun X kK => ?_)))) <;> conv => whnf)
    all_goals
      refine ⟨tup2_eq ?_ rfl, rfl⟩
      simp only [e, e2, q, q', q''] at *
      simp only [nar, Int.reduceEq, if_true, if_false]
      first
      | (rw [i64w _ (by omega) (by omega)]; omega)
      | omega
  · have e : (2 : Int) ^ (IntKind.i64.wrap (8 * 4)).toNat = 4294967296 := by decide
    have e2 : IntKind.i64.wrap (Int.tdiv 4294967296 2) = 2147483648 := by decide
    refine hc_of Try.func35 (rfl : Try.f35.body = some _) Try.ntmps35 Try.results35 Try.call35 rfl ?_; have HS := Sep.nil h; conv => whnf
    repeat' ((first | ((with_reducible refine EvCall.mk (HC.mono (sKs_v 5 4 rfl _) ?_)); (rintro _ _ ⟨rfl, rfl⟩)) | ((with_reducible refine EvCall.mk (HC.mono (power_i _ _ (by decide) (by decide)) ?_)); (rintro _ _ ⟨rfl, rfl⟩)) | ((with_reducible refine EvCall.mk (HC.mono (sWord_c _ _) ?_)); (rintro _ _ ⟨rfl, rfl⟩)) | (with_reducible first | refine EvSeq.go ?_ | refine EvIf.tt ?_ | refine EvIf.ff ?_) | ((with_reducible refine Hole.mk (kK ?_)); clear kK) | ((with_reducible refine EvIf.mk (fun c => ?_) (fun c => ?_)) <;> (try simp only [cs_] at c) <;> (try (exfalso; first | omega | (revert c; decide)))) | ((with_reducible refine EvNew.sep HS ?_); intro bN hN HS1 hX; replace HS := HS1; clear HS1) | ((with_reducible refine EvIdx.lit ?_ ?_ ?_); (first | omega | decide); (first | omega | decide)) | ((with_reducible first | refine EvNe.mk ?_ ?_ | refine EvGe.mk ?_ ?_); (first | decide | omega)) | ((with_reducible refine EvLd.q HS (by repeat first | exact .h | apply Spot.t) ?_); (conv => whnf); intro hC) | (with_reducible refine EvLdN.q HS (by repeat first | exact .h | apply Spot.t) (fun hC => ?_)) | ((with_reducible refine EvSt.q HS (by repeat first | exact .h | apply Spot.t) ?_); (conv => whnf); intro hN HS1 hU; replace HS := HS1; clear HS1) | ((with_reducible refine EvKeep.cq (A := keepK _ _ (Hole _) _) HS (by repeat first | exact .h | apply Spot.t) ?_); (conv => whnf); (refine ⟨?_, ?_⟩); assumption; intro hC) | ((with_reducible refine EvKeep.nq (A := keepK _ _ (Hole _) _) HS (by repeat first | exact .h | apply Spot.t) ?_ ?_); assumption; intro hC) | ((fail_if_success with_reducible refine EvKeep.hole ?_); (with_reducible refine EvKeep.abs (fun X kK => ?_)))) <;> conv => whnf)
    all_goals
      refine ⟨tup2_eq ?_ rfl, rfl⟩
      simp only [e, e2, q, q', q''] at *
      simp only [nar, Int.reduceEq, if_true, if_false]
      first
      | (rw [i64w _ (by omega) (by omega)]; omega)
      | omega
end Go.Proofs.Ythndggachjdkfaa
