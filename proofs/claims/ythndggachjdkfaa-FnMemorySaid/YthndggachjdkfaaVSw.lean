/- Walks: StoreWord. -/
import Derived.Test.YthndggachjdkfaaVSt3
namespace Go.Proofs.Ythndggachjdkfaa
open Go.RowKit
set_option maxRecDepth 20000
set_option linter.unusedSimpArgs false
set_option linter.unusedVariables false
theorem mok_sizes {m : Mac} (h : mok m = true) : m.data.length ≤ 65536 ∧ m.stack.length ≤ 65536 := by
  unfold mok at h
  simp only [Bool.and_eq_true, decide_eq_true_eq, stackOk] at h
  omega
theorem stM_v (x : MH) (m : Mac) (kd a w : Int) : x.v (stM m kd a w) = x.v m := by
  unfold stM
  split
  · rfl
  · split <;> rfl
theorem stI_v (x : MH) (m : Mac) (kd a w : Int) : x.v (stI m kd a w) = x.v m := by
  unfold stI
  split
  · rfl
  · exact stM_v x m kd a w
theorem Sep.small {h0 h : Hp} {L : List Asn} {x y : MH} {m : Mac} (r : RdM h x m) (b : Small x) (s : Sep h0 h (y.own m ++ L)) : Small y := by
  have q := s.rdm
  exact ⟨by rw [← q.cl, r.cl]; exact b.c, by rw [← q.rl, r.rl]; exact b.r, by rw [← q.dl, r.dl]; exact b.d, by rw [← q.sl, r.sl]; exact b.s, by rw [← q.il, r.il]; exact b.i, by rw [← q.ol, r.ol]; exact b.o⟩
/-- What StoreWord tells. -/
def swf (m : Mac) (kd a : Int) : Int := if mok m = true ∧ ks kd ≠ 0 then flt m.data.length m.stack.length kd a else 4
def swm (m : Mac) (kd a w : Int) : Mac := if mok m = true ∧ ks kd ≠ 0 then stM m kd a w else m
set_option maxHeartbeats 4000000 in
theorem sSw_c {h : Hp} {x : MH} {m : Mac} (r : RdM h x m) (b : Small x) (kd a w : Int) (a0 : -9223372036854775808 ≤ a) (a1 : a ≤ 9223372036854775807) :
    HC Try.prog 31 [x.v m, .int .i64 kd, .int .i64 a, .int .i64 w] h fun v h' => ∃ y : MH, v = .tuple #[y.v (swm m kd a w), .int .i64 (swf m kd a)] ∧ Sep h h' (y.own (swm m kd a w)) := by
  refine hc_of Try.func31 (rfl : Try.f31.body = some _) Try.ntmps31 Try.results31 Try.call31 rfl ?_; have HS := Sep.nil h; conv => whnf
  repeat' ((first | ((with_reducible refine EvCall.mk (HC.mono (l3Copy_c (r.ext HS.to_ext) b) ?_)); (rintro _ hN ⟨yN, rfl, HS1⟩); replace HS := HS.join6 HS1; clear HS1) | ((with_reducible refine EvCall.mk (HC.mono (sMok_c (r.ext HS.to_ext) b) ?_)); (rintro _ hN ⟨rfl, hX⟩); replace HS := HS.ext hX) | ((with_reducible refine EvCall.mk (HC.mono (sKs_c _ _) ?_)); (rintro _ _ ⟨rfl, rfl⟩)) | (with_reducible first | refine EvSeq.go ?_ | refine EvIf.tt ?_ | refine EvIf.ff ?_) | ((with_reducible refine Hole.mk (kK ?_)); clear kK) | ((with_reducible refine EvIf.mk (fun c => ?_) (fun c => ?_)) <;> (try simp only [cs_] at c) <;> (try (exfalso; first | omega | (revert c; decide)))) | ((with_reducible refine EvNew.sep HS ?_); intro bN hN HS1 hX; replace HS := HS1; clear HS1) | ((with_reducible refine EvIdx.lit ?_ ?_ ?_); (first | omega | decide); (first | omega | decide)) | ((with_reducible first | refine EvNe.mk ?_ ?_ | refine EvGe.mk ?_ ?_); (first | decide | omega)) | ((with_reducible refine EvLd.q HS (by repeat first | exact .h | apply Spot.t) ?_); (conv => whnf); intro hC) | (with_reducible refine EvLdN.q HS (by repeat first | exact .h | apply Spot.t) (fun hC => ?_)) | ((with_reducible refine EvSt.q HS (by repeat first | exact .h | apply Spot.t) ?_); (conv => whnf); intro hN HS1 hU; replace HS := HS1; clear HS1) | ((with_reducible refine EvKeep.cq (A := keepK _ _ (Hole _) _) HS (by repeat first | exact .h | apply Spot.t) ?_); (conv => whnf); (refine ⟨?_, ?_⟩); assumption; intro hC) | ((with_reducible refine EvKeep.nq (A := keepK _ _ (Hole _) _) HS (by repeat first | exact .h | apply Spot.t) ?_ ?_); assumption; intro hC) | ((fail_if_success with_reducible refine EvKeep.hole ?_); (with_reducible refine EvKeep.abs (fun X kK => ?_)))) <;> conv => whnf)
  · have e1 : swm m kd a w = m := by unfold swm; rw [if_neg (by rw [c]; simp)]
    have e2 : swf m kd a = 4 := by unfold swf; rw [if_neg (by rw [c]; simp)]
    rw [e1, e2]
    exact ⟨yN, rfl, HS.tail.take [_, _, _, _, _, _]⟩
  · have e1 : swm m kd a w = m := by unfold swm; rw [if_neg (fun e => e.2 c)]
    have e2 : swf m kd a = 4 := by unfold swf; rw [if_neg (fun e => e.2 c)]
    rw [e1, e2]
    exact ⟨yN, rfl, HS.tail.take [_, _, _, _, _, _]⟩
  · have hm : mok m = true := by assumption
    have ⟨z1, z2⟩ := mok_sizes hm
    have q := Sep.rdm (x := yN) (m := m) HS.tail
    refine EvCall.mk ((l3Store_c (x := yN) (m := m) HS kd a w c (by rw [← q.dl]; exact z1) (by rw [← q.sl]; exact z2) a0 a1).mono ?_)
    rintro _ hN ⟨rfl, HS1⟩
    replace HS := HS1
    clear HS1
    dsimp only [MH.own, List.cons_append, List.nil_append] at HS
    conv => whnf
    repeat' ((first | (with_reducible first | refine EvSeq.go ?_ | refine EvIf.tt ?_ | refine EvIf.ff ?_) | ((with_reducible refine Hole.mk (kK ?_)); clear kK) | ((with_reducible refine EvIf.mk (fun c => ?_) (fun c => ?_)) <;> (try simp only [cs_] at c) <;> (try (exfalso; first | omega | (revert c; decide)))) | ((with_reducible refine EvNew.sep HS ?_); intro bN hN HS1 hX; replace HS := HS1; clear HS1) | ((with_reducible refine EvIdx.lit ?_ ?_ ?_); (first | omega | decide); (first | omega | decide)) | ((with_reducible first | refine EvNe.mk ?_ ?_ | refine EvGe.mk ?_ ?_); (first | decide | omega)) | ((with_reducible refine EvLd.q HS (by repeat first | exact .h | apply Spot.t) ?_); (conv => whnf); intro hC) | (with_reducible refine EvLdN.q HS (by repeat first | exact .h | apply Spot.t) (fun hC => ?_)) | ((with_reducible refine EvSt.q HS (by repeat first | exact .h | apply Spot.t) ?_); (conv => whnf); intro hN HS1 hU; replace HS := HS1; clear HS1) | ((with_reducible refine EvKeep.cq (A := keepK _ _ (Hole _) _) HS (by repeat first | exact .h | apply Spot.t) ?_); (conv => whnf); (refine ⟨?_, ?_⟩); assumption; intro hC) | ((with_reducible refine EvKeep.nq (A := keepK _ _ (Hole _) _) HS (by repeat first | exact .h | apply Spot.t) ?_ ?_); assumption; intro hC) | ((fail_if_success with_reducible refine EvKeep.hole ?_); (with_reducible refine EvKeep.abs (fun X kK => ?_)))) <;> conv => whnf)
    have e1 : swm m kd a w = stM m kd a w := by unfold swm; rw [if_pos ⟨hm, c⟩]
    have e2 : swf m kd a = flt m.data.length m.stack.length kd a := by unfold swf; rw [if_pos ⟨hm, c⟩]
    rw [e1, e2]
    refine ⟨yN, ?_, ?_⟩
    · rw [stM_v]
    · exact HS.tail.take [_, _, _, _, _, _]
set_option maxHeartbeats 4000000 in
theorem iSw_c {h : Hp} {x : MH} {m : Mac} (r : RdM h x m) (b : Small x) (kd a w : Int) (a0 : -9223372036854775808 ≤ a) (a1 : a ≤ 9223372036854775807) :
    HC Try.prog 32 [x.v m, .int .i64 kd, .int .i64 a, .int .i64 w] h fun v h' => ∃ y : MH, v = .tuple #[y.v (swm m kd a w), .int .i64 (swf m kd a)] ∧ Sep h h' (y.own (swm m kd a w)) := by
  refine hc_of Try.func32 (rfl : Try.f32.body = some _) Try.ntmps32 Try.results32 Try.call32 rfl ?_; have HS := Sep.nil h; conv => whnf
  repeat' ((first | ((with_reducible refine EvDraw.ord (id := 4) (.go 0 (.go 1 (.go 2 (.go 3 (.alt 4 (.alt 5 (.go 6 .done) .stop) .stop))))) fol ?_ ?_ ?_); kernel_rfl; kernel_rfl) | ((with_reducible refine EvCall.mk (HC.mono (copy_c (r.ext HS.to_ext) b) ?_)); (rintro _ hN ⟨yN, rfl, HS1⟩); replace HS := HS.join6 HS1; clear HS1) | ((with_reducible refine EvCall.mk (HC.mono (iMok_c (r.ext HS.to_ext) b) ?_)); (rintro _ hN ⟨rfl, hX⟩); replace HS := HS.ext hX) | (with_reducible first | refine EvSeq.go ?_ | refine EvIf.tt ?_ | refine EvIf.ff ?_) | ((with_reducible refine Hole.mk (kK ?_)); clear kK) | ((with_reducible refine EvIf.mk (fun c => ?_) (fun c => ?_)) <;> (try simp only [cs_] at c) <;> (try (exfalso; first | omega | (revert c; decide)))) | ((with_reducible refine EvNew.sep HS ?_); intro bN hN HS1 hX; replace HS := HS1; clear HS1) | ((with_reducible refine EvIdx.lit ?_ ?_ ?_); (first | omega | decide); (first | omega | decide)) | ((with_reducible first | refine EvNe.mk ?_ ?_ | refine EvGe.mk ?_ ?_); (first | decide | omega)) | ((with_reducible refine EvLd.q HS (by repeat first | exact .h | apply Spot.t) ?_); (conv => whnf); intro hC) | (with_reducible refine EvLdN.q HS (by repeat first | exact .h | apply Spot.t) (fun hC => ?_)) | ((with_reducible refine EvSt.q HS (by repeat first | exact .h | apply Spot.t) ?_); (conv => whnf); intro hN HS1 hU; replace HS := HS1; clear HS1) | ((with_reducible refine EvKeep.cq (A := keepK _ _ (Hole _) _) HS (by repeat first | exact .h | apply Spot.t) ?_); (conv => whnf); (refine ⟨?_, ?_⟩); assumption; intro hC) | ((with_reducible refine EvKeep.nq (A := keepK _ _ (Hole _) _) HS (by repeat first | exact .h | apply Spot.t) ?_ ?_); assumption; intro hC) | ((fail_if_success with_reducible refine EvKeep.hole ?_); (with_reducible refine EvKeep.abs (fun X kK => ?_)))) <;> conv => whnf)
  · have e1 : swm m kd a w = m := by unfold swm; rw [if_neg (by rw [c]; simp)]
    have e2 : swf m kd a = 4 := by unfold swf; rw [if_neg (by rw [c]; simp)]
    rw [e1, e2]
    exact ⟨yN, rfl, HS.tail.take [_, _, _, _, _, _]⟩
  · have hm : mok m = true := by assumption
    have ⟨z1, z2⟩ := mok_sizes hm
    have q := Sep.rdm (x := yN) (m := m) HS.tail
    refine EvCall.mk ((store_c (x := yN) (m := m) HS kd a w (by rw [← q.dl]; exact z1) (by rw [← q.sl]; exact z2) a0 a1).mono ?_)
    rintro _ hN ⟨rfl, HS1⟩
    replace HS := HS1
    clear HS1
    dsimp only [MH.own, List.cons_append, List.nil_append] at HS
    conv => whnf
    repeat' ((first | (with_reducible first | refine EvSeq.go ?_ | refine EvIf.tt ?_ | refine EvIf.ff ?_) | ((with_reducible refine Hole.mk (kK ?_)); clear kK) | ((with_reducible refine EvIf.mk (fun c => ?_) (fun c => ?_)) <;> (try simp only [cs_] at c) <;> (try (exfalso; first | omega | (revert c; decide)))) | ((with_reducible refine EvNew.sep HS ?_); intro bN hN HS1 hX; replace HS := HS1; clear HS1) | ((with_reducible refine EvIdx.lit ?_ ?_ ?_); (first | omega | decide); (first | omega | decide)) | ((with_reducible first | refine EvNe.mk ?_ ?_ | refine EvGe.mk ?_ ?_); (first | decide | omega)) | ((with_reducible refine EvLd.q HS (by repeat first | exact .h | apply Spot.t) ?_); (conv => whnf); intro hC) | (with_reducible refine EvLdN.q HS (by repeat first | exact .h | apply Spot.t) (fun hC => ?_)) | ((with_reducible refine EvSt.q HS (by repeat first | exact .h | apply Spot.t) ?_); (conv => whnf); intro hN HS1 hU; replace HS := HS1; clear HS1) | ((with_reducible refine EvKeep.cq (A := keepK _ _ (Hole _) _) HS (by repeat first | exact .h | apply Spot.t) ?_); (conv => whnf); (refine ⟨?_, ?_⟩); assumption; intro hC) | ((with_reducible refine EvKeep.nq (A := keepK _ _ (Hole _) _) HS (by repeat first | exact .h | apply Spot.t) ?_ ?_); assumption; intro hC) | ((fail_if_success with_reducible refine EvKeep.hole ?_); (with_reducible refine EvKeep.abs (fun X kK => ?_)))) <;> conv => whnf)
    all_goals
      have e1 : swm m kd a w = stI m kd a w := by unfold swm stI; by_cases hk : ks kd = 0 <;> simp [hm, hk]
      have e2 : swf m kd a = fltI m.data.length m.stack.length kd a := by unfold swf fltI; by_cases hk : ks kd = 0 <;> simp [hm, hk]
      rw [e1, e2]
      refine ⟨yN, ?_, ?_⟩
      · rw [stI_v]
      · exact HS.tail.take [_, _, _, _, _, _]
end Go.Proofs.Ythndggachjdkfaa
