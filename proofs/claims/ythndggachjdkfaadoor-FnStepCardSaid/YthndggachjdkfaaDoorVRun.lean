/- Walks: the program's run of the machine. -/
import Derived.Test.YthndggachjdkfaaDoorVStepG
import Derived.Test.YthndggachjdkfaaDoorVLw
namespace Go.Proofs.YthndggachjdkfaaDoor
open Go.RowKit
set_option maxRecDepth 20000
set_option linter.unusedSimpArgs false
set_option linter.unusedVariables false
theorem runN_step {k : Nat} {m : Mac} (hg : goes m = true) : runN (k + 1) m = runN k (step1 m) := by rw [runN, if_pos hg]
theorem runN_stop {k : Nat} {m : Mac} (hg : goes m = false) : runN k m = m := by
  cases k with
  | zero => rfl
  | succ k => rw [runN, if_neg (by rw [hg]; simp)]
set_option maxHeartbeats 8000000 in
theorem run_c {h0 h : Hp} {L : List Asn} {x : MH} {m : Mac} {b : Nat} (hg : Glob h0) (HS : Sep h0 h (Bx b (x.cs m) 27 :: (x.own m ++ L))) (ok : Ok m) (fuel : Int) (f0 : -9223372036854775808 ≤ fuel) (f1 : fuel ≤ 9223372036854775807) :
    HC Tryd.prog 37 [.pointer (some ⟨b, 0, none⟩), .int .i64 fuel] h fun v h' => ∃ x' : MH, Sep h0 h' (Bx b (x'.cs (runN fuel.toNat m)) 27 :: (x'.own (runN fuel.toNat m) ++ L)) := by
  refine hc_of Tryd.func37 (rfl : Tryd.f37.body = some _) Tryd.ntmps37 Tryd.results37 Tryd.call37 rfl ?_; conv => whnf
  repeat' ((first | (with_reducible first | refine EvSeq.go ?_ | refine EvIf.tt ?_ | refine EvIf.ff ?_) | ((with_reducible refine Hole.mk (kK ?_)); clear kK) | ((with_reducible refine EvIf.mk (fun c => ?_) (fun c => ?_)) <;> (try simp only [cs_] at c) <;> (try (exfalso; first | omega | (revert c; decide)))) | ((with_reducible refine EvNew.sep HS ?_); intro bN hN HS1 hX; replace HS := HS1; clear HS1) | ((with_reducible refine EvIdx.lit ?_ ?_ ?_); (first | omega | decide); (first | omega | decide)) | ((with_reducible first | refine EvNe.mk ?_ ?_ | refine EvGe.mk ?_ ?_); (first | decide | omega)) | ((with_reducible refine EvLd.q HS (by repeat first | exact .h | apply Spot.t) ?_); (conv => whnf); intro hC) | (with_reducible refine EvLdN.q HS (by repeat first | exact .h | apply Spot.t) (fun hC => ?_)) | ((with_reducible refine EvSt.q HS (by repeat first | exact .h | apply Spot.t) ?_); (conv => whnf); intro hN HS1 hU; replace HS := HS1; clear HS1) | ((with_reducible refine EvKeep.cq (A := keepK _ _ (Hole _) _) HS (by repeat first | exact .h | apply Spot.t) ?_); (conv => whnf); (refine ⟨?_, ?_⟩); assumption; intro hC) | ((with_reducible refine EvKeep.nq (A := keepK _ _ (Hole _) _) HS (by repeat first | exact .h | apply Spot.t) ?_ ?_); assumption; intro hC) | ((fail_if_success with_reducible refine EvKeep.hole ?_); (with_reducible refine EvKeep.abs (fun X kK => ?_)))) <;> conv => whnf)
  refine EvLoop.keep ([1, 4, 5, 6, 7, 8, 9, 10, 11, 12, 13, 14, 15, 16, 17, 18, 19, 20, 21, 22, 23, 24, 25, 26, 27, 28, 29, 30, 31, 32, 33, 34, 35, 36, 37, 38, 39, 40], 5) (α := MH × Mac × Int) (fun p => [(1, .int .i64 p.2.2)]) (fun p h' => Sep h0 h' (Bx b (p.1.cs p.2.1) 27 :: (p.1.own p.2.1 ++ L)) ∧ Ok p.2.1 ∧ p.2.2 ≤ fuel ∧ runN p.2.2.toNat p.2.1 = runN fuel.toNat m) (fun p => p.2.2.toNat) (x, m, fuel) (by (repeat' (first | exact trivial | refine ⟨rfl, ?_⟩))) ⟨HS, ok, Int.le_refl _, rfl⟩ ?_
  clear HS
  rintro ⟨x', m', k⟩ _ ⟨HS, ok', hk, hr⟩
  dsimp only at HS ok' hk hr
  have t0 := ok'.t0
  conv => whnf
  repeat' ((first | (with_reducible first | refine EvSeq.go ?_ | refine EvIf.tt ?_ | refine EvIf.ff ?_) | ((with_reducible refine Hole.mk (kK ?_)); clear kK) | ((with_reducible refine EvIf.mk (fun c => ?_) (fun c => ?_)) <;> (try simp only [cs_] at c) <;> (try (exfalso; first | omega | (revert c; decide)))) | ((with_reducible refine EvNew.sep HS ?_); intro bN hN HS1 hX; replace HS := HS1; clear HS1) | ((with_reducible refine EvIdx.lit ?_ ?_ ?_); (first | omega | decide); (first | omega | decide)) | ((with_reducible first | refine EvNe.mk ?_ ?_ | refine EvGe.mk ?_ ?_); (first | decide | omega)) | ((with_reducible refine EvLd.q HS (by repeat first | exact .h | apply Spot.t) ?_); (conv => whnf); intro hC) | (with_reducible refine EvLdN.q HS (by repeat first | exact .h | apply Spot.t) (fun hC => ?_)) | ((with_reducible refine EvSt.q HS (by repeat first | exact .h | apply Spot.t) ?_); (conv => whnf); intro hN HS1 hU; replace HS := HS1; clear HS1) | ((with_reducible refine EvKeep.cq (A := keepK _ _ (Hole _) _) HS (by repeat first | exact .h | apply Spot.t) ?_); (conv => whnf); (refine ⟨?_, ?_⟩); assumption; intro hC) | ((with_reducible refine EvKeep.nq (A := keepK _ _ (Hole _) _) HS (by repeat first | exact .h | apply Spot.t) ?_ ?_); assumption; intro hC) | ((fail_if_success with_reducible refine EvKeep.hole ?_); (with_reducible refine EvKeep.abs (fun X kK => ?_)))) <;> conv => whnf)
  · have es : IntKind.i64.wrap (m'.steps + 1) = m'.steps + 1 := i64w _ (by omega) (by omega)
    rw [es] at HS
    have hgo : goes m' = true := by unfold goes; rw [decide_eq_true_eq]; exact ⟨by assumption, by assumption⟩
    have ok1 : Ok { m' with steps := m'.steps + 1 } := { ok' with t0 := by show 0 ≤ m'.steps + 1; omega, t1 := by show m'.steps + 1 ≤ _; omega }
    have hk1 : runN (k - 1).toNat (step1 m') = runN fuel.toNat m := by
      rw [← hr, show k.toNat = (k - 1).toNat + 1 by omega, runN_step hgo]
    have ok2 := ok'.step1 (by omega)
    have ew : IntKind.i64.wrap (k - 1) = k - 1 := i64w _ (by omega) (by omega)
    refine EvCall.mk ((step_c (x := x') (m := { m' with steps := m'.steps + 1 }) hg HS ok1).mono ?_)
    rintro _ hN ⟨x'', rfl, HS1⟩
    replace HS := HS1
    clear HS1
    conv => whnf
    repeat' ((first | (with_reducible first | refine EvSeq.go ?_ | refine EvIf.tt ?_ | refine EvIf.ff ?_) | ((with_reducible refine Hole.mk (kK ?_)); clear kK) | ((with_reducible refine EvIf.mk (fun c => ?_) (fun c => ?_)) <;> (try simp only [cs_] at c) <;> (try (exfalso; first | omega | (revert c; decide)))) | ((with_reducible refine EvNew.sep HS ?_); intro bN hN HS1 hX; replace HS := HS1; clear HS1) | ((with_reducible refine EvIdx.lit ?_ ?_ ?_); (first | omega | decide); (first | omega | decide)) | ((with_reducible first | refine EvNe.mk ?_ ?_ | refine EvGe.mk ?_ ?_); (first | decide | omega)) | ((with_reducible refine EvLd.q HS (by repeat first | exact .h | apply Spot.t) ?_); (conv => whnf); intro hC) | (with_reducible refine EvLdN.q HS (by repeat first | exact .h | apply Spot.t) (fun hC => ?_)) | ((with_reducible refine EvSt.q HS (by repeat first | exact .h | apply Spot.t) ?_); (conv => whnf); intro hN HS1 hU; replace HS := HS1; clear HS1) | ((with_reducible refine EvKeep.cq (A := keepK _ _ (Hole _) _) HS (by repeat first | exact .h | apply Spot.t) ?_); (conv => whnf); (refine ⟨?_, ?_⟩); assumption; intro hC) | ((with_reducible refine EvKeep.nq (A := keepK _ _ (Hole _) _) HS (by repeat first | exact .h | apply Spot.t) ?_ ?_); assumption; intro hC) | ((fail_if_success with_reducible refine EvKeep.hole ?_); (with_reducible refine EvKeep.abs (fun X kK => ?_)))) <;> conv => whnf)
    · have e : step1 m' = { (stp { m' with steps := m'.steps + 1 }).1 with fin := 2, value := (stp { m' with steps := m'.steps + 1 }).2 } := if_pos c
      rw [e] at hk1 ok2
      exact ⟨(x'', _, k - 1), ⟨congrArg (fun z => some (Value.int .i64 z)) ew, (by (repeat' (first | exact trivial | refine ⟨rfl, ?_⟩)))⟩, ⟨HS, ok2, by dsimp only; omega, hk1⟩, by dsimp only; omega⟩
    · have e : step1 m' = (stp { m' with steps := m'.steps + 1 }).1 := if_neg (fun h => h c)
      rw [e] at hk1 ok2
      exact ⟨(x'', _, k - 1), ⟨congrArg (fun z => some (Value.int .i64 z)) ew, (by (repeat' (first | exact trivial | refine ⟨rfl, ?_⟩)))⟩, ⟨HS, ok2, by dsimp only; omega, hk1⟩, by dsimp only; omega⟩
  · have hs : goes m' = false := by unfold goes; rw [decide_eq_false_iff_not]; omega
    rw [runN_stop hs] at hr
    rw [← hr]
    exact ⟨x', HS⟩
  · have hs : goes m' = false := by unfold goes; rw [decide_eq_false_iff_not]; omega
    rw [runN_stop hs] at hr
    rw [← hr]
    exact ⟨x', HS⟩
  · rw [show k.toNat = 0 by omega] at hr
    rw [← hr]
    exact ⟨x', HS⟩
theorem iMok_v {h : Hp} {x : MH} {m : Mac} {t : Bool} (ht : mok m = t) (r : RdM h x m) (b : Small x) : HC Tryd.prog 19 [x.v m] h fun v h' => v = .bool t ∧ Ext h h' := ht ▸ iMok_c r b
theorem runM_yes {m : Mac} (h : mok m = true) (fuel : Int) : runM m fuel = runN fuel.toNat m := if_pos h
theorem runM_no {m : Mac} (h : mok m = false) (fuel : Int) : runM m fuel = m := if_neg (by rw [h]; simp)
set_option maxHeartbeats 8000000 in
theorem iRun_c {h : Hp} {x : MH} {m : Mac} (hg : Glob h) (r : RdM h x m) (b : Small x) (by4 : Byt m.data ∧ Byt m.stack ∧ Byt m.inp ∧ Byt m.out) (fuel : Int) (f0 : -9223372036854775808 ≤ fuel) (f1 : fuel ≤ 9223372036854775807) :
    HC Tryd.prog 15 [x.v m, .int .i64 fuel] h fun v h' => ∃ y : MH, v = y.v (runM m fuel) ∧ Sep h h' (y.own (runM m fuel)) := by
  refine hc_of Tryd.func15 (rfl : Tryd.f15.body = some _) Tryd.ntmps15 Tryd.results15 Tryd.call15 rfl ?_; have HS := Sep.nil h; conv => whnf
  repeat' ((first | (with_reducible first | refine EvSeq.go ?_ | refine EvIf.tt ?_ | refine EvIf.ff ?_) | ((with_reducible refine Hole.mk (kK ?_)); clear kK) | ((with_reducible refine EvIf.mk (fun c => ?_) (fun c => ?_)) <;> (try simp only [cs_] at c) <;> (try (exfalso; first | omega | (revert c; decide)))) | ((with_reducible refine EvNew.sep HS ?_); intro bN hN HS1 hX; replace HS := HS1; clear HS1) | ((with_reducible refine EvIdx.lit ?_ ?_ ?_); (first | omega | decide); (first | omega | decide)) | ((with_reducible first | refine EvNe.mk ?_ ?_ | refine EvGe.mk ?_ ?_); (first | decide | omega)) | ((with_reducible refine EvLd.q HS (by repeat first | exact .h | apply Spot.t) ?_); (conv => whnf); intro hC) | (with_reducible refine EvLdN.q HS (by repeat first | exact .h | apply Spot.t) (fun hC => ?_)) | ((with_reducible refine EvSt.q HS (by repeat first | exact .h | apply Spot.t) ?_); (conv => whnf); intro hN HS1 hU; replace HS := HS1; clear HS1) | ((with_reducible refine EvKeep.cq (A := keepK _ _ (Hole _) _) HS (by repeat first | exact .h | apply Spot.t) ?_); (conv => whnf); (refine ⟨?_, ?_⟩); assumption; intro hC) | ((with_reducible refine EvKeep.nq (A := keepK _ _ (Hole _) _) HS (by repeat first | exact .h | apply Spot.t) ?_ ?_); assumption; intro hC) | ((fail_if_success with_reducible refine EvKeep.hole ?_); (with_reducible refine EvKeep.abs (fun X kK => ?_)))) <;> conv => whnf)
  refine EvCall.mk ((copy_c (r.ext HS.to_ext) b).mono ?_)
  rintro _ hN ⟨y, rfl, HS1⟩
  replace HS := HS.join6 HS1
  clear HS1
  replace HS := Sep.fold (y.own m) HS
  conv => whnf
  repeat' ((first | (with_reducible first | refine EvSeq.go ?_ | refine EvIf.tt ?_ | refine EvIf.ff ?_) | ((with_reducible refine Hole.mk (kK ?_)); clear kK) | ((with_reducible refine EvIf.mk (fun c => ?_) (fun c => ?_)) <;> (try simp only [cs_] at c) <;> (try (exfalso; first | omega | (revert c; decide)))) | ((with_reducible refine EvNew.sep HS ?_); intro bN hN HS1 hX; replace HS := HS1; clear HS1) | ((with_reducible refine EvIdx.lit ?_ ?_ ?_); (first | omega | decide); (first | omega | decide)) | ((with_reducible first | refine EvNe.mk ?_ ?_ | refine EvGe.mk ?_ ?_); (first | decide | omega)) | ((with_reducible refine EvLd.q HS (by repeat first | exact .h | apply Spot.t) ?_); (conv => whnf); intro hC) | (with_reducible refine EvLdN.q HS (by repeat first | exact .h | apply Spot.t) (fun hC => ?_)) | ((with_reducible refine EvSt.q HS (by repeat first | exact .h | apply Spot.t) ?_); (conv => whnf); intro hN HS1 hU; replace HS := HS1; clear HS1) | ((with_reducible refine EvKeep.cq (A := keepK _ _ (Hole _) _) HS (by repeat first | exact .h | apply Spot.t) ?_); (conv => whnf); (refine ⟨?_, ?_⟩); assumption; intro hC) | ((with_reducible refine EvKeep.nq (A := keepK _ _ (Hole _) _) HS (by repeat first | exact .h | apply Spot.t) ?_ ?_); assumption; intro hC) | ((fail_if_success with_reducible refine EvKeep.hole ?_); (with_reducible refine EvKeep.abs (fun X kK => ?_)))) <;> conv => whnf)
  cases ht : mok m with
  | true =>
    have ok := ok_of ht by4.1 by4.2.1 by4.2.2.1 by4.2.2.2
    refine EvCall.mk ((iMok_v ht (r.ext HS.to_ext) b).mono ?_)
    rintro _ hN ⟨rfl, hX⟩
    replace HS := HS.ext hX
    conv => whnf
    repeat' ((first | (with_reducible first | refine EvSeq.go ?_ | refine EvIf.tt ?_ | refine EvIf.ff ?_) | ((with_reducible refine Hole.mk (kK ?_)); clear kK) | ((with_reducible refine EvIf.mk (fun c => ?_) (fun c => ?_)) <;> (try simp only [cs_] at c) <;> (try (exfalso; first | omega | (revert c; decide)))) | ((with_reducible refine EvNew.sep HS ?_); intro bN hN HS1 hX; replace HS := HS1; clear HS1) | ((with_reducible refine EvIdx.lit ?_ ?_ ?_); (first | omega | decide); (first | omega | decide)) | ((with_reducible first | refine EvNe.mk ?_ ?_ | refine EvGe.mk ?_ ?_); (first | decide | omega)) | ((with_reducible refine EvLd.q HS (by repeat first | exact .h | apply Spot.t) ?_); (conv => whnf); intro hC) | (with_reducible refine EvLdN.q HS (by repeat first | exact .h | apply Spot.t) (fun hC => ?_)) | ((with_reducible refine EvSt.q HS (by repeat first | exact .h | apply Spot.t) ?_); (conv => whnf); intro hN HS1 hU; replace HS := HS1; clear HS1) | ((with_reducible refine EvKeep.cq (A := keepK _ _ (Hole _) _) HS (by repeat first | exact .h | apply Spot.t) ?_); (conv => whnf); (refine ⟨?_, ?_⟩); assumption; intro hC) | ((with_reducible refine EvKeep.nq (A := keepK _ _ (Hole _) _) HS (by repeat first | exact .h | apply Spot.t) ?_ ?_); assumption; intro hC) | ((fail_if_success with_reducible refine EvKeep.hole ?_); (with_reducible refine EvKeep.abs (fun X kK => ?_)))) <;> conv => whnf)
    refine EvCall.mk ((run_c (x := y) (m := m) (b := bN) (hg.ext (Ext.refl _)) (((HS.front 1 rfl).unfold).front 6 rfl) ok fuel f0 f1).mono ?_)
    rintro vN hN ⟨z, HS1⟩
    replace HS := HS1
    clear HS1
    dsimp only [List.eraseIdx, MH.own, List.cons_append, List.nil_append] at HS
    conv => whnf
    repeat' ((first | (with_reducible first | refine EvSeq.go ?_ | refine EvIf.tt ?_ | refine EvIf.ff ?_) | ((with_reducible refine Hole.mk (kK ?_)); clear kK) | ((with_reducible refine EvIf.mk (fun c => ?_) (fun c => ?_)) <;> (try simp only [cs_] at c) <;> (try (exfalso; first | omega | (revert c; decide)))) | ((with_reducible refine EvNew.sep HS ?_); intro bN hN HS1 hX; replace HS := HS1; clear HS1) | ((with_reducible refine EvIdx.lit ?_ ?_ ?_); (first | omega | decide); (first | omega | decide)) | ((with_reducible first | refine EvNe.mk ?_ ?_ | refine EvGe.mk ?_ ?_); (first | decide | omega)) | ((with_reducible refine EvLd.q HS (by repeat first | exact .h | apply Spot.t) ?_); (conv => whnf); intro hC) | (with_reducible refine EvLdN.q HS (by repeat first | exact .h | apply Spot.t) (fun hC => ?_)) | ((with_reducible refine EvSt.q HS (by repeat first | exact .h | apply Spot.t) ?_); (conv => whnf); intro hN HS1 hU; replace HS := HS1; clear HS1) | ((with_reducible refine EvKeep.cq (A := keepK _ _ (Hole _) _) HS (by repeat first | exact .h | apply Spot.t) ?_); (conv => whnf); (refine ⟨?_, ?_⟩); assumption; intro hC) | ((with_reducible refine EvKeep.nq (A := keepK _ _ (Hole _) _) HS (by repeat first | exact .h | apply Spot.t) ?_ ?_); assumption; intro hC) | ((fail_if_success with_reducible refine EvKeep.hole ?_); (with_reducible refine EvKeep.abs (fun X kK => ?_)))) <;> conv => whnf)
    rw [runM_yes ht]
    exact ⟨z, rfl, HS.tail.take (z.own (runN fuel.toNat m))⟩
  | false =>
    refine EvCall.mk ((iMok_v ht (r.ext HS.to_ext) b).mono ?_)
    rintro _ hN ⟨rfl, hX⟩
    replace HS := HS.ext hX
    conv => whnf
    repeat' ((first | (with_reducible first | refine EvSeq.go ?_ | refine EvIf.tt ?_ | refine EvIf.ff ?_) | ((with_reducible refine Hole.mk (kK ?_)); clear kK) | ((with_reducible refine EvIf.mk (fun c => ?_) (fun c => ?_)) <;> (try simp only [cs_] at c) <;> (try (exfalso; first | omega | (revert c; decide)))) | ((with_reducible refine EvNew.sep HS ?_); intro bN hN HS1 hX; replace HS := HS1; clear HS1) | ((with_reducible refine EvIdx.lit ?_ ?_ ?_); (first | omega | decide); (first | omega | decide)) | ((with_reducible first | refine EvNe.mk ?_ ?_ | refine EvGe.mk ?_ ?_); (first | decide | omega)) | ((with_reducible refine EvLd.q HS (by repeat first | exact .h | apply Spot.t) ?_); (conv => whnf); intro hC) | (with_reducible refine EvLdN.q HS (by repeat first | exact .h | apply Spot.t) (fun hC => ?_)) | ((with_reducible refine EvSt.q HS (by repeat first | exact .h | apply Spot.t) ?_); (conv => whnf); intro hN HS1 hU; replace HS := HS1; clear HS1) | ((with_reducible refine EvKeep.cq (A := keepK _ _ (Hole _) _) HS (by repeat first | exact .h | apply Spot.t) ?_); (conv => whnf); (refine ⟨?_, ?_⟩); assumption; intro hC) | ((with_reducible refine EvKeep.nq (A := keepK _ _ (Hole _) _) HS (by repeat first | exact .h | apply Spot.t) ?_ ?_); assumption; intro hC) | ((fail_if_success with_reducible refine EvKeep.hole ?_); (with_reducible refine EvKeep.abs (fun X kK => ?_)))) <;> conv => whnf)
    rw [runM_no ht]
    exact ⟨y, rfl, ((HS.front 1 rfl).unfold).take (y.own m)⟩
theorem iStep_c {h : Hp} {x : MH} {m : Mac} (hg : Glob h) (r : RdM h x m) (b : Small x) (by4 : Byt m.data ∧ Byt m.stack ∧ Byt m.inp ∧ Byt m.out) :
    HC Tryd.prog 10 [x.v m] h fun v h' => ∃ y : MH, v = y.v (runM m 1) ∧ Sep h h' (y.own (runM m 1)) := by
  refine hc_of Tryd.func10 (rfl : Tryd.f10.body = some _) Tryd.ntmps10 Tryd.results10 Tryd.call10 rfl ?_; have HS := Sep.nil h; conv => whnf
  repeat' ((first | (with_reducible first | refine EvSeq.go ?_ | refine EvIf.tt ?_ | refine EvIf.ff ?_) | ((with_reducible refine Hole.mk (kK ?_)); clear kK) | ((with_reducible refine EvIf.mk (fun c => ?_) (fun c => ?_)) <;> (try simp only [cs_] at c) <;> (try (exfalso; first | omega | (revert c; decide)))) | ((with_reducible refine EvNew.sep HS ?_); intro bN hN HS1 hX; replace HS := HS1; clear HS1) | ((with_reducible refine EvIdx.lit ?_ ?_ ?_); (first | omega | decide); (first | omega | decide)) | ((with_reducible first | refine EvNe.mk ?_ ?_ | refine EvGe.mk ?_ ?_); (first | decide | omega)) | ((with_reducible refine EvLd.q HS (by repeat first | exact .h | apply Spot.t) ?_); (conv => whnf); intro hC) | (with_reducible refine EvLdN.q HS (by repeat first | exact .h | apply Spot.t) (fun hC => ?_)) | ((with_reducible refine EvSt.q HS (by repeat first | exact .h | apply Spot.t) ?_); (conv => whnf); intro hN HS1 hU; replace HS := HS1; clear HS1) | ((with_reducible refine EvKeep.cq (A := keepK _ _ (Hole _) _) HS (by repeat first | exact .h | apply Spot.t) ?_); (conv => whnf); (refine ⟨?_, ?_⟩); assumption; intro hC) | ((with_reducible refine EvKeep.nq (A := keepK _ _ (Hole _) _) HS (by repeat first | exact .h | apply Spot.t) ?_ ?_); assumption; intro hC) | ((fail_if_success with_reducible refine EvKeep.hole ?_); (with_reducible refine EvKeep.abs (fun X kK => ?_)))) <;> conv => whnf)
  refine EvCall.mk ((iRun_c (hg.ext HS.to_ext) (r.ext HS.to_ext) b by4 1 (by decide) (by decide)).mono ?_)
  rintro _ hN ⟨y, rfl, HS1⟩
  replace HS := HS.join6 HS1
  clear HS1
  conv => whnf
  repeat' ((first | (with_reducible first | refine EvSeq.go ?_ | refine EvIf.tt ?_ | refine EvIf.ff ?_) | ((with_reducible refine Hole.mk (kK ?_)); clear kK) | ((with_reducible refine EvIf.mk (fun c => ?_) (fun c => ?_)) <;> (try simp only [cs_] at c) <;> (try (exfalso; first | omega | (revert c; decide)))) | ((with_reducible refine EvNew.sep HS ?_); intro bN hN HS1 hX; replace HS := HS1; clear HS1) | ((with_reducible refine EvIdx.lit ?_ ?_ ?_); (first | omega | decide); (first | omega | decide)) | ((with_reducible first | refine EvNe.mk ?_ ?_ | refine EvGe.mk ?_ ?_); (first | decide | omega)) | ((with_reducible refine EvLd.q HS (by repeat first | exact .h | apply Spot.t) ?_); (conv => whnf); intro hC) | (with_reducible refine EvLdN.q HS (by repeat first | exact .h | apply Spot.t) (fun hC => ?_)) | ((with_reducible refine EvSt.q HS (by repeat first | exact .h | apply Spot.t) ?_); (conv => whnf); intro hN HS1 hU; replace HS := HS1; clear HS1) | ((with_reducible refine EvKeep.cq (A := keepK _ _ (Hole _) _) HS (by repeat first | exact .h | apply Spot.t) ?_); (conv => whnf); (refine ⟨?_, ?_⟩); assumption; intro hC) | ((with_reducible refine EvKeep.nq (A := keepK _ _ (Hole _) _) HS (by repeat first | exact .h | apply Spot.t) ?_ ?_); assumption; intro hC) | ((fail_if_success with_reducible refine EvKeep.hole ?_); (with_reducible refine EvKeep.abs (fun X kK => ?_)))) <;> conv => whnf)
  exact ⟨y, rfl, HS.take (y.own (runM m 1))⟩
end Go.Proofs.YthndggachjdkfaaDoor
