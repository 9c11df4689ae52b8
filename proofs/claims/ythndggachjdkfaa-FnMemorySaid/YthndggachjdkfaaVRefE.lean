/- Walks: the reference's run of the machine, whole. -/
import Derived.Test.YthndggachjdkfaaVRefD
import Derived.Test.YthndggachjdkfaaVRun
namespace Go.Proofs.Ythndggachjdkfaa
open Go.RowKit
set_option maxRecDepth 20000
set_option linter.unusedSimpArgs false
set_option linter.unusedVariables false
theorem sDec_v (w : Int) (h : Hp) : HC Try.prog 157 [.int .i64 w] h fun v h' => (∃ t, v = .tuple #[(decI w).v, .bool t]) ∧ Ext h h' :=
  (sDec_c w h).mono fun v h' ⟨a, b⟩ => by
    refine ⟨?_, b⟩
    unfold decI
    cases e : ins w with
    | none => exact ⟨false, a.trans (decp_none e)⟩
    | some i => exact ⟨true, a.trans (decp_some e)⟩
theorem insC_snoc (l : List Int) (w : Int) : insC (l ++ [w]) = insC l ++ (decI w).cs := by unfold insC; simp
set_option maxHeartbeats 8000000 in
theorem l3Decoded_c {h : Hp} {A : Option Addr} {n c : Nat} {l : List Int} (r : Rd h A (ints .i64 l)) (hl : l.length = n) (hn : n ≤ 16384) :
    HC Try.prog 141 [.slice A n c] h fun v h' => ∃ A' c', v = .slice A' n c' ∧ Sep h h' [Sz 71 5 A' n c' (insC l)] := by
  refine hc_of Try.func141 (rfl : Try.f141.body = some _) Try.ntmps141 Try.results141 Try.call141 rfl ?_; have HS := Sep.nil h; conv => whnf
  repeat' ((first | (with_reducible first | refine EvSeq.go ?_ | refine EvIf.tt ?_ | refine EvIf.ff ?_) | ((with_reducible refine Hole.mk (kK ?_)); clear kK) | ((with_reducible refine EvIf.mk (fun c => ?_) (fun c => ?_)) <;> (try simp only [cs_] at c) <;> (try (exfalso; first | omega | (revert c; decide)))) | ((with_reducible refine EvNew.sep HS ?_); intro bN hN HS1 hX; replace HS := HS1; clear HS1) | ((with_reducible refine EvIdx.lit ?_ ?_ ?_); (first | omega | decide); (first | omega | decide)) | ((with_reducible first | refine EvNe.mk ?_ ?_ | refine EvGe.mk ?_ ?_); (first | decide | omega)) | ((with_reducible refine EvLd.q HS (by repeat first | exact .h | apply Spot.t) ?_); (conv => whnf); intro hC) | (with_reducible refine EvLdN.q HS (by repeat first | exact .h | apply Spot.t) (fun hC => ?_)) | ((with_reducible refine EvSt.q HS (by repeat first | exact .h | apply Spot.t) ?_); (conv => whnf); intro hN HS1 hU; replace HS := HS1; clear HS1) | ((with_reducible refine EvKeep.cq (A := keepK _ _ (Hole _) _) HS (by repeat first | exact .h | apply Spot.t) ?_); (conv => whnf); (refine ⟨?_, ?_⟩); assumption; intro hC) | ((with_reducible refine EvKeep.nq (A := keepK _ _ (Hole _) _) HS (by repeat first | exact .h | apply Spot.t) ?_ ?_); assumption; intro hC) | ((fail_if_success with_reducible refine EvKeep.hole ?_); (with_reducible refine EvKeep.abs (fun X kK => ?_)))) <;> conv => whnf)
  refine EvLoop.keep ([3, 4, 5, 6, 8, 9, 10, 11, 12, 13, 14, 15, 16, 17, 18, 19, 20, 21, 22, 23, 24, 25], 7) (α := Nat × Option Addr × Nat) (fun p => [(4, .int .i64 p.1), (3, .slice p.2.1 p.1 p.2.2)]) (fun p h' => p.1 ≤ n ∧ Sep h h' [Sz 71 5 p.2.1 p.1 p.2.2 (insC (l.take p.1))]) (fun p => n - p.1) (0, _, 0) (by (repeat' (first | exact trivial | refine ⟨rfl, ?_⟩))) ⟨by omega, ?_⟩ ?_
  · exact (Sep.of_ext HS.to_ext).trivz _ _ _
  rintro ⟨k, B, cc⟩ _ ⟨hk, HS⟩
  dsimp only at hk HS
  conv => whnf
  repeat' ((first | ((refine EvIdx.intj _ rfl (r.ext HS.to_ext) (by simpa using hl) (by omega) (by omega) ?_); intro bI oI eI hI) | ((with_reducible refine EvLd.at_ (by assumption) ?_)) | ((refine EvCall.mk ((sDec_v _ _).mono ?_)); rintro _ hN ⟨⟨tN, rfl⟩, hX⟩; replace HS := HS.ext hX) | ((with_reducible refine And.intro ?_ ?_)) | (with_reducible first | refine EvSeq.go ?_ | refine EvIf.tt ?_ | refine EvIf.ff ?_) | ((with_reducible refine Hole.mk (kK ?_)); clear kK) | ((with_reducible refine EvIf.mk (fun c => ?_) (fun c => ?_)) <;> (try simp only [cs_] at c) <;> (try (exfalso; first | omega | (revert c; decide)))) | ((with_reducible refine EvNew.sep HS ?_); intro bN hN HS1 hX; replace HS := HS1; clear HS1) | ((with_reducible refine EvIdx.lit ?_ ?_ ?_); (first | omega | decide); (first | omega | decide)) | ((with_reducible first | refine EvNe.mk ?_ ?_ | refine EvGe.mk ?_ ?_); (first | decide | omega)) | ((with_reducible refine EvLd.q HS (by repeat first | exact .h | apply Spot.t) ?_); (conv => whnf); intro hC) | (with_reducible refine EvLdN.q HS (by repeat first | exact .h | apply Spot.t) (fun hC => ?_)) | ((with_reducible refine EvSt.q HS (by repeat first | exact .h | apply Spot.t) ?_); (conv => whnf); intro hN HS1 hU; replace HS := HS1; clear HS1) | ((with_reducible refine EvKeep.cq (A := keepK _ _ (Hole _) _) HS (by repeat first | exact .h | apply Spot.t) ?_); (conv => whnf); (refine ⟨?_, ?_⟩); assumption; intro hC) | ((with_reducible refine EvKeep.nq (A := keepK _ _ (Hole _) _) HS (by repeat first | exact .h | apply Spot.t) ?_ ?_); assumption; intro hC) | ((fail_if_success with_reducible refine EvKeep.hole ?_); (with_reducible refine EvKeep.abs (fun X kK => ?_)))) <;> conv => whnf)
  · have hlt : k < l.length := by omega
    have et : insC (l.take (k + 1)) = insC (l.take k) ++ (decI (l.getD ((k : Int)).toNat 0)).cs := by
      rw [List.take_succ_eq_append_getElem hlt, insC_snoc, Int.toNat_natCast, getD_lt hlt]
    refine EvApp.sz (T := 71) (z := 5) (n := k) (base := B) (c := cc) (HS.front 2 rfl) (Rd.of_blk (HS.pt_i 0 rfl)) rfl (by simp [Value.oneCell']) (by omega) (by omega) ?_
    intro A' c' h' HS1
    have HS := HS1.take [Sz 71 5 A' (k + 1) c' _]
    conv => whnf
    repeat' ((first | (with_reducible first | refine EvSeq.go ?_ | refine EvIf.tt ?_ | refine EvIf.ff ?_) | ((with_reducible refine Hole.mk (kK ?_)); clear kK) | ((with_reducible refine EvIf.mk (fun c => ?_) (fun c => ?_)) <;> (try simp only [cs_] at c) <;> (try (exfalso; first | omega | (revert c; decide)))) | ((with_reducible refine EvNew.sep HS ?_); intro bN hN HS1 hX; replace HS := HS1; clear HS1) | ((with_reducible refine EvIdx.lit ?_ ?_ ?_); (first | omega | decide); (first | omega | decide)) | ((with_reducible first | refine EvNe.mk ?_ ?_ | refine EvGe.mk ?_ ?_); (first | decide | omega)) | ((with_reducible refine EvLd.q HS (by repeat first | exact .h | apply Spot.t) ?_); (conv => whnf); intro hC) | (with_reducible refine EvLdN.q HS (by repeat first | exact .h | apply Spot.t) (fun hC => ?_)) | ((with_reducible refine EvSt.q HS (by repeat first | exact .h | apply Spot.t) ?_); (conv => whnf); intro hN HS1 hU; replace HS := HS1; clear HS1) | ((with_reducible refine EvKeep.cq (A := keepK _ _ (Hole _) _) HS (by repeat first | exact .h | apply Spot.t) ?_); (conv => whnf); (refine ⟨?_, ?_⟩); assumption; intro hC) | ((with_reducible refine EvKeep.nq (A := keepK _ _ (Hole _) _) HS (by repeat first | exact .h | apply Spot.t) ?_ ?_); assumption; intro hC) | ((fail_if_success with_reducible refine EvKeep.hole ?_); (with_reducible refine EvKeep.abs (fun X kK => ?_)))) <;> conv => whnf)
    refine ⟨(k + 1, A', c'), ⟨congrArg (fun z => some (Value.int .i64 z)) ((i64w _ (by dsimp only; omega) (by dsimp only; omega)).trans (by dsimp only; omega)), rfl, (by (repeat' (first | exact trivial | refine ⟨rfl, ?_⟩)))⟩, ⟨by dsimp only; omega, ?_⟩, by dsimp only; omega⟩
    dsimp only
    rw [et]
    exact HS
  · obtain rfl : k = n := by omega
    rw [List.take_of_length_le (by omega)] at HS
    exact ⟨B, cc, rfl, HS⟩
theorem l3Goes_c {h : Hp} {x : MH} {m : Mac} (r : RdM h x m) (b : Small x) : HC Try.prog 140 [x.v m] h fun v h' => v = .bool (mok m && goes m) ∧ Ext h h' := by
  refine hc_of Try.func140 (rfl : Try.f140.body = some _) Try.ntmps140 Try.results140 Try.call140 rfl ?_; have HS := Sep.nil h; conv => whnf
  repeat' ((first | ((with_reducible refine EvCall.mk (HC.mono (sMok_c (r.ext HS.to_ext) b) ?_)); (rintro _ hN ⟨rfl, hX⟩); replace HS := HS.ext hX) | (with_reducible first | refine EvSeq.go ?_ | refine EvIf.tt ?_ | refine EvIf.ff ?_) | ((with_reducible refine Hole.mk (kK ?_)); clear kK) | ((with_reducible refine EvIf.mk (fun c => ?_) (fun c => ?_)) <;> (try simp only [cs_] at c) <;> (try (exfalso; first | omega | (revert c; decide)))) | ((with_reducible refine EvNew.sep HS ?_); intro bN hN HS1 hX; replace HS := HS1; clear HS1) | ((with_reducible refine EvIdx.lit ?_ ?_ ?_); (first | omega | decide); (first | omega | decide)) | ((with_reducible first | refine EvNe.mk ?_ ?_ | refine EvGe.mk ?_ ?_); (first | decide | omega)) | ((with_reducible refine EvLd.q HS (by repeat first | exact .h | apply Spot.t) ?_); (conv => whnf); intro hC) | (with_reducible refine EvLdN.q HS (by repeat first | exact .h | apply Spot.t) (fun hC => ?_)) | ((with_reducible refine EvSt.q HS (by repeat first | exact .h | apply Spot.t) ?_); (conv => whnf); intro hN HS1 hU; replace HS := HS1; clear HS1) | ((with_reducible refine EvKeep.cq (A := keepK _ _ (Hole _) _) HS (by repeat first | exact .h | apply Spot.t) ?_); (conv => whnf); (refine ⟨?_, ?_⟩); assumption; intro hC) | ((with_reducible refine EvKeep.nq (A := keepK _ _ (Hole _) _) HS (by repeat first | exact .h | apply Spot.t) ?_ ?_); assumption; intro hC) | ((fail_if_success with_reducible refine EvKeep.hole ?_); (with_reducible refine EvKeep.abs (fun X kK => ?_)))) <;> conv => whnf)
  all_goals
    refine ⟨congrArg Value.bool ?_, HS.to_ext⟩
    unfold goes
    clear HS
    grind
theorem l3Goes_v {h : Hp} {x : MH} {m : Mac} {t : Bool} (ht : (mok m && goes m) = t) (r : RdM h x m) (b : Small x) : HC Try.prog 140 [x.v m] h fun v h' => v = .bool t ∧ Ext h h' := ht ▸ l3Goes_c r b
theorem runN_small {x : MH} {h : Hp} {m : Mac} (ok : Ok m) (k : Nat) (q : RdM h x (runN k m)) : Small x := by
  have o := ok.runN k
  have c1 := o.c1
  have d1 := o.d1
  have s1 := o.s1
  have i1 := o.i1
  have o1 := o.o1
  have r0 := o.r0
  exact ⟨by rw [← q.cl]; omega, by rw [← q.rl]; omega, by rw [← q.dl]; omega, by rw [← q.sl]; omega, by rw [← q.il]; omega, by rw [← q.ol]; omega⟩
theorem runM_stop {m : Mac} {fuel : Int} (h : fuel < 1 ∨ (mok m && goes m) = false) : runM m fuel = m := by
  rcases h with h | h
  · unfold runM
    split
    · rw [show fuel.toNat = 0 by omega]
      rfl
    · rfl
  · cases hm : mok m with
    | false => exact runM_no hm fuel
    | true =>
      rw [hm] at h
      rw [runM_yes hm]
      exact runN_stop (by simpa using h)
set_option maxHeartbeats 8000000 in
theorem sRun_c {h : Hp} {x : MH} {m : Mac} (r : RdM h x m) (b : Small x) (by4 : Byt m.data ∧ Byt m.stack ∧ Byt m.inp ∧ Byt m.out) (fuel : Int) (f0 : -9223372036854775808 ≤ fuel) (f1 : fuel ≤ 9223372036854775807) :
    HC Try.prog 117 [x.v m, .int .i64 fuel] h fun v h' => ∃ y : MH, v = y.v (runM m fuel) ∧ Sep h h' (y.own (runM m fuel)) := by
  refine hc_of Try.func117 (rfl : Try.f117.body = some _) Try.ntmps117 Try.results117 Try.call117 rfl ?_; have HS := Sep.nil h; conv => whnf
  repeat' ((first | (with_reducible first | refine EvSeq.go ?_ | refine EvIf.tt ?_ | refine EvIf.ff ?_) | ((with_reducible refine Hole.mk (kK ?_)); clear kK) | ((with_reducible refine EvIf.mk (fun c => ?_) (fun c => ?_)) <;> (try simp only [cs_] at c) <;> (try (exfalso; first | omega | (revert c; decide)))) | ((with_reducible refine EvNew.sep HS ?_); intro bN hN HS1 hX; replace HS := HS1; clear HS1) | ((with_reducible refine EvIdx.lit ?_ ?_ ?_); (first | omega | decide); (first | omega | decide)) | ((with_reducible first | refine EvNe.mk ?_ ?_ | refine EvGe.mk ?_ ?_); (first | decide | omega)) | ((with_reducible refine EvLd.q HS (by repeat first | exact .h | apply Spot.t) ?_); (conv => whnf); intro hC) | (with_reducible refine EvLdN.q HS (by repeat first | exact .h | apply Spot.t) (fun hC => ?_)) | ((with_reducible refine EvSt.q HS (by repeat first | exact .h | apply Spot.t) ?_); (conv => whnf); intro hN HS1 hU; replace HS := HS1; clear HS1) | ((with_reducible refine EvKeep.cq (A := keepK _ _ (Hole _) _) HS (by repeat first | exact .h | apply Spot.t) ?_); (conv => whnf); (refine ⟨?_, ?_⟩); assumption; intro hC) | ((with_reducible refine EvKeep.nq (A := keepK _ _ (Hole _) _) HS (by repeat first | exact .h | apply Spot.t) ?_ ?_); assumption; intro hC) | ((fail_if_success with_reducible refine EvKeep.hole ?_); (with_reducible refine EvKeep.abs (fun X kK => ?_)))) <;> conv => whnf)
  rename_i b2 g2 e2
  rename Nat => b4
  refine EvCall.mk ((l3Copy_c (r.ext HS.to_ext) b).mono ?_)
  rintro _ hN ⟨y, rfl, HS1⟩
  replace HS := HS.join6 HS1
  clear HS1
  replace HS := Sep.fold (y.own m) HS
  conv => whnf
  repeat' ((first | (with_reducible first | refine EvSeq.go ?_ | refine EvIf.tt ?_ | refine EvIf.ff ?_) | ((with_reducible refine Hole.mk (kK ?_)); clear kK) | ((with_reducible refine EvIf.mk (fun c => ?_) (fun c => ?_)) <;> (try simp only [cs_] at c) <;> (try (exfalso; first | omega | (revert c; decide)))) | ((with_reducible refine EvNew.sep HS ?_); intro bN hN HS1 hX; replace HS := HS1; clear HS1) | ((with_reducible refine EvIdx.lit ?_ ?_ ?_); (first | omega | decide); (first | omega | decide)) | ((with_reducible first | refine EvNe.mk ?_ ?_ | refine EvGe.mk ?_ ?_); (first | decide | omega)) | ((with_reducible refine EvLd.q HS (by repeat first | exact .h | apply Spot.t) ?_); (conv => whnf); intro hC) | (with_reducible refine EvLdN.q HS (by repeat first | exact .h | apply Spot.t) (fun hC => ?_)) | ((with_reducible refine EvSt.q HS (by repeat first | exact .h | apply Spot.t) ?_); (conv => whnf); intro hN HS1 hU; replace HS := HS1; clear HS1) | ((with_reducible refine EvKeep.cq (A := keepK _ _ (Hole _) _) HS (by repeat first | exact .h | apply Spot.t) ?_); (conv => whnf); (refine ⟨?_, ?_⟩); assumption; intro hC) | ((with_reducible refine EvKeep.nq (A := keepK _ _ (Hole _) _) HS (by repeat first | exact .h | apply Spot.t) ?_ ?_); assumption; intro hC) | ((fail_if_success with_reducible refine EvKeep.hole ?_); (with_reducible refine EvKeep.abs (fun X kK => ?_)))) <;> conv => whnf)
  · rw [runM_stop (.inl (by omega))]
    exact ⟨y, rfl, ((HS.front 1 rfl).unfold).take (y.own m)⟩
  cases ht : (mok m && goes m) with
  | false =>
    refine EvCall.mk ((l3Goes_v ht (r.ext HS.to_ext) b).mono ?_)
    rintro _ hN ⟨rfl, hX⟩
    replace HS := HS.ext hX
    conv => whnf
    repeat' ((first | (with_reducible first | refine EvSeq.go ?_ | refine EvIf.tt ?_ | refine EvIf.ff ?_) | ((with_reducible refine Hole.mk (kK ?_)); clear kK) | ((with_reducible refine EvIf.mk (fun c => ?_) (fun c => ?_)) <;> (try simp only [cs_] at c) <;> (try (exfalso; first | omega | (revert c; decide)))) | ((with_reducible refine EvNew.sep HS ?_); intro bN hN HS1 hX; replace HS := HS1; clear HS1) | ((with_reducible refine EvIdx.lit ?_ ?_ ?_); (first | omega | decide); (first | omega | decide)) | ((with_reducible first | refine EvNe.mk ?_ ?_ | refine EvGe.mk ?_ ?_); (first | decide | omega)) | ((with_reducible refine EvLd.q HS (by repeat first | exact .h | apply Spot.t) ?_); (conv => whnf); intro hC) | (with_reducible refine EvLdN.q HS (by repeat first | exact .h | apply Spot.t) (fun hC => ?_)) | ((with_reducible refine EvSt.q HS (by repeat first | exact .h | apply Spot.t) ?_); (conv => whnf); intro hN HS1 hU; replace HS := HS1; clear HS1) | ((with_reducible refine EvKeep.cq (A := keepK _ _ (Hole _) _) HS (by repeat first | exact .h | apply Spot.t) ?_); (conv => whnf); (refine ⟨?_, ?_⟩); assumption; intro hC) | ((with_reducible refine EvKeep.nq (A := keepK _ _ (Hole _) _) HS (by repeat first | exact .h | apply Spot.t) ?_ ?_); assumption; intro hC) | ((fail_if_success with_reducible refine EvKeep.hole ?_); (with_reducible refine EvKeep.abs (fun X kK => ?_)))) <;> conv => whnf)
    rw [runM_stop (.inr ht)]
    exact ⟨y, rfl, ((HS.front 1 rfl).unfold).take (y.own m)⟩
  | true =>
    have ht' := ht
    rw [Bool.and_eq_true] at ht'
    have ok := ok_of ht'.1 by4.1 by4.2.1 by4.2.2.1 by4.2.2.2
    refine EvCall.mk ((l3Goes_v ht (r.ext HS.to_ext) b).mono ?_)
    rintro _ hN ⟨rfl, hX⟩
    replace HS := HS.ext hX
    conv => whnf
    repeat' ((first | (with_reducible first | refine EvSeq.go ?_ | refine EvIf.tt ?_ | refine EvIf.ff ?_) | ((with_reducible refine Hole.mk (kK ?_)); clear kK) | ((with_reducible refine EvIf.mk (fun c => ?_) (fun c => ?_)) <;> (try simp only [cs_] at c) <;> (try (exfalso; first | omega | (revert c; decide)))) | ((with_reducible refine EvNew.sep HS ?_); intro bN hN HS1 hX; replace HS := HS1; clear HS1) | ((with_reducible refine EvIdx.lit ?_ ?_ ?_); (first | omega | decide); (first | omega | decide)) | ((with_reducible first | refine EvNe.mk ?_ ?_ | refine EvGe.mk ?_ ?_); (first | decide | omega)) | ((with_reducible refine EvLd.q HS (by repeat first | exact .h | apply Spot.t) ?_); (conv => whnf); intro hC) | (with_reducible refine EvLdN.q HS (by repeat first | exact .h | apply Spot.t) (fun hC => ?_)) | ((with_reducible refine EvSt.q HS (by repeat first | exact .h | apply Spot.t) ?_); (conv => whnf); intro hN HS1 hU; replace HS := HS1; clear HS1) | ((with_reducible refine EvKeep.cq (A := keepK _ _ (Hole _) _) HS (by repeat first | exact .h | apply Spot.t) ?_); (conv => whnf); (refine ⟨?_, ?_⟩); assumption; intro hC) | ((with_reducible refine EvKeep.nq (A := keepK _ _ (Hole _) _) HS (by repeat first | exact .h | apply Spot.t) ?_ ?_); assumption; intro hC) | ((fail_if_success with_reducible refine EvKeep.hole ?_); (with_reducible refine EvKeep.abs (fun X kK => ?_)))) <;> conv => whnf)
    refine EvCall.mk ((l3Decoded_c (r.c.ext HS.to_ext) r.cl (by rw [← r.cl]; exact ok.c1)).mono ?_)
    rintro _ hN ⟨A', c', rfl, HS1⟩
    replace HS := HS.join HS1
    clear HS1
    dsimp only [List.cons_append, List.nil_append] at HS
    conv => whnf
    repeat' ((first | (with_reducible first | refine EvSeq.go ?_ | refine EvIf.tt ?_ | refine EvIf.ff ?_) | ((with_reducible refine Hole.mk (kK ?_)); clear kK) | ((with_reducible refine EvIf.mk (fun c => ?_) (fun c => ?_)) <;> (try simp only [cs_] at c) <;> (try (exfalso; first | omega | (revert c; decide)))) | ((with_reducible refine EvNew.sep HS ?_); intro bN hN HS1 hX; replace HS := HS1; clear HS1) | ((with_reducible refine EvIdx.lit ?_ ?_ ?_); (first | omega | decide); (first | omega | decide)) | ((with_reducible first | refine EvNe.mk ?_ ?_ | refine EvGe.mk ?_ ?_); (first | decide | omega)) | ((with_reducible refine EvLd.q HS (by repeat first | exact .h | apply Spot.t) ?_); (conv => whnf); intro hC) | (with_reducible refine EvLdN.q HS (by repeat first | exact .h | apply Spot.t) (fun hC => ?_)) | ((with_reducible refine EvSt.q HS (by repeat first | exact .h | apply Spot.t) ?_); (conv => whnf); intro hN HS1 hU; replace HS := HS1; clear HS1) | ((with_reducible refine EvKeep.cq (A := keepK _ _ (Hole _) _) HS (by repeat first | exact .h | apply Spot.t) ?_); (conv => whnf); (refine ⟨?_, ?_⟩); assumption; intro hC) | ((with_reducible refine EvKeep.nq (A := keepK _ _ (Hole _) _) HS (by repeat first | exact .h | apply Spot.t) ?_ ?_); assumption; intro hC) | ((fail_if_success with_reducible refine EvKeep.hole ?_); (with_reducible refine EvKeep.abs (fun X kK => ?_)))) <;> conv => whnf)
    have HS0 := ((HS.front 2 rfl).unfold).front 7 rfl
    refine EvLoop.keep ([7, 21, 22, 23, 24, 25, 26, 27, 28, 29, 30, 31, 32, 33, 34, 35, 36, 37], 8) (α := MH × Mac × Nat) (fun p => [(7, .int .i64 p.2.2)])
      (fun p h' => Sep h h' (Bx bN (p.1.cs p.2.1) 36 :: (p.1.own p.2.1 ++ (Sz 71 5 A' x.c.n c' (insC m.code) :: [Bx b4 [.slice none 0 0, .int .i64 0, .slice none 0 0, .slice none 0 0, .slice none 0 0, .slice none 0 0, .slice none 0 0, .int .i64 0, .int .i64 0, .int .i64 0] 36, Bx b2 (x.cs m) 36]))) ∧ Ok p.2.1 ∧ p.2.1.code = m.code ∧ (p.2.2 : Int) ≤ fuel ∧ runN (fuel.toNat - p.2.2) p.2.1 = runN fuel.toNat m)
      (fun p => fuel.toNat - p.2.2) (y, m, 0) (by (repeat' (first | exact trivial | refine ⟨rfl, ?_⟩))) ⟨HS0, ok, rfl, by dsimp only; omega, rfl⟩ ?_
    clear HS HS0
    rintro ⟨x', m', k⟩ _ ⟨HS, ok', hcode, hk, hr⟩
    dsimp only at HS ok' hcode hk hr
    have hfin : ∀ {h' : Hp} {z : MH} {M : Mac}, M = runN fuel.toNat m → RdM h' z M → Small z := fun e q => runN_small ok fuel.toNat (e ▸ q)
    have hstop : goes m' = false → m' = runN fuel.toNat m := fun e => by rw [← hr, runN_stop e]
    conv => whnf
    repeat' ((first | (with_reducible first | refine EvSeq.go ?_ | refine EvIf.tt ?_ | refine EvIf.ff ?_) | ((with_reducible refine Hole.mk (kK ?_)); clear kK) | ((with_reducible refine EvIf.mk (fun c => ?_) (fun c => ?_)) <;> (try simp only [cs_] at c) <;> (try (exfalso; first | omega | (revert c; decide)))) | ((with_reducible refine EvNew.sep HS ?_); intro bN hN HS1 hX; replace HS := HS1; clear HS1) | ((with_reducible refine EvIdx.lit ?_ ?_ ?_); (first | omega | decide); (first | omega | decide)) | ((with_reducible first | refine EvNe.mk ?_ ?_ | refine EvGe.mk ?_ ?_); (first | decide | omega)) | ((with_reducible refine EvLd.q HS (by repeat first | exact .h | apply Spot.t) ?_); (conv => whnf); intro hC) | (with_reducible refine EvLdN.q HS (by repeat first | exact .h | apply Spot.t) (fun hC => ?_)) | ((with_reducible refine EvSt.q HS (by repeat first | exact .h | apply Spot.t) ?_); (conv => whnf); intro hN HS1 hU; replace HS := HS1; clear HS1) | ((with_reducible refine EvKeep.cq (A := keepK _ _ (Hole _) _) HS (by repeat first | exact .h | apply Spot.t) ?_); (conv => whnf); (refine ⟨?_, ?_⟩); assumption; intro hC) | ((with_reducible refine EvKeep.nq (A := keepK _ _ (Hole _) _) HS (by repeat first | exact .h | apply Spot.t) ?_ ?_); assumption; intro hC) | ((fail_if_success with_reducible refine EvKeep.hole ?_); (with_reducible refine EvKeep.abs (fun X kK => ?_)))) <;> conv => whnf)
    · have hgo : goes m' = true := by unfold goes; rw [decide_eq_true_eq]; exact ⟨by assumption, by assumption⟩
      have ok2 := ok'.step1 (by omega)
      have hr2 : runN (fuel.toNat - (k + 1)) (step1 m') = runN fuel.toNat m := by
        rw [← hr, show fuel.toNat - k = (fuel.toNat - (k + 1)) + 1 by omega, runN_step hgo]
      have hc2 := (step1_code m').trans hcode
      refine EvCall.mk ((l3Step_c HS hcode ok' hgo).mono ?_)
      rintro vN hN ⟨x'', HS1⟩
      replace HS := HS1
      clear HS1
      conv => whnf
      repeat' ((first | (with_reducible first | refine EvSeq.go ?_ | refine EvIf.tt ?_ | refine EvIf.ff ?_) | ((with_reducible refine Hole.mk (kK ?_)); clear kK) | ((with_reducible refine EvIf.mk (fun c => ?_) (fun c => ?_)) <;> (try simp only [cs_] at c) <;> (try (exfalso; first | omega | (revert c; decide)))) | ((with_reducible refine EvNew.sep HS ?_); intro bN hN HS1 hX; replace HS := HS1; clear HS1) | ((with_reducible refine EvIdx.lit ?_ ?_ ?_); (first | omega | decide); (first | omega | decide)) | ((with_reducible first | refine EvNe.mk ?_ ?_ | refine EvGe.mk ?_ ?_); (first | decide | omega)) | ((with_reducible refine EvLd.q HS (by repeat first | exact .h | apply Spot.t) ?_); (conv => whnf); intro hC) | (with_reducible refine EvLdN.q HS (by repeat first | exact .h | apply Spot.t) (fun hC => ?_)) | ((with_reducible refine EvSt.q HS (by repeat first | exact .h | apply Spot.t) ?_); (conv => whnf); intro hN HS1 hU; replace HS := HS1; clear HS1) | ((with_reducible refine EvKeep.cq (A := keepK _ _ (Hole _) _) HS (by repeat first | exact .h | apply Spot.t) ?_); (conv => whnf); (refine ⟨?_, ?_⟩); assumption; intro hC) | ((with_reducible refine EvKeep.nq (A := keepK _ _ (Hole _) _) HS (by repeat first | exact .h | apply Spot.t) ?_ ?_); assumption; intro hC) | ((fail_if_success with_reducible refine EvKeep.hole ?_); (with_reducible refine EvKeep.abs (fun X kK => ?_)))) <;> conv => whnf)
      exact ⟨(x'', step1 m', k + 1), ⟨congrArg (fun z => some (Value.int .i64 z)) ((i64w _ (by dsimp only; omega) (by dsimp only; omega)).trans (by dsimp only; omega)), (by (repeat' (first | exact trivial | refine ⟨rfl, ?_⟩)))⟩, ⟨HS, ok2, hc2, by dsimp only; omega, hr2⟩, by dsimp only; omega⟩
    all_goals
      have hm : m' = runN fuel.toNat m := by
        first
        | exact hstop (by unfold goes; rw [decide_eq_false_iff_not]; omega)
        | (rw [← hr, show fuel.toNat - k = 0 by omega]; rfl)
      have r' := HS.tail.rdm
      refine EvCall.mk ((l3Copy_c r' (hfin hm r')).mono ?_)
      rintro _ hN ⟨z, rfl, HS1⟩
      replace HS := Sep.fold (z.own m') (HS.join6 HS1)
      clear HS1
      dsimp only [MH.own, List.cons_append, List.nil_append] at HS
      conv => whnf
      repeat' ((first | (with_reducible first | refine EvSeq.go ?_ | refine EvIf.tt ?_ | refine EvIf.ff ?_) | ((with_reducible refine Hole.mk (kK ?_)); clear kK) | ((with_reducible refine EvIf.mk (fun c => ?_) (fun c => ?_)) <;> (try simp only [cs_] at c) <;> (try (exfalso; first | omega | (revert c; decide)))) | ((with_reducible refine EvNew.sep HS ?_); intro bN hN HS1 hX; replace HS := HS1; clear HS1) | ((with_reducible refine EvIdx.lit ?_ ?_ ?_); (first | omega | decide); (first | omega | decide)) | ((with_reducible first | refine EvNe.mk ?_ ?_ | refine EvGe.mk ?_ ?_); (first | decide | omega)) | ((with_reducible refine EvLd.q HS (by repeat first | exact .h | apply Spot.t) ?_); (conv => whnf); intro hC) | (with_reducible refine EvLdN.q HS (by repeat first | exact .h | apply Spot.t) (fun hC => ?_)) | ((with_reducible refine EvSt.q HS (by repeat first | exact .h | apply Spot.t) ?_); (conv => whnf); intro hN HS1 hU; replace HS := HS1; clear HS1) | ((with_reducible refine EvKeep.cq (A := keepK _ _ (Hole _) _) HS (by repeat first | exact .h | apply Spot.t) ?_); (conv => whnf); (refine ⟨?_, ?_⟩); assumption; intro hC) | ((with_reducible refine EvKeep.nq (A := keepK _ _ (Hole _) _) HS (by repeat first | exact .h | apply Spot.t) ?_ ?_); assumption; intro hC) | ((fail_if_success with_reducible refine EvKeep.hole ?_); (with_reducible refine EvKeep.abs (fun X kK => ?_)))) <;> conv => whnf)
      rw [runM_yes ht'.1, ← hm]
      exact ⟨z, rfl, (HS.take [_]).unfold⟩
end Go.Proofs.Ythndggachjdkfaa
