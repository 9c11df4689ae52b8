/- Walks: the reference's step. -/
import Derived.Test.YthndggachjdkfaaVRefB
import Derived.Test.YthndggachjdkfaaVStepB
namespace Go.Proofs.Ythndggachjdkfaa
open Go.RowKit
set_option maxRecDepth 20000
set_option linter.unusedSimpArgs false
set_option linter.unusedVariables false
theorem EvKeep.extc {h h' : Hp} {b o : Nat} {A : Prop} {v : Value} (x : Ext h h') (e : hcell h b o = some v) (k : hcell h' b o = some v → A) : EvKeep h h' b o 1 A := EvKeep.one e (x.cell e) (k (x.cell e))
theorem l3Flow_no {h0 h : Hp} {L : List Asn} {x : MH} {m : Mac} {b : Nat} (HS : Sep h0 h (Bx b (x.cs m) 36 :: (x.own m ++ L))) (ok : Ok m) {i : Ins} (hi : iok i.op i.d i.s i.t i.n = true) (hf : flowB i.op = false) :
    HC Try.prog 163 [.pointer (some ⟨b, 0, none⟩), i.v] h fun v h' => v = .tuple #[.int .i64 ((m.pc + 4) % 4294967296), .bool false] ∧ Sep h0 h' (Bx b (x.cs m) 36 :: (x.own m ++ L)) := by
  have hm : flowM m i = m := by
    unfold flowB at hf
    rw [decide_eq_false_iff_not] at hf
    exact if_neg (by omega)
  have := l3Flow_c HS ok hi
  rw [hf, hm] at this
  exact this
theorem l3Flow_yes {h0 h : Hp} {L : List Asn} {x : MH} {m : Mac} {b : Nat} (HS : Sep h0 h (Bx b (x.cs m) 36 :: (x.own m ++ L))) (ok : Ok m) {i : Ins} (hi : iok i.op i.d i.s i.t i.n = true) (hf : flowB i.op = true) :
    HC Try.prog 163 [.pointer (some ⟨b, 0, none⟩), i.v] h fun v h' => v = .tuple #[.int .i64 (flowP m i % 4294967296), .bool true] ∧ Sep h0 h' (Bx b (x.cs m) 36 :: (x.own (flowM m i) ++ L)) := by
  have := l3Flow_c HS ok hi
  rw [hf] at this
  exact this
theorem doI_flow (m : Mac) (i : Ins) (h1 : 1 ≤ i.op) (hf : flowB i.op = true) : doI m i = (nx (flowM m i) (flowP m i), 0) := by
  unfold flowB at hf
  rw [decide_eq_true_eq] at hf
  rcases hf with h | h | h
  · have e1 : flowM m i = setR m i.d (m.pc + 4) := if_pos (.inl h)
    have e2 : flowP m i = getR m i.s + i.n - (getR m i.s + i.n) % 2 := by unfold flowP; rw [if_pos (by omega), if_pos h]
    rw [e1, e2]
    unfold doI
    rw [if_neg (by omega), if_neg (by omega), if_neg (by omega), if_pos h]
  · have e1 : flowM m i = setR m i.d (m.pc + 4) := if_pos (.inr h)
    have e2 : flowP m i = m.pc + i.n := by unfold flowP; rw [if_neg (by omega)]
    rw [e1, e2]
    unfold doI
    rw [if_neg (by omega), if_neg (by omega), if_neg (by omega), if_neg (by omega), if_neg (by omega), if_neg (by omega), if_neg (by omega), if_neg (by omega), if_pos h]
  · have e1 : flowM m i = m := if_neg (by omega)
    have e2 : flowP m i = if taken i.op (getR m i.s) (getR m i.t) then m.pc + i.n else m.pc + 4 := by unfold flowP; rw [if_pos (by omega), if_neg (by omega)]
    rw [e1, e2]
    unfold doI
    rw [if_neg (by omega), if_neg (by omega), if_neg (by omega), if_neg (by omega), if_neg (by omega), if_pos (by omega)]
theorem flowM_form (m : Mac) (i : Ins) : ∃ r, flowM m i = { m with regs := r } := by
  unfold flowM
  split
  · exact ⟨_, rfl⟩
  · exact ⟨m.regs, rfl⟩
set_option maxHeartbeats 8000000 in
theorem l3Do_flow {h0 h : Hp} {L : List Asn} {x : MH} {m : Mac} {b : Nat} (HS : Sep h0 h (Bx b (x.cs m) 36 :: (x.own m ++ L))) (ok : Ok m) (hfin : m.fin = 0) {i : Ins} (hi : iok i.op i.d i.s i.t i.n = true) (hop : flowB i.op = true) :
    HC Try.prog 158 [.pointer (some ⟨b, 0, none⟩), i.v] h fun v h' => ∃ x' : MH, v = .int .i64 (doI m i).2 ∧ Sep h0 h' (Bx b (x'.cs (doI m i).1) 36 :: (x'.own (doI m i).1 ++ L)) := by
  have r := HS.tail.rdm
  have hrl := r.rl
  have r0 := ok.r0
  have p0 := ok.p0
  have p1 := ok.p1
  have hd : x.d.n ≤ 65536 := by rw [← r.dl]; exact ok.d1
  have hs : x.s.n ≤ 65536 := by rw [← r.sl]; exact ok.s1
  have bd := ok.db
  have bs := ok.sb
  have iok := iok_d hi
  have hx := ok.reg i.s
  have hy := ok.reg i.t
  unfold getR at hx hy
  have e4 : IntKind.i64.wrap (m.pc + 4) = m.pc + 4 := i64w _ (by omega) (by omega)
  have ea : IntKind.i64.wrap (m.regs.getD i.s.toNat 0 + i.n) = m.regs.getD i.s.toNat 0 + i.n := i64w _ (by omega) (by omega)
  have em : IntKind.i64.wrap (i.n * 4096) = i.n * 4096 := i64w _ (by omega) (by omega)
  have ep : IntKind.i64.wrap (m.pc + i.n * 4096) = m.pc + i.n * 4096 := i64w _ (by omega) (by omega)
  have hf : flowB i.op = true := hop
  refine hc_of Try.func158 (rfl : Try.f158.body = some _) Try.ntmps158 Try.results158 Try.call158 rfl ?_; conv => whnf
  repeat' ((first | ((with_reducible refine EvDraw.ord (id := 6) (.go 0 (.go 1 (.go 2 (.go 3 (.go 4 (.go 5 (.go 6 (.go 7 (.go 8 (.go 9 (.go 10 (.go 11 (.go 12 (.go 13 (.go 14 (.go 15 (.go 16 (.go 17 (.alt 18 (.go 19 (.go 20 (.go 21 (.go 22 (.go 23 .done))))) .stop))))))))))))))))))) fol ?_ ?_ ?_); kernel_rfl; kernel_rfl) | ((with_reducible refine EvDraw.ord (id := 10) (.go 0 (.go 1 (.go 2 (.go 3 (.go 4 (.go 5 (.go 6 (.go 7 (.go 8 (.go 9 (.go 10 (.alt 11 (.go 12 (.go 13 (.go 14 (.go 15 (.go 16 .done))))) .stop)))))))))))) fol ?_ ?_ ?_); kernel_rfl; kernel_rfl) | ((with_reducible refine EvDraw.ord (id := 13) (.go 0 (.go 1 (.go 2 (.go 4 (.go 5 (.go 6 (.go 7 (.go 8 (.go 9 (.go 10 (.go 11 (.go 12 (.go 13 (.go 14 (.alt 3 (.alt 15 (.alt 16 (.go 17 (.go 18 (.go 19 (.go 20 (.go 21 .done))))) .stop) .stop) .stop))))))))))))))) fol ?_ ?_ ?_); kernel_rfl; kernel_rfl) | ((with_reducible refine EvDraw.ord (id := 18) (.go 0 (.go 1 (.go 2 (.go 4 (.go 5 (.go 6 (.go 7 (.go 8 (.go 9 (.go 10 (.go 11 (.go 12 (.go 13 (.go 14 (.go 16 (.go 17 (.go 18 (.go 19 (.go 20 (.go 21 (.go 22 (.go 23 (.alt 3 (.alt 15 (.alt 24 (.go 25 .done) .stop) .stop) .stop))))))))))))))))))))))) fol ?_ ?_ ?_); kernel_rfl; kernel_rfl) | ((with_reducible refine EvDraw.ord (id := 24) (.go 0 (.go 1 (.go 2 (.go 3 (.go 4 (.go 5 (.go 6 (.go 7 (.go 8 (.go 9 (.go 10 (.alt 11 .done .stop)))))))))))) fol ?_ ?_ ?_); kernel_rfl; kernel_rfl) | ((refine EvCall.mk ((l3Flow_yes (Sep.rot1 HS) ok hi hf).mono ?_)); rintro _ hN ⟨rfl, HS1⟩; replace HS := Sep.unrot1 HS1; clear HS1) | ((refine EvCall.mk ((l3Set_c (Sep.rot1 HS) _ _ iok.1 r0).mono ?_)); intro vN hN HS1; replace HS := Sep.unrot1 HS1; clear HS1) | ((refine EvCall.mk ((l3Load_c (Sep.rot1 HS) _ _ hk hd hs bd bs (by omega) (by omega)).mono ?_)); rintro _ hN ⟨rfl, HS1⟩; replace HS := Sep.unrot1 HS1; clear HS1) | ((refine EvCall.mk ((l3Store_c (Sep.rot1 HS) _ _ _ hk hd hs (by omega) (by omega)).mono ?_)); rintro _ hN ⟨rfl, HS1⟩; replace HS := Sep.unrot1 HS1; clear HS1) | ((refine EvKeep.extc (A := keepK _ _ (Hole _) _) hX (by assumption) ?_); intro hC) | ((refine EvKeep.one (A := keepK _ _ (Hole _) _) (by assumption) (rd_cell (HS.rd 6 rfl) (by assumption) (by omega)) ?_)) | ((with_reducible refine EvLd.at_ (by assumption) ?_)) | ((with_reducible refine EvKeep.same ?_)) | ((refine EvIdx.intj (l := [1, 4, 5, 6, 9, 10, 3, 7, 8]) (i.op - 19) (i64w _ (by omega) (by omega)) (Rd.of_blk (HS.pt_i 0 rfl)) rfl (by omega) (by omega) ?_); intro bI oI eI hI; replace HS := HS.tail) | ((refine EvIdx.intj _ rfl (HS.rd 6 rfl) (HS.len 6 rfl).1 (by omega) (by omega) ?_); intro bI oI eI hI) | ((with_reducible refine EvCall.mk (HC.mono (sAlu_c _ _ _ _) ?_)); (rintro _ _ ⟨rfl, rfl⟩)) | ((with_reducible refine EvCall.mk (HC.mono (sWord_c _ _) ?_)); (rintro _ _ ⟨rfl, rfl⟩)) | ((with_reducible refine EvCall.mk (HC.mono (l3KindsL_c _ _ (by omega) (by omega)) ?_)); (rintro _ hN ⟨rfl, hX⟩); replace HS := HS.ext hX) | ((with_reducible refine EvCall.mk (HC.mono (l3KindsS_c _ _ (by omega) (by omega)) ?_)); (rintro _ hN ⟨rfl, hX⟩); replace HS := HS.ext hX) | (with_reducible first | refine EvSeq.go ?_ | refine EvIf.tt ?_ | refine EvIf.ff ?_) | ((with_reducible refine Hole.mk (kK ?_)); clear kK) | ((with_reducible refine EvIf.mk (fun c => ?_) (fun c => ?_)) <;> (try simp only [cs_] at c) <;> (try (exfalso; first | omega | (revert c; decide)))) | ((with_reducible refine EvNew.sep HS ?_); intro bN hN HS1 hX; replace HS := HS1; clear HS1) | ((with_reducible refine EvIdx.lit ?_ ?_ ?_); (first | omega | decide); (first | omega | decide)) | ((with_reducible first | refine EvNe.mk ?_ ?_ | refine EvGe.mk ?_ ?_); (first | decide | omega)) | ((with_reducible refine EvLd.q HS (by repeat first | exact .h | apply Spot.t) ?_); (conv => whnf); intro hC) | (with_reducible refine EvLdN.q HS (by repeat first | exact .h | apply Spot.t) (fun hC => ?_)) | ((with_reducible refine EvSt.q HS (by repeat first | exact .h | apply Spot.t) ?_); (conv => whnf); intro hN HS1 hU; replace HS := HS1; clear HS1) | ((with_reducible refine EvKeep.cq (A := keepK _ _ (Hole _) _) HS (by repeat first | exact .h | apply Spot.t) ?_); (conv => whnf); (refine ⟨?_, ?_⟩); assumption; intro hC) | ((with_reducible refine EvKeep.nq (A := keepK _ _ (Hole _) _) HS (by repeat first | exact .h | apply Spot.t) ?_ ?_); assumption; intro hC) | ((fail_if_success with_reducible refine EvKeep.hole ?_); (with_reducible refine EvKeep.abs (fun X kK => ?_)))) <;> conv => whnf)
  rw [doI_flow m i iok.2.2.2.1 hop]
  obtain ⟨rr, er⟩ := flowM_form m i
  rw [er] at HS ⊢
  exact ⟨x, rfl, HS.tail⟩
set_option maxHeartbeats 8000000 in
theorem l3Do_alu {h0 h : Hp} {L : List Asn} {x : MH} {m : Mac} {b : Nat} (HS : Sep h0 h (Bx b (x.cs m) 36 :: (x.own m ++ L))) (ok : Ok m) (hfin : m.fin = 0) {i : Ins} (hi : iok i.op i.d i.s i.t i.n = true) (hop : i.op ≤ 18) :
    HC Try.prog 158 [.pointer (some ⟨b, 0, none⟩), i.v] h fun v h' => ∃ x' : MH, v = .int .i64 (doI m i).2 ∧ Sep h0 h' (Bx b (x'.cs (doI m i).1) 36 :: (x'.own (doI m i).1 ++ L)) := by
  have r := HS.tail.rdm
  have hrl := r.rl
  have r0 := ok.r0
  have p0 := ok.p0
  have p1 := ok.p1
  have hd : x.d.n ≤ 65536 := by rw [← r.dl]; exact ok.d1
  have hs : x.s.n ≤ 65536 := by rw [← r.sl]; exact ok.s1
  have bd := ok.db
  have bs := ok.sb
  have iok := iok_d hi
  have hx := ok.reg i.s
  have hy := ok.reg i.t
  unfold getR at hx hy
  have e4 : IntKind.i64.wrap (m.pc + 4) = m.pc + 4 := i64w _ (by omega) (by omega)
  have ea : IntKind.i64.wrap (m.regs.getD i.s.toNat 0 + i.n) = m.regs.getD i.s.toNat 0 + i.n := i64w _ (by omega) (by omega)
  have em : IntKind.i64.wrap (i.n * 4096) = i.n * 4096 := i64w _ (by omega) (by omega)
  have ep : IntKind.i64.wrap (m.pc + i.n * 4096) = m.pc + i.n * 4096 := i64w _ (by omega) (by omega)
  have hf : flowB i.op = false := by unfold flowB; rw [decide_eq_false_iff_not]; omega
  refine hc_of Try.func158 (rfl : Try.f158.body = some _) Try.ntmps158 Try.results158 Try.call158 rfl ?_; conv => whnf
  repeat' ((first | ((with_reducible refine EvDraw.ord (id := 6) (.go 0 (.go 1 (.go 2 (.go 3 (.go 4 (.go 5 (.go 6 (.go 7 (.go 8 (.go 9 (.go 10 (.go 11 (.go 12 (.go 13 (.go 14 (.go 15 (.go 16 (.go 17 (.alt 18 (.go 19 (.go 20 (.go 21 (.go 22 (.go 23 .done))))) .stop))))))))))))))))))) fol ?_ ?_ ?_); kernel_rfl; kernel_rfl) | ((with_reducible refine EvDraw.ord (id := 10) (.go 0 (.go 1 (.go 2 (.go 3 (.go 4 (.go 5 (.go 6 (.go 7 (.go 8 (.go 9 (.go 10 (.alt 11 (.go 12 (.go 13 (.go 14 (.go 15 (.go 16 .done))))) .stop)))))))))))) fol ?_ ?_ ?_); kernel_rfl; kernel_rfl) | ((with_reducible refine EvDraw.ord (id := 13) (.go 0 (.go 1 (.go 2 (.go 4 (.go 5 (.go 6 (.go 7 (.go 8 (.go 9 (.go 10 (.go 11 (.go 12 (.go 13 (.go 14 (.alt 3 (.alt 15 (.alt 16 (.go 17 (.go 18 (.go 19 (.go 20 (.go 21 .done))))) .stop) .stop) .stop))))))))))))))) fol ?_ ?_ ?_); kernel_rfl; kernel_rfl) | ((with_reducible refine EvDraw.ord (id := 18) (.go 0 (.go 1 (.go 2 (.go 4 (.go 5 (.go 6 (.go 7 (.go 8 (.go 9 (.go 10 (.go 11 (.go 12 (.go 13 (.go 14 (.go 16 (.go 17 (.go 18 (.go 19 (.go 20 (.go 21 (.go 22 (.go 23 (.alt 3 (.alt 15 (.alt 24 (.go 25 .done) .stop) .stop) .stop))))))))))))))))))))))) fol ?_ ?_ ?_); kernel_rfl; kernel_rfl) | ((with_reducible refine EvDraw.ord (id := 24) (.go 0 (.go 1 (.go 2 (.go 3 (.go 4 (.go 5 (.go 6 (.go 7 (.go 8 (.go 9 (.go 10 (.alt 11 .done .stop)))))))))))) fol ?_ ?_ ?_); kernel_rfl; kernel_rfl) | ((refine EvCall.mk ((l3Flow_no (Sep.rot1 HS) ok hi hf).mono ?_)); rintro _ hN ⟨rfl, HS1⟩; replace HS := Sep.unrot1 HS1; clear HS1) | ((refine EvCall.mk ((l3Set_c (Sep.rot1 HS) _ _ iok.1 r0).mono ?_)); intro vN hN HS1; replace HS := Sep.unrot1 HS1; clear HS1) | ((refine EvCall.mk ((l3Load_c (Sep.rot1 HS) _ _ hk hd hs bd bs (by omega) (by omega)).mono ?_)); rintro _ hN ⟨rfl, HS1⟩; replace HS := Sep.unrot1 HS1; clear HS1) | ((refine EvCall.mk ((l3Store_c (Sep.rot1 HS) _ _ _ hk hd hs (by omega) (by omega)).mono ?_)); rintro _ hN ⟨rfl, HS1⟩; replace HS := Sep.unrot1 HS1; clear HS1) | ((refine EvKeep.extc (A := keepK _ _ (Hole _) _) hX (by assumption) ?_); intro hC) | ((refine EvKeep.one (A := keepK _ _ (Hole _) _) (by assumption) (rd_cell (HS.rd 6 rfl) (by assumption) (by omega)) ?_)) | ((with_reducible refine EvLd.at_ (by assumption) ?_)) | ((with_reducible refine EvKeep.same ?_)) | ((refine EvIdx.intj (l := [1, 4, 5, 6, 9, 10, 3, 7, 8]) (i.op - 19) (i64w _ (by omega) (by omega)) (Rd.of_blk (HS.pt_i 0 rfl)) rfl (by omega) (by omega) ?_); intro bI oI eI hI; replace HS := HS.tail) | ((refine EvIdx.intj _ rfl (HS.rd 6 rfl) (HS.len 6 rfl).1 (by omega) (by omega) ?_); intro bI oI eI hI) | ((with_reducible refine EvCall.mk (HC.mono (sAlu_c _ _ _ _) ?_)); (rintro _ _ ⟨rfl, rfl⟩)) | ((with_reducible refine EvCall.mk (HC.mono (sWord_c _ _) ?_)); (rintro _ _ ⟨rfl, rfl⟩)) | ((with_reducible refine EvCall.mk (HC.mono (l3KindsL_c _ _ (by omega) (by omega)) ?_)); (rintro _ hN ⟨rfl, hX⟩); replace HS := HS.ext hX) | ((with_reducible refine EvCall.mk (HC.mono (l3KindsS_c _ _ (by omega) (by omega)) ?_)); (rintro _ hN ⟨rfl, hX⟩); replace HS := HS.ext hX) | (with_reducible first | refine EvSeq.go ?_ | refine EvIf.tt ?_ | refine EvIf.ff ?_) | ((with_reducible refine Hole.mk (kK ?_)); clear kK) | ((with_reducible refine EvIf.mk (fun c => ?_) (fun c => ?_)) <;> (try simp only [cs_] at c) <;> (try (exfalso; first | omega | (revert c; decide)))) | ((with_reducible refine EvNew.sep HS ?_); intro bN hN HS1 hX; replace HS := HS1; clear HS1) | ((with_reducible refine EvIdx.lit ?_ ?_ ?_); (first | omega | decide); (first | omega | decide)) | ((with_reducible first | refine EvNe.mk ?_ ?_ | refine EvGe.mk ?_ ?_); (first | decide | omega)) | ((with_reducible refine EvLd.q HS (by repeat first | exact .h | apply Spot.t) ?_); (conv => whnf); intro hC) | (with_reducible refine EvLdN.q HS (by repeat first | exact .h | apply Spot.t) (fun hC => ?_)) | ((with_reducible refine EvSt.q HS (by repeat first | exact .h | apply Spot.t) ?_); (conv => whnf); intro hN HS1 hU; replace HS := HS1; clear HS1) | ((with_reducible refine EvKeep.cq (A := keepK _ _ (Hole _) _) HS (by repeat first | exact .h | apply Spot.t) ?_); (conv => whnf); (refine ⟨?_, ?_⟩); assumption; intro hC) | ((with_reducible refine EvKeep.nq (A := keepK _ _ (Hole _) _) HS (by repeat first | exact .h | apply Spot.t) ?_ ?_); assumption; intro hC) | ((fail_if_success with_reducible refine EvKeep.hole ?_); (with_reducible refine EvKeep.abs (fun X kK => ?_)))) <;> conv => whnf)
  have hdo : doI m i = (nx (setR m i.d (alu i.op (getR m i.s) (getR m i.t)).1) (m.pc + 4), 0) := by unfold doI; rw [if_pos hop]
  rw [hdo]
  exact ⟨x, rfl, HS.tail⟩
set_option maxHeartbeats 8000000 in
theorem l3Do_imm {h0 h : Hp} {L : List Asn} {x : MH} {m : Mac} {b : Nat} (HS : Sep h0 h (Bx b (x.cs m) 36 :: (x.own m ++ L))) (ok : Ok m) (hfin : m.fin = 0) {i : Ins} (hi : iok i.op i.d i.s i.t i.n = true) (hop : 19 ≤ i.op ∧ i.op ≤ 27) :
    HC Try.prog 158 [.pointer (some ⟨b, 0, none⟩), i.v] h fun v h' => ∃ x' : MH, v = .int .i64 (doI m i).2 ∧ Sep h0 h' (Bx b (x'.cs (doI m i).1) 36 :: (x'.own (doI m i).1 ++ L)) := by
  have r := HS.tail.rdm
  have hrl := r.rl
  have r0 := ok.r0
  have p0 := ok.p0
  have p1 := ok.p1
  have hd : x.d.n ≤ 65536 := by rw [← r.dl]; exact ok.d1
  have hs : x.s.n ≤ 65536 := by rw [← r.sl]; exact ok.s1
  have bd := ok.db
  have bs := ok.sb
  have iok := iok_d hi
  have hx := ok.reg i.s
  have hy := ok.reg i.t
  unfold getR at hx hy
  have e4 : IntKind.i64.wrap (m.pc + 4) = m.pc + 4 := i64w _ (by omega) (by omega)
  have ea : IntKind.i64.wrap (m.regs.getD i.s.toNat 0 + i.n) = m.regs.getD i.s.toNat 0 + i.n := i64w _ (by omega) (by omega)
  have em : IntKind.i64.wrap (i.n * 4096) = i.n * 4096 := i64w _ (by omega) (by omega)
  have ep : IntKind.i64.wrap (m.pc + i.n * 4096) = m.pc + i.n * 4096 := i64w _ (by omega) (by omega)
  have hf : flowB i.op = false := by unfold flowB; rw [decide_eq_false_iff_not]; omega
  refine hc_of Try.func158 (rfl : Try.f158.body = some _) Try.ntmps158 Try.results158 Try.call158 rfl ?_; conv => whnf
  repeat' ((first | ((with_reducible refine EvDraw.ord (id := 6) (.go 0 (.go 1 (.go 2 (.go 3 (.go 4 (.go 5 (.go 6 (.go 7 (.go 8 (.go 9 (.go 10 (.go 11 (.go 12 (.go 13 (.go 14 (.go 15 (.go 16 (.go 17 (.alt 18 (.go 19 (.go 20 (.go 21 (.go 22 (.go 23 .done))))) .stop))))))))))))))))))) fol ?_ ?_ ?_); kernel_rfl; kernel_rfl) | ((with_reducible refine EvDraw.ord (id := 10) (.go 0 (.go 1 (.go 2 (.go 3 (.go 4 (.go 5 (.go 6 (.go 7 (.go 8 (.go 9 (.go 10 (.alt 11 (.go 12 (.go 13 (.go 14 (.go 15 (.go 16 .done))))) .stop)))))))))))) fol ?_ ?_ ?_); kernel_rfl; kernel_rfl) | ((with_reducible refine EvDraw.ord (id := 13) (.go 0 (.go 1 (.go 2 (.go 4 (.go 5 (.go 6 (.go 7 (.go 8 (.go 9 (.go 10 (.go 11 (.go 12 (.go 13 (.go 14 (.alt 3 (.alt 15 (.alt 16 (.go 17 (.go 18 (.go 19 (.go 20 (.go 21 .done))))) .stop) .stop) .stop))))))))))))))) fol ?_ ?_ ?_); kernel_rfl; kernel_rfl) | ((with_reducible refine EvDraw.ord (id := 18) (.go 0 (.go 1 (.go 2 (.go 4 (.go 5 (.go 6 (.go 7 (.go 8 (.go 9 (.go 10 (.go 11 (.go 12 (.go 13 (.go 14 (.go 16 (.go 17 (.go 18 (.go 19 (.go 20 (.go 21 (.go 22 (.go 23 (.alt 3 (.alt 15 (.alt 24 (.go 25 .done) .stop) .stop) .stop))))))))))))))))))))))) fol ?_ ?_ ?_); kernel_rfl; kernel_rfl) | ((with_reducible refine EvDraw.ord (id := 24) (.go 0 (.go 1 (.go 2 (.go 3 (.go 4 (.go 5 (.go 6 (.go 7 (.go 8 (.go 9 (.go 10 (.alt 11 .done .stop)))))))))))) fol ?_ ?_ ?_); kernel_rfl; kernel_rfl) | ((refine EvCall.mk ((l3Flow_no (Sep.rot1 HS) ok hi hf).mono ?_)); rintro _ hN ⟨rfl, HS1⟩; replace HS := Sep.unrot1 HS1; clear HS1) | ((refine EvCall.mk ((l3Set_c (Sep.rot1 HS) _ _ iok.1 r0).mono ?_)); intro vN hN HS1; replace HS := Sep.unrot1 HS1; clear HS1) | ((refine EvCall.mk ((l3Load_c (Sep.rot1 HS) _ _ hk hd hs bd bs (by omega) (by omega)).mono ?_)); rintro _ hN ⟨rfl, HS1⟩; replace HS := Sep.unrot1 HS1; clear HS1) | ((refine EvCall.mk ((l3Store_c (Sep.rot1 HS) _ _ _ hk hd hs (by omega) (by omega)).mono ?_)); rintro _ hN ⟨rfl, HS1⟩; replace HS := Sep.unrot1 HS1; clear HS1) | ((refine EvKeep.extc (A := keepK _ _ (Hole _) _) hX (by assumption) ?_); intro hC) | ((refine EvKeep.one (A := keepK _ _ (Hole _) _) (by assumption) (rd_cell (HS.rd 6 rfl) (by assumption) (by omega)) ?_)) | ((with_reducible refine EvLd.at_ (by assumption) ?_)) | ((with_reducible refine EvKeep.same ?_)) | ((refine EvIdx.intj (l := [1, 4, 5, 6, 9, 10, 3, 7, 8]) (i.op - 19) (i64w _ (by omega) (by omega)) (Rd.of_blk (HS.pt_i 0 rfl)) rfl (by omega) (by omega) ?_); intro bI oI eI hI; replace HS := HS.tail) | ((refine EvIdx.intj _ rfl (HS.rd 6 rfl) (HS.len 6 rfl).1 (by omega) (by omega) ?_); intro bI oI eI hI) | ((with_reducible refine EvCall.mk (HC.mono (sAlu_c _ _ _ _) ?_)); (rintro _ _ ⟨rfl, rfl⟩)) | ((with_reducible refine EvCall.mk (HC.mono (sWord_c _ _) ?_)); (rintro _ _ ⟨rfl, rfl⟩)) | ((with_reducible refine EvCall.mk (HC.mono (l3KindsL_c _ _ (by omega) (by omega)) ?_)); (rintro _ hN ⟨rfl, hX⟩); replace HS := HS.ext hX) | ((with_reducible refine EvCall.mk (HC.mono (l3KindsS_c _ _ (by omega) (by omega)) ?_)); (rintro _ hN ⟨rfl, hX⟩); replace HS := HS.ext hX) | (with_reducible first | refine EvSeq.go ?_ | refine EvIf.tt ?_ | refine EvIf.ff ?_) | ((with_reducible refine Hole.mk (kK ?_)); clear kK) | ((with_reducible refine EvIf.mk (fun c => ?_) (fun c => ?_)) <;> (try simp only [cs_] at c) <;> (try (exfalso; first | omega | (revert c; decide)))) | ((with_reducible refine EvNew.sep HS ?_); intro bN hN HS1 hX; replace HS := HS1; clear HS1) | ((with_reducible refine EvIdx.lit ?_ ?_ ?_); (first | omega | decide); (first | omega | decide)) | ((with_reducible first | refine EvNe.mk ?_ ?_ | refine EvGe.mk ?_ ?_); (first | decide | omega)) | ((with_reducible refine EvLd.q HS (by repeat first | exact .h | apply Spot.t) ?_); (conv => whnf); intro hC) | (with_reducible refine EvLdN.q HS (by repeat first | exact .h | apply Spot.t) (fun hC => ?_)) | ((with_reducible refine EvSt.q HS (by repeat first | exact .h | apply Spot.t) ?_); (conv => whnf); intro hN HS1 hU; replace HS := HS1; clear HS1) | ((with_reducible refine EvKeep.cq (A := keepK _ _ (Hole _) _) HS (by repeat first | exact .h | apply Spot.t) ?_); (conv => whnf); (refine ⟨?_, ?_⟩); assumption; intro hC) | ((with_reducible refine EvKeep.nq (A := keepK _ _ (Hole _) _) HS (by repeat first | exact .h | apply Spot.t) ?_ ?_); assumption; intro hC) | ((fail_if_success with_reducible refine EvKeep.hole ?_); (with_reducible refine EvKeep.abs (fun X kK => ?_)))) <;> conv => whnf)
  have hdo : doI m i = (nx (setR m i.d (alu (immOp i.op) (getR m i.s) i.n).1) (m.pc + 4), 0) := by unfold doI; rw [if_neg (by omega), if_pos (by omega)]
  rw [hdo]
  exact ⟨x, rfl, HS.tail⟩
set_option maxHeartbeats 8000000 in
theorem l3Do_ld {h0 h : Hp} {L : List Asn} {x : MH} {m : Mac} {b : Nat} (HS : Sep h0 h (Bx b (x.cs m) 36 :: (x.own m ++ L))) (ok : Ok m) (hfin : m.fin = 0) {i : Ins} (hi : iok i.op i.d i.s i.t i.n = true) (hop : 28 ≤ i.op ∧ i.op ≤ 32) :
    HC Try.prog 158 [.pointer (some ⟨b, 0, none⟩), i.v] h fun v h' => ∃ x' : MH, v = .int .i64 (doI m i).2 ∧ Sep h0 h' (Bx b (x'.cs (doI m i).1) 36 :: (x'.own (doI m i).1 ++ L)) := by
  have r := HS.tail.rdm
  have hrl := r.rl
  have r0 := ok.r0
  have p0 := ok.p0
  have p1 := ok.p1
  have hd : x.d.n ≤ 65536 := by rw [← r.dl]; exact ok.d1
  have hs : x.s.n ≤ 65536 := by rw [← r.sl]; exact ok.s1
  have bd := ok.db
  have bs := ok.sb
  have iok := iok_d hi
  have hx := ok.reg i.s
  have hy := ok.reg i.t
  unfold getR at hx hy
  have e4 : IntKind.i64.wrap (m.pc + 4) = m.pc + 4 := i64w _ (by omega) (by omega)
  have ea : IntKind.i64.wrap (m.regs.getD i.s.toNat 0 + i.n) = m.regs.getD i.s.toNat 0 + i.n := i64w _ (by omega) (by omega)
  have em : IntKind.i64.wrap (i.n * 4096) = i.n * 4096 := i64w _ (by omega) (by omega)
  have ep : IntKind.i64.wrap (m.pc + i.n * 4096) = m.pc + i.n * 4096 := i64w _ (by omega) (by omega)
  have hf : flowB i.op = false := by unfold flowB; rw [decide_eq_false_iff_not]; omega
  have hk := ldK_ks i.op hop
  obtain ⟨w1, w2, _⟩ := ld_mod m ok.d1 ok.s1 (ldK i.op) (m.regs.getD i.s.toNat 0 + i.n) hk (by omega) (by omega)
  refine hc_of Try.func158 (rfl : Try.f158.body = some _) Try.ntmps158 Try.results158 Try.call158 rfl ?_; conv => whnf
  repeat' ((first | ((with_reducible refine EvDraw.ord (id := 6) (.go 0 (.go 1 (.go 2 (.go 3 (.go 4 (.go 5 (.go 6 (.go 7 (.go 8 (.go 9 (.go 10 (.go 11 (.go 12 (.go 13 (.go 14 (.go 15 (.go 16 (.go 17 (.alt 18 (.go 19 (.go 20 (.go 21 (.go 22 (.go 23 .done))))) .stop))))))))))))))))))) fol ?_ ?_ ?_); kernel_rfl; kernel_rfl) | ((with_reducible refine EvDraw.ord (id := 10) (.go 0 (.go 1 (.go 2 (.go 3 (.go 4 (.go 5 (.go 6 (.go 7 (.go 8 (.go 9 (.go 10 (.alt 11 (.go 12 (.go 13 (.go 14 (.go 15 (.go 16 .done))))) .stop)))))))))))) fol ?_ ?_ ?_); kernel_rfl; kernel_rfl) | ((with_reducible refine EvDraw.ord (id := 13) (.go 0 (.go 1 (.go 2 (.go 4 (.go 5 (.go 6 (.go 7 (.go 8 (.go 9 (.go 10 (.go 11 (.go 12 (.go 13 (.go 14 (.alt 3 (.alt 15 (.alt 16 (.go 17 (.go 18 (.go 19 (.go 20 (.go 21 .done))))) .stop) .stop) .stop))))))))))))))) fol ?_ ?_ ?_); kernel_rfl; kernel_rfl) | ((with_reducible refine EvDraw.ord (id := 18) (.go 0 (.go 1 (.go 2 (.go 4 (.go 5 (.go 6 (.go 7 (.go 8 (.go 9 (.go 10 (.go 11 (.go 12 (.go 13 (.go 14 (.go 16 (.go 17 (.go 18 (.go 19 (.go 20 (.go 21 (.go 22 (.go 23 (.alt 3 (.alt 15 (.alt 24 (.go 25 .done) .stop) .stop) .stop))))))))))))))))))))))) fol ?_ ?_ ?_); kernel_rfl; kernel_rfl) | ((with_reducible refine EvDraw.ord (id := 24) (.go 0 (.go 1 (.go 2 (.go 3 (.go 4 (.go 5 (.go 6 (.go 7 (.go 8 (.go 9 (.go 10 (.alt 11 .done .stop)))))))))))) fol ?_ ?_ ?_); kernel_rfl; kernel_rfl) | ((refine EvCall.mk ((l3Flow_no (Sep.rot1 HS) ok hi hf).mono ?_)); rintro _ hN ⟨rfl, HS1⟩; replace HS := Sep.unrot1 HS1; clear HS1) | ((refine EvCall.mk ((l3Set_c (Sep.rot1 HS) _ _ iok.1 r0).mono ?_)); intro vN hN HS1; replace HS := Sep.unrot1 HS1; clear HS1) | ((refine EvCall.mk ((l3Load_c (Sep.rot1 HS) _ _ hk hd hs bd bs (by omega) (by omega)).mono ?_)); rintro _ hN ⟨rfl, HS1⟩; replace HS := Sep.unrot1 HS1; clear HS1) | ((refine EvCall.mk ((l3Store_c (Sep.rot1 HS) _ _ _ hk hd hs (by omega) (by omega)).mono ?_)); rintro _ hN ⟨rfl, HS1⟩; replace HS := Sep.unrot1 HS1; clear HS1) | ((refine EvKeep.extc (A := keepK _ _ (Hole _) _) hX (by assumption) ?_); intro hC) | ((refine EvKeep.one (A := keepK _ _ (Hole _) _) (by assumption) (rd_cell (HS.rd 6 rfl) (by assumption) (by omega)) ?_)) | ((with_reducible refine EvLd.at_ (by assumption) ?_)) | ((with_reducible refine EvKeep.same ?_)) | ((refine EvIdx.intj (l := [1, 4, 5, 6, 9, 10, 3, 7, 8]) (i.op - 19) (i64w _ (by omega) (by omega)) (Rd.of_blk (HS.pt_i 0 rfl)) rfl (by omega) (by omega) ?_); intro bI oI eI hI; replace HS := HS.tail) | ((refine EvIdx.intj _ rfl (HS.rd 6 rfl) (HS.len 6 rfl).1 (by omega) (by omega) ?_); intro bI oI eI hI) | ((with_reducible refine EvCall.mk (HC.mono (sAlu_c _ _ _ _) ?_)); (rintro _ _ ⟨rfl, rfl⟩)) | ((with_reducible refine EvCall.mk (HC.mono (sWord_c _ _) ?_)); (rintro _ _ ⟨rfl, rfl⟩)) | ((with_reducible refine EvCall.mk (HC.mono (l3KindsL_c _ _ (by omega) (by omega)) ?_)); (rintro _ hN ⟨rfl, hX⟩); replace HS := HS.ext hX) | ((with_reducible refine EvCall.mk (HC.mono (l3KindsS_c _ _ (by omega) (by omega)) ?_)); (rintro _ hN ⟨rfl, hX⟩); replace HS := HS.ext hX) | (with_reducible first | refine EvSeq.go ?_ | refine EvIf.tt ?_ | refine EvIf.ff ?_) | ((with_reducible refine Hole.mk (kK ?_)); clear kK) | ((with_reducible refine EvIf.mk (fun c => ?_) (fun c => ?_)) <;> (try simp only [cs_] at c) <;> (try (exfalso; first | omega | (revert c; decide)))) | ((with_reducible refine EvNew.sep HS ?_); intro bN hN HS1 hX; replace HS := HS1; clear HS1) | ((with_reducible refine EvIdx.lit ?_ ?_ ?_); (first | omega | decide); (first | omega | decide)) | ((with_reducible first | refine EvNe.mk ?_ ?_ | refine EvGe.mk ?_ ?_); (first | decide | omega)) | ((with_reducible refine EvLd.q HS (by repeat first | exact .h | apply Spot.t) ?_); (conv => whnf); intro hC) | (with_reducible refine EvLdN.q HS (by repeat first | exact .h | apply Spot.t) (fun hC => ?_)) | ((with_reducible refine EvSt.q HS (by repeat first | exact .h | apply Spot.t) ?_); (conv => whnf); intro hN HS1 hU; replace HS := HS1; clear HS1) | ((with_reducible refine EvKeep.cq (A := keepK _ _ (Hole _) _) HS (by repeat first | exact .h | apply Spot.t) ?_); (conv => whnf); (refine ⟨?_, ?_⟩); assumption; intro hC) | ((with_reducible refine EvKeep.nq (A := keepK _ _ (Hole _) _) HS (by repeat first | exact .h | apply Spot.t) ?_ ?_); assumption; intro hC) | ((fail_if_success with_reducible refine EvKeep.hole ?_); (with_reducible refine EvKeep.abs (fun X kK => ?_)))) <;> conv => whnf)
  all_goals
    have hdo : doI m i = (if mflt m (ldK i.op) (getR m i.s + i.n) ≠ 0 then (m, mflt m (ldK i.op) (getR m i.s + i.n)) else (nx (setR m i.d (ldW m (ldK i.op) (getR m i.s + i.n))) (m.pc + 4), 0)) := by unfold doI; rw [if_neg (by omega), if_neg (by omega), if_pos (by omega)]
    rw [hdo]
    rw [ea, w1] at c
  · have c' : mflt m (ldK i.op) (getR m i.s + i.n) ≠ 0 := c
    rw [if_pos c']
    refine ⟨x, ?_, HS.tail⟩
    show Value.int .i64 (mflt m (ldK i.op) (IntKind.i64.wrap (m.regs.getD i.s.toNat 0 + i.n) % 4294967296)) = _
    rw [ea, w1]
    rfl
  · have c' : ¬ mflt m (ldK i.op) (getR m i.s + i.n) ≠ 0 := fun e => e c
    rw [if_neg c']
    have hl : ldR m (ldK i.op) (m.regs.getD i.s.toNat 0 + i.n) = ldW m (ldK i.op) (getR m i.s + i.n) := if_pos c
    rw [ea, w2, hl] at HS
    exact ⟨x, rfl, HS.tail⟩
set_option maxHeartbeats 8000000 in
theorem l3Do_st {h0 h : Hp} {L : List Asn} {x : MH} {m : Mac} {b : Nat} (HS : Sep h0 h (Bx b (x.cs m) 36 :: (x.own m ++ L))) (ok : Ok m) (hfin : m.fin = 0) {i : Ins} (hi : iok i.op i.d i.s i.t i.n = true) (hop : 34 ≤ i.op ∧ i.op ≤ 36) :
    HC Try.prog 158 [.pointer (some ⟨b, 0, none⟩), i.v] h fun v h' => ∃ x' : MH, v = .int .i64 (doI m i).2 ∧ Sep h0 h' (Bx b (x'.cs (doI m i).1) 36 :: (x'.own (doI m i).1 ++ L)) := by
  have r := HS.tail.rdm
  have hrl := r.rl
  have r0 := ok.r0
  have p0 := ok.p0
  have p1 := ok.p1
  have hd : x.d.n ≤ 65536 := by rw [← r.dl]; exact ok.d1
  have hs : x.s.n ≤ 65536 := by rw [← r.sl]; exact ok.s1
  have bd := ok.db
  have bs := ok.sb
  have iok := iok_d hi
  have hx := ok.reg i.s
  have hy := ok.reg i.t
  unfold getR at hx hy
  have e4 : IntKind.i64.wrap (m.pc + 4) = m.pc + 4 := i64w _ (by omega) (by omega)
  have ea : IntKind.i64.wrap (m.regs.getD i.s.toNat 0 + i.n) = m.regs.getD i.s.toNat 0 + i.n := i64w _ (by omega) (by omega)
  have em : IntKind.i64.wrap (i.n * 4096) = i.n * 4096 := i64w _ (by omega) (by omega)
  have ep : IntKind.i64.wrap (m.pc + i.n * 4096) = m.pc + i.n * 4096 := i64w _ (by omega) (by omega)
  have hf : flowB i.op = false := by unfold flowB; rw [decide_eq_false_iff_not]; omega
  have hk := stK_ks i.op hop
  obtain ⟨dd, ss, es⟩ := stM_form m (stK i.op) (IntKind.i64.wrap (m.regs.getD i.s.toNat 0 + i.n) % 4294967296) (m.regs.getD i.t.toNat 0)
  obtain ⟨w1, _, w3⟩ := ld_mod m ok.d1 ok.s1 (stK i.op) (m.regs.getD i.s.toNat 0 + i.n) hk (by omega) (by omega)
  refine hc_of Try.func158 (rfl : Try.f158.body = some _) Try.ntmps158 Try.results158 Try.call158 rfl ?_; conv => whnf
  repeat' ((first | ((with_reducible refine EvDraw.ord (id := 6) (.go 0 (.go 1 (.go 2 (.go 3 (.go 4 (.go 5 (.go 6 (.go 7 (.go 8 (.go 9 (.go 10 (.go 11 (.go 12 (.go 13 (.go 14 (.go 15 (.go 16 (.go 17 (.alt 18 (.go 19 (.go 20 (.go 21 (.go 22 (.go 23 .done))))) .stop))))))))))))))))))) fol ?_ ?_ ?_); kernel_rfl; kernel_rfl) | ((with_reducible refine EvDraw.ord (id := 10) (.go 0 (.go 1 (.go 2 (.go 3 (.go 4 (.go 5 (.go 6 (.go 7 (.go 8 (.go 9 (.go 10 (.alt 11 (.go 12 (.go 13 (.go 14 (.go 15 (.go 16 .done))))) .stop)))))))))))) fol ?_ ?_ ?_); kernel_rfl; kernel_rfl) | ((with_reducible refine EvDraw.ord (id := 13) (.go 0 (.go 1 (.go 2 (.go 4 (.go 5 (.go 6 (.go 7 (.go 8 (.go 9 (.go 10 (.go 11 (.go 12 (.go 13 (.go 14 (.alt 3 (.alt 15 (.alt 16 (.go 17 (.go 18 (.go 19 (.go 20 (.go 21 .done))))) .stop) .stop) .stop))))))))))))))) fol ?_ ?_ ?_); kernel_rfl; kernel_rfl) | ((with_reducible refine EvDraw.ord (id := 18) (.go 0 (.go 1 (.go 2 (.go 4 (.go 5 (.go 6 (.go 7 (.go 8 (.go 9 (.go 10 (.go 11 (.go 12 (.go 13 (.go 14 (.go 16 (.go 17 (.go 18 (.go 19 (.go 20 (.go 21 (.go 22 (.go 23 (.alt 3 (.alt 15 (.alt 24 (.go 25 .done) .stop) .stop) .stop))))))))))))))))))))))) fol ?_ ?_ ?_); kernel_rfl; kernel_rfl) | ((with_reducible refine EvDraw.ord (id := 24) (.go 0 (.go 1 (.go 2 (.go 3 (.go 4 (.go 5 (.go 6 (.go 7 (.go 8 (.go 9 (.go 10 (.alt 11 .done .stop)))))))))))) fol ?_ ?_ ?_); kernel_rfl; kernel_rfl) | ((refine EvCall.mk ((l3Flow_no (Sep.rot1 HS) ok hi hf).mono ?_)); rintro _ hN ⟨rfl, HS1⟩; replace HS := Sep.unrot1 HS1; clear HS1) | ((refine EvCall.mk ((l3Set_c (Sep.rot1 HS) _ _ iok.1 r0).mono ?_)); intro vN hN HS1; replace HS := Sep.unrot1 HS1; clear HS1) | ((refine EvCall.mk ((l3Load_c (Sep.rot1 HS) _ _ hk hd hs bd bs (by omega) (by omega)).mono ?_)); rintro _ hN ⟨rfl, HS1⟩; replace HS := Sep.unrot1 HS1; clear HS1) | ((refine EvCall.mk ((l3Store_c (Sep.rot1 HS) _ _ _ hk hd hs (by omega) (by omega)).mono ?_)); rintro _ hN ⟨rfl, HS1⟩; rw [es] at HS1; replace HS := Sep.unrot1 HS1; clear HS1; dsimp only at HS) | ((refine EvKeep.extc (A := keepK _ _ (Hole _) _) hX (by assumption) ?_); intro hC) | ((refine EvKeep.one (A := keepK _ _ (Hole _) _) (by assumption) (rd_cell (HS.rd 6 rfl) (by assumption) (by omega)) ?_)) | ((with_reducible refine EvLd.at_ (by assumption) ?_)) | ((with_reducible refine EvKeep.same ?_)) | ((refine EvIdx.intj (l := [1, 4, 5, 6, 9, 10, 3, 7, 8]) (i.op - 19) (i64w _ (by omega) (by omega)) (Rd.of_blk (HS.pt_i 0 rfl)) rfl (by omega) (by omega) ?_); intro bI oI eI hI; replace HS := HS.tail) | ((refine EvIdx.intj _ rfl (HS.rd 6 rfl) (HS.len 6 rfl).1 (by omega) (by omega) ?_); intro bI oI eI hI) | ((with_reducible refine EvCall.mk (HC.mono (sAlu_c _ _ _ _) ?_)); (rintro _ _ ⟨rfl, rfl⟩)) | ((with_reducible refine EvCall.mk (HC.mono (sWord_c _ _) ?_)); (rintro _ _ ⟨rfl, rfl⟩)) | ((with_reducible refine EvCall.mk (HC.mono (l3KindsL_c _ _ (by omega) (by omega)) ?_)); (rintro _ hN ⟨rfl, hX⟩); replace HS := HS.ext hX) | ((with_reducible refine EvCall.mk (HC.mono (l3KindsS_c _ _ (by omega) (by omega)) ?_)); (rintro _ hN ⟨rfl, hX⟩); replace HS := HS.ext hX) | (with_reducible first | refine EvSeq.go ?_ | refine EvIf.tt ?_ | refine EvIf.ff ?_) | ((with_reducible refine Hole.mk (kK ?_)); clear kK) | ((with_reducible refine EvIf.mk (fun c => ?_) (fun c => ?_)) <;> (try simp only [cs_] at c) <;> (try (exfalso; first | omega | (revert c; decide)))) | ((with_reducible refine EvNew.sep HS ?_); intro bN hN HS1 hX; replace HS := HS1; clear HS1) | ((with_reducible refine EvIdx.lit ?_ ?_ ?_); (first | omega | decide); (first | omega | decide)) | ((with_reducible first | refine EvNe.mk ?_ ?_ | refine EvGe.mk ?_ ?_); (first | decide | omega)) | ((with_reducible refine EvLd.q HS (by repeat first | exact .h | apply Spot.t) ?_); (conv => whnf); intro hC) | (with_reducible refine EvLdN.q HS (by repeat first | exact .h | apply Spot.t) (fun hC => ?_)) | ((with_reducible refine EvSt.q HS (by repeat first | exact .h | apply Spot.t) ?_); (conv => whnf); intro hN HS1 hU; replace HS := HS1; clear HS1) | ((with_reducible refine EvKeep.cq (A := keepK _ _ (Hole _) _) HS (by repeat first | exact .h | apply Spot.t) ?_); (conv => whnf); (refine ⟨?_, ?_⟩); assumption; intro hC) | ((with_reducible refine EvKeep.nq (A := keepK _ _ (Hole _) _) HS (by repeat first | exact .h | apply Spot.t) ?_ ?_); assumption; intro hC) | ((fail_if_success with_reducible refine EvKeep.hole ?_); (with_reducible refine EvKeep.abs (fun X kK => ?_)))) <;> conv => whnf)
  all_goals
    have hdo : doI m i = (if mflt m (stK i.op) (getR m i.s + i.n) ≠ 0 then (m, mflt m (stK i.op) (getR m i.s + i.n)) else (nx (stM m (stK i.op) (getR m i.s + i.n) (getR m i.t)) (m.pc + 4), 0)) := by unfold doI; rw [if_neg (by omega), if_neg (by omega), if_neg (by omega), if_neg (by omega), if_pos (by omega)]
    rw [hdo]
    clear hdo
    have es' : stM m (stK i.op) (getR m i.s + i.n) (getR m i.t) = { m with data := dd, stack := ss } := by
      rw [ea, w3] at es
      exact es
    have hfl : flt m.data.length m.stack.length (stK i.op) (IntKind.i64.wrap (m.regs.getD i.s.toNat 0 + i.n) % 4294967296) = mflt m (stK i.op) (getR m i.s + i.n) := by
      rw [ea]
      exact w1
    rw [hfl] at c
  · rw [if_pos c]
    have hm : stM m (stK i.op) (getR m i.s + i.n) (getR m i.t) = m := if_pos c
    rw [hm] at es'
    have hdd : m.data = dd := congrArg Mac.data es'
    have hss : m.stack = ss := congrArg Mac.stack es'
    rw [← hdd, ← hss] at HS
    refine ⟨x, ?_, HS.tail⟩
    exact congrArg (Value.int .i64) hfl
  · rw [if_neg (fun e => e c), es']
    exact ⟨x, rfl, HS.tail⟩
set_option maxHeartbeats 8000000 in
theorem l3Do_lui {h0 h : Hp} {L : List Asn} {x : MH} {m : Mac} {b : Nat} (HS : Sep h0 h (Bx b (x.cs m) 36 :: (x.own m ++ L))) (ok : Ok m) (hfin : m.fin = 0) {i : Ins} (hi : iok i.op i.d i.s i.t i.n = true) (hop : i.op = 43) :
    HC Try.prog 158 [.pointer (some ⟨b, 0, none⟩), i.v] h fun v h' => ∃ x' : MH, v = .int .i64 (doI m i).2 ∧ Sep h0 h' (Bx b (x'.cs (doI m i).1) 36 :: (x'.own (doI m i).1 ++ L)) := by
  have r := HS.tail.rdm
  have hrl := r.rl
  have r0 := ok.r0
  have p0 := ok.p0
  have p1 := ok.p1
  have hd : x.d.n ≤ 65536 := by rw [← r.dl]; exact ok.d1
  have hs : x.s.n ≤ 65536 := by rw [← r.sl]; exact ok.s1
  have bd := ok.db
  have bs := ok.sb
  have iok := iok_d hi
  have hx := ok.reg i.s
  have hy := ok.reg i.t
  unfold getR at hx hy
  have e4 : IntKind.i64.wrap (m.pc + 4) = m.pc + 4 := i64w _ (by omega) (by omega)
  have ea : IntKind.i64.wrap (m.regs.getD i.s.toNat 0 + i.n) = m.regs.getD i.s.toNat 0 + i.n := i64w _ (by omega) (by omega)
  have em : IntKind.i64.wrap (i.n * 4096) = i.n * 4096 := i64w _ (by omega) (by omega)
  have ep : IntKind.i64.wrap (m.pc + i.n * 4096) = m.pc + i.n * 4096 := i64w _ (by omega) (by omega)
  have hf : flowB i.op = false := by unfold flowB; rw [decide_eq_false_iff_not]; omega
  refine hc_of Try.func158 (rfl : Try.f158.body = some _) Try.ntmps158 Try.results158 Try.call158 rfl ?_; conv => whnf
  repeat' ((first | ((with_reducible refine EvDraw.ord (id := 6) (.go 0 (.go 1 (.go 2 (.go 3 (.go 4 (.go 5 (.go 6 (.go 7 (.go 8 (.go 9 (.go 10 (.go 11 (.go 12 (.go 13 (.go 14 (.go 15 (.go 16 (.go 17 (.alt 18 (.go 19 (.go 20 (.go 21 (.go 22 (.go 23 .done))))) .stop))))))))))))))))))) fol ?_ ?_ ?_); kernel_rfl; kernel_rfl) | ((with_reducible refine EvDraw.ord (id := 10) (.go 0 (.go 1 (.go 2 (.go 3 (.go 4 (.go 5 (.go 6 (.go 7 (.go 8 (.go 9 (.go 10 (.alt 11 (.go 12 (.go 13 (.go 14 (.go 15 (.go 16 .done))))) .stop)))))))))))) fol ?_ ?_ ?_); kernel_rfl; kernel_rfl) | ((with_reducible refine EvDraw.ord (id := 13) (.go 0 (.go 1 (.go 2 (.go 4 (.go 5 (.go 6 (.go 7 (.go 8 (.go 9 (.go 10 (.go 11 (.go 12 (.go 13 (.go 14 (.alt 3 (.alt 15 (.alt 16 (.go 17 (.go 18 (.go 19 (.go 20 (.go 21 .done))))) .stop) .stop) .stop))))))))))))))) fol ?_ ?_ ?_); kernel_rfl; kernel_rfl) | ((with_reducible refine EvDraw.ord (id := 18) (.go 0 (.go 1 (.go 2 (.go 4 (.go 5 (.go 6 (.go 7 (.go 8 (.go 9 (.go 10 (.go 11 (.go 12 (.go 13 (.go 14 (.go 16 (.go 17 (.go 18 (.go 19 (.go 20 (.go 21 (.go 22 (.go 23 (.alt 3 (.alt 15 (.alt 24 (.go 25 .done) .stop) .stop) .stop))))))))))))))))))))))) fol ?_ ?_ ?_); kernel_rfl; kernel_rfl) | ((with_reducible refine EvDraw.ord (id := 24) (.go 0 (.go 1 (.go 2 (.go 3 (.go 4 (.go 5 (.go 6 (.go 7 (.go 8 (.go 9 (.go 10 (.alt 11 .done .stop)))))))))))) fol ?_ ?_ ?_); kernel_rfl; kernel_rfl) | ((refine EvCall.mk ((l3Flow_no (Sep.rot1 HS) ok hi hf).mono ?_)); rintro _ hN ⟨rfl, HS1⟩; replace HS := Sep.unrot1 HS1; clear HS1) | ((refine EvCall.mk ((l3Set_c (Sep.rot1 HS) _ _ iok.1 r0).mono ?_)); intro vN hN HS1; replace HS := Sep.unrot1 HS1; clear HS1) | ((refine EvCall.mk ((l3Load_c (Sep.rot1 HS) _ _ hk hd hs bd bs (by omega) (by omega)).mono ?_)); rintro _ hN ⟨rfl, HS1⟩; replace HS := Sep.unrot1 HS1; clear HS1) | ((refine EvCall.mk ((l3Store_c (Sep.rot1 HS) _ _ _ hk hd hs (by omega) (by omega)).mono ?_)); rintro _ hN ⟨rfl, HS1⟩; replace HS := Sep.unrot1 HS1; clear HS1) | ((refine EvKeep.extc (A := keepK _ _ (Hole _) _) hX (by assumption) ?_); intro hC) | ((refine EvKeep.one (A := keepK _ _ (Hole _) _) (by assumption) (rd_cell (HS.rd 6 rfl) (by assumption) (by omega)) ?_)) | ((with_reducible refine EvLd.at_ (by assumption) ?_)) | ((with_reducible refine EvKeep.same ?_)) | ((refine EvIdx.intj (l := [1, 4, 5, 6, 9, 10, 3, 7, 8]) (i.op - 19) (i64w _ (by omega) (by omega)) (Rd.of_blk (HS.pt_i 0 rfl)) rfl (by omega) (by omega) ?_); intro bI oI eI hI; replace HS := HS.tail) | ((refine EvIdx.intj _ rfl (HS.rd 6 rfl) (HS.len 6 rfl).1 (by omega) (by omega) ?_); intro bI oI eI hI) | ((with_reducible refine EvCall.mk (HC.mono (sAlu_c _ _ _ _) ?_)); (rintro _ _ ⟨rfl, rfl⟩)) | ((with_reducible refine EvCall.mk (HC.mono (sWord_c _ _) ?_)); (rintro _ _ ⟨rfl, rfl⟩)) | ((with_reducible refine EvCall.mk (HC.mono (l3KindsL_c _ _ (by omega) (by omega)) ?_)); (rintro _ hN ⟨rfl, hX⟩); replace HS := HS.ext hX) | ((with_reducible refine EvCall.mk (HC.mono (l3KindsS_c _ _ (by omega) (by omega)) ?_)); (rintro _ hN ⟨rfl, hX⟩); replace HS := HS.ext hX) | (with_reducible first | refine EvSeq.go ?_ | refine EvIf.tt ?_ | refine EvIf.ff ?_) | ((with_reducible refine Hole.mk (kK ?_)); clear kK) | ((with_reducible refine EvIf.mk (fun c => ?_) (fun c => ?_)) <;> (try simp only [cs_] at c) <;> (try (exfalso; first | omega | (revert c; decide)))) | ((with_reducible refine EvNew.sep HS ?_); intro bN hN HS1 hX; replace HS := HS1; clear HS1) | ((with_reducible refine EvIdx.lit ?_ ?_ ?_); (first | omega | decide); (first | omega | decide)) | ((with_reducible first | refine EvNe.mk ?_ ?_ | refine EvGe.mk ?_ ?_); (first | decide | omega)) | ((with_reducible refine EvLd.q HS (by repeat first | exact .h | apply Spot.t) ?_); (conv => whnf); intro hC) | (with_reducible refine EvLdN.q HS (by repeat first | exact .h | apply Spot.t) (fun hC => ?_)) | ((with_reducible refine EvSt.q HS (by repeat first | exact .h | apply Spot.t) ?_); (conv => whnf); intro hN HS1 hU; replace HS := HS1; clear HS1) | ((with_reducible refine EvKeep.cq (A := keepK _ _ (Hole _) _) HS (by repeat first | exact .h | apply Spot.t) ?_); (conv => whnf); (refine ⟨?_, ?_⟩); assumption; intro hC) | ((with_reducible refine EvKeep.nq (A := keepK _ _ (Hole _) _) HS (by repeat first | exact .h | apply Spot.t) ?_ ?_); assumption; intro hC) | ((fail_if_success with_reducible refine EvKeep.hole ?_); (with_reducible refine EvKeep.abs (fun X kK => ?_)))) <;> conv => whnf)
  have hdo : doI m i = (nx (setR m i.d (i.n * 4096)) (m.pc + 4), 0) := by unfold doI; rw [if_neg (by omega), if_neg (by omega), if_neg (by omega), if_neg (by omega), if_neg (by omega), if_neg (by omega), if_pos (by omega)]
  rw [hdo]
  rw [em] at HS
  exact ⟨x, rfl, HS.tail⟩
set_option maxHeartbeats 8000000 in
theorem l3Do_auipc {h0 h : Hp} {L : List Asn} {x : MH} {m : Mac} {b : Nat} (HS : Sep h0 h (Bx b (x.cs m) 36 :: (x.own m ++ L))) (ok : Ok m) (hfin : m.fin = 0) {i : Ins} (hi : iok i.op i.d i.s i.t i.n = true) (hop : i.op = 44) :
    HC Try.prog 158 [.pointer (some ⟨b, 0, none⟩), i.v] h fun v h' => ∃ x' : MH, v = .int .i64 (doI m i).2 ∧ Sep h0 h' (Bx b (x'.cs (doI m i).1) 36 :: (x'.own (doI m i).1 ++ L)) := by
  have r := HS.tail.rdm
  have hrl := r.rl
  have r0 := ok.r0
  have p0 := ok.p0
  have p1 := ok.p1
  have hd : x.d.n ≤ 65536 := by rw [← r.dl]; exact ok.d1
  have hs : x.s.n ≤ 65536 := by rw [← r.sl]; exact ok.s1
  have bd := ok.db
  have bs := ok.sb
  have iok := iok_d hi
  have hx := ok.reg i.s
  have hy := ok.reg i.t
  unfold getR at hx hy
  have e4 : IntKind.i64.wrap (m.pc + 4) = m.pc + 4 := i64w _ (by omega) (by omega)
  have ea : IntKind.i64.wrap (m.regs.getD i.s.toNat 0 + i.n) = m.regs.getD i.s.toNat 0 + i.n := i64w _ (by omega) (by omega)
  have em : IntKind.i64.wrap (i.n * 4096) = i.n * 4096 := i64w _ (by omega) (by omega)
  have ep : IntKind.i64.wrap (m.pc + i.n * 4096) = m.pc + i.n * 4096 := i64w _ (by omega) (by omega)
  have hf : flowB i.op = false := by unfold flowB; rw [decide_eq_false_iff_not]; omega
  refine hc_of Try.func158 (rfl : Try.f158.body = some _) Try.ntmps158 Try.results158 Try.call158 rfl ?_; conv => whnf
  repeat' ((first | ((with_reducible refine EvDraw.ord (id := 6) (.go 0 (.go 1 (.go 2 (.go 3 (.go 4 (.go 5 (.go 6 (.go 7 (.go 8 (.go 9 (.go 10 (.go 11 (.go 12 (.go 13 (.go 14 (.go 15 (.go 16 (.go 17 (.alt 18 (.go 19 (.go 20 (.go 21 (.go 22 (.go 23 .done))))) .stop))))))))))))))))))) fol ?_ ?_ ?_); kernel_rfl; kernel_rfl) | ((with_reducible refine EvDraw.ord (id := 10) (.go 0 (.go 1 (.go 2 (.go 3 (.go 4 (.go 5 (.go 6 (.go 7 (.go 8 (.go 9 (.go 10 (.alt 11 (.go 12 (.go 13 (.go 14 (.go 15 (.go 16 .done))))) .stop)))))))))))) fol ?_ ?_ ?_); kernel_rfl; kernel_rfl) | ((with_reducible refine EvDraw.ord (id := 13) (.go 0 (.go 1 (.go 2 (.go 4 (.go 5 (.go 6 (.go 7 (.go 8 (.go 9 (.go 10 (.go 11 (.go 12 (.go 13 (.go 14 (.alt 3 (.alt 15 (.alt 16 (.go 17 (.go 18 (.go 19 (.go 20 (.go 21 .done))))) .stop) .stop) .stop))))))))))))))) fol ?_ ?_ ?_); kernel_rfl; kernel_rfl) | ((with_reducible refine EvDraw.ord (id := 18) (.go 0 (.go 1 (.go 2 (.go 4 (.go 5 (.go 6 (.go 7 (.go 8 (.go 9 (.go 10 (.go 11 (.go 12 (.go 13 (.go 14 (.go 16 (.go 17 (.go 18 (.go 19 (.go 20 (.go 21 (.go 22 (.go 23 (.alt 3 (.alt 15 (.alt 24 (.go 25 .done) .stop) .stop) .stop))))))))))))))))))))))) fol ?_ ?_ ?_); kernel_rfl; kernel_rfl) | ((with_reducible refine EvDraw.ord (id := 24) (.go 0 (.go 1 (.go 2 (.go 3 (.go 4 (.go 5 (.go 6 (.go 7 (.go 8 (.go 9 (.go 10 (.alt 11 .done .stop)))))))))))) fol ?_ ?_ ?_); kernel_rfl; kernel_rfl) | ((refine EvCall.mk ((l3Flow_no (Sep.rot1 HS) ok hi hf).mono ?_)); rintro _ hN ⟨rfl, HS1⟩; replace HS := Sep.unrot1 HS1; clear HS1) | ((refine EvCall.mk ((l3Set_c (Sep.rot1 HS) _ _ iok.1 r0).mono ?_)); intro vN hN HS1; replace HS := Sep.unrot1 HS1; clear HS1) | ((refine EvCall.mk ((l3Load_c (Sep.rot1 HS) _ _ hk hd hs bd bs (by omega) (by omega)).mono ?_)); rintro _ hN ⟨rfl, HS1⟩; replace HS := Sep.unrot1 HS1; clear HS1) | ((refine EvCall.mk ((l3Store_c (Sep.rot1 HS) _ _ _ hk hd hs (by omega) (by omega)).mono ?_)); rintro _ hN ⟨rfl, HS1⟩; replace HS := Sep.unrot1 HS1; clear HS1) | ((refine EvKeep.extc (A := keepK _ _ (Hole _) _) hX (by assumption) ?_); intro hC) | ((refine EvKeep.one (A := keepK _ _ (Hole _) _) (by assumption) (rd_cell (HS.rd 6 rfl) (by assumption) (by omega)) ?_)) | ((with_reducible refine EvLd.at_ (by assumption) ?_)) | ((with_reducible refine EvKeep.same ?_)) | ((refine EvIdx.intj (l := [1, 4, 5, 6, 9, 10, 3, 7, 8]) (i.op - 19) (i64w _ (by omega) (by omega)) (Rd.of_blk (HS.pt_i 0 rfl)) rfl (by omega) (by omega) ?_); intro bI oI eI hI; replace HS := HS.tail) | ((refine EvIdx.intj _ rfl (HS.rd 6 rfl) (HS.len 6 rfl).1 (by omega) (by omega) ?_); intro bI oI eI hI) | ((with_reducible refine EvCall.mk (HC.mono (sAlu_c _ _ _ _) ?_)); (rintro _ _ ⟨rfl, rfl⟩)) | ((with_reducible refine EvCall.mk (HC.mono (sWord_c _ _) ?_)); (rintro _ _ ⟨rfl, rfl⟩)) | ((with_reducible refine EvCall.mk (HC.mono (l3KindsL_c _ _ (by omega) (by omega)) ?_)); (rintro _ hN ⟨rfl, hX⟩); replace HS := HS.ext hX) | ((with_reducible refine EvCall.mk (HC.mono (l3KindsS_c _ _ (by omega) (by omega)) ?_)); (rintro _ hN ⟨rfl, hX⟩); replace HS := HS.ext hX) | (with_reducible first | refine EvSeq.go ?_ | refine EvIf.tt ?_ | refine EvIf.ff ?_) | ((with_reducible refine Hole.mk (kK ?_)); clear kK) | ((with_reducible refine EvIf.mk (fun c => ?_) (fun c => ?_)) <;> (try simp only [cs_] at c) <;> (try (exfalso; first | omega | (revert c; decide)))) | ((with_reducible refine EvNew.sep HS ?_); intro bN hN HS1 hX; replace HS := HS1; clear HS1) | ((with_reducible refine EvIdx.lit ?_ ?_ ?_); (first | omega | decide); (first | omega | decide)) | ((with_reducible first | refine EvNe.mk ?_ ?_ | refine EvGe.mk ?_ ?_); (first | decide | omega)) | ((with_reducible refine EvLd.q HS (by repeat first | exact .h | apply Spot.t) ?_); (conv => whnf); intro hC) | (with_reducible refine EvLdN.q HS (by repeat first | exact .h | apply Spot.t) (fun hC => ?_)) | ((with_reducible refine EvSt.q HS (by repeat first | exact .h | apply Spot.t) ?_); (conv => whnf); intro hN HS1 hU; replace HS := HS1; clear HS1) | ((with_reducible refine EvKeep.cq (A := keepK _ _ (Hole _) _) HS (by repeat first | exact .h | apply Spot.t) ?_); (conv => whnf); (refine ⟨?_, ?_⟩); assumption; intro hC) | ((with_reducible refine EvKeep.nq (A := keepK _ _ (Hole _) _) HS (by repeat first | exact .h | apply Spot.t) ?_ ?_); assumption; intro hC) | ((fail_if_success with_reducible refine EvKeep.hole ?_); (with_reducible refine EvKeep.abs (fun X kK => ?_)))) <;> conv => whnf)
  have hdo : doI m i = (nx (setR m i.d (m.pc + i.n * 4096)) (m.pc + 4), 0) := by unfold doI; rw [if_neg (by omega), if_neg (by omega), if_neg (by omega), if_neg (by omega), if_neg (by omega), if_neg (by omega), if_neg (by omega), if_pos (by omega)]
  rw [hdo]
  rw [em, ep] at HS
  exact ⟨x, rfl, HS.tail⟩
set_option maxHeartbeats 8000000 in
theorem l3Do_eb {h0 h : Hp} {L : List Asn} {x : MH} {m : Mac} {b : Nat} (HS : Sep h0 h (Bx b (x.cs m) 36 :: (x.own m ++ L))) (ok : Ok m) (hfin : m.fin = 0) {i : Ins} (hi : iok i.op i.d i.s i.t i.n = true) (hop : i.op = 47) :
    HC Try.prog 158 [.pointer (some ⟨b, 0, none⟩), i.v] h fun v h' => ∃ x' : MH, v = .int .i64 (doI m i).2 ∧ Sep h0 h' (Bx b (x'.cs (doI m i).1) 36 :: (x'.own (doI m i).1 ++ L)) := by
  have r := HS.tail.rdm
  have hrl := r.rl
  have r0 := ok.r0
  have p0 := ok.p0
  have p1 := ok.p1
  have hd : x.d.n ≤ 65536 := by rw [← r.dl]; exact ok.d1
  have hs : x.s.n ≤ 65536 := by rw [← r.sl]; exact ok.s1
  have bd := ok.db
  have bs := ok.sb
  have iok := iok_d hi
  have hx := ok.reg i.s
  have hy := ok.reg i.t
  unfold getR at hx hy
  have e4 : IntKind.i64.wrap (m.pc + 4) = m.pc + 4 := i64w _ (by omega) (by omega)
  have ea : IntKind.i64.wrap (m.regs.getD i.s.toNat 0 + i.n) = m.regs.getD i.s.toNat 0 + i.n := i64w _ (by omega) (by omega)
  have em : IntKind.i64.wrap (i.n * 4096) = i.n * 4096 := i64w _ (by omega) (by omega)
  have ep : IntKind.i64.wrap (m.pc + i.n * 4096) = m.pc + i.n * 4096 := i64w _ (by omega) (by omega)
  have hf : flowB i.op = false := by unfold flowB; rw [decide_eq_false_iff_not]; omega
  refine hc_of Try.func158 (rfl : Try.f158.body = some _) Try.ntmps158 Try.results158 Try.call158 rfl ?_; conv => whnf
  repeat' ((first | ((with_reducible refine EvDraw.ord (id := 6) (.go 0 (.go 1 (.go 2 (.go 3 (.go 4 (.go 5 (.go 6 (.go 7 (.go 8 (.go 9 (.go 10 (.go 11 (.go 12 (.go 13 (.go 14 (.go 15 (.go 16 (.go 17 (.alt 18 (.go 19 (.go 20 (.go 21 (.go 22 (.go 23 .done))))) .stop))))))))))))))))))) fol ?_ ?_ ?_); kernel_rfl; kernel_rfl) | ((with_reducible refine EvDraw.ord (id := 10) (.go 0 (.go 1 (.go 2 (.go 3 (.go 4 (.go 5 (.go 6 (.go 7 (.go 8 (.go 9 (.go 10 (.alt 11 (.go 12 (.go 13 (.go 14 (.go 15 (.go 16 .done))))) .stop)))))))))))) fol ?_ ?_ ?_); kernel_rfl; kernel_rfl) | ((with_reducible refine EvDraw.ord (id := 13) (.go 0 (.go 1 (.go 2 (.go 4 (.go 5 (.go 6 (.go 7 (.go 8 (.go 9 (.go 10 (.go 11 (.go 12 (.go 13 (.go 14 (.alt 3 (.alt 15 (.alt 16 (.go 17 (.go 18 (.go 19 (.go 20 (.go 21 .done))))) .stop) .stop) .stop))))))))))))))) fol ?_ ?_ ?_); kernel_rfl; kernel_rfl) | ((with_reducible refine EvDraw.ord (id := 18) (.go 0 (.go 1 (.go 2 (.go 4 (.go 5 (.go 6 (.go 7 (.go 8 (.go 9 (.go 10 (.go 11 (.go 12 (.go 13 (.go 14 (.go 16 (.go 17 (.go 18 (.go 19 (.go 20 (.go 21 (.go 22 (.go 23 (.alt 3 (.alt 15 (.alt 24 (.go 25 .done) .stop) .stop) .stop))))))))))))))))))))))) fol ?_ ?_ ?_); kernel_rfl; kernel_rfl) | ((with_reducible refine EvDraw.ord (id := 24) (.go 0 (.go 1 (.go 2 (.go 3 (.go 4 (.go 5 (.go 6 (.go 7 (.go 8 (.go 9 (.go 10 (.alt 11 .done .stop)))))))))))) fol ?_ ?_ ?_); kernel_rfl; kernel_rfl) | ((refine EvCall.mk ((l3Flow_no (Sep.rot1 HS) ok hi hf).mono ?_)); rintro _ hN ⟨rfl, HS1⟩; replace HS := Sep.unrot1 HS1; clear HS1) | ((refine EvCall.mk ((l3Set_c (Sep.rot1 HS) _ _ iok.1 r0).mono ?_)); intro vN hN HS1; replace HS := Sep.unrot1 HS1; clear HS1) | ((refine EvCall.mk ((l3Load_c (Sep.rot1 HS) _ _ hk hd hs bd bs (by omega) (by omega)).mono ?_)); rintro _ hN ⟨rfl, HS1⟩; replace HS := Sep.unrot1 HS1; clear HS1) | ((refine EvCall.mk ((l3Store_c (Sep.rot1 HS) _ _ _ hk hd hs (by omega) (by omega)).mono ?_)); rintro _ hN ⟨rfl, HS1⟩; replace HS := Sep.unrot1 HS1; clear HS1) | ((refine EvKeep.extc (A := keepK _ _ (Hole _) _) hX (by assumption) ?_); intro hC) | ((refine EvKeep.one (A := keepK _ _ (Hole _) _) (by assumption) (rd_cell (HS.rd 6 rfl) (by assumption) (by omega)) ?_)) | ((with_reducible refine EvLd.at_ (by assumption) ?_)) | ((with_reducible refine EvKeep.same ?_)) | ((refine EvIdx.intj (l := [1, 4, 5, 6, 9, 10, 3, 7, 8]) (i.op - 19) (i64w _ (by omega) (by omega)) (Rd.of_blk (HS.pt_i 0 rfl)) rfl (by omega) (by omega) ?_); intro bI oI eI hI; replace HS := HS.tail) | ((refine EvIdx.intj _ rfl (HS.rd 6 rfl) (HS.len 6 rfl).1 (by omega) (by omega) ?_); intro bI oI eI hI) | ((with_reducible refine EvCall.mk (HC.mono (sAlu_c _ _ _ _) ?_)); (rintro _ _ ⟨rfl, rfl⟩)) | ((with_reducible refine EvCall.mk (HC.mono (sWord_c _ _) ?_)); (rintro _ _ ⟨rfl, rfl⟩)) | ((with_reducible refine EvCall.mk (HC.mono (l3KindsL_c _ _ (by omega) (by omega)) ?_)); (rintro _ hN ⟨rfl, hX⟩); replace HS := HS.ext hX) | ((with_reducible refine EvCall.mk (HC.mono (l3KindsS_c _ _ (by omega) (by omega)) ?_)); (rintro _ hN ⟨rfl, hX⟩); replace HS := HS.ext hX) | (with_reducible first | refine EvSeq.go ?_ | refine EvIf.tt ?_ | refine EvIf.ff ?_) | ((with_reducible refine Hole.mk (kK ?_)); clear kK) | ((with_reducible refine EvIf.mk (fun c => ?_) (fun c => ?_)) <;> (try simp only [cs_] at c) <;> (try (exfalso; first | omega | (revert c; decide)))) | ((with_reducible refine EvNew.sep HS ?_); intro bN hN HS1 hX; replace HS := HS1; clear HS1) | ((with_reducible refine EvIdx.lit ?_ ?_ ?_); (first | omega | decide); (first | omega | decide)) | ((with_reducible first | refine EvNe.mk ?_ ?_ | refine EvGe.mk ?_ ?_); (first | decide | omega)) | ((with_reducible refine EvLd.q HS (by repeat first | exact .h | apply Spot.t) ?_); (conv => whnf); intro hC) | (with_reducible refine EvLdN.q HS (by repeat first | exact .h | apply Spot.t) (fun hC => ?_)) | ((with_reducible refine EvSt.q HS (by repeat first | exact .h | apply Spot.t) ?_); (conv => whnf); intro hN HS1 hU; replace HS := HS1; clear HS1) | ((with_reducible refine EvKeep.cq (A := keepK _ _ (Hole _) _) HS (by repeat first | exact .h | apply Spot.t) ?_); (conv => whnf); (refine ⟨?_, ?_⟩); assumption; intro hC) | ((with_reducible refine EvKeep.nq (A := keepK _ _ (Hole _) _) HS (by repeat first | exact .h | apply Spot.t) ?_ ?_); assumption; intro hC) | ((fail_if_success with_reducible refine EvKeep.hole ?_); (with_reducible refine EvKeep.abs (fun X kK => ?_)))) <;> conv => whnf)
  have hdo : doI m i = (m, 5) := by unfold doI; rw [if_neg (by omega), if_neg (by omega), if_neg (by omega), if_neg (by omega), if_neg (by omega), if_neg (by omega), if_neg (by omega), if_neg (by omega), if_neg (by omega), if_pos (by omega)]
  rw [hdo]
  exact ⟨x, rfl, HS.tail⟩
set_option maxHeartbeats 8000000 in
theorem l3Do_ec {h0 h : Hp} {L : List Asn} {x : MH} {m : Mac} {b : Nat} (HS : Sep h0 h (Bx b (x.cs m) 36 :: (x.own m ++ L))) (ok : Ok m) (hfin : m.fin = 0) {i : Ins} (hi : iok i.op i.d i.s i.t i.n = true) (hop : i.op = 46) :
    HC Try.prog 158 [.pointer (some ⟨b, 0, none⟩), i.v] h fun v h' => ∃ x' : MH, v = .int .i64 (doI m i).2 ∧ Sep h0 h' (Bx b (x'.cs (doI m i).1) 36 :: (x'.own (doI m i).1 ++ L)) := by
  have r := HS.tail.rdm
  have hrl := r.rl
  have r0 := ok.r0
  have p0 := ok.p0
  have p1 := ok.p1
  have hd : x.d.n ≤ 65536 := by rw [← r.dl]; exact ok.d1
  have hs : x.s.n ≤ 65536 := by rw [← r.sl]; exact ok.s1
  have bd := ok.db
  have bs := ok.sb
  have iok := iok_d hi
  have hx := ok.reg i.s
  have hy := ok.reg i.t
  unfold getR at hx hy
  have e4 : IntKind.i64.wrap (m.pc + 4) = m.pc + 4 := i64w _ (by omega) (by omega)
  have ea : IntKind.i64.wrap (m.regs.getD i.s.toNat 0 + i.n) = m.regs.getD i.s.toNat 0 + i.n := i64w _ (by omega) (by omega)
  have em : IntKind.i64.wrap (i.n * 4096) = i.n * 4096 := i64w _ (by omega) (by omega)
  have ep : IntKind.i64.wrap (m.pc + i.n * 4096) = m.pc + i.n * 4096 := i64w _ (by omega) (by omega)
  have hf : flowB i.op = false := by unfold flowB; rw [decide_eq_false_iff_not]; omega
  refine hc_of Try.func158 (rfl : Try.f158.body = some _) Try.ntmps158 Try.results158 Try.call158 rfl ?_; conv => whnf
  repeat' ((first | ((with_reducible refine EvDraw.ord (id := 6) (.go 0 (.go 1 (.go 2 (.go 3 (.go 4 (.go 5 (.go 6 (.go 7 (.go 8 (.go 9 (.go 10 (.go 11 (.go 12 (.go 13 (.go 14 (.go 15 (.go 16 (.go 17 (.alt 18 (.go 19 (.go 20 (.go 21 (.go 22 (.go 23 .done))))) .stop))))))))))))))))))) fol ?_ ?_ ?_); kernel_rfl; kernel_rfl) | ((with_reducible refine EvDraw.ord (id := 10) (.go 0 (.go 1 (.go 2 (.go 3 (.go 4 (.go 5 (.go 6 (.go 7 (.go 8 (.go 9 (.go 10 (.alt 11 (.go 12 (.go 13 (.go 14 (.go 15 (.go 16 .done))))) .stop)))))))))))) fol ?_ ?_ ?_); kernel_rfl; kernel_rfl) | ((with_reducible refine EvDraw.ord (id := 13) (.go 0 (.go 1 (.go 2 (.go 4 (.go 5 (.go 6 (.go 7 (.go 8 (.go 9 (.go 10 (.go 11 (.go 12 (.go 13 (.go 14 (.alt 3 (.alt 15 (.alt 16 (.go 17 (.go 18 (.go 19 (.go 20 (.go 21 .done))))) .stop) .stop) .stop))))))))))))))) fol ?_ ?_ ?_); kernel_rfl; kernel_rfl) | ((with_reducible refine EvDraw.ord (id := 18) (.go 0 (.go 1 (.go 2 (.go 4 (.go 5 (.go 6 (.go 7 (.go 8 (.go 9 (.go 10 (.go 11 (.go 12 (.go 13 (.go 14 (.go 16 (.go 17 (.go 18 (.go 19 (.go 20 (.go 21 (.go 22 (.go 23 (.alt 3 (.alt 15 (.alt 24 (.go 25 .done) .stop) .stop) .stop))))))))))))))))))))))) fol ?_ ?_ ?_); kernel_rfl; kernel_rfl) | ((with_reducible refine EvDraw.ord (id := 24) (.go 0 (.go 1 (.go 2 (.go 3 (.go 4 (.go 5 (.go 6 (.go 7 (.go 8 (.go 9 (.go 10 (.alt 11 .done .stop)))))))))))) fol ?_ ?_ ?_); kernel_rfl; kernel_rfl) | ((refine EvCall.mk ((l3Flow_no (Sep.rot1 HS) ok hi hf).mono ?_)); rintro _ hN ⟨rfl, HS1⟩; replace HS := Sep.unrot1 HS1; clear HS1) | ((refine EvCall.mk ((l3Set_c (Sep.rot1 HS) _ _ iok.1 r0).mono ?_)); intro vN hN HS1; replace HS := Sep.unrot1 HS1; clear HS1) | ((refine EvCall.mk ((l3Load_c (Sep.rot1 HS) _ _ hk hd hs bd bs (by omega) (by omega)).mono ?_)); rintro _ hN ⟨rfl, HS1⟩; replace HS := Sep.unrot1 HS1; clear HS1) | ((refine EvCall.mk ((l3Store_c (Sep.rot1 HS) _ _ _ hk hd hs (by omega) (by omega)).mono ?_)); rintro _ hN ⟨rfl, HS1⟩; replace HS := Sep.unrot1 HS1; clear HS1) | ((refine EvKeep.extc (A := keepK _ _ (Hole _) _) hX (by assumption) ?_); intro hC) | ((refine EvKeep.one (A := keepK _ _ (Hole _) _) (by assumption) (rd_cell (HS.rd 6 rfl) (by assumption) (by omega)) ?_)) | ((with_reducible refine EvLd.at_ (by assumption) ?_)) | ((with_reducible refine EvKeep.same ?_)) | ((refine EvIdx.intj (l := [1, 4, 5, 6, 9, 10, 3, 7, 8]) (i.op - 19) (i64w _ (by omega) (by omega)) (Rd.of_blk (HS.pt_i 0 rfl)) rfl (by omega) (by omega) ?_); intro bI oI eI hI; replace HS := HS.tail) | ((refine EvIdx.intj _ rfl (HS.rd 6 rfl) (HS.len 6 rfl).1 (by omega) (by omega) ?_); intro bI oI eI hI) | ((with_reducible refine EvCall.mk (HC.mono (sAlu_c _ _ _ _) ?_)); (rintro _ _ ⟨rfl, rfl⟩)) | ((with_reducible refine EvCall.mk (HC.mono (sWord_c _ _) ?_)); (rintro _ _ ⟨rfl, rfl⟩)) | ((with_reducible refine EvCall.mk (HC.mono (l3KindsL_c _ _ (by omega) (by omega)) ?_)); (rintro _ hN ⟨rfl, hX⟩); replace HS := HS.ext hX) | ((with_reducible refine EvCall.mk (HC.mono (l3KindsS_c _ _ (by omega) (by omega)) ?_)); (rintro _ hN ⟨rfl, hX⟩); replace HS := HS.ext hX) | (with_reducible first | refine EvSeq.go ?_ | refine EvIf.tt ?_ | refine EvIf.ff ?_) | ((with_reducible refine Hole.mk (kK ?_)); clear kK) | ((with_reducible refine EvIf.mk (fun c => ?_) (fun c => ?_)) <;> (try simp only [cs_] at c) <;> (try (exfalso; first | omega | (revert c; decide)))) | ((with_reducible refine EvNew.sep HS ?_); intro bN hN HS1 hX; replace HS := HS1; clear HS1) | ((with_reducible refine EvIdx.lit ?_ ?_ ?_); (first | omega | decide); (first | omega | decide)) | ((with_reducible first | refine EvNe.mk ?_ ?_ | refine EvGe.mk ?_ ?_); (first | decide | omega)) | ((with_reducible refine EvLd.q HS (by repeat first | exact .h | apply Spot.t) ?_); (conv => whnf); intro hC) | (with_reducible refine EvLdN.q HS (by repeat first | exact .h | apply Spot.t) (fun hC => ?_)) | ((with_reducible refine EvSt.q HS (by repeat first | exact .h | apply Spot.t) ?_); (conv => whnf); intro hN HS1 hU; replace HS := HS1; clear HS1) | ((with_reducible refine EvKeep.cq (A := keepK _ _ (Hole _) _) HS (by repeat first | exact .h | apply Spot.t) ?_); (conv => whnf); (refine ⟨?_, ?_⟩); assumption; intro hC) | ((with_reducible refine EvKeep.nq (A := keepK _ _ (Hole _) _) HS (by repeat first | exact .h | apply Spot.t) ?_ ?_); assumption; intro hC) | ((fail_if_success with_reducible refine EvKeep.hole ?_); (with_reducible refine EvKeep.abs (fun X kK => ?_)))) <;> conv => whnf)
  refine EvCall.mk ((l3Ecall_c (Sep.rot1 HS) ok).mono ?_)
  rintro _ hN ⟨x', rfl, HS1⟩
  replace HS := Sep.unrot1 HS1
  clear HS1
  have hdo : doI m i = ecl m := by unfold doI; rw [if_neg (by omega), if_neg (by omega), if_neg (by omega), if_neg (by omega), if_neg (by omega), if_neg (by omega), if_neg (by omega), if_neg (by omega), if_neg (by omega), if_neg (by omega)]
  rw [ecl_of m hfin] at hdo
  conv => whnf
  repeat' ((first | ((with_reducible refine EvDraw.ord (id := 6) (.go 0 (.go 1 (.go 2 (.go 3 (.go 4 (.go 5 (.go 6 (.go 7 (.go 8 (.go 9 (.go 10 (.go 11 (.go 12 (.go 13 (.go 14 (.go 15 (.go 16 (.go 17 (.alt 18 (.go 19 (.go 20 (.go 21 (.go 22 (.go 23 .done))))) .stop))))))))))))))))))) fol ?_ ?_ ?_); kernel_rfl; kernel_rfl) | ((with_reducible refine EvDraw.ord (id := 10) (.go 0 (.go 1 (.go 2 (.go 3 (.go 4 (.go 5 (.go 6 (.go 7 (.go 8 (.go 9 (.go 10 (.alt 11 (.go 12 (.go 13 (.go 14 (.go 15 (.go 16 .done))))) .stop)))))))))))) fol ?_ ?_ ?_); kernel_rfl; kernel_rfl) | ((with_reducible refine EvDraw.ord (id := 13) (.go 0 (.go 1 (.go 2 (.go 4 (.go 5 (.go 6 (.go 7 (.go 8 (.go 9 (.go 10 (.go 11 (.go 12 (.go 13 (.go 14 (.alt 3 (.alt 15 (.alt 16 (.go 17 (.go 18 (.go 19 (.go 20 (.go 21 .done))))) .stop) .stop) .stop))))))))))))))) fol ?_ ?_ ?_); kernel_rfl; kernel_rfl) | ((with_reducible refine EvDraw.ord (id := 18) (.go 0 (.go 1 (.go 2 (.go 4 (.go 5 (.go 6 (.go 7 (.go 8 (.go 9 (.go 10 (.go 11 (.go 12 (.go 13 (.go 14 (.go 16 (.go 17 (.go 18 (.go 19 (.go 20 (.go 21 (.go 22 (.go 23 (.alt 3 (.alt 15 (.alt 24 (.go 25 .done) .stop) .stop) .stop))))))))))))))))))))))) fol ?_ ?_ ?_); kernel_rfl; kernel_rfl) | ((with_reducible refine EvDraw.ord (id := 24) (.go 0 (.go 1 (.go 2 (.go 3 (.go 4 (.go 5 (.go 6 (.go 7 (.go 8 (.go 9 (.go 10 (.alt 11 .done .stop)))))))))))) fol ?_ ?_ ?_); kernel_rfl; kernel_rfl) | (with_reducible first | refine EvSeq.go ?_ | refine EvIf.tt ?_ | refine EvIf.ff ?_) | ((with_reducible refine Hole.mk (kK ?_)); clear kK) | ((with_reducible refine EvIf.mk (fun c => ?_) (fun c => ?_)) <;> (try simp only [cs_] at c) <;> (try (exfalso; first | omega | (revert c; decide)))) | ((with_reducible refine EvNew.sep HS ?_); intro bN hN HS1 hX; replace HS := HS1; clear HS1) | ((with_reducible refine EvIdx.lit ?_ ?_ ?_); (first | omega | decide); (first | omega | decide)) | ((with_reducible first | refine EvNe.mk ?_ ?_ | refine EvGe.mk ?_ ?_); (first | decide | omega)) | ((with_reducible refine EvLd.q HS (by repeat first | exact .h | apply Spot.t) ?_); (conv => whnf); intro hC) | (with_reducible refine EvLdN.q HS (by repeat first | exact .h | apply Spot.t) (fun hC => ?_)) | ((with_reducible refine EvSt.q HS (by repeat first | exact .h | apply Spot.t) ?_); (conv => whnf); intro hN HS1 hU; replace HS := HS1; clear HS1) | ((with_reducible refine EvKeep.cq (A := keepK _ _ (Hole _) _) HS (by repeat first | exact .h | apply Spot.t) ?_); (conv => whnf); (refine ⟨?_, ?_⟩); assumption; intro hC) | ((with_reducible refine EvKeep.nq (A := keepK _ _ (Hole _) _) HS (by repeat first | exact .h | apply Spot.t) ?_ ?_); assumption; intro hC) | ((fail_if_success with_reducible refine EvKeep.hole ?_); (with_reducible refine EvKeep.abs (fun X kK => ?_)))) <;> conv => whnf)
  all_goals
    rw [hdo]
    clear hdo
  · rw [if_pos (.inl c)]
    exact ⟨x', rfl, HS.tail⟩
  · rw [if_pos (.inr c)]
    exact ⟨x', rfl, HS.tail⟩
  · rw [if_neg (by rintro (h | h) <;> exact h (by assumption))]
    exact ⟨x', rfl, HS.tail⟩
theorem l3Do_c {h0 h : Hp} {L : List Asn} {x : MH} {m : Mac} {b : Nat} (HS : Sep h0 h (Bx b (x.cs m) 36 :: (x.own m ++ L))) (ok : Ok m) (hfin : m.fin = 0) {i : Ins} (hi : iok i.op i.d i.s i.t i.n = true) :
    HC Try.prog 158 [.pointer (some ⟨b, 0, none⟩), i.v] h fun v h' => ∃ x' : MH, v = .int .i64 (doI m i).2 ∧ Sep h0 h' (Bx b (x'.cs (doI m i).1) 36 :: (x'.own (doI m i).1 ++ L)) := by
  have q := iok_d hi
  cases hf : flowB i.op with
  | true => exact l3Do_flow HS ok hfin hi hf
  | false =>
    unfold flowB at hf
    rw [decide_eq_false_iff_not] at hf
    by_cases h1 : i.op ≤ 18
    · exact l3Do_alu HS ok hfin hi h1
    by_cases h2 : i.op ≤ 27
    · exact l3Do_imm HS ok hfin hi ⟨by omega, h2⟩
    by_cases h3 : i.op ≤ 32
    · exact l3Do_ld HS ok hfin hi ⟨by omega, h3⟩
    by_cases h5 : i.op ≤ 36
    · exact l3Do_st HS ok hfin hi ⟨by omega, h5⟩
    by_cases h7 : i.op = 43
    · exact l3Do_lui HS ok hfin hi h7
    by_cases h8 : i.op = 44
    · exact l3Do_auipc HS ok hfin hi h8
    by_cases h10 : i.op = 47
    · exact l3Do_eb HS ok hfin hi h10
    · exact l3Do_ec HS ok hfin hi (by omega)
end Go.Proofs.Ythndggachjdkfaa
