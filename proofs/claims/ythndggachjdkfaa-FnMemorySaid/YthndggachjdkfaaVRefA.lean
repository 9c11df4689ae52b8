/- Walks: the reference's step: registers, branches, jumps. -/
import Derived.Test.YthndggachjdkfaaVStepI
namespace Go.Proofs.Ythndggachjdkfaa
open Go.RowKit
set_option maxRecDepth 20000
set_option linter.unusedSimpArgs false
set_option linter.unusedVariables false
theorem Sep.rot1 {h0 h : Hp} {A M o i s d r c : Asn} {L : List Asn} (t : Sep h0 h (A :: M :: o :: i :: s :: d :: r :: c :: L)) : Sep h0 h (M :: o :: i :: s :: d :: r :: c :: A :: L) :=
  ((((((t.front 7 rfl).front 7 rfl).front 7 rfl).front 7 rfl).front 7 rfl).front 7 rfl).front 7 rfl
theorem Sep.unrot1 {h0 h : Hp} {A M o i s d r c : Asn} {L : List Asn} (t : Sep h0 h (M :: o :: i :: s :: d :: r :: c :: A :: L)) : Sep h0 h (A :: M :: o :: i :: s :: d :: r :: c :: L) := t.front 7 rfl
theorem rset_mod (l : List Int) (d v : Int) : rset l d (v % 4294967296) = rset l d v := by unfold rset; rw [Int.emod_emod_of_dvd _ (Int.dvd_refl _)]
set_option maxHeartbeats 4000000 in
theorem l3Set_c {h0 h : Hp} {L : List Asn} {x : MH} {m : Mac} {b : Nat} (HS : Sep h0 h (Bx b (x.cs m) 36 :: (x.own m ++ L))) (d w : Int) (hd : 0 ≤ d ∧ d ≤ 31) (hl : m.regs.length = 32) :
    HC Try.prog 165 [.pointer (some ⟨b, 0, none⟩), .int .i64 d, .int .i64 w] h fun v h' => Sep h0 h' (Bx b (x.cs m) 36 :: (x.own (setR m d w) ++ L)) := by
  have hrl := (HS.len 5 rfl).1
  rw [List.length_map, hl] at hrl
  refine hc_of Try.func165 (rfl : Try.f165.body = some _) Try.ntmps165 Try.results165 Try.call165 rfl ?_; conv => whnf
  repeat' ((first | ((with_reducible refine EvDraw.ord (id := 1) (.go 0 (.go 1 (.go 2 (.go 3 (.go 4 (.go 5 (.alt 6 (.go 7 (.alt 8 .done .stop)) .stop))))))) fol ?_ ?_ ?_); kernel_rfl; kernel_rfl) | ((with_reducible refine EvKeep.same ?_)) | ((with_reducible refine EvCall.mk (HC.mono (sWord_c _ _) ?_)); (rintro _ _ ⟨rfl, rfl⟩)) | (with_reducible first | refine EvSeq.go ?_ | refine EvIf.tt ?_ | refine EvIf.ff ?_) | ((with_reducible refine Hole.mk (kK ?_)); clear kK) | ((with_reducible refine EvIf.mk (fun c => ?_) (fun c => ?_)) <;> (try simp only [cs_] at c) <;> (try (exfalso; first | omega | (revert c; decide)))) | ((with_reducible refine EvNew.sep HS ?_); intro bN hN HS1 hX; replace HS := HS1; clear HS1) | ((with_reducible refine EvIdx.lit ?_ ?_ ?_); (first | omega | decide); (first | omega | decide)) | ((with_reducible first | refine EvNe.mk ?_ ?_ | refine EvGe.mk ?_ ?_); (first | decide | omega)) | ((with_reducible refine EvLd.q HS (by repeat first | exact .h | apply Spot.t) ?_); (conv => whnf); intro hC) | (with_reducible refine EvLdN.q HS (by repeat first | exact .h | apply Spot.t) (fun hC => ?_)) | ((with_reducible refine EvSt.q HS (by repeat first | exact .h | apply Spot.t) ?_); (conv => whnf); intro hN HS1 hU; replace HS := HS1; clear HS1) | ((with_reducible refine EvKeep.cq (A := keepK _ _ (Hole _) _) HS (by repeat first | exact .h | apply Spot.t) ?_); (conv => whnf); (refine ⟨?_, ?_⟩); assumption; intro hC) | ((with_reducible refine EvKeep.nq (A := keepK _ _ (Hole _) _) HS (by repeat first | exact .h | apply Spot.t) ?_ ?_); assumption; intro hC) | ((fail_if_success with_reducible refine EvKeep.hole ?_); (with_reducible refine EvKeep.abs (fun X kK => ?_)))) <;> conv => whnf)
  · refine EvIdx.rd (HS.rd 5 rfl) (HS.len 5 rfl).1 (by omega) (by omega) ?_
    intro bI oI eI hI
    conv => whnf
    refine EvSt.sli HS 5 rfl eI (by omega) ?_
    intro h' HS
    conv => whnf
    have e : rset m.regs d w = m.regs.set (d.toNat * 1) (w % 4294967296) := by unfold rset; rw [if_neg (by omega), Nat.mul_one]
    have HS2 : Sep h0 h' (Bx b (x.cs m) 36 :: ([SlB x.o m.out, SlB x.i m.inp, SlB x.s m.stack, SlB x.d m.data, Sl 3 x.r.a x.r.n x.r.c (ints .i64 (m.regs.set (d.toNat * 1) (w % 4294967296))), SlI x.c m.code] ++ L)) := by
      rw [← ints_set]
      exact HS
    rw [← e] at HS2
    exact HS2
  · have e : setR m d w = m := by
      obtain rfl : d = 0 := by omega
      rfl
    rw [e]
    exact HS
theorem l3Taken_c (op a b : Int) (h : Hp) (h0 : 37 ≤ op) (h1 : op ≤ 42) : HC Try.prog 168 [.int .i64 op, .int .i64 a, .int .i64 b] h fun v h' => v = .bool (taken op a b) ∧ h' = h := by
  obtain rfl | rfl | rfl | rfl | rfl | rfl : op = 37 ∨ op = 38 ∨ op = 39 ∨ op = 40 ∨ op = 41 ∨ op = 42 := by omega
  all_goals
    refine hc_of Try.func168 (rfl : Try.f168.body = some _) Try.ntmps168 Try.results168 Try.call168 rfl ?_; have HS := Sep.nil h; conv => whnf
    repeat' ((first | ((with_reducible refine EvCall.mk (HC.mono (sSigned_c _ _) ?_)); (rintro _ _ ⟨rfl, rfl⟩)) | (with_reducible first | refine EvSeq.go ?_ | refine EvIf.tt ?_ | refine EvIf.ff ?_) | ((with_reducible refine Hole.mk (kK ?_)); clear kK) | ((with_reducible refine EvIf.mk (fun c => ?_) (fun c => ?_)) <;> (try simp only [cs_] at c) <;> (try (exfalso; first | omega | (revert c; decide)))) | ((with_reducible refine EvNew.sep HS ?_); intro bN hN HS1 hX; replace HS := HS1; clear HS1) | ((with_reducible refine EvIdx.lit ?_ ?_ ?_); (first | omega | decide); (first | omega | decide)) | ((with_reducible first | refine EvNe.mk ?_ ?_ | refine EvGe.mk ?_ ?_); (first | decide | omega)) | ((with_reducible refine EvLd.q HS (by repeat first | exact .h | apply Spot.t) ?_); (conv => whnf); intro hC) | (with_reducible refine EvLdN.q HS (by repeat first | exact .h | apply Spot.t) (fun hC => ?_)) | ((with_reducible refine EvSt.q HS (by repeat first | exact .h | apply Spot.t) ?_); (conv => whnf); intro hN HS1 hU; replace HS := HS1; clear HS1) | ((with_reducible refine EvKeep.cq (A := keepK _ _ (Hole _) _) HS (by repeat first | exact .h | apply Spot.t) ?_); (conv => whnf); (refine ⟨?_, ?_⟩); assumption; intro hC) | ((with_reducible refine EvKeep.nq (A := keepK _ _ (Hole _) _) HS (by repeat first | exact .h | apply Spot.t) ?_ ?_); assumption; intro hC) | ((fail_if_success with_reducible refine EvKeep.hole ?_); (with_reducible refine EvKeep.abs (fun X kK => ?_)))) <;> conv => whnf)
  all_goals
    refine ⟨congrArg Value.bool ?_, rfl⟩
    unfold taken
    first
    | (simp only [Int.reduceEq, if_true, if_false]; done)
    | (simp only [Int.reduceEq, if_true, if_false]; rfl)
    | (simp; done)
    | (simp <;> omega)
    | (rw [Bool.eq_iff_iff]; simp <;> omega)
theorem l3KindsL_c (op : Int) (h : Hp) (h0 : 28 ≤ op) (h1 : op ≤ 32) : HC Try.prog 166 [.int .i64 op] h fun v h' => v = .int .i64 (ldK op) ∧ Ext h h' := by
  obtain rfl | rfl | rfl | rfl | rfl : op = 28 ∨ op = 29 ∨ op = 30 ∨ op = 31 ∨ op = 32 := by omega
  all_goals
    refine hc_of Try.func166 (rfl : Try.f166.body = some _) Try.ntmps166 Try.results166 Try.call166 rfl ?_; have HS := Sep.nil h; conv => whnf
    repeat' ((first | (with_reducible first | refine EvSeq.go ?_ | refine EvIf.tt ?_ | refine EvIf.ff ?_) | ((with_reducible refine Hole.mk (kK ?_)); clear kK) | ((with_reducible refine EvIf.mk (fun c => ?_) (fun c => ?_)) <;> (try simp only [cs_] at c) <;> (try (exfalso; first | omega | (revert c; decide)))) | ((with_reducible refine EvNew.sep HS ?_); intro bN hN HS1 hX; replace HS := HS1; clear HS1) | ((with_reducible refine EvIdx.lit ?_ ?_ ?_); (first | omega | decide); (first | omega | decide)) | ((with_reducible first | refine EvNe.mk ?_ ?_ | refine EvGe.mk ?_ ?_); (first | decide | omega)) | ((with_reducible refine EvLd.q HS (by repeat first | exact .h | apply Spot.t) ?_); (conv => whnf); intro hC) | (with_reducible refine EvLdN.q HS (by repeat first | exact .h | apply Spot.t) (fun hC => ?_)) | ((with_reducible refine EvSt.q HS (by repeat first | exact .h | apply Spot.t) ?_); (conv => whnf); intro hN HS1 hU; replace HS := HS1; clear HS1) | ((with_reducible refine EvKeep.cq (A := keepK _ _ (Hole _) _) HS (by repeat first | exact .h | apply Spot.t) ?_); (conv => whnf); (refine ⟨?_, ?_⟩); assumption; intro hC) | ((with_reducible refine EvKeep.nq (A := keepK _ _ (Hole _) _) HS (by repeat first | exact .h | apply Spot.t) ?_ ?_); assumption; intro hC) | ((fail_if_success with_reducible refine EvKeep.hole ?_); (with_reducible refine EvKeep.abs (fun X kK => ?_)))) <;> conv => whnf)
    exact ⟨rfl, HS.to_ext⟩
theorem l3KindsS_c (op : Int) (h : Hp) (h0 : 34 ≤ op) (h1 : op ≤ 36) : HC Try.prog 166 [.int .i64 op] h fun v h' => v = .int .i64 (stK op) ∧ Ext h h' := by
  obtain rfl | rfl | rfl : op = 34 ∨ op = 35 ∨ op = 36 := by omega
  all_goals
    refine hc_of Try.func166 (rfl : Try.f166.body = some _) Try.ntmps166 Try.results166 Try.call166 rfl ?_; have HS := Sep.nil h; conv => whnf
    repeat' ((first | (with_reducible first | refine EvSeq.go ?_ | refine EvIf.tt ?_ | refine EvIf.ff ?_) | ((with_reducible refine Hole.mk (kK ?_)); clear kK) | ((with_reducible refine EvIf.mk (fun c => ?_) (fun c => ?_)) <;> (try simp only [cs_] at c) <;> (try (exfalso; first | omega | (revert c; decide)))) | ((with_reducible refine EvNew.sep HS ?_); intro bN hN HS1 hX; replace HS := HS1; clear HS1) | ((with_reducible refine EvIdx.lit ?_ ?_ ?_); (first | omega | decide); (first | omega | decide)) | ((with_reducible first | refine EvNe.mk ?_ ?_ | refine EvGe.mk ?_ ?_); (first | decide | omega)) | ((with_reducible refine EvLd.q HS (by repeat first | exact .h | apply Spot.t) ?_); (conv => whnf); intro hC) | (with_reducible refine EvLdN.q HS (by repeat first | exact .h | apply Spot.t) (fun hC => ?_)) | ((with_reducible refine EvSt.q HS (by repeat first | exact .h | apply Spot.t) ?_); (conv => whnf); intro hN HS1 hU; replace HS := HS1; clear HS1) | ((with_reducible refine EvKeep.cq (A := keepK _ _ (Hole _) _) HS (by repeat first | exact .h | apply Spot.t) ?_); (conv => whnf); (refine ⟨?_, ?_⟩); assumption; intro hC) | ((with_reducible refine EvKeep.nq (A := keepK _ _ (Hole _) _) HS (by repeat first | exact .h | apply Spot.t) ?_ ?_); assumption; intro hC) | ((fail_if_success with_reducible refine EvKeep.hole ?_); (with_reducible refine EvKeep.abs (fun X kK => ?_)))) <;> conv => whnf)
    exact ⟨rfl, HS.to_ext⟩
/-- where a jump goes -/
def flowP (m : Mac) (i : Ins) : Int := if i.op ≤ 42 then (if i.op = 33 then getR m i.s + i.n - (getR m i.s + i.n) % 2 else if taken i.op (getR m i.s) (getR m i.t) then m.pc + i.n else m.pc + 4) else m.pc + i.n
def flowM (m : Mac) (i : Ins) : Mac := if i.op = 33 ∨ i.op = 45 then setR m i.d (m.pc + 4) else m
def flowB (op : Int) : Bool := decide (op = 33 ∨ op = 45 ∨ 37 ≤ op ∧ op ≤ 42)
set_option maxHeartbeats 4000000 in
theorem l3Flow_c {h0 h : Hp} {L : List Asn} {x : MH} {m : Mac} {b : Nat} (HS : Sep h0 h (Bx b (x.cs m) 36 :: (x.own m ++ L))) (ok : Ok m) {i : Ins} (hi : iok i.op i.d i.s i.t i.n = true) :
    HC Try.prog 163 [.pointer (some ⟨b, 0, none⟩), i.v] h fun v h' => v = .tuple #[.int .i64 ((if flowB i.op then flowP m i else m.pc + 4) % 4294967296), .bool (flowB i.op)] ∧ Sep h0 h' (Bx b (x.cs m) 36 :: (x.own (flowM m i) ++ L)) := by
  have r := HS.tail.rdm
  have hrl := r.rl
  have r0 := ok.r0
  have p0 := ok.p0
  have p1 := ok.p1
  have iok := iok_d hi
  have hx := ok.reg i.s
  have hy := ok.reg i.t
  unfold getR at hx hy
  have e4 : IntKind.i64.wrap (m.pc + 4) = m.pc + 4 := i64w _ (by omega) (by omega)
  have en : IntKind.i64.wrap (m.pc + i.n) = m.pc + i.n := i64w _ (by omega) (by omega)
  have ea : IntKind.i64.wrap (m.regs.getD i.s.toNat 0 + i.n) = m.regs.getD i.s.toNat 0 + i.n := i64w _ (by omega) (by omega)
  refine hc_of Try.func163 (rfl : Try.f163.body = some _) Try.ntmps163 Try.results163 Try.call163 rfl ?_; conv => whnf
  repeat' ((first | ((with_reducible refine EvDraw.ord (id := 3) (.go 0 (.go 1 (.go 2 (.go 3 (.go 4 (.go 5 (.go 6 (.go 7 (.go 8 (.go 9 (.go 10 (.go 11 (.go 12 (.go 13 (.go 14 (.go 15 (.go 16 (.go 17 (.alt 18 .done .stop))))))))))))))))))) fol ?_ ?_ ?_); kernel_rfl; kernel_rfl) | ((with_reducible refine EvDraw.ord (id := 4) (.go 0 (.go 1 (.go 2 (.go 3 (.go 4 (.go 5 (.go 6 (.alt 7 (.go 8 (.go 9 .done)) .stop)))))))) fol ?_ ?_ ?_); kernel_rfl; kernel_rfl) | ((with_reducible refine EvDraw.ord (id := 8) (.go 0 (.go 1 (.go 2 (.go 3 (.go 4 (.go 5 (.go 6 (.alt 7 (.go 8 (.go 9 .done)) .stop)))))))) fol ?_ ?_ ?_); kernel_rfl; kernel_rfl) | ((with_reducible refine EvDraw.ord (id := 10) (.go 0 (.go 1 (.go 2 (.go 3 (.go 4 (.go 5 (.go 6 (.go 7 (.go 8 (.go 9 (.go 10 (.alt 11 (.go 12 .done) .stop)))))))))))) fol ?_ ?_ ?_); kernel_rfl; kernel_rfl) | ((with_reducible refine EvKeep.same ?_)) | ((with_reducible refine EvLd.at_ (by assumption) ?_)) | ((refine EvIdx.intj _ rfl (HS.rd 6 rfl) (HS.len 6 rfl).1 (by omega) (by omega) ?_); intro bI oI eI hI) | ((refine EvCall.mk ((l3Set_c (Sep.rot1 HS) _ _ iok.1 r0).mono ?_)); intro vN hN HS1; replace HS := Sep.unrot1 HS1; clear HS1) | ((with_reducible refine EvCall.mk (HC.mono (l3Taken_c _ _ _ _ (by omega) (by omega)) ?_)); (rintro _ _ ⟨rfl, rfl⟩)) | ((with_reducible refine EvCall.mk (HC.mono (sWord_c _ _) ?_)); (rintro _ _ ⟨rfl, rfl⟩)) | (with_reducible first | refine EvSeq.go ?_ | refine EvIf.tt ?_ | refine EvIf.ff ?_) | ((with_reducible refine Hole.mk (kK ?_)); clear kK) | ((with_reducible refine EvIf.mk (fun c => ?_) (fun c => ?_)) <;> (try simp only [cs_] at c) <;> (try (exfalso; first | omega | (revert c; decide)))) | ((with_reducible refine EvNew.sep HS ?_); intro bN hN HS1 hX; replace HS := HS1; clear HS1) | ((with_reducible refine EvIdx.lit ?_ ?_ ?_); (first | omega | decide); (first | omega | decide)) | ((with_reducible first | refine EvNe.mk ?_ ?_ | refine EvGe.mk ?_ ?_); (first | decide | omega)) | ((with_reducible refine EvLd.q HS (by repeat first | exact .h | apply Spot.t) ?_); (conv => whnf); intro hC) | (with_reducible refine EvLdN.q HS (by repeat first | exact .h | apply Spot.t) (fun hC => ?_)) | ((with_reducible refine EvSt.q HS (by repeat first | exact .h | apply Spot.t) ?_); (conv => whnf); intro hN HS1 hU; replace HS := HS1; clear HS1) | ((with_reducible refine EvKeep.cq (A := keepK _ _ (Hole _) _) HS (by repeat first | exact .h | apply Spot.t) ?_); (conv => whnf); (refine ⟨?_, ?_⟩); assumption; intro hC) | ((with_reducible refine EvKeep.nq (A := keepK _ _ (Hole _) _) HS (by repeat first | exact .h | apply Spot.t) ?_ ?_); assumption; intro hC) | ((fail_if_success with_reducible refine EvKeep.hole ?_); (with_reducible refine EvKeep.abs (fun X kK => ?_)))) <;> conv => whnf)
  · refine ⟨?_, ?_⟩
    · have hf : flowB i.op = true := by unfold flowB; rw [decide_eq_true_eq]; omega
      show Value.tuple #[.int .i64 (IntKind.i64.wrap (m.pc + i.n) % 4294967296), .bool true] = _
      rw [hf]
      rw [if_pos rfl]
      have hp : flowP m i = m.pc + i.n := by unfold flowP; rw [if_pos (by omega), if_neg (by omega)]; exact if_pos c
      rw [hp]
      rw [en]
    · have hm : flowM m i = m := if_neg (by omega)
      rw [hm]
      exact HS.tail
  · refine ⟨?_, ?_⟩
    · have hf : flowB i.op = true := by unfold flowB; rw [decide_eq_true_eq]; omega
      show Value.tuple #[.int .i64 (IntKind.i64.wrap (m.pc + 4) % 4294967296), .bool true] = _
      rw [hf]
      rw [if_pos rfl]
      have hp : flowP m i = m.pc + 4 := by unfold flowP; rw [if_pos (by omega), if_neg (by omega)]; exact if_neg (fun e => by rw [show taken i.op (getR m i.s) (getR m i.t) = false from c] at e; cases e)
      rw [hp]
      rw [e4]
    · have hm : flowM m i = m := if_neg (by omega)
      rw [hm]
      exact HS.tail
  · refine ⟨?_, ?_⟩
    · have hf : flowB i.op = true := by unfold flowB; rw [decide_eq_true_eq]; omega
      show Value.tuple #[.int .i64 (IntKind.i64.wrap (m.pc + i.n) % 4294967296), .bool true] = _
      rw [hf]
      rw [if_pos rfl]
      have hp : flowP m i = m.pc + i.n := by unfold flowP; rw [if_neg (by omega)]
      rw [hp]
      rw [en]
    · have hm : flowM m i = setR m i.d (IntKind.i64.wrap (m.pc + 4) % 4294967296) := by
        unfold flowM
        rw [if_pos (by omega), e4]
        unfold setR
        rw [rset_mod]
      rw [hm]
      exact HS.tail
  · refine ⟨?_, ?_⟩
    · have hf : flowB i.op = false := by unfold flowB; rw [decide_eq_false_iff_not]; omega
      show Value.tuple #[.int .i64 (IntKind.i64.wrap (m.pc + 4) % 4294967296), .bool false] = _
      rw [hf]
      rw [if_neg (by simp)]
      rw [e4]
    · have hm : flowM m i = m := if_neg (by omega)
      rw [hm]
      exact HS.tail
  · refine ⟨?_, ?_⟩
    · have hf : flowB i.op = true := by unfold flowB; rw [decide_eq_true_eq]; omega
      show Value.tuple #[.int .i64 (IntKind.i64.wrap (IntKind.i64.wrap (m.regs.getD i.s.toNat 0 + i.n) % 4294967296 - (IntKind.i64.wrap (m.regs.getD i.s.toNat 0 + i.n) % 4294967296).tmod 2)), .bool true] = _
      rw [hf]
      rw [if_pos rfl]
      have hp : flowP m i = getR m i.s + i.n - (getR m i.s + i.n) % 2 := by unfold flowP; rw [if_pos (by omega), if_pos (by omega)]
      rw [hp]
      rw [ea, tmod_pos (by omega), i64w _ (by omega) (by omega)]
      refine congrArg (fun z => Value.tuple #[.int .i64 z, .bool true]) ?_
      unfold getR
      omega
    · have hm : flowM m i = setR m i.d (IntKind.i64.wrap (m.pc + 4) % 4294967296) := by
        unfold flowM
        rw [if_pos (by omega), e4]
        unfold setR
        rw [rset_mod]
      rw [hm]
      exact HS.tail
  · refine ⟨?_, ?_⟩
    · have hf : flowB i.op = false := by unfold flowB; rw [decide_eq_false_iff_not]; omega
      show Value.tuple #[.int .i64 (IntKind.i64.wrap (m.pc + 4) % 4294967296), .bool false] = _
      rw [hf]
      rw [if_neg (by simp)]
      rw [e4]
    · have hm : flowM m i = m := if_neg (by omega)
      rw [hm]
      exact HS.tail
end Go.Proofs.Ythndggachjdkfaa
