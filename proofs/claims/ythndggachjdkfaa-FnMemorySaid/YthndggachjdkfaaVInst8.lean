/- Walks: words to instructions. -/
import Derived.Test.YthndggachjdkfaaVInst7
namespace Go.Proofs.Ythndggachjdkfaa
open Go.RowKit
set_option maxRecDepth 20000
set_option linter.unusedSimpArgs false
set_option linter.unusedVariables false
def wd (v n : Int) : Int := if v ≥ 2 ^ (n - 1).toNat then v - 2 ^ n.toNat else v
/-- The number in a word. -/
def rimm (f w : Int) : Int := if f = 2 then wd (fl 31 20 w) 12 else if f = 3 then fl 24 20 w else if f = 4 then wd (fl 31 25 w * 32 + fl 11 7 w) 12
  else if f = 5 then wd (fl 31 31 w * 4096 + fl 7 7 w * 2048 + fl 30 25 w * 32 + fl 11 8 w * 2) 13 else if f = 6 then fl 31 12 w
  else if f = 7 then wd (fl 31 31 w * 1048576 + fl 19 12 w * 4096 + fl 20 20 w * 2048 + fl 30 21 w * 2) 21 else 0
def rrd (f w : Int) : Int := if f = 1 ∨ f = 2 ∨ f = 3 ∨ f = 6 ∨ f = 7 then fl 11 7 w else 0
def rs1 (f w : Int) : Int := if f = 1 ∨ f = 2 ∨ f = 3 ∨ f = 4 ∨ f = 5 then fl 19 15 w else 0
def rs2 (f w : Int) : Int := if f = 1 ∨ f = 4 ∨ f = 5 then fl 24 20 w else 0
/-- The instruction of a word, by an Op's form. -/
abbrev rin (op w : Int) : Value := inst op (rrd (frm op) w) (rs1 (frm op) w) (rs2 (frm op) w) (rimm (frm op) w)
theorem parts_v (f p : Int) (h : Hp) (h0 : 0 ≤ f) (h8 : f ≤ 8) (hp : prt f = p) : HC Try.prog 143 [.int .i64 f] h fun v h' => v = .int .i64 p ∧ Ext h h' := hp ▸ l2Parts_c f h h0 h8
theorem wide_v (v n : Int) (h : Hp) (h0 : 1 ≤ n) (h1 : n ≤ 31) (v0 : 0 ≤ v) (v1 : v < 4294967296) : HC Try.prog 159 [.int .i64 v, .int .i64 n] h fun r h' => r = .int .i64 (wd v n) ∧ h' = h := wide_c v n h h0 h1 v0 v1
set_option maxHeartbeats 4000000 in
theorem l2Read_c (op w : Int) (hf : frm op ≠ 0) (h : Hp) : HC Try.prog 162 [.int .i64 op, .int .i64 w] h fun v h' => v = rin op w ∧ Ext h h' := by
  have q0 := fl_lt 31 25 w 128 (by decide)
  have q1 := fl_lt 11 7 w 32 (by decide)
  have q2 := fl_lt 31 31 w 2 (by decide)
  have q3 := fl_lt 7 7 w 2 (by decide)
  have q4 := fl_lt 30 25 w 64 (by decide)
  have q5 := fl_lt 11 8 w 16 (by decide)
  have q6 := fl_lt 19 12 w 256 (by decide)
  have q7 := fl_lt 20 20 w 2 (by decide)
  have q8 := fl_lt 30 21 w 1024 (by decide)
  have q9 := fl_lt 31 20 w 4096 (by decide)
  unfold rin
  rcases frm_cases op with e | e | e | e | e | e | e | e | e
  · exact absurd e hf
  all_goals
    rw [e]
    refine hc_of Try.func162 (rfl : Try.f162.body = some _) Try.ntmps162 Try.results162 Try.call162 rfl ?_; have HS := Sep.nil h; conv => whnf
    repeat' ((first | ((with_reducible refine EvCall.mk (HC.mono (sForm_v op _ e _) ?_)); (rintro _ _ ⟨rfl, rfl⟩)) | ((with_reducible refine EvCall.mk (HC.mono (parts_v _ _ _ (by decide) (by decide) rfl) ?_)); (rintro _ hN ⟨rfl, hX⟩); replace HS := HS.ext hX) | ((with_reducible refine EvCall.mk (HC.mono (bits_c _ _ _ _ (by decide) (by decide) (by decide)) ?_)); (rintro _ _ ⟨rfl, rfl⟩)) | ((with_reducible refine EvCall.mk (HC.mono (wide_v _ _ _ (by decide) (by decide) (by first | omega | (simp (disch := omega) only [i64w]; omega)) (by first | omega | (simp (disch := omega) only [i64w]; omega))) ?_)); (rintro _ _ ⟨rfl, rfl⟩)) | (with_reducible first | refine EvSeq.go ?_ | refine EvIf.tt ?_ | refine EvIf.ff ?_) | ((with_reducible refine Hole.mk (kK ?_)); clear kK) | ((with_reducible refine EvIf.mk (fun c => ?_) (fun c => ?_)) <;> (try simp only [cs_] at c) <;> (try (exfalso; first | omega | (revert c; decide)))) | ((with_reducible refine EvNew.sep HS ?_); intro bN hN HS1 hX; replace HS := HS1; clear HS1) | ((with_reducible refine EvIdx.lit ?_ ?_ ?_); (first | omega | decide); (first | omega | decide)) | ((with_reducible first | refine EvNe.mk ?_ ?_ | refine EvGe.mk ?_ ?_); (first | decide | omega)) | ((with_reducible refine EvLd.q HS (by repeat first | exact .h | apply Spot.t) ?_); (conv => whnf); intro hC) | (with_reducible refine EvLdN.q HS (by repeat first | exact .h | apply Spot.t) (fun hC => ?_)) | ((with_reducible refine EvSt.q HS (by repeat first | exact .h | apply Spot.t) ?_); (conv => whnf); intro hN HS1 hU; replace HS := HS1; clear HS1) | ((with_reducible refine EvKeep.cq (A := keepK _ _ (Hole _) _) HS (by repeat first | exact .h | apply Spot.t) ?_); (conv => whnf); (refine ⟨?_, ?_⟩); assumption; intro hC) | ((with_reducible refine EvKeep.nq (A := keepK _ _ (Hole _) _) HS (by repeat first | exact .h | apply Spot.t) ?_ ?_); assumption; intro hC) | ((fail_if_success with_reducible refine EvKeep.hole ?_); (with_reducible refine EvKeep.abs (fun X kK => ?_)))) <;> conv => whnf)
    refine ⟨?_, HS.to_ext⟩
    simp (disch := omega) only [i64w, rrd, rs1, rs2, rimm, Int.reduceEq, or_false, or_true, false_or, if_true, if_false]
theorem sDec_lt (w : Int) (op : Int) (h : 1 ≤ op) (h' : op ≤ 47) : frm op ≠ 0 := by unfold frm; omega
/-- Is a word an Op's? -/
def fits (op w : Int) : Bool := decide ((par op).1 = w % 128) && (iok op (rrd (frm op) w) (rs1 (frm op) w) (rs2 (frm op) w) (rimm (frm op) w) && decide (enc op (rrd (frm op) w) (rs1 (frm op) w) (rs2 (frm op) w) (rimm (frm op) w) = w))
/-- The first Op from a number on. -/
def findOp (w : Int) : Nat → Int → Option Int
  | 0, _ => none
  | k + 1, op => if fits op w then some op else findOp w k (op + 1)
/-- What DecodeInst tells. -/
def decp (w : Int) : Value :=
  if w < 0 ∨ w > 4294967295 then .tuple #[inst 0 0 0 0 0, .bool false] else match findOp w 47 1 with
  | some op => .tuple #[rin op w, .bool true]
  | none => .tuple #[inst 0 0 0 0 0, .bool false]
theorem sEnc_p (op d s t n : Int) (h : Hp) : HC Try.prog 126 [inst op d s t n] h fun v h' => v = .tuple #[.int .i64 (encp op d s t n).1, .bool (encp op d s t n).2] ∧ Ext h h' := by
  cases ho : iok op d s t n
  · exact sEnc_no op d s t n ho h
  · have := sEnc_c op d s t n ho h
    unfold encp
    rw [ho]
    exact this
theorem iEnc_p (op d s t n : Int) (h : Hp) : HC Try.prog 95 [inst op d s t n] h fun v h' => v = .tuple #[.int .i64 (encp op d s t n).1, .bool (encp op d s t n).2] ∧ Ext h h' := by
  cases ho : iok op d s t n
  · exact iEnc_no op d s t n ho h
  · have := iEnc_c op d s t n ho h
    unfold encp
    rw [ho]
    exact this
theorem fits_enc (op w : Int) (c : (par op).1 = w % 128) : fits op w = true ↔ ((encp op (rrd (frm op) w) (rs1 (frm op) w) (rs2 (frm op) w) (rimm (frm op) w)).2 = true ∧ (encp op (rrd (frm op) w) (rs1 (frm op) w) (rs2 (frm op) w) (rimm (frm op) w)).1 = w) := by
  unfold fits encp
  rw [decide_eq_true c, Bool.true_and]
  split <;> rename_i h
  · simp [h]
  · simp [h]
theorem findOp_no {w : Int} {k : Nat} (hk : (k : Int) + 1 ≤ 47) (hn : fits (k + 1) w = false) : findOp w (47 - k) (k + 1) = findOp w (47 - (k + 1)) (((k + 1 : Nat) : Int) + 1) := by
  rw [show 47 - k = (47 - (k + 1)) + 1 by omega]
  show (if fits (k + 1) w = true then some ((k : Int) + 1) else findOp w (47 - (k + 1)) ((k : Int) + 1 + 1)) = _
  rw [hn]
  simp
theorem findOp_yes {w : Int} {k : Nat} (hk : (k : Int) + 1 ≤ 47) (hn : fits (k + 1) w = true) : findOp w (47 - k) (k + 1) = some ((k : Int) + 1) := by
  rw [show 47 - k = (47 - (k + 1)) + 1 by omega]
  show (if fits (k + 1) w = true then some ((k : Int) + 1) else findOp w (47 - (k + 1)) ((k : Int) + 1 + 1)) = _
  rw [hn]
  simp
theorem fits_c {op w : Int} (c : ¬(par op).1 = w % 128) : fits op w = false := by unfold fits; rw [decide_eq_false c]; rfl
theorem fits_no {op w : Int} (c : (par op).1 = w % 128) (h : (encp op (rrd (frm op) w) (rs1 (frm op) w) (rs2 (frm op) w) (rimm (frm op) w)).2 = true → (encp op (rrd (frm op) w) (rs1 (frm op) w) (rs2 (frm op) w) (rimm (frm op) w)).1 = w → False) : fits op w = false := by
  rw [Bool.eq_false_iff]
  intro hh
  have := (fits_enc op w c).mp hh
  exact h this.1 this.2
theorem stepw {k : Nat} (h : (k : Int) + 1 ≤ 47) : IntKind.i64.wrap ((k : Int) + 1 + 1) = ((k + 1 : Nat) : Int) + 1 := by rw [i64w _ (by omega) (by omega)]; omega
theorem stepm {k : Nat} (h : (k : Int) + 1 ≤ 47) : (48 - IntKind.i64.wrap ((k : Int) + 1 + 1)).toNat < (48 - ((k : Int) + 1)).toNat := by rw [i64w _ (by omega) (by omega)]; omega
set_option maxHeartbeats 4000000 in
theorem sDec_c (w : Int) (h : Hp) : HC Try.prog 157 [.int .i64 w] h fun v h' => v = decp w ∧ Ext h h' := by
  refine hc_of Try.func157 (rfl : Try.f157.body = some _) Try.ntmps157 Try.results157 Try.call157 rfl ?_; have HS := Sep.nil h; conv => whnf
  repeat' ((first | (with_reducible first | refine EvSeq.go ?_ | refine EvIf.tt ?_ | refine EvIf.ff ?_) | ((with_reducible refine Hole.mk (kK ?_)); clear kK) | ((with_reducible refine EvIf.mk (fun c => ?_) (fun c => ?_)) <;> (try simp only [cs_] at c) <;> (try (exfalso; first | omega | (revert c; decide)))) | ((with_reducible refine EvNew.sep HS ?_); intro bN hN HS1 hX; replace HS := HS1; clear HS1) | ((with_reducible refine EvIdx.lit ?_ ?_ ?_); (first | omega | decide); (first | omega | decide)) | ((with_reducible first | refine EvNe.mk ?_ ?_ | refine EvGe.mk ?_ ?_); (first | decide | omega)) | ((with_reducible refine EvLd.q HS (by repeat first | exact .h | apply Spot.t) ?_); (conv => whnf); intro hC) | (with_reducible refine EvLdN.q HS (by repeat first | exact .h | apply Spot.t) (fun hC => ?_)) | ((with_reducible refine EvSt.q HS (by repeat first | exact .h | apply Spot.t) ?_); (conv => whnf); intro hN HS1 hU; replace HS := HS1; clear HS1) | ((with_reducible refine EvKeep.cq (A := keepK _ _ (Hole _) _) HS (by repeat first | exact .h | apply Spot.t) ?_); (conv => whnf); (refine ⟨?_, ?_⟩); assumption; intro hC) | ((with_reducible refine EvKeep.nq (A := keepK _ _ (Hole _) _) HS (by repeat first | exact .h | apply Spot.t) ?_ ?_); assumption; intro hC) | ((fail_if_success with_reducible refine EvKeep.hole ?_); (with_reducible refine EvKeep.abs (fun X kK => ?_)))) <;> conv => whnf)
  · refine ⟨?_, HS.to_ext⟩
    unfold decp
    rw [if_pos (.inl c)]
  · refine ⟨?_, HS.to_ext⟩
    unfold decp
    rw [if_pos (.inr c)]
  · have hw : ¬(w < 0 ∨ w > 4294967295) := by omega
    refine EvLoop.keep ([3, 4, 5, 6, 7, 15, 16, 17, 18, 19, 20, 21, 22, 23, 24, 25, 26, 27, 28, 29, 30, 31, 32, 33, 34, 35, 36, 37, 38], 8) (α := Int) (fun x => [(4, .int .i64 x)]) (fun x h' => Sep h h' [Bx bN [.int .i64 0, .int .i64 0, .int .i64 0, .int .i64 0, .int .i64 0] 71] ∧ ∃ k : Nat, k ≤ 47 ∧ x = k + 1 ∧ findOp w 47 1 = findOp w (47 - k) (k + 1)) (fun x => (48 - x).toNat) 1 (by (repeat' (first | exact trivial | refine ⟨rfl, ?_⟩))) ⟨HS, 0, by omega, rfl, rfl⟩ ?_
    clear HS
    rintro _ _ ⟨HS, k, hk, rfl, hf⟩
    conv => whnf
    repeat' ((first | ((with_reducible refine EvCall.mk (HC.mono (l2C_c (k+1) _ (by omega) (by omega)) ?_)); (rintro _ hN ⟨rfl, hX⟩); replace HS := HS.ext hX) | ((with_reducible refine EvCall.mk (HC.mono (l2Read_c (k+1) w (sDec_lt w _ (by omega) (by omega)) _) ?_)); (rintro _ hN ⟨rfl, hX⟩); replace HS := HS.ext hX) | ((with_reducible refine EvCall.mk (HC.mono (sEnc_p _ _ _ _ _ _) ?_)); (rintro _ hN ⟨rfl, hX⟩); replace HS := HS.ext hX) | (with_reducible first | refine EvSeq.go ?_ | refine EvIf.tt ?_ | refine EvIf.ff ?_) | ((with_reducible refine Hole.mk (kK ?_)); clear kK) | ((with_reducible refine EvIf.mk (fun c => ?_) (fun c => ?_)) <;> (try simp only [cs_] at c) <;> (try (exfalso; first | omega | (revert c; decide)))) | ((with_reducible refine EvNew.sep HS ?_); intro bN hN HS1 hX; replace HS := HS1; clear HS1) | ((with_reducible refine EvIdx.lit ?_ ?_ ?_); (first | omega | decide); (first | omega | decide)) | ((with_reducible first | refine EvNe.mk ?_ ?_ | refine EvGe.mk ?_ ?_); (first | decide | omega)) | ((with_reducible refine EvLd.q HS (by repeat first | exact .h | apply Spot.t) ?_); (conv => whnf); intro hC) | (with_reducible refine EvLdN.q HS (by repeat first | exact .h | apply Spot.t) (fun hC => ?_)) | ((with_reducible refine EvSt.q HS (by repeat first | exact .h | apply Spot.t) ?_); (conv => whnf); intro hN HS1 hU; replace HS := HS1; clear HS1) | ((with_reducible refine EvKeep.cq (A := keepK _ _ (Hole _) _) HS (by repeat first | exact .h | apply Spot.t) ?_); (conv => whnf); (refine ⟨?_, ?_⟩); assumption; intro hC) | ((with_reducible refine EvKeep.nq (A := keepK _ _ (Hole _) _) HS (by repeat first | exact .h | apply Spot.t) ?_ ?_); assumption; intro hC) | ((fail_if_success with_reducible refine EvKeep.hole ?_); (with_reducible refine EvKeep.abs (fun X kK => ?_)))) <;> conv => whnf)
    all_goals (have hm := tmod_pos (a := w) (b := 128) (by omega))
    · have c1 : (k : Int) + 1 ≤ 47 := by omega
      rw [hm] at c
      exact ⟨_, (by (repeat' (first | exact trivial | refine ⟨rfl, ?_⟩))), ⟨HS, k + 1, by omega, stepw c1, hf.trans (findOp_no c1 (fits_c c))⟩, stepm c1⟩
    · have c1 : (k : Int) + 1 ≤ 47 := by omega
      have cp : (par (k + 1)).1 = w % 128 := by rw [← hm]; assumption
      refine ⟨?_, HS.to_ext⟩
      unfold decp
      rw [if_neg hw, hf, findOp_yes c1 ((fits_enc _ _ cp).mpr ⟨by assumption, c⟩)]
    · have c1 : (k : Int) + 1 ≤ 47 := by omega
      have cp : (par (k + 1)).1 = w % 128 := by rw [← hm]; assumption
      exact ⟨_, (by (repeat' (first | exact trivial | refine ⟨rfl, ?_⟩))), ⟨HS.tail, k + 1, by omega, stepw c1, hf.trans (findOp_no c1 (fits_no cp fun _ h => c h))⟩, stepm c1⟩
    · have c1 : (k : Int) + 1 ≤ 47 := by omega
      have cp : (par (k + 1)).1 = w % 128 := by rw [← hm]; assumption
      exact ⟨_, (by (repeat' (first | exact trivial | refine ⟨rfl, ?_⟩))), ⟨HS.tail, k + 1, by omega, stepw c1, hf.trans (findOp_no c1 (fits_no cp fun h _ => by simp [h] at c))⟩, stepm c1⟩
    · refine ⟨?_, HS.to_ext⟩
      obtain rfl : k = 47 := by omega
      unfold decp
      rw [if_neg hw, hf]
      rfl
end Go.Proofs.Ythndggachjdkfaa
