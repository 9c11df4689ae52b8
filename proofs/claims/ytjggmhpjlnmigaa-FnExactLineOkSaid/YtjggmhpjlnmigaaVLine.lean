/- Lines of assembly: is one well formed? -/
import Derived.Test.YtjggmhpjlnmigaaVInst5
import Derived.Test.YtjggmhpjlnmigaaVMok
namespace Go.Proofs.Ytjggmhpjlnmigaa
open Go.RowKit
set_option maxRecDepth 20000
set_option linter.unusedSimpArgs false
set_option linter.unusedVariables false
/-- a byte of a text -/
def ch (s : ByteArray) (i : Nat) : Int := ((s.get! i).toNat : Int)
theorem ch_r (s : ByteArray) (i : Nat) : 0 ≤ ch s i ∧ ch s i ≤ 255 := by
  unfold ch
  have := (s.get! i).toNat_lt
  omega
def dig (x : Int) : Bool := decide (48 ≤ x ∧ x ≤ 57)
def ltr (x : Int) : Bool := decide ((97 ≤ x ∧ x ≤ 122) ∨ (65 ≤ x ∧ x ≤ 90))
def okB (x : Int) : Bool := decide ((97 ≤ x ∧ x ≤ 122) ∨ (65 ≤ x ∧ x ≤ 90) ∨ (48 ≤ x ∧ x ≤ 57) ∨ x = 95 ∨ x = 46 ∨ x = 36)
def allB (s : ByteArray) : Nat → Bool
  | 0 => true
  | k + 1 => allB s k && okB (ch s k)
theorem allB_no {s : ByteArray} {k : Nat} (h : okB (ch s k) = false) : ∀ n, k < n → allB s n = false
  | 0, e => by omega
  | n + 1, e => by
    unfold allB
    by_cases e' : k = n
    · subst e'; rw [h, Bool.and_false]
    · rw [allB_no h n (by omega), Bool.false_and]
/-- a label's name -/
def nameB (s : ByteArray) : Bool := decide (1 ≤ s.size ∧ s.size ≤ 48) && (!(dig (ch s 0)) && allB s s.size)
theorem digit_c (x : Int) (h : Hp) : HC Try.prog 38 [.int .u8 x] h fun v h' => v = .bool (dig x) ∧ h' = h := by
  refine hc_of Try.func38 (rfl : Try.f38.body = some _) Try.ntmps38 Try.results38 Try.call38 rfl ?_; have HS := Sep.nil h; conv => whnf
  repeat' ((first | (with_reducible first | refine EvSeq.go ?_ | refine EvIf.tt ?_ | refine EvIf.ff ?_) | ((with_reducible refine Hole.mk (kK ?_)); clear kK) | ((with_reducible refine EvIf.mk (fun c => ?_) (fun c => ?_)) <;> (try simp only [cs_] at c) <;> (try (exfalso; first | omega | (revert c; decide)))) | ((with_reducible refine EvNew.sep HS ?_); intro bN hN HS1 hX; replace HS := HS1; clear HS1) | ((with_reducible refine EvIdx.lit ?_ ?_ ?_); (first | omega | decide); (first | omega | decide)) | ((with_reducible first | refine EvNe.mk ?_ ?_ | refine EvGe.mk ?_ ?_); (first | decide | omega)) | ((with_reducible refine EvLd.q HS (by repeat first | exact .h | apply Spot.t) ?_); (conv => whnf); intro hC) | (with_reducible refine EvLdN.q HS (by repeat first | exact .h | apply Spot.t) (fun hC => ?_)) | ((with_reducible refine EvSt.q HS (by repeat first | exact .h | apply Spot.t) ?_); (conv => whnf); intro hN HS1 hU; replace HS := HS1; clear HS1) | ((with_reducible refine EvKeep.cq (A := keepK _ _ (Hole _) _) HS (by repeat first | exact .h | apply Spot.t) ?_); (conv => whnf); (refine ⟨?_, ?_⟩); assumption; intro hC) | ((with_reducible refine EvKeep.nq (A := keepK _ _ (Hole _) _) HS (by repeat first | exact .h | apply Spot.t) ?_ ?_); assumption; intro hC) | ((fail_if_success with_reducible refine EvKeep.hole ?_); (with_reducible refine EvKeep.abs (fun X kK => ?_)))) <;> conv => whnf)
  all_goals
    refine ⟨?_, rfl⟩
    refine congrArg Value.bool ?_
    unfold dig
    rw [Bool.eq_iff_iff]
    simp
    try omega
theorem letter_c (x : Int) (h : Hp) : HC Try.prog 39 [.int .u8 x] h fun v h' => v = .bool (ltr x) ∧ h' = h := by
  refine hc_of Try.func39 (rfl : Try.f39.body = some _) Try.ntmps39 Try.results39 Try.call39 rfl ?_; have HS := Sep.nil h; conv => whnf
  repeat' ((first | (with_reducible first | refine EvSeq.go ?_ | refine EvIf.tt ?_ | refine EvIf.ff ?_) | ((with_reducible refine Hole.mk (kK ?_)); clear kK) | ((with_reducible refine EvIf.mk (fun c => ?_) (fun c => ?_)) <;> (try simp only [cs_] at c) <;> (try (exfalso; first | omega | (revert c; decide)))) | ((with_reducible refine EvNew.sep HS ?_); intro bN hN HS1 hX; replace HS := HS1; clear HS1) | ((with_reducible refine EvIdx.lit ?_ ?_ ?_); (first | omega | decide); (first | omega | decide)) | ((with_reducible first | refine EvNe.mk ?_ ?_ | refine EvGe.mk ?_ ?_); (first | decide | omega)) | ((with_reducible refine EvLd.q HS (by repeat first | exact .h | apply Spot.t) ?_); (conv => whnf); intro hC) | (with_reducible refine EvLdN.q HS (by repeat first | exact .h | apply Spot.t) (fun hC => ?_)) | ((with_reducible refine EvSt.q HS (by repeat first | exact .h | apply Spot.t) ?_); (conv => whnf); intro hN HS1 hU; replace HS := HS1; clear HS1) | ((with_reducible refine EvKeep.cq (A := keepK _ _ (Hole _) _) HS (by repeat first | exact .h | apply Spot.t) ?_); (conv => whnf); (refine ⟨?_, ?_⟩); assumption; intro hC) | ((with_reducible refine EvKeep.nq (A := keepK _ _ (Hole _) _) HS (by repeat first | exact .h | apply Spot.t) ?_ ?_); assumption; intro hC) | ((fail_if_success with_reducible refine EvKeep.hole ?_); (with_reducible refine EvKeep.abs (fun X kK => ?_)))) <;> conv => whnf)
  all_goals
    refine ⟨?_, rfl⟩
    refine congrArg Value.bool ?_
    unfold ltr
    rw [Bool.eq_iff_iff]
    simp
    try omega
theorem labelByte_c (x : Int) (h : Hp) : HC Try.prog 40 [.int .u8 x] h fun v h' => v = .bool (okB x) ∧ h' = h := by
  refine hc_of Try.func40 (rfl : Try.f40.body = some _) Try.ntmps40 Try.results40 Try.call40 rfl ?_; have HS := Sep.nil h; conv => whnf
  repeat' ((first | (with_reducible first | refine EvSeq.go ?_ | refine EvIf.tt ?_ | refine EvIf.ff ?_) | ((with_reducible refine Hole.mk (kK ?_)); clear kK) | ((with_reducible refine EvIf.mk (fun c => ?_) (fun c => ?_)) <;> (try simp only [cs_] at c) <;> (try (exfalso; first | omega | (revert c; decide)))) | ((with_reducible refine EvNew.sep HS ?_); intro bN hN HS1 hX; replace HS := HS1; clear HS1) | ((with_reducible refine EvIdx.lit ?_ ?_ ?_); (first | omega | decide); (first | omega | decide)) | ((with_reducible first | refine EvNe.mk ?_ ?_ | refine EvGe.mk ?_ ?_); (first | decide | omega)) | ((with_reducible refine EvLd.q HS (by repeat first | exact .h | apply Spot.t) ?_); (conv => whnf); intro hC) | (with_reducible refine EvLdN.q HS (by repeat first | exact .h | apply Spot.t) (fun hC => ?_)) | ((with_reducible refine EvSt.q HS (by repeat first | exact .h | apply Spot.t) ?_); (conv => whnf); intro hN HS1 hU; replace HS := HS1; clear HS1) | ((with_reducible refine EvKeep.cq (A := keepK _ _ (Hole _) _) HS (by repeat first | exact .h | apply Spot.t) ?_); (conv => whnf); (refine ⟨?_, ?_⟩); assumption; intro hC) | ((with_reducible refine EvKeep.nq (A := keepK _ _ (Hole _) _) HS (by repeat first | exact .h | apply Spot.t) ?_ ?_); assumption; intro hC) | ((fail_if_success with_reducible refine EvKeep.hole ?_); (with_reducible refine EvKeep.abs (fun X kK => ?_)))) <;> conv => whnf)
  all_goals
    refine ⟨?_, rfl⟩
    refine congrArg Value.bool ?_
    unfold okB
    rw [Bool.eq_iff_iff]
    simp
    try omega
theorem EvBnd.ch {s : ByteArray} {i : Int} {K : Value → Prop} (h0 : 0 ≤ i) (h1 : i < s.size) (k : K (.int .u8 (ch s i.toNat))) : EvBnd i s.size (K (.int .u8 ((s.get! i.toNat).toNat : Int))) := ⟨h0, h1, k⟩
theorem okB_of (x : Int) : okB x = (ltr x || dig x || decide (x = 95 ∨ x = 46 ∨ x = 36)) := by
  unfold okB ltr dig
  rw [Bool.eq_iff_iff]
  simp
  omega
theorem nameB_len {s : ByteArray} (h : ¬(1 ≤ s.size ∧ s.size ≤ 48)) : nameB s = false := by unfold nameB; rw [decide_eq_false h]; rfl
theorem nameB_dig {s : ByteArray} (h : dig (ch s 0) = true) : nameB s = false := by unfold nameB; rw [h]; simp
theorem nameB_no {s : ByteArray} {k : Nat} (hk : k < s.size) (h : okB (ch s k) = false) : nameB s = false := by unfold nameB; rw [allB_no h _ hk]; simp
theorem nameB_yes {s : ByteArray} (h1 : 1 ≤ s.size ∧ s.size ≤ 48) (h2 : dig (ch s 0) = false) (h3 : allB s s.size = true) : nameB s = true := by unfold nameB; rw [decide_eq_true h1, h2, h3]; rfl
theorem nameB_yes' {s : ByteArray} {k : Nat} (h1 : 1 ≤ s.size ∧ s.size ≤ 48) (h2 : dig (ch s 0) = false) (a : k ≤ s.size) (b : s.size ≤ k) (h3 : allB s k = true) : nameB s = true := by
  obtain rfl : k = s.size := by omega
  exact nameB_yes h1 h2 h3
theorem sName_c (s : ByteArray) (h : Hp) : HC Try.prog 17 [.string s] h fun v h' => v = .bool (nameB s) ∧ h' = h := by
  refine hc_of Try.func17 (rfl : Try.f17.body = some _) Try.ntmps17 Try.results17 Try.call17 rfl ?_; have HS := Sep.nil h; conv => whnf
  repeat' ((first | ((with_reducible refine EvBnd.mk ?_ ?_ ?_); omega; omega) | ((with_reducible refine EvCall.mk (HC.mono (digit_c _ _) ?_)); (rintro _ _ ⟨rfl, rfl⟩)) | (with_reducible first | refine EvSeq.go ?_ | refine EvIf.tt ?_ | refine EvIf.ff ?_) | ((with_reducible refine Hole.mk (kK ?_)); clear kK) | ((with_reducible refine EvIf.mk (fun c => ?_) (fun c => ?_)) <;> (try simp only [cs_] at c) <;> (try (exfalso; first | omega | (revert c; decide)))) | ((with_reducible refine EvNew.sep HS ?_); intro bN hN HS1 hX; replace HS := HS1; clear HS1) | ((with_reducible refine EvIdx.lit ?_ ?_ ?_); (first | omega | decide); (first | omega | decide)) | ((with_reducible first | refine EvNe.mk ?_ ?_ | refine EvGe.mk ?_ ?_); (first | decide | omega)) | ((with_reducible refine EvLd.q HS (by repeat first | exact .h | apply Spot.t) ?_); (conv => whnf); intro hC) | (with_reducible refine EvLdN.q HS (by repeat first | exact .h | apply Spot.t) (fun hC => ?_)) | ((with_reducible refine EvSt.q HS (by repeat first | exact .h | apply Spot.t) ?_); (conv => whnf); intro hN HS1 hU; replace HS := HS1; clear HS1) | ((with_reducible refine EvKeep.cq (A := keepK _ _ (Hole _) _) HS (by repeat first | exact .h | apply Spot.t) ?_); (conv => whnf); (refine ⟨?_, ?_⟩); assumption; intro hC) | ((with_reducible refine EvKeep.nq (A := keepK _ _ (Hole _) _) HS (by repeat first | exact .h | apply Spot.t) ?_ ?_); assumption; intro hC) | ((fail_if_success with_reducible refine EvKeep.hole ?_); (with_reducible refine EvKeep.abs (fun X kK => ?_)))) <;> conv => whnf)
  · exact ⟨congrArg Value.bool (nameB_len (by omega)).symm, rfl⟩
  · exact ⟨congrArg Value.bool (nameB_len (by omega)).symm, rfl⟩
  · exact ⟨congrArg Value.bool (nameB_dig c).symm, rfl⟩
  · have hd : dig (ch s 0) = false := c
    clear c HS
    rename_i hz
    refine EvLoop.keep ([2, 3, 4, 18, 19, 20, 21, 22, 23, 24, 25, 26, 27, 28, 29, 30, 31, 32, 33, 34, 35, 36, 37, 38, 39, 40, 41, 42, 43, 44, 45, 46], 5) (α := Int) (fun x => [(3, .int .i64 x)]) (fun x h' => h' = hz ∧ ∃ k : Nat, k ≤ s.size ∧ x = k ∧ allB s k = true) (fun x => ((s.size : Int) - x).toNat) 0 (by (repeat' (first | exact trivial | refine ⟨rfl, ?_⟩))) ⟨rfl, 0, by omega, rfl, rfl⟩ ?_
    rintro _ _ ⟨rfl, k, hk, rfl, ha⟩
    conv => whnf
    repeat' ((first | ((with_reducible refine EvBnd.mk ?_ ?_ ?_); omega; omega) | ((with_reducible refine EvCall.mk (HC.mono (digit_c _ _) ?_)); (rintro _ _ ⟨rfl, rfl⟩)) | ((with_reducible refine EvCall.mk (HC.mono (letter_c _ _) ?_)); (rintro _ _ ⟨rfl, rfl⟩)) | (with_reducible first | refine EvSeq.go ?_ | refine EvIf.tt ?_ | refine EvIf.ff ?_) | ((with_reducible refine Hole.mk (kK ?_)); clear kK) | ((with_reducible refine EvIf.mk (fun c => ?_) (fun c => ?_)) <;> (try simp only [cs_] at c) <;> (try (exfalso; first | omega | (revert c; decide)))) | ((with_reducible refine EvNew.sep HS ?_); intro bN hN HS1 hX; replace HS := HS1; clear HS1) | ((with_reducible refine EvIdx.lit ?_ ?_ ?_); (first | omega | decide); (first | omega | decide)) | ((with_reducible first | refine EvNe.mk ?_ ?_ | refine EvGe.mk ?_ ?_); (first | decide | omega)) | ((with_reducible refine EvLd.q HS (by repeat first | exact .h | apply Spot.t) ?_); (conv => whnf); intro hC) | (with_reducible refine EvLdN.q HS (by repeat first | exact .h | apply Spot.t) (fun hC => ?_)) | ((with_reducible refine EvSt.q HS (by repeat first | exact .h | apply Spot.t) ?_); (conv => whnf); intro hN HS1 hU; replace HS := HS1; clear HS1) | ((with_reducible refine EvKeep.cq (A := keepK _ _ (Hole _) _) HS (by repeat first | exact .h | apply Spot.t) ?_); (conv => whnf); (refine ⟨?_, ?_⟩); assumption; intro hC) | ((with_reducible refine EvKeep.nq (A := keepK _ _ (Hole _) _) HS (by repeat first | exact .h | apply Spot.t) ?_ ?_); assumption; intro hC) | ((fail_if_success with_reducible refine EvKeep.hole ?_); (with_reducible refine EvKeep.abs (fun X kK => ?_)))) <;> conv => whnf)
    all_goals
      first
      | exact ⟨congrArg Value.bool (nameB_no (k := k) (by omega) (by first | assumption | (rw [okB_of]; unfold ch; simp_all))).symm, rfl⟩
      | exact ⟨congrArg Value.bool (nameB_yes' (k := k) (by omega) hd (by omega) (by omega) ha).symm, rfl⟩
      | (refine ⟨_, (by (repeat' (first | exact trivial | refine ⟨rfl, ?_⟩))), ⟨rfl, k + 1, by omega, ?_, ?_⟩, ?_⟩
         · show IntKind.i64.wrap _ = _
           rw [i64w _ (by omega) (by omega)]; omega
         · unfold allB
           rw [ha, show okB (ch s k) = true by first | assumption | (rw [okB_of]; unfold ch; simp_all)]
           rfl
         · show ((s.size : Int) - IntKind.i64.wrap _).toNat < _
           rw [i64w _ (by omega) (by omega)]; omega)
theorem dig_of {s : ByteArray} (h1 : 48 ≤ ch s 0) (h2 : ch s 0 ≤ 57) : dig (ch s 0) = true := decide_eq_true ⟨h1, h2⟩
theorem iName_c (s : ByteArray) (h : Hp) : HC Try.prog 22 [.string s] h fun v h' => v = .bool (nameB s) ∧ h' = h := by
  refine hc_of Try.func22 (rfl : Try.f22.body = some _) Try.ntmps22 Try.results22 Try.call22 rfl ?_; have HS := Sep.nil h; conv => whnf
  repeat' ((first | ((with_reducible refine EvBnd.mk ?_ ?_ ?_); omega; omega) | ((with_reducible refine EvCall.mk (HC.mono (inside_c _ _ _ _) ?_)); (rintro _ _ ⟨rfl, rfl⟩)) | (with_reducible first | refine EvSeq.go ?_ | refine EvIf.tt ?_ | refine EvIf.ff ?_) | ((with_reducible refine Hole.mk (kK ?_)); clear kK) | ((with_reducible refine EvIf.mk (fun c => ?_) (fun c => ?_)) <;> (try simp only [cs_] at c) <;> (try (exfalso; first | omega | (revert c; decide)))) | ((with_reducible refine EvNew.sep HS ?_); intro bN hN HS1 hX; replace HS := HS1; clear HS1) | ((with_reducible refine EvIdx.lit ?_ ?_ ?_); (first | omega | decide); (first | omega | decide)) | ((with_reducible first | refine EvNe.mk ?_ ?_ | refine EvGe.mk ?_ ?_); (first | decide | omega)) | ((with_reducible refine EvLd.q HS (by repeat first | exact .h | apply Spot.t) ?_); (conv => whnf); intro hC) | (with_reducible refine EvLdN.q HS (by repeat first | exact .h | apply Spot.t) (fun hC => ?_)) | ((with_reducible refine EvSt.q HS (by repeat first | exact .h | apply Spot.t) ?_); (conv => whnf); intro hN HS1 hU; replace HS := HS1; clear HS1) | ((with_reducible refine EvKeep.cq (A := keepK _ _ (Hole _) _) HS (by repeat first | exact .h | apply Spot.t) ?_); (conv => whnf); (refine ⟨?_, ?_⟩); assumption; intro hC) | ((with_reducible refine EvKeep.nq (A := keepK _ _ (Hole _) _) HS (by repeat first | exact .h | apply Spot.t) ?_ ?_); assumption; intro hC) | ((fail_if_success with_reducible refine EvKeep.hole ?_); (with_reducible refine EvKeep.abs (fun X kK => ?_)))) <;> conv => whnf)
  · exact ⟨congrArg Value.bool (nameB_len (by omega)).symm, rfl⟩
  · exact ⟨congrArg Value.bool (nameB_dig (dig_of (by assumption) (by assumption))).symm, rfl⟩
  all_goals
    have hd : dig (ch s 0) = false := by
      have e0 : ((s.get! (Int.toNat 0)).toNat : Int) = ch s 0 := rfl
      unfold dig; simp; omega
    clear HS
    rename Hp => hz
    refine EvLoop.keep ([2, 3, 20, 21, 22, 23, 24, 25, 26, 27, 28], 4) (α := Int) (fun x => [(20, .int .i64 x), (19, .int .i64 s.size)]) (fun x h' => h' = hz ∧ ∃ k : Nat, k ≤ s.size ∧ x = k ∧ allB s k = true) (fun x => ((s.size : Int) - x).toNat) 0 (by (repeat' (first | exact trivial | refine ⟨rfl, ?_⟩))) ⟨rfl, 0, by omega, rfl, rfl⟩ ?_
    rintro _ _ ⟨rfl, k, hk, rfl, ha⟩
    conv => whnf
    repeat' ((first | ((with_reducible refine EvBnd.mk ?_ ?_ ?_); omega; omega) | ((with_reducible refine EvCall.mk (HC.mono (labelByte_c _ _) ?_)); (rintro _ _ ⟨rfl, rfl⟩)) | (with_reducible first | refine EvSeq.go ?_ | refine EvIf.tt ?_ | refine EvIf.ff ?_) | ((with_reducible refine Hole.mk (kK ?_)); clear kK) | ((with_reducible refine EvIf.mk (fun c => ?_) (fun c => ?_)) <;> (try simp only [cs_] at c) <;> (try (exfalso; first | omega | (revert c; decide)))) | ((with_reducible refine EvNew.sep HS ?_); intro bN hN HS1 hX; replace HS := HS1; clear HS1) | ((with_reducible refine EvIdx.lit ?_ ?_ ?_); (first | omega | decide); (first | omega | decide)) | ((with_reducible first | refine EvNe.mk ?_ ?_ | refine EvGe.mk ?_ ?_); (first | decide | omega)) | ((with_reducible refine EvLd.q HS (by repeat first | exact .h | apply Spot.t) ?_); (conv => whnf); intro hC) | (with_reducible refine EvLdN.q HS (by repeat first | exact .h | apply Spot.t) (fun hC => ?_)) | ((with_reducible refine EvSt.q HS (by repeat first | exact .h | apply Spot.t) ?_); (conv => whnf); intro hN HS1 hU; replace HS := HS1; clear HS1) | ((with_reducible refine EvKeep.cq (A := keepK _ _ (Hole _) _) HS (by repeat first | exact .h | apply Spot.t) ?_); (conv => whnf); (refine ⟨?_, ?_⟩); assumption; intro hC) | ((with_reducible refine EvKeep.nq (A := keepK _ _ (Hole _) _) HS (by repeat first | exact .h | apply Spot.t) ?_ ?_); assumption; intro hC) | ((fail_if_success with_reducible refine EvKeep.hole ?_); (with_reducible refine EvKeep.abs (fun X kK => ?_)))) <;> conv => whnf)
    all_goals
      first
      | exact ⟨congrArg Value.bool (nameB_no (k := k) (by omega) (by assumption)).symm, rfl⟩
      | exact ⟨congrArg Value.bool (nameB_yes' (k := k) (by omega) hd (by omega) (by omega) ha).symm, rfl⟩
      | (refine ⟨_, (by (repeat' (first | exact trivial | refine ⟨rfl, ?_⟩))), ⟨rfl, k + 1, by omega, ?_, ?_⟩, ?_⟩
         · show IntKind.i64.wrap _ = _
           rw [i64w _ (by omega) (by omega)]; omega
         · unfold allB
           rw [ha, show okB (ch s k) = true by assumption]
           rfl
         · show ((s.size : Int) - IntKind.i64.wrap _).toNat < _
           rw [i64w _ (by omega) (by omega)]; omega)
abbrev line (k op d s t n : Int) (y : ByteArray) (N : Int) : Value := .agg #[.int .i64 k, .int .i64 op, .int .i64 d, .int .i64 s, .int .i64 t, .int .i64 n, .string y, .int .i64 N]
theorem eqLine (dd : Nat) (w : World) (k k' op op' d d' s s' t t' n n' N N' : Int) (y y' : ByteArray) :
    (Op.equalIn (dd + 3) 30 (line k op d s t n y N) (line k' op' d' s' t' n' y' N')).run Try.prog w = .ok (k == k' && ((op == op' && (d == d' && (s == s' && (t == t' && (n == n'))))) && ((y.toList == y'.toList) && (N == N')))) w := by
  refine eqS_of Try.underlying30 (by kernel_rfl) ?_
  refine eqF_cons (by rfl) (by go_simp; rfl) (by go_simp; rfl) (by go_simp) ?_
  refine eqF_cons (by rfl) (by go_simp) (by go_simp) (eqInst _ w _ _ _ _ _ _ _ _ _ _) ?_
  refine eqF_cons (by rfl) (by go_simp; rfl) (by go_simp; rfl) (by go_simp) ?_
  exact eqF_last (by rfl) (by go_simp; rfl) (by go_simp; rfl) (by go_simp)
theorem EvEql.line {x z : Operand} {k k' op op' d d' s s' t t' n n' N N' : Int} {y y' : ByteArray} {K : Bool → Prop} (kk : K (k == k' && ((op == op' && (d == d' && (s == s' && (t == t' && (n == n'))))) && ((y.toList == y'.toList) && (N == N'))))) :
    EvEql Try.prog 30 x z (line k op d s t n y N) (line k' op' d' s' t' n' y' N') K :=
  EvEql.of (fun op w => run_eqGuard_agg w op _ x z _ _ (by kernel_rfl)) (fun d w => eqLine (d + 2) w _ _ _ _ _ _ _ _ _ _ _ _ _ _ _ _) kk
end Go.Proofs.Ytjggmhpjlnmigaa
