/- Walks: valid images and machines, kinds, narrowing. -/
import Derived.Test.YthndggachjdkfaaVMac
namespace Go.Proofs.Ythndggachjdkfaa
open Go.RowKit
set_option maxRecDepth 20000
set_option linter.unusedSimpArgs false
set_option linter.unusedVariables false
def isW (n : Int) : Bool := decide (0 ≤ n ∧ n ≤ 4294967295)
def codeOk (l : List Int) : Bool := decide (1 ≤ l.length ∧ l.length ≤ 16384) && l.all isW
def stackOk (n : Int) : Bool := decide (0 ≤ n ∧ n ≤ 65536 ∧ n % 16 = 0)
theorem l3WordOk_c (n : Int) (h : Hp) : HC Try.prog 55 [.int .i64 n] h fun v h' => v = .bool (isW n) ∧ h' = h := by
  refine hc_of Try.func55 (rfl : Try.f55.body = some _) Try.ntmps55 Try.results55 Try.call55 rfl ?_; have HS := Sep.nil h; conv => whnf
  repeat' ((first | (with_reducible first | refine EvSeq.go ?_ | refine EvIf.tt ?_ | refine EvIf.ff ?_) | ((with_reducible refine Hole.mk (kK ?_)); clear kK) | ((with_reducible refine EvIf.mk (fun c => ?_) (fun c => ?_)) <;> (try simp only [cs_] at c) <;> (try (exfalso; first | omega | (revert c; decide)))) | ((with_reducible refine EvNew.sep HS ?_); intro bN hN HS1 hX; replace HS := HS1; clear HS1) | ((with_reducible refine EvIdx.lit ?_ ?_ ?_); (first | omega | decide); (first | omega | decide)) | ((with_reducible first | refine EvNe.mk ?_ ?_ | refine EvGe.mk ?_ ?_); (first | decide | omega)) | ((with_reducible refine EvLd.q HS (by repeat first | exact .h | apply Spot.t) ?_); (conv => whnf); intro hC) | (with_reducible refine EvLdN.q HS (by repeat first | exact .h | apply Spot.t) (fun hC => ?_)) | ((with_reducible refine EvSt.q HS (by repeat first | exact .h | apply Spot.t) ?_); (conv => whnf); intro hN HS1 hU; replace HS := HS1; clear HS1) | ((with_reducible refine EvKeep.cq (A := keepK _ _ (Hole _) _) HS (by repeat first | exact .h | apply Spot.t) ?_); (conv => whnf); (refine ⟨?_, ?_⟩); assumption; intro hC) | ((with_reducible refine EvKeep.nq (A := keepK _ _ (Hole _) _) HS (by repeat first | exact .h | apply Spot.t) ?_ ?_); assumption; intro hC) | ((fail_if_success with_reducible refine EvKeep.hole ?_); (with_reducible refine EvKeep.abs (fun X kK => ?_)))) <;> conv => whnf)
  all_goals
    refine ⟨?_, rfl⟩
    congr 1
    simp [isW]
    try omega
theorem notWord_c (n : Int) (h : Hp) : HC Try.prog 109 [.int .i64 n] h fun v h' => v = .bool (!isW n) ∧ h' = h := by
  refine hc_of Try.func109 (rfl : Try.f109.body = some _) Try.ntmps109 Try.results109 Try.call109 rfl ?_; have HS := Sep.nil h; conv => whnf
  repeat' ((first | ((with_reducible refine EvCall.mk (HC.mono (iWord_c _ _) ?_)); (rintro _ _ ⟨rfl, rfl⟩)) | (with_reducible first | refine EvSeq.go ?_ | refine EvIf.tt ?_ | refine EvIf.ff ?_) | ((with_reducible refine Hole.mk (kK ?_)); clear kK) | ((with_reducible refine EvIf.mk (fun c => ?_) (fun c => ?_)) <;> (try simp only [cs_] at c) <;> (try (exfalso; first | omega | (revert c; decide)))) | ((with_reducible refine EvNew.sep HS ?_); intro bN hN HS1 hX; replace HS := HS1; clear HS1) | ((with_reducible refine EvIdx.lit ?_ ?_ ?_); (first | omega | decide); (first | omega | decide)) | ((with_reducible first | refine EvNe.mk ?_ ?_ | refine EvGe.mk ?_ ?_); (first | decide | omega)) | ((with_reducible refine EvLd.q HS (by repeat first | exact .h | apply Spot.t) ?_); (conv => whnf); intro hC) | (with_reducible refine EvLdN.q HS (by repeat first | exact .h | apply Spot.t) (fun hC => ?_)) | ((with_reducible refine EvSt.q HS (by repeat first | exact .h | apply Spot.t) ?_); (conv => whnf); intro hN HS1 hU; replace HS := HS1; clear HS1) | ((with_reducible refine EvKeep.cq (A := keepK _ _ (Hole _) _) HS (by repeat first | exact .h | apply Spot.t) ?_); (conv => whnf); (refine ⟨?_, ?_⟩); assumption; intro hC) | ((with_reducible refine EvKeep.nq (A := keepK _ _ (Hole _) _) HS (by repeat first | exact .h | apply Spot.t) ?_ ?_); assumption; intro hC) | ((fail_if_success with_reducible refine EvKeep.hole ?_); (with_reducible refine EvKeep.abs (fun X kK => ?_)))) <;> conv => whnf)
  refine ⟨congrArg Value.bool ?_, rfl⟩
  rw [Bool.eq_iff_iff]
  simp [isW]
  omega
theorem tmod16 (n : Int) : Int.tmod n 16 = 0 ↔ n % 16 = 0 := by
  by_cases h : 0 ≤ n
  · rw [tmod_pos h]
  · rw [tmod_neg (by omega)]; omega
theorem stackOk_c (n : Int) (h : Hp) : HC Try.prog 53 [.int .i64 n] h fun v h' => v = .bool (stackOk n) ∧ h' = h := by
  have t := tmod16 n
  refine hc_of Try.func53 (rfl : Try.f53.body = some _) Try.ntmps53 Try.results53 Try.call53 rfl ?_; have HS := Sep.nil h; conv => whnf
  repeat' ((first | ((with_reducible refine EvCall.mk (HC.mono (inside_c _ _ _ _) ?_)); (rintro _ _ ⟨rfl, rfl⟩)) | (with_reducible first | refine EvSeq.go ?_ | refine EvIf.tt ?_ | refine EvIf.ff ?_) | ((with_reducible refine Hole.mk (kK ?_)); clear kK) | ((with_reducible refine EvIf.mk (fun c => ?_) (fun c => ?_)) <;> (try simp only [cs_] at c) <;> (try (exfalso; first | omega | (revert c; decide)))) | ((with_reducible refine EvNew.sep HS ?_); intro bN hN HS1 hX; replace HS := HS1; clear HS1) | ((with_reducible refine EvIdx.lit ?_ ?_ ?_); (first | omega | decide); (first | omega | decide)) | ((with_reducible first | refine EvNe.mk ?_ ?_ | refine EvGe.mk ?_ ?_); (first | decide | omega)) | ((with_reducible refine EvLd.q HS (by repeat first | exact .h | apply Spot.t) ?_); (conv => whnf); intro hC) | (with_reducible refine EvLdN.q HS (by repeat first | exact .h | apply Spot.t) (fun hC => ?_)) | ((with_reducible refine EvSt.q HS (by repeat first | exact .h | apply Spot.t) ?_); (conv => whnf); intro hN HS1 hU; replace HS := HS1; clear HS1) | ((with_reducible refine EvKeep.cq (A := keepK _ _ (Hole _) _) HS (by repeat first | exact .h | apply Spot.t) ?_); (conv => whnf); (refine ⟨?_, ?_⟩); assumption; intro hC) | ((with_reducible refine EvKeep.nq (A := keepK _ _ (Hole _) _) HS (by repeat first | exact .h | apply Spot.t) ?_ ?_); assumption; intro hC) | ((fail_if_success with_reducible refine EvKeep.hole ?_); (with_reducible refine EvKeep.abs (fun X kK => ?_)))) <;> conv => whnf)
  all_goals
    refine ⟨congrArg Value.bool ?_, rfl⟩
    rw [Bool.eq_iff_iff]
    simp [stackOk] at *
    try omega
theorem l3StackOk_c (n : Int) (h : Hp) : HC Try.prog 48 [.int .i64 n] h fun v h' => v = .bool (stackOk n) ∧ h' = h := by
  have t := tmod16 n
  refine hc_of Try.func48 (rfl : Try.f48.body = some _) Try.ntmps48 Try.results48 Try.call48 rfl ?_; have HS := Sep.nil h; conv => whnf
  repeat' ((first | (with_reducible first | refine EvSeq.go ?_ | refine EvIf.tt ?_ | refine EvIf.ff ?_) | ((with_reducible refine Hole.mk (kK ?_)); clear kK) | ((with_reducible refine EvIf.mk (fun c => ?_) (fun c => ?_)) <;> (try simp only [cs_] at c) <;> (try (exfalso; first | omega | (revert c; decide)))) | ((with_reducible refine EvNew.sep HS ?_); intro bN hN HS1 hX; replace HS := HS1; clear HS1) | ((with_reducible refine EvIdx.lit ?_ ?_ ?_); (first | omega | decide); (first | omega | decide)) | ((with_reducible first | refine EvNe.mk ?_ ?_ | refine EvGe.mk ?_ ?_); (first | decide | omega)) | ((with_reducible refine EvLd.q HS (by repeat first | exact .h | apply Spot.t) ?_); (conv => whnf); intro hC) | (with_reducible refine EvLdN.q HS (by repeat first | exact .h | apply Spot.t) (fun hC => ?_)) | ((with_reducible refine EvSt.q HS (by repeat first | exact .h | apply Spot.t) ?_); (conv => whnf); intro hN HS1 hU; replace HS := HS1; clear HS1) | ((with_reducible refine EvKeep.cq (A := keepK _ _ (Hole _) _) HS (by repeat first | exact .h | apply Spot.t) ?_); (conv => whnf); (refine ⟨?_, ?_⟩); assumption; intro hC) | ((with_reducible refine EvKeep.nq (A := keepK _ _ (Hole _) _) HS (by repeat first | exact .h | apply Spot.t) ?_ ?_); assumption; intro hC) | ((fail_if_success with_reducible refine EvKeep.hole ?_); (with_reducible refine EvKeep.abs (fun X kK => ?_)))) <;> conv => whnf)
  all_goals
    refine ⟨congrArg Value.bool ?_, rfl⟩
    rw [Bool.eq_iff_iff]
    simp [stackOk] at *
    try omega
theorem indexW_c {h : Hp} {A : Option Addr} {n c : Nat} {l : List Int} (r : Rd h A (ints .i64 l)) (hl : l.length = n) (hn : n ≤ 1000000000) : HC Try.prog 137 [.slice A n c, .func (.func 109) #[] #[]] h fun v h' => (∃ k, v = .int .i64 k ∧ (0 ≤ k ↔ l.all isW = false)) ∧ h' = h := by
  refine hc_of Try.func137 (rfl : Try.f137.body = some _) Try.ntmps137 Try.results137 Try.call137 rfl ?_; have HS := Sep.nil h; conv => whnf
  repeat' ((first | (with_reducible first | refine EvSeq.go ?_ | refine EvIf.tt ?_ | refine EvIf.ff ?_) | ((with_reducible refine Hole.mk (kK ?_)); clear kK) | ((with_reducible refine EvIf.mk (fun c => ?_) (fun c => ?_)) <;> (try simp only [cs_] at c) <;> (try (exfalso; first | omega | (revert c; decide)))) | ((with_reducible refine EvNew.sep HS ?_); intro bN hN HS1 hX; replace HS := HS1; clear HS1) | ((with_reducible refine EvIdx.lit ?_ ?_ ?_); (first | omega | decide); (first | omega | decide)) | ((with_reducible first | refine EvNe.mk ?_ ?_ | refine EvGe.mk ?_ ?_); (first | decide | omega)) | ((with_reducible refine EvLd.q HS (by repeat first | exact .h | apply Spot.t) ?_); (conv => whnf); intro hC) | (with_reducible refine EvLdN.q HS (by repeat first | exact .h | apply Spot.t) (fun hC => ?_)) | ((with_reducible refine EvSt.q HS (by repeat first | exact .h | apply Spot.t) ?_); (conv => whnf); intro hN HS1 hU; replace HS := HS1; clear HS1) | ((with_reducible refine EvKeep.cq (A := keepK _ _ (Hole _) _) HS (by repeat first | exact .h | apply Spot.t) ?_); (conv => whnf); (refine ⟨?_, ?_⟩); assumption; intro hC) | ((with_reducible refine EvKeep.nq (A := keepK _ _ (Hole _) _) HS (by repeat first | exact .h | apply Spot.t) ?_ ?_); assumption; intro hC) | ((fail_if_success with_reducible refine EvKeep.hole ?_); (with_reducible refine EvKeep.abs (fun X kK => ?_)))) <;> conv => whnf)
  refine EvLoop.keep ([4, 5, 8, 9, 10, 11, 12, 13, 14, 15, 16, 17, 18], 6) (α := Int) (fun x => [(8, .int .i64 x), (7, .int .i64 n)]) (fun x h' => h' = h ∧ ∃ k : Nat, k ≤ n ∧ x = k ∧ (l.take k).all isW = true) (fun x => ((n : Int) - x).toNat) 0 (by (repeat' (first | exact trivial | refine ⟨rfl, ?_⟩))) ⟨rfl, 0, by omega, rfl, rfl⟩ ?_
  rintro _ _ ⟨rfl, k, hk, rfl, ht⟩
  conv => whnf
  repeat' ((first | ((with_reducible refine EvIdx.rd r (by simpa using hl) (by omega) (by omega) ?_); intro bI oI eI hI) | ((with_reducible refine EvLd.row (by assumption) (by omega) ?_)) | ((with_reducible refine EvCall.mk (HC.mono (notWord_c _ _) ?_)); (rintro _ _ ⟨rfl, rfl⟩)) | (with_reducible first | refine EvSeq.go ?_ | refine EvIf.tt ?_ | refine EvIf.ff ?_) | ((with_reducible refine Hole.mk (kK ?_)); clear kK) | ((with_reducible refine EvIf.mk (fun c => ?_) (fun c => ?_)) <;> (try simp only [cs_] at c) <;> (try (exfalso; first | omega | (revert c; decide)))) | ((with_reducible refine EvNew.sep HS ?_); intro bN hN HS1 hX; replace HS := HS1; clear HS1) | ((with_reducible refine EvIdx.lit ?_ ?_ ?_); (first | omega | decide); (first | omega | decide)) | ((with_reducible first | refine EvNe.mk ?_ ?_ | refine EvGe.mk ?_ ?_); (first | decide | omega)) | ((with_reducible refine EvLd.q HS (by repeat first | exact .h | apply Spot.t) ?_); (conv => whnf); intro hC) | (with_reducible refine EvLdN.q HS (by repeat first | exact .h | apply Spot.t) (fun hC => ?_)) | ((with_reducible refine EvSt.q HS (by repeat first | exact .h | apply Spot.t) ?_); (conv => whnf); intro hN HS1 hU; replace HS := HS1; clear HS1) | ((with_reducible refine EvKeep.cq (A := keepK _ _ (Hole _) _) HS (by repeat first | exact .h | apply Spot.t) ?_); (conv => whnf); (refine ⟨?_, ?_⟩); assumption; intro hC) | ((with_reducible refine EvKeep.nq (A := keepK _ _ (Hole _) _) HS (by repeat first | exact .h | apply Spot.t) ?_ ?_); assumption; intro hC) | ((fail_if_success with_reducible refine EvKeep.hole ?_); (with_reducible refine EvKeep.abs (fun X kK => ?_)))) <;> conv => whnf)
  · refine ⟨⟨_, rfl, ?_⟩, rfl⟩
    have : l.all isW = false := by
      rw [Bool.eq_false_iff]
      intro hall
      rw [List.all_eq_true] at hall
      rw [hall _ (List.getElem_mem _)] at c
      cases c
    rw [this]
    simp
  · refine ⟨_, (by (repeat' (first | exact trivial | refine ⟨rfl, ?_⟩))), ⟨rfl, k + 1, by omega, ?_, ?_⟩, ?_⟩
    · show IntKind.i64.wrap _ = _
      rw [i64w _ (by omega) (by omega)]; omega
    · simp only [Int.toNat_natCast] at c
      rw [List.take_succ_eq_append_getElem (by omega), List.all_append, ht]
      simp [c]
    · show ((n : Int) - IntKind.i64.wrap _).toNat < _
      rw [i64w _ (by omega) (by omega)]; omega
  · refine ⟨⟨_, rfl, ?_⟩, rfl⟩
    rw [List.take_of_length_le (by omega)] at ht
    rw [ht]
    simp
theorem containsW_c {h : Hp} {A : Option Addr} {n c : Nat} {l : List Int} (r : Rd h A (ints .i64 l)) (hl : l.length = n) (hn : n ≤ 1000000000) : HC Try.prog 108 [.slice A n c, .func (.func 109) #[] #[]] h fun v h' => v = .bool (!l.all isW) ∧ h' = h := by
  refine hc_of Try.func108 (rfl : Try.f108.body = some _) Try.ntmps108 Try.results108 Try.call108 rfl ?_; have HS := Sep.nil h; conv => whnf
  repeat' ((first | (with_reducible first | refine EvSeq.go ?_ | refine EvIf.tt ?_ | refine EvIf.ff ?_) | ((with_reducible refine Hole.mk (kK ?_)); clear kK) | ((with_reducible refine EvIf.mk (fun c => ?_) (fun c => ?_)) <;> (try simp only [cs_] at c) <;> (try (exfalso; first | omega | (revert c; decide)))) | ((with_reducible refine EvNew.sep HS ?_); intro bN hN HS1 hX; replace HS := HS1; clear HS1) | ((with_reducible refine EvIdx.lit ?_ ?_ ?_); (first | omega | decide); (first | omega | decide)) | ((with_reducible first | refine EvNe.mk ?_ ?_ | refine EvGe.mk ?_ ?_); (first | decide | omega)) | ((with_reducible refine EvLd.q HS (by repeat first | exact .h | apply Spot.t) ?_); (conv => whnf); intro hC) | (with_reducible refine EvLdN.q HS (by repeat first | exact .h | apply Spot.t) (fun hC => ?_)) | ((with_reducible refine EvSt.q HS (by repeat first | exact .h | apply Spot.t) ?_); (conv => whnf); intro hN HS1 hU; replace HS := HS1; clear HS1) | ((with_reducible refine EvKeep.cq (A := keepK _ _ (Hole _) _) HS (by repeat first | exact .h | apply Spot.t) ?_); (conv => whnf); (refine ⟨?_, ?_⟩); assumption; intro hC) | ((with_reducible refine EvKeep.nq (A := keepK _ _ (Hole _) _) HS (by repeat first | exact .h | apply Spot.t) ?_ ?_); assumption; intro hC) | ((fail_if_success with_reducible refine EvKeep.hole ?_); (with_reducible refine EvKeep.abs (fun X kK => ?_)))) <;> conv => whnf)
  refine EvCall.mk ((indexW_c r hl hn).mono ?_)
  rintro _ _ ⟨⟨k, rfl, hk⟩, rfl⟩
  conv => whnf
  repeat' ((first | (with_reducible first | refine EvSeq.go ?_ | refine EvIf.tt ?_ | refine EvIf.ff ?_) | ((with_reducible refine Hole.mk (kK ?_)); clear kK) | ((with_reducible refine EvIf.mk (fun c => ?_) (fun c => ?_)) <;> (try simp only [cs_] at c) <;> (try (exfalso; first | omega | (revert c; decide)))) | ((with_reducible refine EvNew.sep HS ?_); intro bN hN HS1 hX; replace HS := HS1; clear HS1) | ((with_reducible refine EvIdx.lit ?_ ?_ ?_); (first | omega | decide); (first | omega | decide)) | ((with_reducible first | refine EvNe.mk ?_ ?_ | refine EvGe.mk ?_ ?_); (first | decide | omega)) | ((with_reducible refine EvLd.q HS (by repeat first | exact .h | apply Spot.t) ?_); (conv => whnf); intro hC) | (with_reducible refine EvLdN.q HS (by repeat first | exact .h | apply Spot.t) (fun hC => ?_)) | ((with_reducible refine EvSt.q HS (by repeat first | exact .h | apply Spot.t) ?_); (conv => whnf); intro hN HS1 hU; replace HS := HS1; clear HS1) | ((with_reducible refine EvKeep.cq (A := keepK _ _ (Hole _) _) HS (by repeat first | exact .h | apply Spot.t) ?_); (conv => whnf); (refine ⟨?_, ?_⟩); assumption; intro hC) | ((with_reducible refine EvKeep.nq (A := keepK _ _ (Hole _) _) HS (by repeat first | exact .h | apply Spot.t) ?_ ?_); assumption; intro hC) | ((fail_if_success with_reducible refine EvKeep.hole ?_); (with_reducible refine EvKeep.abs (fun X kK => ?_)))) <;> conv => whnf)
  refine ⟨congrArg Value.bool ?_, rfl⟩
  cases ha : l.all isW
  · exact decide_eq_true (hk.mpr ha)
  · refine decide_eq_false (fun e => ?_)
    have := hk.mp e
    rw [ha] at this
    cases this
theorem isWord_c {h : Hp} {A : Option Addr} {n c : Nat} {l : List Int} (r : Rd h A (ints .i64 l)) (hl : l.length = n) (hn : n ≤ 1000000000) : HC Try.prog 56 [.slice A n c] h fun v h' => v = .bool (l.all isW) ∧ h' = h := by
  refine hc_of Try.func56 (rfl : Try.f56.body = some _) Try.ntmps56 Try.results56 Try.call56 rfl ?_; have HS := Sep.nil h; conv => whnf
  repeat' ((first | ((with_reducible refine EvCall.mk (HC.mono (containsW_c r hl hn) ?_)); (rintro _ _ ⟨rfl, rfl⟩)) | (with_reducible first | refine EvSeq.go ?_ | refine EvIf.tt ?_ | refine EvIf.ff ?_) | ((with_reducible refine Hole.mk (kK ?_)); clear kK) | ((with_reducible refine EvIf.mk (fun c => ?_) (fun c => ?_)) <;> (try simp only [cs_] at c) <;> (try (exfalso; first | omega | (revert c; decide)))) | ((with_reducible refine EvNew.sep HS ?_); intro bN hN HS1 hX; replace HS := HS1; clear HS1) | ((with_reducible refine EvIdx.lit ?_ ?_ ?_); (first | omega | decide); (first | omega | decide)) | ((with_reducible first | refine EvNe.mk ?_ ?_ | refine EvGe.mk ?_ ?_); (first | decide | omega)) | ((with_reducible refine EvLd.q HS (by repeat first | exact .h | apply Spot.t) ?_); (conv => whnf); intro hC) | (with_reducible refine EvLdN.q HS (by repeat first | exact .h | apply Spot.t) (fun hC => ?_)) | ((with_reducible refine EvSt.q HS (by repeat first | exact .h | apply Spot.t) ?_); (conv => whnf); intro hN HS1 hU; replace HS := HS1; clear HS1) | ((with_reducible refine EvKeep.cq (A := keepK _ _ (Hole _) _) HS (by repeat first | exact .h | apply Spot.t) ?_); (conv => whnf); (refine ⟨?_, ?_⟩); assumption; intro hC) | ((with_reducible refine EvKeep.nq (A := keepK _ _ (Hole _) _) HS (by repeat first | exact .h | apply Spot.t) ?_ ?_); assumption; intro hC) | ((fail_if_success with_reducible refine EvKeep.hole ?_); (with_reducible refine EvKeep.abs (fun X kK => ?_)))) <;> conv => whnf)
  refine ⟨congrArg Value.bool ?_, rfl⟩
  cases l.all isW <;> rfl
theorem codeOk_c {h : Hp} {A : Option Addr} {n c : Nat} {l : List Int} (r : Rd h A (ints .i64 l)) (hl : l.length = n) (hn : n ≤ 1000000000) : HC Try.prog 51 [.slice A n c] h fun v h' => v = .bool (codeOk l) ∧ h' = h := by
  refine hc_of Try.func51 (rfl : Try.f51.body = some _) Try.ntmps51 Try.results51 Try.call51 rfl ?_; have HS := Sep.nil h; conv => whnf
  repeat' ((first | ((with_reducible refine EvCall.mk (HC.mono (inside_c _ _ _ _) ?_)); (rintro _ _ ⟨rfl, rfl⟩)) | ((with_reducible refine EvCall.mk (HC.mono (isWord_c r hl hn) ?_)); (rintro _ _ ⟨rfl, rfl⟩)) | (with_reducible first | refine EvSeq.go ?_ | refine EvIf.tt ?_ | refine EvIf.ff ?_) | ((with_reducible refine Hole.mk (kK ?_)); clear kK) | ((with_reducible refine EvIf.mk (fun c => ?_) (fun c => ?_)) <;> (try simp only [cs_] at c) <;> (try (exfalso; first | omega | (revert c; decide)))) | ((with_reducible refine EvNew.sep HS ?_); intro bN hN HS1 hX; replace HS := HS1; clear HS1) | ((with_reducible refine EvIdx.lit ?_ ?_ ?_); (first | omega | decide); (first | omega | decide)) | ((with_reducible first | refine EvNe.mk ?_ ?_ | refine EvGe.mk ?_ ?_); (first | decide | omega)) | ((with_reducible refine EvLd.q HS (by repeat first | exact .h | apply Spot.t) ?_); (conv => whnf); intro hC) | (with_reducible refine EvLdN.q HS (by repeat first | exact .h | apply Spot.t) (fun hC => ?_)) | ((with_reducible refine EvSt.q HS (by repeat first | exact .h | apply Spot.t) ?_); (conv => whnf); intro hN HS1 hU; replace HS := HS1; clear HS1) | ((with_reducible refine EvKeep.cq (A := keepK _ _ (Hole _) _) HS (by repeat first | exact .h | apply Spot.t) ?_); (conv => whnf); (refine ⟨?_, ?_⟩); assumption; intro hC) | ((with_reducible refine EvKeep.nq (A := keepK _ _ (Hole _) _) HS (by repeat first | exact .h | apply Spot.t) ?_ ?_); assumption; intro hC) | ((fail_if_success with_reducible refine EvKeep.hole ?_); (with_reducible refine EvKeep.abs (fun X kK => ?_)))) <;> conv => whnf)
  all_goals
    refine ⟨congrArg Value.bool ?_, rfl⟩
    unfold codeOk
    rw [hl]
    rw [Bool.eq_iff_iff]
    simp at *
    try omega
theorem l3CodeOk_c {h : Hp} {A : Option Addr} {n c : Nat} {l : List Int} (r : Rd h A (ints .i64 l)) (hl : l.length = n) (hn : n ≤ 1000000000) : HC Try.prog 47 [.slice A n c] h fun v h' => v = .bool (codeOk l) ∧ h' = h := by
  refine hc_of Try.func47 (rfl : Try.f47.body = some _) Try.ntmps47 Try.results47 Try.call47 rfl ?_; have HS := Sep.nil h; conv => whnf
  repeat' ((first | (with_reducible first | refine EvSeq.go ?_ | refine EvIf.tt ?_ | refine EvIf.ff ?_) | ((with_reducible refine Hole.mk (kK ?_)); clear kK) | ((with_reducible refine EvIf.mk (fun c => ?_) (fun c => ?_)) <;> (try simp only [cs_] at c) <;> (try (exfalso; first | omega | (revert c; decide)))) | ((with_reducible refine EvNew.sep HS ?_); intro bN hN HS1 hX; replace HS := HS1; clear HS1) | ((with_reducible refine EvIdx.lit ?_ ?_ ?_); (first | omega | decide); (first | omega | decide)) | ((with_reducible first | refine EvNe.mk ?_ ?_ | refine EvGe.mk ?_ ?_); (first | decide | omega)) | ((with_reducible refine EvLd.q HS (by repeat first | exact .h | apply Spot.t) ?_); (conv => whnf); intro hC) | (with_reducible refine EvLdN.q HS (by repeat first | exact .h | apply Spot.t) (fun hC => ?_)) | ((with_reducible refine EvSt.q HS (by repeat first | exact .h | apply Spot.t) ?_); (conv => whnf); intro hN HS1 hU; replace HS := HS1; clear HS1) | ((with_reducible refine EvKeep.cq (A := keepK _ _ (Hole _) _) HS (by repeat first | exact .h | apply Spot.t) ?_); (conv => whnf); (refine ⟨?_, ?_⟩); assumption; intro hC) | ((with_reducible refine EvKeep.nq (A := keepK _ _ (Hole _) _) HS (by repeat first | exact .h | apply Spot.t) ?_ ?_); assumption; intro hC) | ((fail_if_success with_reducible refine EvKeep.hole ?_); (with_reducible refine EvKeep.abs (fun X kK => ?_)))) <;> conv => whnf)
  · refine ⟨congrArg Value.bool ?_, rfl⟩
    unfold codeOk
    rw [hl, decide_eq_false (by omega)]
    rfl
  · refine ⟨congrArg Value.bool ?_, rfl⟩
    unfold codeOk
    rw [hl, decide_eq_false (by omega)]
    rfl
  · refine EvLoop.keep ([2, 3, 12, 13, 14, 15, 16, 17, 18, 19, 20, 21, 22, 23], 4) (α := Int) (fun x => [(3, .int .i64 x)]) (fun x h' => h' = h ∧ ∃ k : Nat, k ≤ n ∧ x = k ∧ (l.take k).all isW = true) (fun x => ((n : Int) - x).toNat) 0 (by (repeat' (first | exact trivial | refine ⟨rfl, ?_⟩))) ⟨rfl, 0, by omega, rfl, rfl⟩ ?_
    rintro _ _ ⟨rfl, k, hk, rfl, ht⟩
    conv => whnf
    repeat' ((first | ((with_reducible refine EvIdx.rd r (by simpa using hl) (by omega) (by omega) ?_); intro bI oI eI hI) | ((with_reducible refine EvLd.row (by assumption) (by omega) ?_)) | ((with_reducible refine EvCall.mk (HC.mono (l3WordOk_c _ _) ?_)); (rintro _ _ ⟨rfl, rfl⟩)) | (with_reducible first | refine EvSeq.go ?_ | refine EvIf.tt ?_ | refine EvIf.ff ?_) | ((with_reducible refine Hole.mk (kK ?_)); clear kK) | ((with_reducible refine EvIf.mk (fun c => ?_) (fun c => ?_)) <;> (try simp only [cs_] at c) <;> (try (exfalso; first | omega | (revert c; decide)))) | ((with_reducible refine EvNew.sep HS ?_); intro bN hN HS1 hX; replace HS := HS1; clear HS1) | ((with_reducible refine EvIdx.lit ?_ ?_ ?_); (first | omega | decide); (first | omega | decide)) | ((with_reducible first | refine EvNe.mk ?_ ?_ | refine EvGe.mk ?_ ?_); (first | decide | omega)) | ((with_reducible refine EvLd.q HS (by repeat first | exact .h | apply Spot.t) ?_); (conv => whnf); intro hC) | (with_reducible refine EvLdN.q HS (by repeat first | exact .h | apply Spot.t) (fun hC => ?_)) | ((with_reducible refine EvSt.q HS (by repeat first | exact .h | apply Spot.t) ?_); (conv => whnf); intro hN HS1 hU; replace HS := HS1; clear HS1) | ((with_reducible refine EvKeep.cq (A := keepK _ _ (Hole _) _) HS (by repeat first | exact .h | apply Spot.t) ?_); (conv => whnf); (refine ⟨?_, ?_⟩); assumption; intro hC) | ((with_reducible refine EvKeep.nq (A := keepK _ _ (Hole _) _) HS (by repeat first | exact .h | apply Spot.t) ?_ ?_); assumption; intro hC) | ((fail_if_success with_reducible refine EvKeep.hole ?_); (with_reducible refine EvKeep.abs (fun X kK => ?_)))) <;> conv => whnf)
    · refine ⟨congrArg Value.bool ?_, rfl⟩
      unfold codeOk
      have : l.all isW = false := by
        rw [Bool.eq_false_iff]
        intro hall
        rw [List.all_eq_true] at hall
        rw [hall _ (List.getElem_mem _)] at c
        cases c
      rw [this]
      simp
    · refine ⟨_, (by (repeat' (first | exact trivial | refine ⟨rfl, ?_⟩))), ⟨rfl, k + 1, by omega, ?_, ?_⟩, ?_⟩
      · show IntKind.i64.wrap _ = _
        rw [i64w _ (by omega) (by omega)]; omega
      · simp only [Int.toNat_natCast] at c
        rw [List.take_succ_eq_append_getElem (by omega), List.all_append, ht]
        simp [c]
      · show ((n : Int) - IntKind.i64.wrap _).toNat < _
        rw [i64w _ (by omega) (by omega)]; omega
    · refine ⟨congrArg Value.bool ?_, rfl⟩
      rw [List.take_of_length_le (by omega)] at ht
      unfold codeOk
      rw [ht, decide_eq_true (by omega)]
      rfl
def mok (m : Mac) : Bool := codeOk m.code && (decide (m.data.length ≤ 65536) && (stackOk m.stack.length && (isW m.pc && (decide (m.regs.length = 32) && (m.regs.all isW && (decide (m.regs.getD 0 0 = 0) && (decide (m.inp.length ≤ 10000) && (decide (m.out.length ≤ 10000) && (decide (0 ≤ m.steps ∧ m.steps ≤ 1000000) && (decide (0 ≤ m.fin ∧ m.fin ≤ 3) && isW m.value))))))))))
set_option maxHeartbeats 4000000 in
theorem iMok_c {h : Hp} {x : MH} {m : Mac} (r : RdM h x m) (b : Small x) : HC Try.prog 19 [x.v m] h fun v h' => v = .bool (mok m) ∧ Ext h h' := by
  refine hc_of Try.func19 (rfl : Try.f19.body = some _) Try.ntmps19 Try.results19 Try.call19 rfl ?_; have HS := Sep.nil h; conv => whnf
  repeat' ((first | ((with_reducible refine EvIdx.rd (r.r.ext HS.to_ext) (by simpa using r.rl) (by omega) (by omega) ?_); intro bI oI eI hI) | ((with_reducible refine EvLd.row (by assumption) (by have := r.rl; omega) ?_)) | ((with_reducible refine EvCall.mk (HC.mono (codeOk_c (r.c.ext HS.to_ext) r.cl b.c) ?_)); (rintro _ _ ⟨rfl, rfl⟩)) | ((with_reducible refine EvCall.mk (HC.mono (stackOk_c _ _) ?_)); (rintro _ _ ⟨rfl, rfl⟩)) | ((with_reducible refine EvCall.mk (HC.mono (isWord_c (l := [m.pc, m.value]) (Rd.of_blk (HS.pt_i 0 rfl)) rfl (by decide)) ?_)); (rintro _ _ ⟨rfl, rfl⟩)) | ((with_reducible refine EvCall.mk (HC.mono (isWord_c (r.r.ext HS.to_ext) r.rl b.r) ?_)); (rintro _ _ ⟨rfl, rfl⟩)) | ((with_reducible refine EvCall.mk (HC.mono (inside_c _ _ _ _) ?_)); (rintro _ _ ⟨rfl, rfl⟩)) | (with_reducible first | refine EvSeq.go ?_ | refine EvIf.tt ?_ | refine EvIf.ff ?_) | ((with_reducible refine Hole.mk (kK ?_)); clear kK) | ((with_reducible refine EvIf.mk (fun c => ?_) (fun c => ?_)) <;> (try simp only [cs_] at c) <;> (try (exfalso; first | omega | (revert c; decide)))) | ((with_reducible refine EvNew.sep HS ?_); intro bN hN HS1 hX; replace HS := HS1; clear HS1) | ((with_reducible refine EvIdx.lit ?_ ?_ ?_); (first | omega | decide); (first | omega | decide)) | ((with_reducible first | refine EvNe.mk ?_ ?_ | refine EvGe.mk ?_ ?_); (first | decide | omega)) | ((with_reducible refine EvLd.q HS (by repeat first | exact .h | apply Spot.t) ?_); (conv => whnf); intro hC) | (with_reducible refine EvLdN.q HS (by repeat first | exact .h | apply Spot.t) (fun hC => ?_)) | ((with_reducible refine EvSt.q HS (by repeat first | exact .h | apply Spot.t) ?_); (conv => whnf); intro hN HS1 hU; replace HS := HS1; clear HS1) | ((with_reducible refine EvKeep.cq (A := keepK _ _ (Hole _) _) HS (by repeat first | exact .h | apply Spot.t) ?_); (conv => whnf); (refine ⟨?_, ?_⟩); assumption; intro hC) | ((with_reducible refine EvKeep.nq (A := keepK _ _ (Hole _) _) HS (by repeat first | exact .h | apply Spot.t) ?_ ?_); assumption; intro hC) | ((fail_if_success with_reducible refine EvKeep.hole ?_); (with_reducible refine EvKeep.abs (fun X kK => ?_)))) <;> conv => whnf)
  all_goals
    refine ⟨congrArg Value.bool ?_, HS.to_ext⟩
    have hd := r.dl
    have hs := r.sl
    have hr := r.rl
    have hi := r.il
    have ho := r.ol
    clear HS
    have hg : ∀ h : Int.toNat 0 < m.regs.length, m.regs[Int.toNat 0] = m.regs.getD 0 0 := fun h => by simp [List.getD, List.getElem?_eq_getElem (show 0 < m.regs.length from h)]
    unfold mok
    rw [hd, hs, hr, hi, ho]
    grind
set_option maxHeartbeats 4000000 in
theorem sMok_c {h : Hp} {x : MH} {m : Mac} (r : RdM h x m) (b : Small x) : HC Try.prog 17 [x.v m] h fun v h' => v = .bool (mok m) ∧ Ext h h' := by
  have hd := r.dl
  have hs := r.sl
  have hr := r.rl
  have hi := r.il
  have ho := r.ol
  have hg : ∀ h : Int.toNat 0 < m.regs.length, m.regs[Int.toNat 0] = m.regs.getD 0 0 := fun h => by simp [List.getD, List.getElem?_eq_getElem (show 0 < m.regs.length from h)]
  refine hc_of Try.func17 (rfl : Try.f17.body = some _) Try.ntmps17 Try.results17 Try.call17 rfl ?_; have HS := Sep.nil h; conv => whnf
  repeat' ((first | ((with_reducible refine EvIdx.rd (r.r.ext HS.to_ext) (by simpa using r.rl) (by omega) (by omega) ?_); intro bI oI eI hI) | ((with_reducible refine EvLd.row (by assumption) (by have := r.rl; omega) ?_)) | ((with_reducible refine EvCall.mk (HC.mono (l3CodeOk_c (r.c.ext HS.to_ext) r.cl b.c) ?_)); (rintro _ _ ⟨rfl, rfl⟩)) | ((with_reducible refine EvCall.mk (HC.mono (l3StackOk_c _ _) ?_)); (rintro _ _ ⟨rfl, rfl⟩)) | ((with_reducible refine EvCall.mk (HC.mono (l3WordOk_c _ _) ?_)); (rintro _ _ ⟨rfl, rfl⟩)) | (with_reducible first | refine EvSeq.go ?_ | refine EvIf.tt ?_ | refine EvIf.ff ?_) | ((with_reducible refine Hole.mk (kK ?_)); clear kK) | ((with_reducible refine EvIf.mk (fun c => ?_) (fun c => ?_)) <;> (try simp only [cs_] at c) <;> (try (exfalso; first | omega | (revert c; decide)))) | ((with_reducible refine EvNew.sep HS ?_); intro bN hN HS1 hX; replace HS := HS1; clear HS1) | ((with_reducible refine EvIdx.lit ?_ ?_ ?_); (first | omega | decide); (first | omega | decide)) | ((with_reducible first | refine EvNe.mk ?_ ?_ | refine EvGe.mk ?_ ?_); (first | decide | omega)) | ((with_reducible refine EvLd.q HS (by repeat first | exact .h | apply Spot.t) ?_); (conv => whnf); intro hC) | (with_reducible refine EvLdN.q HS (by repeat first | exact .h | apply Spot.t) (fun hC => ?_)) | ((with_reducible refine EvSt.q HS (by repeat first | exact .h | apply Spot.t) ?_); (conv => whnf); intro hN HS1 hU; replace HS := HS1; clear HS1) | ((with_reducible refine EvKeep.cq (A := keepK _ _ (Hole _) _) HS (by repeat first | exact .h | apply Spot.t) ?_); (conv => whnf); (refine ⟨?_, ?_⟩); assumption; intro hC) | ((with_reducible refine EvKeep.nq (A := keepK _ _ (Hole _) _) HS (by repeat first | exact .h | apply Spot.t) ?_ ?_); assumption; intro hC) | ((fail_if_success with_reducible refine EvKeep.hole ?_); (with_reducible refine EvKeep.abs (fun X kK => ?_)))) <;> conv => whnf)
  all_goals try
    (refine ⟨congrArg Value.bool ?_, HS.to_ext⟩
     clear HS
     unfold mok
     rw [hd, hs, hr, hi, ho]
     grind)
  have hl : m.regs.length = 32 := by omega
  refine EvLoop.keep ([2, 3, 40, 41, 42, 43, 44, 45, 46, 47, 48, 49, 50], 4) (α := Int) (fun x => [(3, .int .i64 x)]) (fun y h' => Sep h h' [Bx bN [x.c.v, .int .i64 m.pc, x.r.v, x.d.v, x.s.v, x.i.v, x.o.v, .int .i64 m.steps, .int .i64 m.fin, .int .i64 m.value] 36] ∧ ∃ k : Nat, k ≤ 32 ∧ y = k ∧ (m.regs.take k).all isW = true) (fun x => ((32 : Int) - x).toNat) 0 (by (repeat' (first | exact trivial | refine ⟨rfl, ?_⟩))) ⟨HS, 0, by omega, rfl, rfl⟩ ?_
  clear HS hI eI
  rintro _ _ ⟨HS, k, hk, rfl, ht⟩
  conv => whnf
  repeat' ((first | ((with_reducible refine EvIdx.rd (r.r.ext HS.to_ext) (by simpa using r.rl) (by omega) (by omega) ?_); intro bI oI eI hI) | ((with_reducible refine EvLd.row (by assumption) (by omega) ?_)) | ((with_reducible refine EvCall.mk (HC.mono (l3WordOk_c _ _) ?_)); (rintro _ _ ⟨rfl, rfl⟩)) | (with_reducible first | refine EvSeq.go ?_ | refine EvIf.tt ?_ | refine EvIf.ff ?_) | ((with_reducible refine Hole.mk (kK ?_)); clear kK) | ((with_reducible refine EvIf.mk (fun c => ?_) (fun c => ?_)) <;> (try simp only [cs_] at c) <;> (try (exfalso; first | omega | (revert c; decide)))) | ((with_reducible refine EvNew.sep HS ?_); intro bN hN HS1 hX; replace HS := HS1; clear HS1) | ((with_reducible refine EvIdx.lit ?_ ?_ ?_); (first | omega | decide); (first | omega | decide)) | ((with_reducible first | refine EvNe.mk ?_ ?_ | refine EvGe.mk ?_ ?_); (first | decide | omega)) | ((with_reducible refine EvLd.q HS (by repeat first | exact .h | apply Spot.t) ?_); (conv => whnf); intro hC) | (with_reducible refine EvLdN.q HS (by repeat first | exact .h | apply Spot.t) (fun hC => ?_)) | ((with_reducible refine EvSt.q HS (by repeat first | exact .h | apply Spot.t) ?_); (conv => whnf); intro hN HS1 hU; replace HS := HS1; clear HS1) | ((with_reducible refine EvKeep.cq (A := keepK _ _ (Hole _) _) HS (by repeat first | exact .h | apply Spot.t) ?_); (conv => whnf); (refine ⟨?_, ?_⟩); assumption; intro hC) | ((with_reducible refine EvKeep.nq (A := keepK _ _ (Hole _) _) HS (by repeat first | exact .h | apply Spot.t) ?_ ?_); assumption; intro hC) | ((fail_if_success with_reducible refine EvKeep.hole ?_); (with_reducible refine EvKeep.abs (fun X kK => ?_)))) <;> conv => whnf)
  · refine ⟨congrArg Value.bool ?_, HS.to_ext⟩
    have : m.regs.all isW = false := by
      rw [Bool.eq_false_iff]
      intro hall
      rw [List.all_eq_true] at hall
      rename_i c' _ _
      rw [hall _ (List.getElem_mem _)] at c
      cases c
    clear HS
    unfold mok
    rw [this]
    grind
  · refine ⟨_, (by (repeat' (first | exact trivial | refine ⟨rfl, ?_⟩))), ⟨HS, k + 1, by omega, ?_, ?_⟩, ?_⟩
    · show IntKind.i64.wrap _ = _
      rw [i64w _ (by omega) (by omega)]; omega
    · simp only [Int.toNat_natCast] at c
      rw [List.take_succ_eq_append_getElem (by omega), List.all_append, ht]
      simp [c]
    · show ((32 : Int) - IntKind.i64.wrap _).toNat < _
      rw [i64w _ (by omega) (by omega)]; omega
  all_goals
    (refine ⟨congrArg Value.bool ?_, HS.to_ext⟩
     clear HS
     rw [List.take_of_length_le (by omega)] at ht
     unfold mok
     rw [hd, hs, hr, hi, ho]
     grind)
end Go.Proofs.Ythndggachjdkfaa
