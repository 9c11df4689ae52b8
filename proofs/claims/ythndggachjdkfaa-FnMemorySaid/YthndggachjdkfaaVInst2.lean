/- Walks of the reference's and the program's functions on words and instructions. -/
import Derived.Test.YthndggachjdkfaaVInst
namespace Go.Proofs.Ythndggachjdkfaa
open Go.RowKit
set_option maxRecDepth 20000
set_option linter.unusedSimpArgs false
set_option linter.unusedVariables false
theorem sSigned_c (n : Int) (h : Hp) : HC Try.prog 147 [.int .i64 n] h fun v h' => v = .int .i64 (sg n) ∧ h' = h := by
  refine hc_of Try.func147 (rfl : Try.f147.body = some _) Try.ntmps147 Try.results147 Try.call147 rfl ?_; have HS := Sep.nil h; conv => whnf
  repeat' ((first | ((with_reducible refine EvCall.mk (HC.mono (sWord_c _ _) ?_)); (rintro _ _ ⟨rfl, rfl⟩)) | (with_reducible first | refine EvSeq.go ?_ | refine EvIf.tt ?_ | refine EvIf.ff ?_) | ((with_reducible refine Hole.mk (kK ?_)); clear kK) | ((with_reducible refine EvIf.mk (fun c => ?_) (fun c => ?_)) <;> (try simp only [cs_] at c) <;> (try (exfalso; first | omega | (revert c; decide)))) | ((with_reducible refine EvNew.sep HS ?_); intro bN hN HS1 hX; replace HS := HS1; clear HS1) | ((with_reducible refine EvIdx.lit ?_ ?_ ?_); (first | omega | decide); (first | omega | decide)) | ((with_reducible first | refine EvNe.mk ?_ ?_ | refine EvGe.mk ?_ ?_); (first | decide | omega)) | ((with_reducible refine EvLd.q HS (by repeat first | exact .h | apply Spot.t) ?_); (conv => whnf); intro hC) | (with_reducible refine EvLdN.q HS (by repeat first | exact .h | apply Spot.t) (fun hC => ?_)) | ((with_reducible refine EvSt.q HS (by repeat first | exact .h | apply Spot.t) ?_); (conv => whnf); intro hN HS1 hU; replace HS := HS1; clear HS1) | ((with_reducible refine EvKeep.cq (A := keepK _ _ (Hole _) _) HS (by repeat first | exact .h | apply Spot.t) ?_); (conv => whnf); (refine ⟨?_, ?_⟩); assumption; intro hC) | ((with_reducible refine EvKeep.nq (A := keepK _ _ (Hole _) _) HS (by repeat first | exact .h | apply Spot.t) ?_ ?_); assumption; intro hC) | ((fail_if_success with_reducible refine EvKeep.hole ?_); (with_reducible refine EvKeep.abs (fun X kK => ?_)))) <;> conv => whnf)
  all_goals
    refine ⟨?_, rfl⟩
    show Value.int _ _ = _
    unfold sg
    first
    | (rw [i64w _ (by omega) (by omega)]; congr 1; omega)
    | (congr 1; omega)
theorem iSigned_c (n : Int) (h : Hp) : HC Try.prog 99 [.int .i64 n] h fun v h' => v = .int .i64 (sg n) ∧ h' = h := by
  refine hc_of Try.func99 (rfl : Try.f99.body = some _) Try.ntmps99 Try.results99 Try.call99 rfl ?_; have HS := Sep.nil h; conv => whnf
  repeat' ((first | (with_reducible first | refine EvSeq.go ?_ | refine EvIf.tt ?_ | refine EvIf.ff ?_) | ((with_reducible refine Hole.mk (kK ?_)); clear kK) | ((with_reducible refine EvIf.mk (fun c => ?_) (fun c => ?_)) <;> (try simp only [cs_] at c) <;> (try (exfalso; first | omega | (revert c; decide)))) | ((with_reducible refine EvNew.sep HS ?_); intro bN hN HS1 hX; replace HS := HS1; clear HS1) | ((with_reducible refine EvIdx.lit ?_ ?_ ?_); (first | omega | decide); (first | omega | decide)) | ((with_reducible first | refine EvNe.mk ?_ ?_ | refine EvGe.mk ?_ ?_); (first | decide | omega)) | ((with_reducible refine EvLd.q HS (by repeat first | exact .h | apply Spot.t) ?_); (conv => whnf); intro hC) | (with_reducible refine EvLdN.q HS (by repeat first | exact .h | apply Spot.t) (fun hC => ?_)) | ((with_reducible refine EvSt.q HS (by repeat first | exact .h | apply Spot.t) ?_); (conv => whnf); intro hN HS1 hU; replace HS := HS1; clear HS1) | ((with_reducible refine EvKeep.cq (A := keepK _ _ (Hole _) _) HS (by repeat first | exact .h | apply Spot.t) ?_); (conv => whnf); (refine ⟨?_, ?_⟩); assumption; intro hC) | ((with_reducible refine EvKeep.nq (A := keepK _ _ (Hole _) _) HS (by repeat first | exact .h | apply Spot.t) ?_ ?_); assumption; intro hC) | ((fail_if_success with_reducible refine EvKeep.hole ?_); (with_reducible refine EvKeep.abs (fun X kK => ?_)))) <;> conv => whnf)
  refine ⟨?_, rfl⟩
  show Value.int _ _ = _
  congr 1
  rw [wrap_u32, wrap_i32, iw64]
  unfold sg
  rw [w64 (by omega) (by omega)]
  omega
theorem pow_le62 (n : Nat) (hn : n ≤ 62) : (1 : Int) ≤ 2 ^ n ∧ (2 : Int) ^ n ≤ 4611686018427387904 := by
  have h1 := Nat.pow_le_pow_right (show 0 < 2 by decide) hn
  have h2 := Nat.one_le_two_pow (n := n)
  have hc : ((2 ^ n : Nat) : Int) = (2 : Int) ^ n := by simp
  omega
theorem power_c (n : Nat) (h : Hp) (hn : n ≤ 62) : HC Try.prog 77 [.int .i64 n] h fun v h' => v = .int .i64 (2 ^ n) ∧ h' = h := by
  refine hc_of Try.func77 (rfl : Try.f77.body = some _) Try.ntmps77 Try.results77 Try.call77 rfl ?_; have HS := Sep.nil h; conv => whnf
  repeat' ((first | (with_reducible first | refine EvSeq.go ?_ | refine EvIf.tt ?_ | refine EvIf.ff ?_) | ((with_reducible refine Hole.mk (kK ?_)); clear kK) | ((with_reducible refine EvIf.mk (fun c => ?_) (fun c => ?_)) <;> (try simp only [cs_] at c) <;> (try (exfalso; first | omega | (revert c; decide)))) | ((with_reducible refine EvNew.sep HS ?_); intro bN hN HS1 hX; replace HS := HS1; clear HS1) | ((with_reducible refine EvIdx.lit ?_ ?_ ?_); (first | omega | decide); (first | omega | decide)) | ((with_reducible first | refine EvNe.mk ?_ ?_ | refine EvGe.mk ?_ ?_); (first | decide | omega)) | ((with_reducible refine EvLd.q HS (by repeat first | exact .h | apply Spot.t) ?_); (conv => whnf); intro hC) | (with_reducible refine EvLdN.q HS (by repeat first | exact .h | apply Spot.t) (fun hC => ?_)) | ((with_reducible refine EvSt.q HS (by repeat first | exact .h | apply Spot.t) ?_); (conv => whnf); intro hN HS1 hU; replace HS := HS1; clear HS1) | ((with_reducible refine EvKeep.cq (A := keepK _ _ (Hole _) _) HS (by repeat first | exact .h | apply Spot.t) ?_); (conv => whnf); (refine ⟨?_, ?_⟩); assumption; intro hC) | ((with_reducible refine EvKeep.nq (A := keepK _ _ (Hole _) _) HS (by repeat first | exact .h | apply Spot.t) ?_ ?_); assumption; intro hC) | ((fail_if_success with_reducible refine EvKeep.hole ?_); (with_reducible refine EvKeep.abs (fun X kK => ?_)))) <;> conv => whnf)
  refine EvLoop.rule (α := Int × Int) (fun x => [(0, .int .i64 n), (3, .int .i64 x.1), (4, .int .i64 x.2)]) (fun x h' => h' = h ∧ ∃ k : Nat, k ≤ n ∧ x.2 = k ∧ x.1 = 2 ^ k) (fun x => ((n : Int) - x.2).toNat) (1, 0) ⟨rfl, rfl, rfl, trivial⟩ ⟨rfl, 0, by omega, rfl, rfl⟩ ?_
  rintro ⟨v, i⟩ _ ⟨rfl, k, hk, rfl, rfl⟩
  conv => whnf
  repeat' ((first | (with_reducible first | refine EvSeq.go ?_ | refine EvIf.tt ?_ | refine EvIf.ff ?_) | ((with_reducible refine Hole.mk (kK ?_)); clear kK) | ((with_reducible refine EvIf.mk (fun c => ?_) (fun c => ?_)) <;> (try simp only [cs_] at c) <;> (try (exfalso; first | omega | (revert c; decide)))) | ((with_reducible refine EvNew.sep HS ?_); intro bN hN HS1 hX; replace HS := HS1; clear HS1) | ((with_reducible refine EvIdx.lit ?_ ?_ ?_); (first | omega | decide); (first | omega | decide)) | ((with_reducible first | refine EvNe.mk ?_ ?_ | refine EvGe.mk ?_ ?_); (first | decide | omega)) | ((with_reducible refine EvLd.q HS (by repeat first | exact .h | apply Spot.t) ?_); (conv => whnf); intro hC) | (with_reducible refine EvLdN.q HS (by repeat first | exact .h | apply Spot.t) (fun hC => ?_)) | ((with_reducible refine EvSt.q HS (by repeat first | exact .h | apply Spot.t) ?_); (conv => whnf); intro hN HS1 hU; replace HS := HS1; clear HS1) | ((with_reducible refine EvKeep.cq (A := keepK _ _ (Hole _) _) HS (by repeat first | exact .h | apply Spot.t) ?_); (conv => whnf); (refine ⟨?_, ?_⟩); assumption; intro hC) | ((with_reducible refine EvKeep.nq (A := keepK _ _ (Hole _) _) HS (by repeat first | exact .h | apply Spot.t) ?_ ?_); assumption; intro hC) | ((fail_if_success with_reducible refine EvKeep.hole ?_); (with_reducible refine EvKeep.abs (fun X kK => ?_)))) <;> conv => whnf)
  · have hp := pow_le62 (k + 1) (by omega)
    have e : (2 : Int) ^ k * 2 = 2 ^ (k + 1) := by rw [Int.pow_succ]
    refine ⟨(_, _), ⟨rfl, rfl, rfl, trivial⟩, ⟨rfl, k + 1, by omega, ?_, ?_⟩, ?_⟩
    · show IntKind.i64.wrap _ = _
      rw [i64w _ (by omega) (by omega)]; omega
    · show IntKind.i64.wrap _ = _
      rw [e, i64w _ (by omega) (by omega)]
    · show ((n : Int) - IntKind.i64.wrap _).toNat < ((n : Int) - (k : Int)).toNat
      rw [i64w _ (by omega) (by omega)]; omega
  · refine ⟨?_, rfl⟩
    obtain rfl : k = n := by omega
    rfl
/-- Bits h to l. -/
def fl (h l n : Int) : Int := n % 4294967296 / 2 ^ l.toNat % 2 ^ (h - l + 1).toNat
theorem fl_range (h l n : Int) : 0 ≤ fl h l n ∧ fl h l n < 2 ^ (h - l + 1).toNat := by
  have hp : (0 : Int) < 2 ^ (h - l + 1).toNat := Int.pow_pos (by decide)
  unfold fl
  exact ⟨Int.emod_nonneg _ (by omega), Int.emod_lt_of_pos _ hp⟩
theorem power_i (n : Int) (h : Hp) (h0 : 0 ≤ n) (hn : n ≤ 62) : HC Try.prog 77 [.int .i64 n] h fun v h' => v = .int .i64 (2 ^ n.toNat) ∧ h' = h := by
  have := power_c n.toNat h (by omega)
  rwa [Int.toNat_of_nonneg h0] at this
theorem bits_c (n hi lo : Int) (h : Hp) (h0 : 0 ≤ lo) (h1 : lo ≤ hi) (h2 : hi ≤ 31) : HC Try.prog 160 [.int .i64 n, .int .i64 hi, .int .i64 lo] h fun v h' => v = .int .i64 (fl hi lo n) ∧ h' = h := by
  have e : IntKind.i64.wrap (IntKind.i64.wrap (hi - lo) + 1) = hi - lo + 1 := by rw [i64w (hi - lo) (by omega) (by omega), i64w _ (by omega) (by omega)]
  have p1 : (0 : Int) < 2 ^ lo.toNat := Int.pow_pos (by decide)
  have p2 : (0 : Int) < 2 ^ (hi - lo + 1).toNat := Int.pow_pos (by decide)
  have hd := ediv_le (n % 4294967296) (2 ^ lo.toNat) (by omega) (by omega)
  refine hc_of Try.func160 (rfl : Try.f160.body = some _) Try.ntmps160 Try.results160 Try.call160 rfl ?_; have HS := Sep.nil h; conv => whnf
  repeat' ((first | ((with_reducible refine EvDraw.ord (id := 1) (.go 0 (.go 2 (.go 5 (.go 6 (.go 7 (.go 8 (.alt 1 (.alt 3 (.go 4 (.alt 9 (.go 10 (.go 11 .done)) .stop)) .stop) .stop))))))) fol ?_ ?_ ?_); kernel_rfl; kernel_rfl) | ((with_reducible refine EvCall.mk (HC.mono (sWord_c _ _) ?_)); (rintro _ _ ⟨rfl, rfl⟩)) | (with_reducible first | refine EvSeq.go ?_ | refine EvIf.tt ?_ | refine EvIf.ff ?_) | ((with_reducible refine Hole.mk (kK ?_)); clear kK) | ((with_reducible refine EvIf.mk (fun c => ?_) (fun c => ?_)) <;> (try simp only [cs_] at c) <;> (try (exfalso; first | omega | (revert c; decide)))) | ((with_reducible refine EvNew.sep HS ?_); intro bN hN HS1 hX; replace HS := HS1; clear HS1) | ((with_reducible refine EvIdx.lit ?_ ?_ ?_); (first | omega | decide); (first | omega | decide)) | ((with_reducible first | refine EvNe.mk ?_ ?_ | refine EvGe.mk ?_ ?_); (first | decide | omega)) | ((with_reducible refine EvLd.q HS (by repeat first | exact .h | apply Spot.t) ?_); (conv => whnf); intro hC) | (with_reducible refine EvLdN.q HS (by repeat first | exact .h | apply Spot.t) (fun hC => ?_)) | ((with_reducible refine EvSt.q HS (by repeat first | exact .h | apply Spot.t) ?_); (conv => whnf); intro hN HS1 hU; replace HS := HS1; clear HS1) | ((with_reducible refine EvKeep.cq (A := keepK _ _ (Hole _) _) HS (by repeat first | exact .h | apply Spot.t) ?_); (conv => whnf); (refine ⟨?_, ?_⟩); assumption; intro hC) | ((with_reducible refine EvKeep.nq (A := keepK _ _ (Hole _) _) HS (by repeat first | exact .h | apply Spot.t) ?_ ?_); assumption; intro hC) | ((fail_if_success with_reducible refine EvKeep.hole ?_); (with_reducible refine EvKeep.abs (fun X kK => ?_)))) <;> conv => whnf)
  refine EvCall.mk ((power_i _ _ (by omega) (by omega)).mono ?_)
  rintro _ _ ⟨rfl, rfl⟩
  conv => whnf
  refine ⟨by omega, ?_⟩
  conv => whnf
  refine EvCall.mk ((power_i _ _ (by rw [e]; omega) (by rw [e]; omega)).mono ?_)
  rintro _ _ ⟨rfl, rfl⟩
  conv => whnf
  refine ⟨by rw [e]; omega, ?_⟩
  conv => whnf
  refine ⟨?_, rfl⟩
  show Value.int _ _ = _
  congr 1
  rw [e, tdiv_pos (by omega), i64w _ (by omega) (by omega), tmod_pos hd.1]
  rfl
theorem wide_c (v n : Int) (h : Hp) (h0 : 1 ≤ n) (h1 : n ≤ 31) (v0 : 0 ≤ v) (v1 : v < 4294967296) : HC Try.prog 159 [.int .i64 v, .int .i64 n] h fun r h' => r = .int .i64 (if v ≥ 2 ^ (n - 1).toNat then v - 2 ^ n.toNat else v) ∧ h' = h := by
  have e : IntKind.i64.wrap (n - 1) = n - 1 := i64w _ (by omega) (by omega)
  have p := pow_le62 n.toNat (by omega)
  refine hc_of Try.func159 (rfl : Try.f159.body = some _) Try.ntmps159 Try.results159 Try.call159 rfl ?_; have HS := Sep.nil h; conv => whnf
  repeat' ((first | (with_reducible first | refine EvSeq.go ?_ | refine EvIf.tt ?_ | refine EvIf.ff ?_) | ((with_reducible refine Hole.mk (kK ?_)); clear kK) | ((with_reducible refine EvIf.mk (fun c => ?_) (fun c => ?_)) <;> (try simp only [cs_] at c) <;> (try (exfalso; first | omega | (revert c; decide)))) | ((with_reducible refine EvNew.sep HS ?_); intro bN hN HS1 hX; replace HS := HS1; clear HS1) | ((with_reducible refine EvIdx.lit ?_ ?_ ?_); (first | omega | decide); (first | omega | decide)) | ((with_reducible first | refine EvNe.mk ?_ ?_ | refine EvGe.mk ?_ ?_); (first | decide | omega)) | ((with_reducible refine EvLd.q HS (by repeat first | exact .h | apply Spot.t) ?_); (conv => whnf); intro hC) | (with_reducible refine EvLdN.q HS (by repeat first | exact .h | apply Spot.t) (fun hC => ?_)) | ((with_reducible refine EvSt.q HS (by repeat first | exact .h | apply Spot.t) ?_); (conv => whnf); intro hN HS1 hU; replace HS := HS1; clear HS1) | ((with_reducible refine EvKeep.cq (A := keepK _ _ (Hole _) _) HS (by repeat first | exact .h | apply Spot.t) ?_); (conv => whnf); (refine ⟨?_, ?_⟩); assumption; intro hC) | ((with_reducible refine EvKeep.nq (A := keepK _ _ (Hole _) _) HS (by repeat first | exact .h | apply Spot.t) ?_ ?_); assumption; intro hC) | ((fail_if_success with_reducible refine EvKeep.hole ?_); (with_reducible refine EvKeep.abs (fun X kK => ?_)))) <;> conv => whnf)
  refine EvCall.mk ((power_i _ _ (by rw [e]; omega) (by rw [e]; omega)).mono ?_)
  rintro _ _ ⟨rfl, rfl⟩
  conv => whnf
  rw [e]
  repeat' ((first | ((with_reducible refine EvCall.mk (HC.mono (power_i _ _ (by omega) (by omega)) ?_)); (rintro _ _ ⟨rfl, rfl⟩)) | (with_reducible first | refine EvSeq.go ?_ | refine EvIf.tt ?_ | refine EvIf.ff ?_) | ((with_reducible refine Hole.mk (kK ?_)); clear kK) | ((with_reducible refine EvIf.mk (fun c => ?_) (fun c => ?_)) <;> (try simp only [cs_] at c) <;> (try (exfalso; first | omega | (revert c; decide)))) | ((with_reducible refine EvNew.sep HS ?_); intro bN hN HS1 hX; replace HS := HS1; clear HS1) | ((with_reducible refine EvIdx.lit ?_ ?_ ?_); (first | omega | decide); (first | omega | decide)) | ((with_reducible first | refine EvNe.mk ?_ ?_ | refine EvGe.mk ?_ ?_); (first | decide | omega)) | ((with_reducible refine EvLd.q HS (by repeat first | exact .h | apply Spot.t) ?_); (conv => whnf); intro hC) | (with_reducible refine EvLdN.q HS (by repeat first | exact .h | apply Spot.t) (fun hC => ?_)) | ((with_reducible refine EvSt.q HS (by repeat first | exact .h | apply Spot.t) ?_); (conv => whnf); intro hN HS1 hU; replace HS := HS1; clear HS1) | ((with_reducible refine EvKeep.cq (A := keepK _ _ (Hole _) _) HS (by repeat first | exact .h | apply Spot.t) ?_); (conv => whnf); (refine ⟨?_, ?_⟩); assumption; intro hC) | ((with_reducible refine EvKeep.nq (A := keepK _ _ (Hole _) _) HS (by repeat first | exact .h | apply Spot.t) ?_ ?_); assumption; intro hC) | ((fail_if_success with_reducible refine EvKeep.hole ?_); (with_reducible refine EvKeep.abs (fun X kK => ?_)))) <;> conv => whnf)
  · refine ⟨?_, rfl⟩
    rw [if_pos (by omega)]
    show Value.int _ _ = _
    rw [i64w _ (by omega) (by omega)]
  · refine ⟨?_, rfl⟩
    rw [if_neg (by omega)]
end Go.Proofs.Ythndggachjdkfaa
