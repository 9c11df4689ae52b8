/- Walks: the program's Alu. -/
import Derived.Test.YthndggachjdkfaaDoorVNar
namespace Go.Proofs.YthndggachjdkfaaDoor
open Go.RowKit
set_option maxRecDepth 20000
set_option linter.unusedSimpArgs false
set_option linter.unusedVariables false
/-- What Alu tells. -/
def alu (op a b : Int) : Int × Bool :=
  if op = 1 then (((a % 4294967296) + (b % 4294967296)) % 4294967296, true) else
  if op = 2 then (((a % 4294967296) - (b % 4294967296)) % 4294967296, true) else
  if op = 3 then (((a % 4294967296) * 2 ^ ((b % 4294967296) % 32).toNat) % 4294967296, true) else
  if op = 4 then (if sg a < sg b then 1 else 0, true) else
  if op = 5 then (if (a % 4294967296) < (b % 4294967296) then 1 else 0, true) else
  if op = 6 then ((((a % 4294967296).toNat ^^^ (b % 4294967296).toNat : Nat) : Int), true) else
  if op = 7 then ((a % 4294967296) / 2 ^ ((b % 4294967296) % 32).toNat, true) else
  if op = 8 then ((sg a / 2 ^ ((b % 4294967296) % 32).toNat) % 4294967296, true) else
  if op = 9 then ((((a % 4294967296).toNat ||| (b % 4294967296).toNat : Nat) : Int), true) else
  if op = 10 then ((((a % 4294967296).toNat &&& (b % 4294967296).toNat : Nat) : Int), true) else
  if op = 11 then (((a % 4294967296) * (b % 4294967296)) % 4294967296, true) else
  if op = 12 then ((sg a * sg b / 4294967296) % 4294967296, true) else
  if op = 13 then ((sg a * (b % 4294967296) / 4294967296) % 4294967296, true) else
  if op = 14 then ((a % 4294967296) * (b % 4294967296) / 4294967296, true) else
  if op = 15 then (if (b % 4294967296) = 0 then 4294967295 else (Int.tdiv (sg a) (sg b)) % 4294967296, true) else
  if op = 16 then (if (b % 4294967296) = 0 then 4294967295 else (a % 4294967296) / (b % 4294967296), true) else
  if op = 17 then (if (b % 4294967296) = 0 then (a % 4294967296) else (Int.tmod (sg a) (sg b)) % 4294967296, true) else
  if op = 18 then (if (b % 4294967296) = 0 then (a % 4294967296) else (a % 4294967296) % (b % 4294967296), true) else
  (0, false)

theorem truth_c (t : Bool) (h : Hp) : HC Tryd.prog 106 [.bool t] h fun v h' => v = .int .i64 (if t = true then 1 else 0) ∧ h' = h := by
  refine hc_of Tryd.func106 (rfl : Tryd.f106.body = some _) Tryd.ntmps106 Tryd.results106 Tryd.call106 rfl ?_; have HS := Sep.nil h; conv => whnf
  repeat' ((first | (with_reducible first | refine EvSeq.go ?_ | refine EvIf.tt ?_ | refine EvIf.ff ?_) | ((with_reducible refine Hole.mk (kK ?_)); clear kK) | ((with_reducible refine EvIf.mk (fun c => ?_) (fun c => ?_)) <;> (try simp only [cs_] at c) <;> (try (exfalso; first | omega | (revert c; decide)))) | ((with_reducible refine EvNew.sep HS ?_); intro bN hN HS1 hX; replace HS := HS1; clear HS1) | ((with_reducible refine EvIdx.lit ?_ ?_ ?_); (first | omega | decide); (first | omega | decide)) | ((with_reducible first | refine EvNe.mk ?_ ?_ | refine EvGe.mk ?_ ?_); (first | decide | omega)) | ((with_reducible refine EvLd.q HS (by repeat first | exact .h | apply Spot.t) ?_); (conv => whnf); intro hC) | (with_reducible refine EvLdN.q HS (by repeat first | exact .h | apply Spot.t) (fun hC => ?_)) | ((with_reducible refine EvSt.q HS (by repeat first | exact .h | apply Spot.t) ?_); (conv => whnf); intro hN HS1 hU; replace HS := HS1; clear HS1) | ((with_reducible refine EvKeep.cq (A := keepK _ _ (Hole _) _) HS (by repeat first | exact .h | apply Spot.t) ?_); (conv => whnf); (refine ⟨?_, ?_⟩); assumption; intro hC) | ((with_reducible refine EvKeep.nq (A := keepK _ _ (Hole _) _) HS (by repeat first | exact .h | apply Spot.t) ?_ ?_); assumption; intro hC) | ((fail_if_success with_reducible refine EvKeep.hole ?_); (with_reducible refine EvKeep.abs (fun X kK => ?_)))) <;> conv => whnf)
  all_goals
    refine ⟨?_, rfl⟩
    simp_all
theorem shl31 (u v : Int) : IntKind.i64.wrap (u * 2 ^ (min (Go.bits .and .i64 (v % 4294967296) 31).toNat IntKind.i64.bits)) % 4294967296 = u * 2 ^ (v % 4294967296 % 32).toNat % 4294967296 := by
  rw [and_31, iw64, w64_word, Nat.min_eq_left (by simp [IntKind.bits]; omega)]
theorem shr31 (u v : Int) : u / 2 ^ (min (Go.bits .and .i64 (v % 4294967296) 31).toNat IntKind.i64.bits) = u / 2 ^ (v % 4294967296 % 32).toNat := by
  rw [and_31, Nat.min_eq_left (by simp [IntKind.bits]; omega)]
theorem ge31 (v : Int) : 0 ≤ Go.bits .and .i64 (v % 4294967296) 31 := by rw [and_31]; omega
theorem mul64_c (x y : Int) (h : Hp) : HC Tryd.prog 107 [.int .u64 x, .int .u64 y] h fun v h' => (∃ hi, v = .tuple #[.int .u64 hi, .int .u64 (IntKind.u64.wrap (x * y))]) ∧ h' = h := by
  refine hc_of Tryd.func107 (rfl : Tryd.f107.body = some _) Tryd.ntmps107 Tryd.results107 Tryd.call107 rfl ?_; have HS := Sep.nil h; conv => whnf
  repeat' ((first | (with_reducible first | refine EvSeq.go ?_ | refine EvIf.tt ?_ | refine EvIf.ff ?_) | ((with_reducible refine Hole.mk (kK ?_)); clear kK) | ((with_reducible refine EvIf.mk (fun c => ?_) (fun c => ?_)) <;> (try simp only [cs_] at c) <;> (try (exfalso; first | omega | (revert c; decide)))) | ((with_reducible refine EvNew.sep HS ?_); intro bN hN HS1 hX; replace HS := HS1; clear HS1) | ((with_reducible refine EvIdx.lit ?_ ?_ ?_); (first | omega | decide); (first | omega | decide)) | ((with_reducible first | refine EvNe.mk ?_ ?_ | refine EvGe.mk ?_ ?_); (first | decide | omega)) | ((with_reducible refine EvLd.q HS (by repeat first | exact .h | apply Spot.t) ?_); (conv => whnf); intro hC) | (with_reducible refine EvLdN.q HS (by repeat first | exact .h | apply Spot.t) (fun hC => ?_)) | ((with_reducible refine EvSt.q HS (by repeat first | exact .h | apply Spot.t) ?_); (conv => whnf); intro hN HS1 hU; replace HS := HS1; clear HS1) | ((with_reducible refine EvKeep.cq (A := keepK _ _ (Hole _) _) HS (by repeat first | exact .h | apply Spot.t) ?_); (conv => whnf); (refine ⟨?_, ?_⟩); assumption; intro hC) | ((with_reducible refine EvKeep.nq (A := keepK _ _ (Hole _) _) HS (by repeat first | exact .h | apply Spot.t) ?_ ?_); assumption; intro hC) | ((fail_if_success with_reducible refine EvKeep.hole ?_); (with_reducible refine EvKeep.abs (fun X kK => ?_)))) <;> conv => whnf)
  exact ⟨⟨_, rfl⟩, rfl⟩
set_option maxHeartbeats 4000000 in
theorem iAlu_c (op a b : Int) (h : Hp) : HC Tryd.prog 78 [.int .i64 op, .int .i64 a, .int .i64 b] h fun v h' => v = tup2 (alu op a b).1 (alu op a b).2 ∧ h' = h := by
  by_cases ho : op < 1 ∨ 18 < op
  · refine hc_of Tryd.func78 (rfl : Tryd.f78.body = some _) Tryd.ntmps78 Tryd.results78 Tryd.call78 rfl ?_; have HS := Sep.nil h; conv => whnf
    repeat' ((first | ((with_reducible refine EvCall.mk (HC.mono (iWord_c _ _) ?_)); (rintro _ _ ⟨rfl, rfl⟩)) | ((with_reducible refine EvCall.mk (HC.mono (iSigned_c _ _) ?_)); (rintro _ _ ⟨rfl, rfl⟩)) | (with_reducible first | refine EvSeq.go ?_ | refine EvIf.tt ?_ | refine EvIf.ff ?_) | ((with_reducible refine Hole.mk (kK ?_)); clear kK) | ((with_reducible refine EvIf.mk (fun c => ?_) (fun c => ?_)) <;> (try simp only [cs_] at c) <;> (try (exfalso; first | omega | (revert c; decide)))) | ((with_reducible refine EvNew.sep HS ?_); intro bN hN HS1 hX; replace HS := HS1; clear HS1) | ((with_reducible refine EvIdx.lit ?_ ?_ ?_); (first | omega | decide); (first | omega | decide)) | ((with_reducible first | refine EvNe.mk ?_ ?_ | refine EvGe.mk ?_ ?_); (first | decide | omega)) | ((with_reducible refine EvLd.q HS (by repeat first | exact .h | apply Spot.t) ?_); (conv => whnf); intro hC) | (with_reducible refine EvLdN.q HS (by repeat first | exact .h | apply Spot.t) (fun hC => ?_)) | ((with_reducible refine EvSt.q HS (by repeat first | exact .h | apply Spot.t) ?_); (conv => whnf); intro hN HS1 hU; replace HS := HS1; clear HS1) | ((with_reducible refine EvKeep.cq (A := keepK _ _ (Hole _) _) HS (by repeat first | exact .h | apply Spot.t) ?_); (conv => whnf); (refine ⟨?_, ?_⟩); assumption; intro hC) | ((with_reducible refine EvKeep.nq (A := keepK _ _ (Hole _) _) HS (by repeat first | exact .h | apply Spot.t) ?_ ?_); assumption; intro hC) | ((fail_if_success with_reducible refine EvKeep.hole ?_); (with_reducible refine EvKeep.abs (fun X kK => ?_)))) <;> conv => whnf)
    all_goals
      refine ⟨tup2_eq ?_ ?_, rfl⟩
      all_goals
        unfold alu
        simp (disch := omega) only [if_neg]
  obtain rfl | rfl | rfl | rfl | rfl | rfl | rfl | rfl | rfl | rfl | rfl | rfl | rfl | rfl | rfl | rfl | rfl | rfl : op = 1 ∨ op = 2 ∨ op = 3 ∨ op = 4 ∨ op = 5 ∨ op = 6 ∨ op = 7 ∨ op = 8 ∨ op = 9 ∨ op = 10 ∨ op = 11 ∨ op = 12 ∨ op = 13 ∨ op = 14 ∨ op = 15 ∨ op = 16 ∨ op = 17 ∨ op = 18 := by omega
  all_goals
    refine hc_of Tryd.func78 (rfl : Tryd.f78.body = some _) Tryd.ntmps78 Tryd.results78 Tryd.call78 rfl ?_; have HS := Sep.nil h; conv => whnf
    repeat' ((first | ((with_reducible refine EvGe.mk (ge31 _) ?_)) | ((with_reducible refine EvCall.mk (HC.mono (iWord_c _ _) ?_)); (rintro _ _ ⟨rfl, rfl⟩)) | ((with_reducible refine EvCall.mk (HC.mono (iSigned_c _ _) ?_)); (rintro _ _ ⟨rfl, rfl⟩)) | ((with_reducible refine EvCall.mk (HC.mono (truth_c _ _) ?_)); (rintro _ _ ⟨rfl, rfl⟩)) | (with_reducible first | refine EvSeq.go ?_ | refine EvIf.tt ?_ | refine EvIf.ff ?_) | ((with_reducible refine Hole.mk (kK ?_)); clear kK) | ((with_reducible refine EvIf.mk (fun c => ?_) (fun c => ?_)) <;> (try simp only [cs_] at c) <;> (try (exfalso; first | omega | (revert c; decide)))) | ((with_reducible refine EvNew.sep HS ?_); intro bN hN HS1 hX; replace HS := HS1; clear HS1) | ((with_reducible refine EvIdx.lit ?_ ?_ ?_); (first | omega | decide); (first | omega | decide)) | ((with_reducible first | refine EvNe.mk ?_ ?_ | refine EvGe.mk ?_ ?_); (first | decide | omega)) | ((with_reducible refine EvLd.q HS (by repeat first | exact .h | apply Spot.t) ?_); (conv => whnf); intro hC) | (with_reducible refine EvLdN.q HS (by repeat first | exact .h | apply Spot.t) (fun hC => ?_)) | ((with_reducible refine EvSt.q HS (by repeat first | exact .h | apply Spot.t) ?_); (conv => whnf); intro hN HS1 hU; replace HS := HS1; clear HS1) | ((with_reducible refine EvKeep.cq (A := keepK _ _ (Hole _) _) HS (by repeat first | exact .h | apply Spot.t) ?_); (conv => whnf); (refine ⟨?_, ?_⟩); assumption; intro hC) | ((with_reducible refine EvKeep.nq (A := keepK _ _ (Hole _) _) HS (by repeat first | exact .h | apply Spot.t) ?_ ?_); assumption; intro hC) | ((fail_if_success with_reducible refine EvKeep.hole ?_); (with_reducible refine EvKeep.abs (fun X kK => ?_)))) <;> conv => whnf)
  · refine ⟨tup2_eq (y := true) ?_ rfl, rfl⟩
    show _ = (a % 4294967296 + b % 4294967296) % 4294967296
    rw [iw64, w64_word]
  · refine ⟨tup2_eq (y := true) ?_ rfl, rfl⟩
    show _ = (a % 4294967296 - b % 4294967296) % 4294967296
    rw [iw64, w64_word]
  · refine ⟨tup2_eq (y := true) ?_ rfl, rfl⟩
    exact shl31 _ _
  · refine ⟨tup2_eq (y := true) ?_ rfl, rfl⟩
    show _ = if sg a < sg b then 1 else 0
    simp only [decide_eq_true_eq]
    split <;> rfl
  · refine ⟨tup2_eq (y := true) ?_ rfl, rfl⟩
    show _ = if a % 4294967296 < b % 4294967296 then 1 else 0
    simp only [decide_eq_true_eq]
    split <;> rfl
  · refine ⟨tup2_eq (y := true) ?_ rfl, rfl⟩
    show _ = (((a % 4294967296).toNat ^^^ (b % 4294967296).toNat : Nat) : Int)
    rw [xor_w a b, Int.emod_eq_of_lt (by omega) (by have := xor_lt a b; omega)]
  · refine ⟨tup2_eq (y := true) ?_ rfl, rfl⟩
    show _ = a % 4294967296 / 2 ^ (b % 4294967296 % 32).toNat
    rw [shr31]
    have h_ := ediv_le (a % 4294967296) (2 ^ (b % 4294967296 % 32).toNat) (by omega) (pow_nn _)
    rw [Int.emod_eq_of_lt (by omega) (by omega)]
  · refine ⟨tup2_eq (y := true) ?_ rfl, rfl⟩
    show _ = sg a / 2 ^ (b % 4294967296 % 32).toNat % 4294967296
    rw [shr31]
  · refine ⟨tup2_eq (y := true) ?_ rfl, rfl⟩
    show _ = (((a % 4294967296).toNat ||| (b % 4294967296).toNat : Nat) : Int)
    rw [or_w a b, Int.emod_eq_of_lt (by omega) (by have := or_lt a b; omega)]
  · refine ⟨tup2_eq (y := true) ?_ rfl, rfl⟩
    show _ = (((a % 4294967296).toNat &&& (b % 4294967296).toNat : Nat) : Int)
    rw [and_ww a b, Int.emod_eq_of_lt (by omega) (by have := and_lt a b; omega)]
  · refine ⟨tup2_eq (y := true) ?_ rfl, rfl⟩
    show _ = (a % 4294967296) * (b % 4294967296) % 4294967296
    rw [iw64, w64_word, sg_mul]
  · refine ⟨tup2_eq (y := true) ?_ rfl, rfl⟩
    show IntKind.i64.wrap (sg a * sg b) / 4294967296 % 4294967296 = sg a * sg b / 4294967296 % 4294967296
    have h_ := mul_range (x := sg a) (y := sg b) (A := 2147483648) (B := 2147483648) (by omega) (by omega) (by have := sg_range a; omega) (by have := sg_range a; omega) (by have := sg_range b; omega) (by have := sg_range b; omega)
    rw [i64w _ (by omega) (by omega)]
  · refine ⟨tup2_eq (y := true) ?_ rfl, rfl⟩
    show IntKind.i64.wrap (sg a * (b % 4294967296)) / 4294967296 % 4294967296 = sg a * (b % 4294967296) / 4294967296 % 4294967296
    have h_ := mul_range (x := sg a) (y := b % 4294967296) (A := 2147483648) (B := 4294967295) (by omega) (by omega) (by have := sg_range a; omega) (by have := sg_range a; omega) (by omega) (by omega)
    rw [i64w _ (by omega) (by omega)]
  · refine EvCall.mk ((mul64_c _ _ _).mono ?_)
    rintro _ _ ⟨⟨hi, rfl⟩, rfl⟩
    conv => whnf
    repeat' ((first | ((with_reducible refine EvCall.mk (HC.mono (iWord_c _ _) ?_)); (rintro _ _ ⟨rfl, rfl⟩)) | (with_reducible first | refine EvSeq.go ?_ | refine EvIf.tt ?_ | refine EvIf.ff ?_) | ((with_reducible refine Hole.mk (kK ?_)); clear kK) | ((with_reducible refine EvIf.mk (fun c => ?_) (fun c => ?_)) <;> (try simp only [cs_] at c) <;> (try (exfalso; first | omega | (revert c; decide)))) | ((with_reducible refine EvNew.sep HS ?_); intro bN hN HS1 hX; replace HS := HS1; clear HS1) | ((with_reducible refine EvIdx.lit ?_ ?_ ?_); (first | omega | decide); (first | omega | decide)) | ((with_reducible first | refine EvNe.mk ?_ ?_ | refine EvGe.mk ?_ ?_); (first | decide | omega)) | ((with_reducible refine EvLd.q HS (by repeat first | exact .h | apply Spot.t) ?_); (conv => whnf); intro hC) | (with_reducible refine EvLdN.q HS (by repeat first | exact .h | apply Spot.t) (fun hC => ?_)) | ((with_reducible refine EvSt.q HS (by repeat first | exact .h | apply Spot.t) ?_); (conv => whnf); intro hN HS1 hU; replace HS := HS1; clear HS1) | ((with_reducible refine EvKeep.cq (A := keepK _ _ (Hole _) _) HS (by repeat first | exact .h | apply Spot.t) ?_); (conv => whnf); (refine ⟨?_, ?_⟩); assumption; intro hC) | ((with_reducible refine EvKeep.nq (A := keepK _ _ (Hole _) _) HS (by repeat first | exact .h | apply Spot.t) ?_ ?_); assumption; intro hC) | ((fail_if_success with_reducible refine EvKeep.hole ?_); (with_reducible refine EvKeep.abs (fun X kK => ?_)))) <;> conv => whnf)
    refine ⟨tup2_eq (y := true) ?_ rfl, rfl⟩
    show IntKind.i64.wrap (IntKind.u64.wrap (IntKind.u64.wrap (a % 4294967296) * IntKind.u64.wrap (b % 4294967296)) / 4294967296) % 4294967296 = a % 4294967296 * (b % 4294967296) / 4294967296
    have h_ := mul_nn (x := a % 4294967296) (y := b % 4294967296) (A := 4294967295) (B := 4294967295) (by omega) (by omega) (by omega) (by omega)
    rw [wrap_u64, wrap_u64, wrap_u64, Int.emod_eq_of_lt (a := a % 4294967296) (by omega) (by omega), Int.emod_eq_of_lt (a := b % 4294967296) (by omega) (by omega), Int.emod_eq_of_lt (a := a % 4294967296 * (b % 4294967296)) h_.1 (by omega), i64w _ (by omega) (by omega), Int.emod_eq_of_lt (by omega) (by omega)]
  all_goals
    have hz := sg_zero b
    refine ⟨tup2_eq (y := true) ?_ rfl, rfl⟩
  · show _ = if b % 4294967296 = 0 then 4294967295 else (Int.tdiv (sg a) (sg b)) % 4294967296
    rw [if_neg (by omega), iw64, w64_word]
  · show _ = if b % 4294967296 = 0 then 4294967295 else (Int.tdiv (sg a) (sg b)) % 4294967296
    rw [if_pos (by omega)]
    rfl
  · show _ = if b % 4294967296 = 0 then 4294967295 else (a % 4294967296) / (b % 4294967296)
    rw [if_neg (by omega), tdiv_pos (by omega)]
    have h_ := ediv_le (a % 4294967296) (b % 4294967296) (by omega) (by omega)
    rw [i64w _ (by omega) (by omega), Int.emod_eq_of_lt (by omega) (by omega)]
  · show _ = if b % 4294967296 = 0 then 4294967295 else (a % 4294967296) / (b % 4294967296)
    rw [if_pos (by omega)]
    rfl
  · show _ = if b % 4294967296 = 0 then (a % 4294967296) else (Int.tmod (sg a) (sg b)) % 4294967296
    rw [if_neg (by omega)]
  · show _ = if b % 4294967296 = 0 then (a % 4294967296) else (Int.tmod (sg a) (sg b)) % 4294967296
    rw [if_pos (by omega), sg_back]
  · show _ = if b % 4294967296 = 0 then (a % 4294967296) else (a % 4294967296) % (b % 4294967296)
    rw [if_neg (by omega), tmod_pos (by omega)]
    have h1_ := Int.emod_nonneg (a % 4294967296) (b := b % 4294967296) (by omega)
    have h2_ := Int.emod_lt_of_pos (a % 4294967296) (show 0 < b % 4294967296 by omega)
    rw [Int.emod_eq_of_lt (b := 4294967296) (by omega) (by omega)]
  · show _ = if b % 4294967296 = 0 then (a % 4294967296) else (a % 4294967296) % (b % 4294967296)
    rw [if_pos (by omega), Int.emod_emod_of_dvd _ (Int.dvd_refl _)]
end Go.Proofs.YthndggachjdkfaaDoor
