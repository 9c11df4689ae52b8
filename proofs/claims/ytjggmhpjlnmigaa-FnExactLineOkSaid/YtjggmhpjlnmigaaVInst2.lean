/- Walks of the reference's and the program's functions on words and instructions. -/
import Derived.Test.YtjggmhpjlnmigaaVInst
namespace Go.Proofs.Ytjggmhpjlnmigaa
open Go.RowKit
set_option maxRecDepth 20000
set_option linter.unusedSimpArgs false
set_option linter.unusedVariables false
theorem pow_le62 (n : Nat) (hn : n ≤ 62) : (1 : Int) ≤ 2 ^ n ∧ (2 : Int) ^ n ≤ 4611686018427387904 := by
  have h1 := Nat.pow_le_pow_right (show 0 < 2 by decide) hn
  have h2 := Nat.one_le_two_pow (n := n)
  have hc : ((2 ^ n : Nat) : Int) = (2 : Int) ^ n := by simp
  omega
theorem power_c (n : Nat) (h : Hp) (hn : n ≤ 62) : HC Try.prog 36 [.int .i64 n] h fun v h' => v = .int .i64 (2 ^ n) ∧ h' = h := by
  refine hc_of Try.func36 (rfl : Try.f36.body = some _) Try.ntmps36 Try.results36 Try.call36 rfl ?_; have HS := Sep.nil h; conv => whnf
  repeat' ((first | (with_reducible first | refine EvSeq.go ?_ | refine EvIf.tt ?_ | refine EvIf.ff ?_) | ((with_reducible refine Hole.mk (kK ?_)); clear kK) | ((with_reducible refine EvIf.mk (fun c => ?_) (fun c => ?_)) <;> (try simp only [cs_] at c) <;> (try (exfalso; first | omega | (revert c; decide)))) | ((with_reducible refine EvNew.sep HS ?_); intro bN hN HS1 hX; replace HS := HS1; clear HS1) | ((with_reducible refine EvIdx.lit ?_ ?_ ?_); (first | omega | decide); (first | omega | decide)) | ((with_reducible first | refine EvNe.mk ?_ ?_ | refine EvGe.mk ?_ ?_); (first | decide | omega)) | ((with_reducible refine EvLd.q HS (by repeat first | exact .h | apply Spot.t) ?_); (conv => whnf); intro hC) | (with_reducible refine EvLdN.q HS (by repeat first | exact .h | apply Spot.t) (fun hC => ?_)) | ((with_reducible refine EvSt.q HS (by repeat first | exact .h | apply Spot.t) ?_); (conv => whnf); intro hN HS1 hU; replace HS := HS1; clear HS1) | ((with_reducible refine EvKeep.cq (A := keepK _ _ (Hole _) _) HS (by repeat first | exact .h | apply Spot.t) ?_); (conv => whnf); (refine ⟨?_, ?_⟩); assumption; intro hC) | ((with_reducible refine EvKeep.nq (A := keepK _ _ (Hole _) _) HS (by repeat first | exact .h | apply Spot.t) ?_ ?_); assumption; intro hC) | ((fail_if_success with_reducible refine EvKeep.hole ?_); (with_reducible refine EvKeep.abs (fun X kK => ?_)))) <;> conv => whnf)
  refine EvLoop.rule (α := Int × Int) (fun x => [(0, .int .i64 n), (3, .int .i64 x.1), (4, .int .i64 x.2)]) (fun x h' => h' = h ∧ ∃ k : Nat, k ≤ n ∧ x.2 = k ∧ x.1 = 2 ^ k) (fun x => ((n : Int) - x.2).toNat) (1, 0) ⟨rfl, rfl, rfl, trivial⟩ ⟨rfl, 0, by omega, rfl, rfl⟩ ?_
  rintro ⟨v, i⟩ _ ⟨rfl, k, hk, rfl, rfl⟩
  conv => whnf
  repeat' ((first | (with_reducible first | refine EvSeq.go ?_ | refine EvIf.tt ?_ | refine EvIf.ff ?_) | ((with_reducible refine Hole.mk (kK ?_)); clear kK) | ((with_reducible refine EvIf.mk (fun c => ?_) (fun c => ?_)) <;> (try simp only [cs_] at c) <;> (try (exfalso; first | omega | (revert c; decide)))) | ((with_reducible refine EvNew.sep HS ?_); intro bN hN HS1 hX; replace HS := HS1; clear HS1) | ((with_reducible refine EvIdx.lit ?_ ?_ ?_); (first | omega | decide); (first | omega | decide)) | ((with_reducible first | refine EvNe.mk ?_ ?_ | refine EvGe.mk ?_ ?_); (first | decide | omega)) | ((with_reducible refine EvLd.q HS (by repeat first | exact .h | apply Spot.t) ?_); (conv => whnf); intro hC) | (with_reducible refine EvLdN.q HS (by repeat first | exact .h | apply Spot.t) (fun hC => ?_)) | ((with_reducible refine EvSt.q HS (by repeat first | exact .h | apply Spot.t) ?_); (conv => whnf); intro hN HS1 hU; replace HS := HS1; clear HS1) | ((with_reducible refine EvKeep.cq (A := keepK _ _ (Hole _) _) HS (by repeat first | exact .h | apply Spot.t) ?_); (conv => whnf); (refine ⟨?_, ?_⟩); assumption; intro hC) | ((with_reducible refine EvKeep.nq (A := keepK _ _ (Hole _) _) HS (by repeat first | exact .h | apply Spot.t) ?_ ?_); assumption; intro hC) | ((fail_if_success with_reducible refine EvKeep.hole ?_); (with_reducible refine EvKeep.abs (fun X kK => ?_)))) <;> conv => whnf)
  · have hp := pow_le62 (k + 1) (by omega)
    have e : (2 : Int) ^ k * 2 = 2 ^ (k + 1) := by rw [Int.pow_succ]
    refine ⟨(_, _), ⟨rfl, rfl, rfl, trivial⟩, ⟨rfl, k + 1, by omega, ?_, ?_⟩, ?_⟩
    · show IntKind.i64.wrap _ = _
      rw [i64w _ (by omega) (by omega)]; omega
    · show IntKind.i64.wrap _ = _
      rw [e, i64w _ (by omega) (by omega)]
    · show ((n : Int) - IntKind.i64.wrap _).toNat < ((n : Int) - (k : Int)).toNat
      rw [i64w _ (by omega) (by omega)]; omega
  · refine ⟨?_, rfl⟩
    obtain rfl : k = n := by omega
    rfl
/-- Bits h to l. -/
def fl (h l n : Int) : Int := n % 4294967296 / 2 ^ l.toNat % 2 ^ (h - l + 1).toNat
theorem fl_range (h l n : Int) : 0 ≤ fl h l n ∧ fl h l n < 2 ^ (h - l + 1).toNat := by
  have hp : (0 : Int) < 2 ^ (h - l + 1).toNat := Int.pow_pos (by decide)
  unfold fl
  exact ⟨Int.emod_nonneg _ (by omega), Int.emod_lt_of_pos _ hp⟩
theorem power_i (n : Int) (h : Hp) (h0 : 0 ≤ n) (hn : n ≤ 62) : HC Try.prog 36 [.int .i64 n] h fun v h' => v = .int .i64 (2 ^ n.toNat) ∧ h' = h := by
  have := power_c n.toNat h (by omega)
  rwa [Int.toNat_of_nonneg h0] at this
end Go.Proofs.Ytjggmhpjlnmigaa
