/- Where in the code a number points. -/
import Derived.Test.YthndggachjdkfaaVMok
namespace Go.Proofs.Ythndggachjdkfaa
open Go.RowKit
set_option maxRecDepth 20000
set_option linter.unusedSimpArgs false
set_option linter.unusedVariables false
def isPc (n : Nat) (p : Int) : Bool := decide (65536 ≤ p ∧ p < 65536 + 4 * n ∧ p % 4 = 0)
theorem tmod4 (n : Int) : Int.tmod n 4 = 0 ↔ n % 4 = 0 := by
  by_cases h : 0 ≤ n
  · rw [tmod_pos h]
  · rw [tmod_neg (by omega)]; omega
theorem isPc_c (p : Int) (A : Option Addr) (n c : Nat) (h : Hp) (hn : n ≤ 1000000000) (p0 : -9223372036854775808 ≤ p) (p1 : p ≤ 9223372036854775807) : HC Try.prog 52 [.int .i64 p, .slice A n c] h fun v h' => v = .bool (isPc n p) ∧ h' = h := by
  have t := tmod4 p
  have e : IntKind.i64.wrap (65536 + IntKind.i64.wrap (4 * (n : Int))) = 65536 + 4 * n := by rw [i64w (4 * (n : Int)) (by omega) (by omega), i64w _ (by omega) (by omega)]
  refine hc_of Try.func52 (rfl : Try.f52.body = some _) Try.ntmps52 Try.results52 Try.call52 rfl ?_; have HS := Sep.nil h; conv => whnf
  repeat' ((first | (with_reducible first | refine EvSeq.go ?_ | refine EvIf.tt ?_ | refine EvIf.ff ?_) | ((with_reducible refine Hole.mk (kK ?_)); clear kK) | ((with_reducible refine EvIf.mk (fun c => ?_) (fun c => ?_)) <;> (try simp only [cs_] at c) <;> (try (exfalso; first | omega | (revert c; decide)))) | ((with_reducible refine EvNew.sep HS ?_); intro bN hN HS1 hX; replace HS := HS1; clear HS1) | ((with_reducible refine EvIdx.lit ?_ ?_ ?_); (first | omega | decide); (first | omega | decide)) | ((with_reducible first | refine EvNe.mk ?_ ?_ | refine EvGe.mk ?_ ?_); (first | decide | omega)) | ((with_reducible refine EvLd.q HS (by repeat first | exact .h | apply Spot.t) ?_); (conv => whnf); intro hC) | (with_reducible refine EvLdN.q HS (by repeat first | exact .h | apply Spot.t) (fun hC => ?_)) | ((with_reducible refine EvSt.q HS (by repeat first | exact .h | apply Spot.t) ?_); (conv => whnf); intro hN HS1 hU; replace HS := HS1; clear HS1) | ((with_reducible refine EvKeep.cq (A := keepK _ _ (Hole _) _) HS (by repeat first | exact .h | apply Spot.t) ?_); (conv => whnf); (refine ⟨?_, ?_⟩); assumption; intro hC) | ((with_reducible refine EvKeep.nq (A := keepK _ _ (Hole _) _) HS (by repeat first | exact .h | apply Spot.t) ?_ ?_); assumption; intro hC) | ((fail_if_success with_reducible refine EvKeep.hole ?_); (with_reducible refine EvKeep.abs (fun X kK => ?_)))) <;> conv => whnf)
  all_goals
    refine ⟨congrArg Value.bool ?_, rfl⟩
    clear HS
    unfold isPc
    grind
theorem l3Index_c (p : Int) (A : Option Addr) (n c : Nat) (h : Hp) (hn : n ≤ 1000000000) (p0 : -9223372036854775808 ≤ p) (p1 : p ≤ 9223372036854775807) : HC Try.prog 49 [.slice A n c, .int .i64 p] h fun v h' => v = .int .i64 (if isPc n p then (p - 65536) / 4 else -1) ∧ h' = h := by
  have t := tmod4 (p - 65536)
  refine hc_of Try.func49 (rfl : Try.f49.body = some _) Try.ntmps49 Try.results49 Try.call49 rfl ?_; have HS := Sep.nil h; conv => whnf
  repeat' ((first | (with_reducible first | refine EvSeq.go ?_ | refine EvIf.tt ?_ | refine EvIf.ff ?_) | ((with_reducible refine Hole.mk (kK ?_)); clear kK) | ((with_reducible refine EvIf.mk (fun c => ?_) (fun c => ?_)) <;> (try simp only [cs_] at c) <;> (try (exfalso; first | omega | (revert c; decide)))) | ((with_reducible refine EvNew.sep HS ?_); intro bN hN HS1 hX; replace HS := HS1; clear HS1) | ((with_reducible refine EvIdx.lit ?_ ?_ ?_); (first | omega | decide); (first | omega | decide)) | ((with_reducible first | refine EvNe.mk ?_ ?_ | refine EvGe.mk ?_ ?_); (first | decide | omega)) | ((with_reducible refine EvLd.q HS (by repeat first | exact .h | apply Spot.t) ?_); (conv => whnf); intro hC) | (with_reducible refine EvLdN.q HS (by repeat first | exact .h | apply Spot.t) (fun hC => ?_)) | ((with_reducible refine EvSt.q HS (by repeat first | exact .h | apply Spot.t) ?_); (conv => whnf); intro hN HS1 hU; replace HS := HS1; clear HS1) | ((with_reducible refine EvKeep.cq (A := keepK _ _ (Hole _) _) HS (by repeat first | exact .h | apply Spot.t) ?_); (conv => whnf); (refine ⟨?_, ?_⟩); assumption; intro hC) | ((with_reducible refine EvKeep.nq (A := keepK _ _ (Hole _) _) HS (by repeat first | exact .h | apply Spot.t) ?_ ?_); assumption; intro hC) | ((fail_if_success with_reducible refine EvKeep.hole ?_); (with_reducible refine EvKeep.abs (fun X kK => ?_)))) <;> conv => whnf)
  all_goals
    refine ⟨congrArg (Value.int .i64) ?_, rfl⟩
    clear HS t
    have hD : IntKind.i64.wrap (p - 65536) = p - 65536 ∨ (IntKind.i64.wrap (p - 65536) = p - 65536 + 18446744073709551616 ∧ p < 0) := by rw [wrap_i64]; unfold wrap64; omega
    have hb : -9223372036854775808 ≤ IntKind.i64.wrap (p - 65536) ∧ IntKind.i64.wrap (p - 65536) ≤ 9223372036854775807 := by rw [wrap_i64]; exact w64_range _
    generalize IntKind.i64.wrap (p - 65536) = D at *
    have e1 : 0 ≤ D → D.tmod 4 = D % 4 := fun h => tmod_pos h
    have e2 : 0 ≤ D → IntKind.i64.wrap (D.tdiv 4) = D / 4 := fun h => by rw [tdiv_pos h, i64w _ (by omega) (by omega)]
    unfold isPc
    grind
end Go.Proofs.Ythndggachjdkfaa
