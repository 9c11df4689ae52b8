/- Walks of the small functions about instructions. -/
import Derived.Test.YtjggmhpjlnmigaaVCom
namespace Go.Proofs.Ytjggmhpjlnmigaa
open Go.RowKit
set_option maxRecDepth 20000
set_option linter.unusedSimpArgs false
set_option linter.unusedVariables false
/-- The form of an Op: R 1, I 2, H 3, S 4, B 5, U 6, J 7, E 8; 0 for none. -/
def frm (op : Int) : Int :=
  if 1 ≤ op ∧ op ≤ 18 then 1 else if 25 ≤ op ∧ op ≤ 27 then 3 else if 19 ≤ op ∧ op ≤ 33 then 2 else if 34 ≤ op ∧ op ≤ 36 then 4
  else if 37 ≤ op ∧ op ≤ 42 then 5 else if op = 43 ∨ op = 44 then 6 else if op = 45 then 7 else if op = 46 ∨ op = 47 then 8 else 0
/-- A form's letter. -/
def letr (f : Int) : Int := if f = 1 then 82 else if f = 2 then 73 else if f = 3 then 72 else if f = 4 then 83 else if f = 5 then 66 else if f = 6 then 85 else if f = 7 then 74 else if f = 8 then 69 else 0
theorem formOf_c (op : Int) (h : Hp) : HC Try.prog 23 [.int .i64 op] h fun v h' => v = .int .u8 (letr (frm op)) ∧ h' = h := by
  refine hc_of Try.func23 (rfl : Try.f23.body = some _) Try.ntmps23 Try.results23 Try.call23 rfl ?_; have HS := Sep.nil h; conv => whnf
  repeat' ((first | (with_reducible first | refine EvSeq.go ?_ | refine EvIf.tt ?_ | refine EvIf.ff ?_) | ((with_reducible refine Hole.mk (kK ?_)); clear kK) | ((with_reducible refine EvIf.mk (fun c => ?_) (fun c => ?_)) <;> (try simp only [cs_] at c) <;> (try (exfalso; first | omega | (revert c; decide)))) | ((with_reducible refine EvNew.sep HS ?_); intro bN hN HS1 hX; replace HS := HS1; clear HS1) | ((with_reducible refine EvIdx.lit ?_ ?_ ?_); (first | omega | decide); (first | omega | decide)) | ((with_reducible first | refine EvNe.mk ?_ ?_ | refine EvGe.mk ?_ ?_); (first | decide | omega)) | ((with_reducible refine EvLd.q HS (by repeat first | exact .h | apply Spot.t) ?_); (conv => whnf); intro hC) | (with_reducible refine EvLdN.q HS (by repeat first | exact .h | apply Spot.t) (fun hC => ?_)) | ((with_reducible refine EvSt.q HS (by repeat first | exact .h | apply Spot.t) ?_); (conv => whnf); intro hN HS1 hU; replace HS := HS1; clear HS1) | ((with_reducible refine EvKeep.cq (A := keepK _ _ (Hole _) _) HS (by repeat first | exact .h | apply Spot.t) ?_); (conv => whnf); (refine ⟨?_, ?_⟩); assumption; intro hC) | ((with_reducible refine EvKeep.nq (A := keepK _ _ (Hole _) _) HS (by repeat first | exact .h | apply Spot.t) ?_ ?_); assumption; intro hC) | ((fail_if_success with_reducible refine EvKeep.hole ?_); (with_reducible refine EvKeep.abs (fun X kK => ?_)))) <;> conv => whnf)
  all_goals
    refine ⟨?_, rfl⟩
    congr 1
    unfold frm letr
    simp (disch := omega) only [if_pos, if_neg] <;> rfl
theorem l2Form_c (op : Int) (h : Hp) : HC Try.prog 15 [.int .i64 op] h fun v h' => v = .int .i64 (frm op) ∧ h' = h := by
  refine hc_of Try.func15 (rfl : Try.f15.body = some _) Try.ntmps15 Try.results15 Try.call15 rfl ?_; have HS := Sep.nil h; conv => whnf
  repeat' ((first | (with_reducible first | refine EvSeq.go ?_ | refine EvIf.tt ?_ | refine EvIf.ff ?_) | ((with_reducible refine Hole.mk (kK ?_)); clear kK) | ((with_reducible refine EvIf.mk (fun c => ?_) (fun c => ?_)) <;> (try simp only [cs_] at c) <;> (try (exfalso; first | omega | (revert c; decide)))) | ((with_reducible refine EvNew.sep HS ?_); intro bN hN HS1 hX; replace HS := HS1; clear HS1) | ((with_reducible refine EvIdx.lit ?_ ?_ ?_); (first | omega | decide); (first | omega | decide)) | ((with_reducible first | refine EvNe.mk ?_ ?_ | refine EvGe.mk ?_ ?_); (first | decide | omega)) | ((with_reducible refine EvLd.q HS (by repeat first | exact .h | apply Spot.t) ?_); (conv => whnf); intro hC) | (with_reducible refine EvLdN.q HS (by repeat first | exact .h | apply Spot.t) (fun hC => ?_)) | ((with_reducible refine EvSt.q HS (by repeat first | exact .h | apply Spot.t) ?_); (conv => whnf); intro hN HS1 hU; replace HS := HS1; clear HS1) | ((with_reducible refine EvKeep.cq (A := keepK _ _ (Hole _) _) HS (by repeat first | exact .h | apply Spot.t) ?_); (conv => whnf); (refine ⟨?_, ?_⟩); assumption; intro hC) | ((with_reducible refine EvKeep.nq (A := keepK _ _ (Hole _) _) HS (by repeat first | exact .h | apply Spot.t) ?_ ?_); assumption; intro hC) | ((fail_if_success with_reducible refine EvKeep.hole ?_); (with_reducible refine EvKeep.abs (fun X kK => ?_)))) <;> conv => whnf)
  all_goals
    refine ⟨?_, rfl⟩
    congr 1
    unfold frm
    simp (disch := omega) only [if_pos, if_neg] <;> rfl
/-- What a form uses. -/
def prt (f : Int) : Int := if f = 0 then 0 else if f = 1 then 7 else if f = 2 then 11 else if f = 3 then 11 else if f = 4 then 14 else if f = 5 then 14 else if f = 6 then 9 else if f = 7 then 9 else 0
theorem l2Parts_c (f : Int) (h : Hp) (h0 : 0 ≤ f) (h8 : f ≤ 8) : HC Try.prog 35 [.int .i64 f] h fun v h' => v = .int .i64 (prt f) ∧ Ext h h' := by
  obtain rfl | rfl | rfl | rfl | rfl | rfl | rfl | rfl | rfl : f = 0 ∨ f = 1 ∨ f = 2 ∨ f = 3 ∨ f = 4 ∨ f = 5 ∨ f = 6 ∨ f = 7 ∨ f = 8 := by omega
  all_goals
    refine hc_of Try.func35 (rfl : Try.f35.body = some _) Try.ntmps35 Try.results35 Try.call35 rfl ?_; have HS := Sep.nil h; conv => whnf
    repeat' ((first | (with_reducible first | refine EvSeq.go ?_ | refine EvIf.tt ?_ | refine EvIf.ff ?_) | ((with_reducible refine Hole.mk (kK ?_)); clear kK) | ((with_reducible refine EvIf.mk (fun c => ?_) (fun c => ?_)) <;> (try simp only [cs_] at c) <;> (try (exfalso; first | omega | (revert c; decide)))) | ((with_reducible refine EvNew.sep HS ?_); intro bN hN HS1 hX; replace HS := HS1; clear HS1) | ((with_reducible refine EvIdx.lit ?_ ?_ ?_); (first | omega | decide); (first | omega | decide)) | ((with_reducible first | refine EvNe.mk ?_ ?_ | refine EvGe.mk ?_ ?_); (first | decide | omega)) | ((with_reducible refine EvLd.q HS (by repeat first | exact .h | apply Spot.t) ?_); (conv => whnf); intro hC) | (with_reducible refine EvLdN.q HS (by repeat first | exact .h | apply Spot.t) (fun hC => ?_)) | ((with_reducible refine EvSt.q HS (by repeat first | exact .h | apply Spot.t) ?_); (conv => whnf); intro hN HS1 hU; replace HS := HS1; clear HS1) | ((with_reducible refine EvKeep.cq (A := keepK _ _ (Hole _) _) HS (by repeat first | exact .h | apply Spot.t) ?_); (conv => whnf); (refine ⟨?_, ?_⟩); assumption; intro hC) | ((with_reducible refine EvKeep.nq (A := keepK _ _ (Hole _) _) HS (by repeat first | exact .h | apply Spot.t) ?_ ?_); assumption; intro hC) | ((fail_if_success with_reducible refine EvKeep.hole ?_); (with_reducible refine EvKeep.abs (fun X kK => ?_)))) <;> conv => whnf)
    exact ⟨rfl, HS.to_ext⟩
/-- Least, greatest, and of what it is a multiple. -/
def rng (f : Int) : Int × Int × Int := if f = 2 ∨ f = 4 then (-2048, 2047, 1) else if f = 3 then (0, 31, 1) else if f = 5 then (-4096, 4094, 2) else if f = 6 then (0, 1048575, 1) else if f = 7 then (-1048576, 1048574, 2) else (0, 0, 1)
theorem l2Range_c (f : Int) (h : Hp) (h0 : 1 ≤ f) (h8 : f ≤ 8) : HC Try.prog 37 [.int .i64 f] h fun v h' => v = .tuple #[.int .i64 (rng f).1, .int .i64 (rng f).2.1, .int .i64 (rng f).2.2] ∧ h' = h := by
  obtain rfl | rfl | rfl | rfl | rfl | rfl | rfl | rfl : f = 1 ∨ f = 2 ∨ f = 3 ∨ f = 4 ∨ f = 5 ∨ f = 6 ∨ f = 7 ∨ f = 8 := by omega
  all_goals
    refine hc_of Try.func37 (rfl : Try.f37.body = some _) Try.ntmps37 Try.results37 Try.call37 rfl ?_; have HS := Sep.nil h; conv => whnf
    repeat' ((first | (with_reducible first | refine EvSeq.go ?_ | refine EvIf.tt ?_ | refine EvIf.ff ?_) | ((with_reducible refine Hole.mk (kK ?_)); clear kK) | ((with_reducible refine EvIf.mk (fun c => ?_) (fun c => ?_)) <;> (try simp only [cs_] at c) <;> (try (exfalso; first | omega | (revert c; decide)))) | ((with_reducible refine EvNew.sep HS ?_); intro bN hN HS1 hX; replace HS := HS1; clear HS1) | ((with_reducible refine EvIdx.lit ?_ ?_ ?_); (first | omega | decide); (first | omega | decide)) | ((with_reducible first | refine EvNe.mk ?_ ?_ | refine EvGe.mk ?_ ?_); (first | decide | omega)) | ((with_reducible refine EvLd.q HS (by repeat first | exact .h | apply Spot.t) ?_); (conv => whnf); intro hC) | (with_reducible refine EvLdN.q HS (by repeat first | exact .h | apply Spot.t) (fun hC => ?_)) | ((with_reducible refine EvSt.q HS (by repeat first | exact .h | apply Spot.t) ?_); (conv => whnf); intro hN HS1 hU; replace HS := HS1; clear HS1) | ((with_reducible refine EvKeep.cq (A := keepK _ _ (Hole _) _) HS (by repeat first | exact .h | apply Spot.t) ?_); (conv => whnf); (refine ⟨?_, ?_⟩); assumption; intro hC) | ((with_reducible refine EvKeep.nq (A := keepK _ _ (Hole _) _) HS (by repeat first | exact .h | apply Spot.t) ?_ ?_); assumption; intro hC) | ((fail_if_success with_reducible refine EvKeep.hole ?_); (with_reducible refine EvKeep.abs (fun X kK => ?_)))) <;> conv => whnf)
    all_goals (first | exact ⟨rfl, rfl⟩ | (exfalso; simp at *; done))
/-- The lowest seven bits, f3, f7. -/
def tabC : List Int := [51, 51, 51, 51, 51, 51, 51, 51, 51, 51, 51, 51, 51, 51, 51, 51, 51, 51, 19, 19, 19, 19, 19, 19, 19, 19, 19, 3, 3, 3, 3, 3, 103, 35, 35, 35, 99, 99, 99, 99, 99, 99, 55, 23, 111, 115, 115]
def tab3 : List Int := [0, 0, 1, 2, 3, 4, 5, 5, 6, 7, 0, 1, 2, 3, 4, 5, 6, 7, 0, 2, 3, 4, 6, 7, 1, 5, 5, 0, 1, 2, 4, 5, 0, 0, 1, 2, 0, 1, 4, 5, 6, 7, 0, 0, 0, 0, 0]
def tab7 : List Int := [0, 32, 0, 0, 0, 0, 0, 32, 0, 0, 1, 1, 1, 1, 1, 1, 1, 1, 0, 0, 0, 0, 0, 0, 0, 0, 32, 0, 0, 0, 0, 0, 0, 0, 0, 0, 0, 0, 0, 0, 0, 0, 0, 0, 0, 0, 0]
def par (op : Int) : Int × Int × Int := (tabC.getD (op - 1).toNat 0, tab3.getD (op - 1).toNat 0, tab7.getD (op - 1).toNat 0)
theorem op_cases {op : Int} (h1 : 1 ≤ op) (h2 : op ≤ 47) : op = 1 ∨ op = 2 ∨ op = 3 ∨ op = 4 ∨ op = 5 ∨ op = 6 ∨ op = 7 ∨ op = 8 ∨ op = 9 ∨ op = 10 ∨ op = 11 ∨ op = 12 ∨ op = 13 ∨ op = 14 ∨ op = 15 ∨ op = 16 ∨ op = 17 ∨ op = 18 ∨ op = 19 ∨ op = 20 ∨ op = 21 ∨ op = 22 ∨ op = 23 ∨ op = 24 ∨ op = 25 ∨ op = 26 ∨ op = 27 ∨ op = 28 ∨ op = 29 ∨ op = 30 ∨ op = 31 ∨ op = 32 ∨ op = 33 ∨ op = 34 ∨ op = 35 ∨ op = 36 ∨ op = 37 ∨ op = 38 ∨ op = 39 ∨ op = 40 ∨ op = 41 ∨ op = 42 ∨ op = 43 ∨ op = 44 ∨ op = 45 ∨ op = 46 ∨ op = 47 := by omega
end Go.Proofs.Ytjggmhpjlnmigaa
