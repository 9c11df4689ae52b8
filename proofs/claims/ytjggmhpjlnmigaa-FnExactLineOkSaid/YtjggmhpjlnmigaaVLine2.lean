/- Lines of assembly: is one well formed? The two functions. -/
import Derived.Test.YtjggmhpjlnmigaaVLine
namespace Go.Proofs.Ytjggmhpjlnmigaa
open Go.RowKit
set_option maxRecDepth 20000
set_option linter.unusedSimpArgs false
set_option linter.unusedVariables false
def far (n : Int) : Bool := decide (-2147483648 ≤ n ∧ n ≤ 2147483647)
def reg (n : Int) : Bool := decide (0 ≤ n ∧ n ≤ 31)
/-- a line is well formed -/
def lok (k op d s t n : Int) (y : ByteArray) (N : Int) : Bool :=
  let z := decide (op = 0 ∧ t = 0 ∧ n = 0)
  let no := z && decide (d = 0 ∧ s = 0)
  let e := y.toList == []
  if k = 2 then iok op d s t n && (decide (frm op ≠ 5 ∧ frm op ≠ 7 ∧ N = 0) && e)
  else if k = 3 then iok op d s t n && (decide ((frm op = 5 ∨ frm op = 7) ∧ N = 0 ∧ n = 0) && nameB y)
  else if k = 1 ∨ k = 7 ∨ k = 8 then no && (nameB y && decide (N = 0))
  else if k = 4 then z && (decide (s = 0) && (reg d && (e && isW N)))
  else if k = 5 then z && (decide (s = 0) && (reg d && (nameB y && far N)))
  else if k = 6 then z && (reg d && (reg s && (e && decide (N = 0))))
  else if k = 9 ∨ k = 10 ∨ k = 11 then no && (e && decide (N = 0))
  else if k = 12 then no && (e && decide (0 ≤ N ∧ N ≤ 255))
  else if k = 13 then no && (e && decide (0 ≤ N ∧ N ≤ 65535))
  else if k = 14 then no && (if e then isW N else nameB y && far N)
  else if k = 15 then no && (e && decide (0 ≤ N ∧ N ≤ 65536))
  else if k = 16 then no && (e && decide (N = 1 ∨ N = 2 ∨ N = 4))
  else false
theorem tl0 : ByteArray.toList ⟨#[]⟩ = [] := by unfold ByteArray.toList; unfold ByteArray.toList.loop; simp [ByteArray.size]
theorem far_c (n : Int) (h : Hp) : HC Try.prog 19 [.int .i64 n] h fun v h' => v = .bool (far n) ∧ h' = h := by
  refine hc_of Try.func19 (rfl : Try.f19.body = some _) Try.ntmps19 Try.results19 Try.call19 rfl ?_; have HS := Sep.nil h; conv => whnf
  repeat' ((first | (with_reducible first | refine EvSeq.go ?_ | refine EvIf.tt ?_ | refine EvIf.ff ?_) | ((with_reducible refine Hole.mk (kK ?_)); clear kK) | ((with_reducible refine EvIf.mk (fun c => ?_) (fun c => ?_)) <;> (try simp only [cs_] at c) <;> (try (exfalso; first | omega | (revert c; decide)))) | ((with_reducible refine EvNew.sep HS ?_); intro bN hN HS1 hX; replace HS := HS1; clear HS1) | ((with_reducible refine EvIdx.lit ?_ ?_ ?_); (first | omega | decide); (first | omega | decide)) | ((with_reducible first | refine EvNe.mk ?_ ?_ | refine EvGe.mk ?_ ?_); (first | decide | omega)) | ((with_reducible refine EvLd.q HS (by repeat first | exact .h | apply Spot.t) ?_); (conv => whnf); intro hC) | (with_reducible refine EvLdN.q HS (by repeat first | exact .h | apply Spot.t) (fun hC => ?_)) | ((with_reducible refine EvSt.q HS (by repeat first | exact .h | apply Spot.t) ?_); (conv => whnf); intro hN HS1 hU; replace HS := HS1; clear HS1) | ((with_reducible refine EvKeep.cq (A := keepK _ _ (Hole _) _) HS (by repeat first | exact .h | apply Spot.t) ?_); (conv => whnf); (refine ⟨?_, ?_⟩); assumption; intro hC) | ((with_reducible refine EvKeep.nq (A := keepK _ _ (Hole _) _) HS (by repeat first | exact .h | apply Spot.t) ?_ ?_); assumption; intro hC) | ((fail_if_success with_reducible refine EvKeep.hole ?_); (with_reducible refine EvKeep.abs (fun X kK => ?_)))) <;> conv => whnf)
  all_goals
    refine ⟨?_, rfl⟩
    refine congrArg Value.bool ?_
    unfold far
    simp
    try omega
theorem signedOk_c (n : Int) (h : Hp) : HC Try.prog 27 [.int .i64 n] h fun v h' => v = .bool (far n) ∧ h' = h := by
  refine hc_of Try.func27 (rfl : Try.f27.body = some _) Try.ntmps27 Try.results27 Try.call27 rfl ?_; have HS := Sep.nil h; conv => whnf
  repeat' ((first | ((with_reducible refine EvCall.mk (HC.mono (inside_c _ _ _ _) ?_)); (rintro _ _ ⟨rfl, rfl⟩)) | (with_reducible first | refine EvSeq.go ?_ | refine EvIf.tt ?_ | refine EvIf.ff ?_) | ((with_reducible refine Hole.mk (kK ?_)); clear kK) | ((with_reducible refine EvIf.mk (fun c => ?_) (fun c => ?_)) <;> (try simp only [cs_] at c) <;> (try (exfalso; first | omega | (revert c; decide)))) | ((with_reducible refine EvNew.sep HS ?_); intro bN hN HS1 hX; replace HS := HS1; clear HS1) | ((with_reducible refine EvIdx.lit ?_ ?_ ?_); (first | omega | decide); (first | omega | decide)) | ((with_reducible first | refine EvNe.mk ?_ ?_ | refine EvGe.mk ?_ ?_); (first | decide | omega)) | ((with_reducible refine EvLd.q HS (by repeat first | exact .h | apply Spot.t) ?_); (conv => whnf); intro hC) | (with_reducible refine EvLdN.q HS (by repeat first | exact .h | apply Spot.t) (fun hC => ?_)) | ((with_reducible refine EvSt.q HS (by repeat first | exact .h | apply Spot.t) ?_); (conv => whnf); intro hN HS1 hU; replace HS := HS1; clear HS1) | ((with_reducible refine EvKeep.cq (A := keepK _ _ (Hole _) _) HS (by repeat first | exact .h | apply Spot.t) ?_); (conv => whnf); (refine ⟨?_, ?_⟩); assumption; intro hC) | ((with_reducible refine EvKeep.nq (A := keepK _ _ (Hole _) _) HS (by repeat first | exact .h | apply Spot.t) ?_ ?_); assumption; intro hC) | ((fail_if_success with_reducible refine EvKeep.hole ?_); (with_reducible refine EvKeep.abs (fun X kK => ?_)))) <;> conv => whnf)
  exact ⟨rfl, rfl⟩
theorem regs_c (op d s t n : Int) (a b : Bool) (h : Hp) : HC Try.prog 14 [inst op d s t n, .bool a, .bool b] h fun v h' => v = .bool (decide (op = 0 ∧ t = 0 ∧ n = 0) && (reg d && (reg s && ((a || decide (d = 0)) && (b || decide (s = 0)))))) ∧ Ext h h' := by
  refine hc_of Try.func14 (rfl : Try.f14.body = some _) Try.ntmps14 Try.results14 Try.call14 rfl ?_; have HS := Sep.nil h; conv => whnf
  repeat' ((first | (with_reducible first | refine EvSeq.go ?_ | refine EvIf.tt ?_ | refine EvIf.ff ?_) | ((with_reducible refine Hole.mk (kK ?_)); clear kK) | ((with_reducible refine EvIf.mk (fun c => ?_) (fun c => ?_)) <;> (try simp only [cs_] at c) <;> (try (exfalso; first | omega | (revert c; decide)))) | ((with_reducible refine EvNew.sep HS ?_); intro bN hN HS1 hX; replace HS := HS1; clear HS1) | ((with_reducible refine EvIdx.lit ?_ ?_ ?_); (first | omega | decide); (first | omega | decide)) | ((with_reducible first | refine EvNe.mk ?_ ?_ | refine EvGe.mk ?_ ?_); (first | decide | omega)) | ((with_reducible refine EvLd.q HS (by repeat first | exact .h | apply Spot.t) ?_); (conv => whnf); intro hC) | (with_reducible refine EvLdN.q HS (by repeat first | exact .h | apply Spot.t) (fun hC => ?_)) | ((with_reducible refine EvSt.q HS (by repeat first | exact .h | apply Spot.t) ?_); (conv => whnf); intro hN HS1 hU; replace HS := HS1; clear HS1) | ((with_reducible refine EvKeep.cq (A := keepK _ _ (Hole _) _) HS (by repeat first | exact .h | apply Spot.t) ?_); (conv => whnf); (refine ⟨?_, ?_⟩); assumption; intro hC) | ((with_reducible refine EvKeep.nq (A := keepK _ _ (Hole _) _) HS (by repeat first | exact .h | apply Spot.t) ?_ ?_); assumption; intro hC) | ((fail_if_success with_reducible refine EvKeep.hole ?_); (with_reducible refine EvKeep.abs (fun X kK => ?_)))) <;> conv => whnf)
  all_goals
    refine ⟨congrArg Value.bool ?_, HS.to_ext⟩
    clear HS
    unfold reg
    grind
theorem sLine_c (k op d s t n : Int) (y : ByteArray) (N : Int) (h : Hp) : HC Try.prog 6 [line k op d s t n y N] h fun v h' => v = .bool (lok k op d s t n y N) ∧ Ext h h' := by
  have hk : k = 12 ∨ k = 13 ∨ k = 14 ∨ k = 15 ∨ ¬(12 ≤ k ∧ k ≤ 15) := by omega
  rcases hk with rfl | rfl | rfl | rfl | hk
  all_goals
    refine hc_of Try.func6 (rfl : Try.f6.body = some _) Try.ntmps6 Try.results6 Try.call6 rfl ?_; have HS := Sep.nil h; conv => whnf
    repeat' ((first | ((with_reducible refine EvDraw.ord (id := 27) (.go 0 (.go 1 (.go 2 (.go 3 (.go 4 (.go 5 (.go 7 (.go 8 (.alt 6 (.go 9 (.go 10 (.go 11 (.go 12 (.go 13 .done))))) .stop))))))))) fol ?_ ?_ ?_); kernel_rfl; kernel_rfl) | ((with_reducible refine EvCall.mk (HC.mono (regs_c _ _ _ _ _ _ _ _) ?_)); (rintro _ hN ⟨rfl, hX⟩); replace HS := HS.ext hX) | ((with_reducible refine EvCall.mk (HC.mono (l2Form_c _ _) ?_)); (rintro _ _ ⟨rfl, rfl⟩)) | ((with_reducible refine EvCall.mk (HC.mono (sInstOk_c _ _ _ _ _ _) ?_)); (rintro _ hN ⟨rfl, hX⟩); replace HS := HS.ext hX) | ((with_reducible refine EvCall.mk (HC.mono (sName_c _ _) ?_)); (rintro _ _ ⟨rfl, rfl⟩)) | ((with_reducible refine EvCall.mk (HC.mono (far_c _ _) ?_)); (rintro _ _ ⟨rfl, rfl⟩)) | ((with_reducible refine EvCall.mk (HC.mono (l3WordOk_c _ _) ?_)); (rintro _ _ ⟨rfl, rfl⟩)) | (with_reducible first | refine EvSeq.go ?_ | refine EvIf.tt ?_ | refine EvIf.ff ?_) | ((with_reducible refine Hole.mk (kK ?_)); clear kK) | ((with_reducible refine EvIf.mk (fun c => ?_) (fun c => ?_)) <;> (try simp only [cs_] at c) <;> (try (exfalso; first | omega | (revert c; decide)))) | ((with_reducible refine EvNew.sep HS ?_); intro bN hN HS1 hX; replace HS := HS1; clear HS1) | ((with_reducible refine EvIdx.lit ?_ ?_ ?_); (first | omega | decide); (first | omega | decide)) | ((with_reducible first | refine EvNe.mk ?_ ?_ | refine EvGe.mk ?_ ?_); (first | decide | omega)) | ((with_reducible refine EvLd.q HS (by repeat first | exact .h | apply Spot.t) ?_); (conv => whnf); intro hC) | (with_reducible refine EvLdN.q HS (by repeat first | exact .h | apply Spot.t) (fun hC => ?_)) | ((with_reducible refine EvSt.q HS (by repeat first | exact .h | apply Spot.t) ?_); (conv => whnf); intro hN HS1 hU; replace HS := HS1; clear HS1) | ((with_reducible refine EvKeep.cq (A := keepK _ _ (Hole _) _) HS (by repeat first | exact .h | apply Spot.t) ?_); (conv => whnf); (refine ⟨?_, ?_⟩); assumption; intro hC) | ((with_reducible refine EvKeep.nq (A := keepK _ _ (Hole _) _) HS (by repeat first | exact .h | apply Spot.t) ?_ ?_); assumption; intro hC) | ((fail_if_success with_reducible refine EvKeep.hole ?_); (with_reducible refine EvKeep.abs (fun X kK => ?_)))) <;> conv => whnf)
  all_goals
    refine ⟨congrArg Value.bool ?_, HS.to_ext⟩
    clear HS
    simp only [lok]
    grind [reg, tl0, isW, far]
theorem isReg_1 (b : Nat) (x : Int) {h : Hp} (e : h[b]? = some (.cells [Value.int .i64 x].toArray 3 (0, 0))) : HC Try.prog 25 [.slice (some ⟨b, 0, none⟩) 1 1] h fun v h' => v = .bool (reg x) ∧ h' = h :=
  (isReg_c (some ⟨b, 0, none⟩) 1 [x] h (Rd.of_blk e) (by simp)).mono fun v h' ⟨a, b⟩ => ⟨by rw [a]; simp [reg], b⟩
theorem isReg_2 (b : Nat) (x z : Int) {h : Hp} (e : h[b]? = some (.cells [Value.int .i64 x, Value.int .i64 z].toArray 3 (0, 0))) : HC Try.prog 25 [.slice (some ⟨b, 0, none⟩) 2 2] h fun v h' => v = .bool (reg x && reg z) ∧ h' = h :=
  (isReg_c (some ⟨b, 0, none⟩) 2 [x, z] h (Rd.of_blk e) (by simp)).mono fun v h' ⟨a, b⟩ => ⟨by rw [a]; simp [reg], b⟩
theorem isWord_1 (b : Nat) (x : Int) {h : Hp} (e : h[b]? = some (.cells [Value.int .i64 x].toArray 3 (0, 0))) : HC Try.prog 26 [.slice (some ⟨b, 0, none⟩) 1 1] h fun v h' => v = .bool (isW x) ∧ h' = h :=
  (isWord_c (l := [x]) (Rd.of_blk e) rfl (by simp)).mono fun v h' ⟨a, b⟩ => ⟨by rw [a]; simp, b⟩
end Go.Proofs.Ytjggmhpjlnmigaa
