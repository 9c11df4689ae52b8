/- Walks: instructions to words. -/
import Derived.Test.YthndggachjdkfaaVInst5
namespace Go.Proofs.Ythndggachjdkfaa
open Go.RowKit
set_option maxRecDepth 20000
set_option linter.unusedSimpArgs false
set_option linter.unusedVariables false
/-- What a number adds to its word. -/
def immw (f n : Int) : Int := if f = 2 then fl 11 0 n * 1048576 else if f = 3 then n * 1048576 else if f = 4 then fl 11 5 n * 33554432 + fl 4 0 n * 128
  else if f = 5 then fl 12 12 n * 2147483648 + fl 10 5 n * 33554432 + fl 4 1 n * 256 + fl 11 11 n * 128 else if f = 6 then n * 4096
  else if f = 7 then fl 20 20 n * 2147483648 + fl 10 1 n * 2097152 + fl 11 11 n * 1048576 + fl 19 12 n * 4096 else 0
theorem fl_lt (h l n : Int) (B : Int) (e : 2 ^ (h - l + 1).toNat = B) : 0 ≤ fl h l n ∧ fl h l n < B := e ▸ fl_range h l n
theorem l2Imm_c (f n : Int) (h : Hp) (h1 : 1 ≤ f) (h8 : f ≤ 8) (h3 : f = 3 → 0 ≤ n ∧ n ≤ 31) (h6 : f = 6 → 0 ≤ n ∧ n ≤ 1048575) : HC Try.prog 151 [.int .i64 f, .int .i64 n] h fun v h' => v = .int .i64 (immw f n) ∧ h' = h := by
  have g1 := fl_lt 11 0 n 4096 (by decide)
  have g2 := fl_lt 11 5 n 128 (by decide)
  have g3 := fl_lt 4 0 n 32 (by decide)
  have g4 := fl_lt 12 12 n 2 (by decide)
  have g5 := fl_lt 10 5 n 64 (by decide)
  have g6 := fl_lt 4 1 n 16 (by decide)
  have g7 := fl_lt 11 11 n 2 (by decide)
  have g8 := fl_lt 20 20 n 2 (by decide)
  have g9 := fl_lt 10 1 n 1024 (by decide)
  have g0 := fl_lt 19 12 n 256 (by decide)
  obtain rfl | rfl | rfl | rfl | rfl | rfl | rfl | rfl : f = 1 ∨ f = 2 ∨ f = 3 ∨ f = 4 ∨ f = 5 ∨ f = 6 ∨ f = 7 ∨ f = 8 := by omega
  all_goals
    refine hc_of Try.func151 (rfl : Try.f151.body = some _) Try.ntmps151 Try.results151 Try.call151 rfl ?_; have HS := Sep.nil h; conv => whnf
    repeat' ((first | ((with_reducible refine EvCall.mk (HC.mono (bits_c _ _ _ _ (by decide) (by decide) (by decide)) ?_)); (rintro _ _ ⟨rfl, rfl⟩)) | (with_reducible first | refine EvSeq.go ?_ | refine EvIf.tt ?_ | refine EvIf.ff ?_) | ((with_reducible refine Hole.mk (kK ?_)); clear kK) | ((with_reducible refine EvIf.mk (fun c => ?_) (fun c => ?_)) <;> (try simp only [cs_] at c) <;> (try (exfalso; first | omega | (revert c; decide)))) | ((with_reducible refine EvNew.sep HS ?_); intro bN hN HS1 hX; replace HS := HS1; clear HS1) | ((with_reducible refine EvIdx.lit ?_ ?_ ?_); (first | omega | decide); (first | omega | decide)) | ((with_reducible first | refine EvNe.mk ?_ ?_ | refine EvGe.mk ?_ ?_); (first | decide | omega)) | ((with_reducible refine EvLd.q HS (by repeat first | exact .h | apply Spot.t) ?_); (conv => whnf); intro hC) | (with_reducible refine EvLdN.q HS (by repeat first | exact .h | apply Spot.t) (fun hC => ?_)) | ((with_reducible refine EvSt.q HS (by repeat first | exact .h | apply Spot.t) ?_); (conv => whnf); intro hN HS1 hU; replace HS := HS1; clear HS1) | ((with_reducible refine EvKeep.cq (A := keepK _ _ (Hole _) _) HS (by repeat first | exact .h | apply Spot.t) ?_); (conv => whnf); (refine ⟨?_, ?_⟩); assumption; intro hC) | ((with_reducible refine EvKeep.nq (A := keepK _ _ (Hole _) _) HS (by repeat first | exact .h | apply Spot.t) ?_ ?_); assumption; intro hC) | ((fail_if_success with_reducible refine EvKeep.hole ?_); (with_reducible refine EvKeep.abs (fun X kK => ?_)))) <;> conv => whnf)
    refine ⟨?_, rfl⟩
    show Value.int _ _ = Value.int _ _
    unfold immw
    simp (disch := omega) only [Int.reduceEq, if_true, if_false, i64w]
theorem imm_c (hi lo op d s t n : Int) (b : Nat) (h : Hp) (h0 : 0 ≤ lo) (h1 : lo ≤ hi) (h2 : hi ≤ 31) (hc : hcell h b 4 = some (.int .i64 n)) : HC Try.prog 133 [.int .i64 hi, .int .i64 lo, .pointer (some ⟨b, 0, none⟩)] h fun v h' => v = .int .i64 (fl hi lo n) ∧ h' = h := by
  have e : IntKind.i64.wrap (IntKind.i64.wrap (hi - lo) + 1) = hi - lo + 1 := by rw [i64w (hi - lo) (by omega) (by omega), i64w _ (by omega) (by omega)]
  refine hc_of Try.func133 (rfl : Try.f133.body = some _) Try.ntmps133 Try.results133 Try.call133 rfl ?_; have HS := Sep.nil h; conv => whnf
  repeat' ((first | ((with_reducible refine EvDraw.ord (id := 1) (.go 0 (.go 1 (.go 3 (.go 5 (.go 6 (.go 7 (.go 8 (.go 9 (.go 10 (.alt 2 (.go 4 (.go 11 (.go 12 .done))) .stop)))))))))) fol ?_ ?_ ?_); kernel_rfl; kernel_rfl) | ((with_reducible refine EvLd.at_ hc ?_)) | ((with_reducible refine EvCall.mk (HC.mono (iWord_c _ _) ?_)); (rintro _ _ ⟨rfl, rfl⟩)) | (with_reducible first | refine EvSeq.go ?_ | refine EvIf.tt ?_ | refine EvIf.ff ?_) | ((with_reducible refine Hole.mk (kK ?_)); clear kK) | ((with_reducible refine EvIf.mk (fun c => ?_) (fun c => ?_)) <;> (try simp only [cs_] at c) <;> (try (exfalso; first | omega | (revert c; decide)))) | ((with_reducible refine EvNew.sep HS ?_); intro bN hN HS1 hX; replace HS := HS1; clear HS1) | ((with_reducible refine EvIdx.lit ?_ ?_ ?_); (first | omega | decide); (first | omega | decide)) | ((with_reducible first | refine EvNe.mk ?_ ?_ | refine EvGe.mk ?_ ?_); (first | decide | omega)) | ((with_reducible refine EvLd.q HS (by repeat first | exact .h | apply Spot.t) ?_); (conv => whnf); intro hC) | (with_reducible refine EvLdN.q HS (by repeat first | exact .h | apply Spot.t) (fun hC => ?_)) | ((with_reducible refine EvSt.q HS (by repeat first | exact .h | apply Spot.t) ?_); (conv => whnf); intro hN HS1 hU; replace HS := HS1; clear HS1) | ((with_reducible refine EvKeep.cq (A := keepK _ _ (Hole _) _) HS (by repeat first | exact .h | apply Spot.t) ?_); (conv => whnf); (refine ⟨?_, ?_⟩); assumption; intro hC) | ((with_reducible refine EvKeep.nq (A := keepK _ _ (Hole _) _) HS (by repeat first | exact .h | apply Spot.t) ?_ ?_); assumption; intro hC) | ((fail_if_success with_reducible refine EvKeep.hole ?_); (with_reducible refine EvKeep.abs (fun X kK => ?_)))) <;> conv => whnf)
  refine ⟨?_, rfl⟩
  show Value.int _ _ = Value.int _ _
  have p := pow_le62 (hi - lo + 1).toNat (by omega)
  have hb : IntKind.i64.bits = 64 := rfl
  rw [e, hb, show min lo.toNat 64 = lo.toNat by omega, show min (hi - lo + 1).toNat 64 = (hi - lo + 1).toNat by omega, Int.one_mul, i64w (2 ^ _) (by omega) (by omega), i64w (_ - 1) (by omega) (by omega), and_mask _ _ (by omega)]
  rfl
theorem or_sum (x y : Int) (k : Nat) (hx : 0 ≤ x) (hx' : x < 4611686018427387904) (hm : x % 2 ^ k = 0) (hy : 0 ≤ y) (hy' : y < 2 ^ k) (hk : (2 : Int) ^ k ≤ 4611686018427387904) : Go.bits .or .i64 x y = x + y := by
  have hp : (0 : Int) < 2 ^ k := Int.pow_pos (by decide)
  have hc : ((2 ^ k : Nat) : Int) = (2 : Int) ^ k := by simp
  have h := or_nat x.toNat y.toNat (by omega) (by omega)
  rw [Int.toNat_of_nonneg hx, Int.toNat_of_nonneg hy] at h
  rw [h]
  have e := Int.mul_ediv_add_emod x (2 ^ k)
  have hq := ediv_le x (2 ^ k) hx (by omega)
  have ex : x.toNat = 2 ^ k * (x / 2 ^ k).toNat := by
    have : ((2 ^ k * (x / 2 ^ k).toNat : Nat) : Int) = 2 ^ k * (x / 2 ^ k) := by rw [Int.natCast_mul, hc, Int.toNat_of_nonneg hq.1]
    omega
  rw [ex, ← Nat.two_pow_add_eq_or_of_lt (by omega)]
  omega
theorem or_sum' (x y : Int) (k : Nat) (hx : 0 ≤ x) (hx' : x < 4611686018427387904) (hm : x % 2 ^ k = 0) (hy : 0 ≤ y) (hy' : y < 2 ^ k) (hk : (2 : Int) ^ k ≤ 4611686018427387904) : Go.bits .or .i64 y x = y + x := by
  have h0 := or_sum x y k hx hx' hm hy hy' hk
  have h := or_nat x.toNat y.toNat (by omega) (by omega)
  have h' := or_nat y.toNat x.toNat (by omega) (by omega)
  rw [Int.toNat_of_nonneg hx, Int.toNat_of_nonneg hy] at h h'
  rw [h', Nat.or_comm, ← h, h0]
  omega
/-- The word of an instruction. -/
def enc (op d s t n : Int) : Int :=
  let c := (par op).1; let f3 := (par op).2.1; let f7 := (par op).2.2
  if frm op = 1 then c + f7 * 33554432 + t * 1048576 + s * 32768 + f3 * 4096 + d * 128
  else if frm op = 2 then c + fl 11 0 n * 1048576 + s * 32768 + f3 * 4096 + d * 128
  else if frm op = 3 then c + f7 * 33554432 + n * 1048576 + s * 32768 + f3 * 4096 + d * 128
  else if frm op = 4 then c + fl 11 5 n * 33554432 + t * 1048576 + s * 32768 + f3 * 4096 + fl 4 0 n * 128
  else if frm op = 5 then c + fl 12 12 n * 2147483648 + fl 10 5 n * 33554432 + t * 1048576 + s * 32768 + f3 * 4096 + fl 4 1 n * 256 + fl 11 11 n * 128
  else if frm op = 6 then c + n * 4096 + d * 128
  else if frm op = 7 then c + fl 20 20 n * 2147483648 + fl 10 1 n * 2097152 + fl 11 11 n * 1048576 + fl 19 12 n * 4096 + d * 128
  else c + (op - 46) * 1048576
/-- What EncodeInst tells. -/
def encp (op d s t n : Int) : Int × Bool := if iok op d s t n = true then (enc op d s t n, true) else (0, false)
theorem frm_range (op : Int) (h : frm op ≠ 0) : 1 ≤ op ∧ op ≤ 47 := by unfold frm at h; omega
theorem par_range (op : Int) (h1 : 1 ≤ op) (h2 : op ≤ 47) : (0 ≤ (par op).1 ∧ (par op).1 < 128) ∧ (0 ≤ (par op).2.1 ∧ (par op).2.1 < 8) ∧ (0 ≤ (par op).2.2 ∧ (par op).2.2 < 128) := by
  obtain rfl | rfl | rfl | rfl | rfl | rfl | rfl | rfl | rfl | rfl | rfl | rfl | rfl | rfl | rfl | rfl | rfl | rfl | rfl | rfl | rfl | rfl | rfl | rfl | rfl | rfl | rfl | rfl | rfl | rfl | rfl | rfl | rfl | rfl | rfl | rfl | rfl | rfl | rfl | rfl | rfl | rfl | rfl | rfl | rfl | rfl | rfl := op_cases h1 h2
  all_goals decide
theorem iInstOk_v (op d s t n : Int) (b : Bool) (hb : iok op d s t n = b) (h : Hp) : HC Try.prog 98 [inst op d s t n] h fun v h' => v = .bool b ∧ Ext h h' := hb ▸ iInstOk_c op d s t n h
theorem sInstOk_v (op d s t n : Int) (b : Bool) (hb : iok op d s t n = b) (h : Hp) : HC Try.prog 120 [inst op d s t n] h fun v h' => v = .bool b ∧ Ext h h' := hb ▸ sInstOk_c op d s t n h
theorem iEnc_no (op d s t n : Int) (ho : iok op d s t n = false) (h : Hp) : HC Try.prog 95 [inst op d s t n] h fun v h' => v = .tuple #[.int .i64 (encp op d s t n).1, .bool (encp op d s t n).2] ∧ Ext h h' := by
  refine hc_of Try.func95 (rfl : Try.f95.body = some _) Try.ntmps95 Try.results95 Try.call95 rfl ?_; have HS := Sep.nil h; conv => whnf
  repeat' ((first | ((with_reducible refine EvCall.mk (HC.mono (iInstOk_v op d s t n _ ho _) ?_)); (rintro _ hN ⟨rfl, hX⟩); replace HS := HS.ext hX) | (with_reducible first | refine EvSeq.go ?_ | refine EvIf.tt ?_ | refine EvIf.ff ?_) | ((with_reducible refine Hole.mk (kK ?_)); clear kK) | ((with_reducible refine EvIf.mk (fun c => ?_) (fun c => ?_)) <;> (try simp only [cs_] at c) <;> (try (exfalso; first | omega | (revert c; decide)))) | ((with_reducible refine EvNew.sep HS ?_); intro bN hN HS1 hX; replace HS := HS1; clear HS1) | ((with_reducible refine EvIdx.lit ?_ ?_ ?_); (first | omega | decide); (first | omega | decide)) | ((with_reducible first | refine EvNe.mk ?_ ?_ | refine EvGe.mk ?_ ?_); (first | decide | omega)) | ((with_reducible refine EvLd.q HS (by repeat first | exact .h | apply Spot.t) ?_); (conv => whnf); intro hC) | (with_reducible refine EvLdN.q HS (by repeat first | exact .h | apply Spot.t) (fun hC => ?_)) | ((with_reducible refine EvSt.q HS (by repeat first | exact .h | apply Spot.t) ?_); (conv => whnf); intro hN HS1 hU; replace HS := HS1; clear HS1) | ((with_reducible refine EvKeep.cq (A := keepK _ _ (Hole _) _) HS (by repeat first | exact .h | apply Spot.t) ?_); (conv => whnf); (refine ⟨?_, ?_⟩); assumption; intro hC) | ((with_reducible refine EvKeep.nq (A := keepK _ _ (Hole _) _) HS (by repeat first | exact .h | apply Spot.t) ?_ ?_); assumption; intro hC) | ((fail_if_success with_reducible refine EvKeep.hole ?_); (with_reducible refine EvKeep.abs (fun X kK => ?_)))) <;> conv => whnf)
  refine ⟨?_, HS.to_ext⟩
  unfold encp
  rw [ho]
  rfl
theorem sEnc_no (op d s t n : Int) (ho : iok op d s t n = false) (h : Hp) : HC Try.prog 126 [inst op d s t n] h fun v h' => v = .tuple #[.int .i64 (encp op d s t n).1, .bool (encp op d s t n).2] ∧ Ext h h' := by
  refine hc_of Try.func126 (rfl : Try.f126.body = some _) Try.ntmps126 Try.results126 Try.call126 rfl ?_; have HS := Sep.nil h; conv => whnf
  repeat' ((first | ((with_reducible refine EvCall.mk (HC.mono (sInstOk_v op d s t n _ ho _) ?_)); (rintro _ hN ⟨rfl, hX⟩); replace HS := HS.ext hX) | (with_reducible first | refine EvSeq.go ?_ | refine EvIf.tt ?_ | refine EvIf.ff ?_) | ((with_reducible refine Hole.mk (kK ?_)); clear kK) | ((with_reducible refine EvIf.mk (fun c => ?_) (fun c => ?_)) <;> (try simp only [cs_] at c) <;> (try (exfalso; first | omega | (revert c; decide)))) | ((with_reducible refine EvNew.sep HS ?_); intro bN hN HS1 hX; replace HS := HS1; clear HS1) | ((with_reducible refine EvIdx.lit ?_ ?_ ?_); (first | omega | decide); (first | omega | decide)) | ((with_reducible first | refine EvNe.mk ?_ ?_ | refine EvGe.mk ?_ ?_); (first | decide | omega)) | ((with_reducible refine EvLd.q HS (by repeat first | exact .h | apply Spot.t) ?_); (conv => whnf); intro hC) | (with_reducible refine EvLdN.q HS (by repeat first | exact .h | apply Spot.t) (fun hC => ?_)) | ((with_reducible refine EvSt.q HS (by repeat first | exact .h | apply Spot.t) ?_); (conv => whnf); intro hN HS1 hU; replace HS := HS1; clear HS1) | ((with_reducible refine EvKeep.cq (A := keepK _ _ (Hole _) _) HS (by repeat first | exact .h | apply Spot.t) ?_); (conv => whnf); (refine ⟨?_, ?_⟩); assumption; intro hC) | ((with_reducible refine EvKeep.nq (A := keepK _ _ (Hole _) _) HS (by repeat first | exact .h | apply Spot.t) ?_ ?_); assumption; intro hC) | ((fail_if_success with_reducible refine EvKeep.hole ?_); (with_reducible refine EvKeep.abs (fun X kK => ?_)))) <;> conv => whnf)
  refine ⟨?_, HS.to_ext⟩
  unfold encp
  rw [ho]
  rfl
set_option maxHeartbeats 4000000 in
theorem iEnc_c (op d s t n : Int) (ho : iok op d s t n = true) (h : Hp) : HC Try.prog 95 [inst op d s t n] h fun v h' => v = .tuple #[.int .i64 (enc op d s t n), .bool true] ∧ Ext h h' := by
  have hx := ho
  unfold iok at hx
  simp only [decide_eq_true_eq] at hx
  obtain ⟨h0, hd, hs, ht, u1, u2, u3, v1, v2, v3, v4, v5, v6⟩ := hx
  obtain ⟨o1, o2⟩ := frm_range op h0
  have hr := par_range op o1 o2
  rcases frm_cases op with e | e | e | e | e | e | e | e | e
  · exact absurd e h0
  all_goals
    refine hc_of Try.func95 (rfl : Try.f95.body = some _) Try.ntmps95 Try.results95 Try.call95 rfl ?_; have HS := Sep.nil h; conv => whnf
    repeat' ((first | ((with_reducible refine EvDraw.ord (id := 10) (.go 0 (.go 1 (.go 4 (.go 5 (.go 6 (.go 8 (.go 9 (.go 11 (.go 12 (.go 13 (.alt 2 (.go 3 (.go 7 (.go 10 (.go 14 (.go 15 (.alt 16 .done .stop)))))) .stop))))))))))) fol ?_ ?_ ?_); kernel_rfl; kernel_rfl) | ((with_reducible refine EvDraw.ord (id := 14) (.go 0 (.go 1 (.go 4 (.go 5 (.go 6 (.go 8 (.go 9 (.go 10 (.go 12 (.go 13 (.go 15 (.alt 2 (.go 3 (.go 7 (.go 11 (.go 14 (.alt 16 (.go 17 (.go 18 (.go 19 (.alt 20 .done .stop)))) .stop))))) .stop)))))))))))) fol ?_ ?_ ?_); kernel_rfl; kernel_rfl) | ((with_reducible refine EvDraw.ord (id := 16) (.go 0 (.go 1 (.go 4 (.go 8 (.go 9 (.go 10 (.go 12 (.go 13 (.go 14 (.go 16 (.go 17 (.go 19 (.go 23 (.alt 2 (.go 3 (.alt 5 (.go 6 (.go 7 (.go 11 (.go 15 (.go 18 (.alt 20 (.go 21 (.go 22 (.alt 24 (.go 25 (.go 26 (.go 27 (.alt 28 .done .stop)))) .stop))) .stop)))))) .stop)) .stop)))))))))))))) fol ?_ ?_ ?_); kernel_rfl; kernel_rfl) | ((with_reducible refine EvDraw.ord (id := 20) (.go 0 (.go 1 (.go 4 (.go 8 (.go 12 (.go 16 (.go 17 (.go 18 (.alt 2 (.go 3 (.alt 5 (.go 6 (.go 7 (.alt 9 (.go 10 (.go 11 (.alt 13 (.go 14 (.go 15 (.go 19 (.go 20 (.alt 21 .done .stop))))) .stop))) .stop))) .stop)) .stop))))))))) fol ?_ ?_ ?_); kernel_rfl; kernel_rfl) | (refine EvCall.mk ((imm_c _ _ op d s t n _ _ (by decide) (by decide) (by decide) (hcell_lit (HS.pt_i 0 rfl) 4)).mono ?_); rintro _ _ ⟨rfl, rfl⟩) | ((with_reducible refine EvKeep.same ?_)) | ((with_reducible refine EvCall.mk (HC.mono (iInstOk_v op d s t n _ ho _) ?_)); (rintro _ hN ⟨rfl, hX⟩); replace HS := HS.ext hX) | ((with_reducible refine EvCall.mk (HC.mono (partsOf_c op _ o1 o2) ?_)); (rintro _ hN ⟨rfl, hX⟩); replace HS := HS.ext hX) | ((with_reducible refine EvCall.mk (HC.mono (formOf_v op _ (congrArg letr e) _) ?_)); (rintro _ _ ⟨rfl, rfl⟩)) | (with_reducible first | refine EvSeq.go ?_ | refine EvIf.tt ?_ | refine EvIf.ff ?_) | ((with_reducible refine Hole.mk (kK ?_)); clear kK) | ((with_reducible refine EvIf.mk (fun c => ?_) (fun c => ?_)) <;> (try simp only [cs_] at c) <;> (try (exfalso; first | omega | (revert c; decide)))) | ((with_reducible refine EvNew.sep HS ?_); intro bN hN HS1 hX; replace HS := HS1; clear HS1) | ((with_reducible refine EvIdx.lit ?_ ?_ ?_); (first | omega | decide); (first | omega | decide)) | ((with_reducible first | refine EvNe.mk ?_ ?_ | refine EvGe.mk ?_ ?_); (first | decide | omega)) | ((with_reducible refine EvLd.q HS (by repeat first | exact .h | apply Spot.t) ?_); (conv => whnf); intro hC) | (with_reducible refine EvLdN.q HS (by repeat first | exact .h | apply Spot.t) (fun hC => ?_)) | ((with_reducible refine EvSt.q HS (by repeat first | exact .h | apply Spot.t) ?_); (conv => whnf); intro hN HS1 hU; replace HS := HS1; clear HS1) | ((with_reducible refine EvKeep.cq (A := keepK _ _ (Hole _) _) HS (by repeat first | exact .h | apply Spot.t) ?_); (conv => whnf); (refine ⟨?_, ?_⟩); assumption; intro hC) | ((with_reducible refine EvKeep.nq (A := keepK _ _ (Hole _) _) HS (by repeat first | exact .h | apply Spot.t) ?_ ?_); assumption; intro hC) | ((fail_if_success with_reducible refine EvKeep.hole ?_); (with_reducible refine EvKeep.abs (fun X kK => ?_)))) <;> conv => whnf)
    refine ⟨?_, HS.to_ext⟩
    refine congrArg (fun x => Value.tuple #[Value.int .i64 x, .bool true]) ?_
    clear HS
    unfold enc
    simp only [show min (Int.toNat 7) IntKind.i64.bits = 7 from rfl, show min (Int.toNat 8) IntKind.i64.bits = 8 from rfl, show min (Int.toNat 12) IntKind.i64.bits = 12 from rfl, show min (Int.toNat 15) IntKind.i64.bits = 15 from rfl, show min (Int.toNat 20) IntKind.i64.bits = 20 from rfl, show min (Int.toNat 21) IntKind.i64.bits = 21 from rfl, show min (Int.toNat 25) IntKind.i64.bits = 25 from rfl, show min (Int.toNat 31) IntKind.i64.bits = 31 from rfl, Int.reducePow]
    have ho : op = op := rfl
    generalize hc : (par op).1 = pc at *
    generalize h3 : (par op).2.1 = f3 at *
    generalize h7 : (par op).2.2 = f7 at *
    rw [e] at u1 u2 u3 v1 v2 v3 v4 v5 v6 ⊢
    simp only [Int.reduceEq, if_true, if_false]
  · simp (disch := omega) only [i64w]
    rw [or_sum _ (t * 1048576) 25 (by omega) (by omega) (by omega) (by omega) (by omega) (by omega), or_sum _ (s * 32768) 20 (by omega) (by omega) (by omega) (by omega) (by omega) (by omega), or_sum _ (f3 * 4096) 15 (by omega) (by omega) (by omega) (by omega) (by omega) (by omega), or_sum _ (d * 128) 12 (by omega) (by omega) (by omega) (by omega) (by omega) (by omega), or_sum' _ pc 7 (by omega) (by omega) (by omega) (by omega) (by omega) (by omega)]
    omega
  · have g0 := fl_lt 11 0 n 4096 (by decide)
    generalize fl 11 0 n = q0 at *
    simp (disch := omega) only [i64w]
    rw [or_sum _ (s * 32768) 20 (by omega) (by omega) (by omega) (by omega) (by omega) (by omega), or_sum _ (f3 * 4096) 15 (by omega) (by omega) (by omega) (by omega) (by omega) (by omega), or_sum _ (d * 128) 12 (by omega) (by omega) (by omega) (by omega) (by omega) (by omega), or_sum' _ pc 7 (by omega) (by omega) (by omega) (by omega) (by omega) (by omega)]
    omega
  · simp (disch := omega) only [i64w]
    rw [or_sum _ (n * 1048576) 25 (by omega) (by omega) (by omega) (by omega) (by omega) (by omega), or_sum _ (s * 32768) 20 (by omega) (by omega) (by omega) (by omega) (by omega) (by omega), or_sum _ (f3 * 4096) 15 (by omega) (by omega) (by omega) (by omega) (by omega) (by omega), or_sum _ (d * 128) 12 (by omega) (by omega) (by omega) (by omega) (by omega) (by omega), or_sum' _ pc 7 (by omega) (by omega) (by omega) (by omega) (by omega) (by omega)]
    omega
  · have g0 := fl_lt 11 5 n 128 (by decide)
    have g1 := fl_lt 4 0 n 32 (by decide)
    generalize fl 11 5 n = q0 at *
    generalize fl 4 0 n = q1 at *
    simp (disch := omega) only [i64w]
    rw [or_sum _ (t * 1048576) 25 (by omega) (by omega) (by omega) (by omega) (by omega) (by omega), or_sum _ (s * 32768) 20 (by omega) (by omega) (by omega) (by omega) (by omega) (by omega), or_sum _ (f3 * 4096) 15 (by omega) (by omega) (by omega) (by omega) (by omega) (by omega), or_sum _ (q1 * 128) 12 (by omega) (by omega) (by omega) (by omega) (by omega) (by omega), or_sum' _ pc 7 (by omega) (by omega) (by omega) (by omega) (by omega) (by omega)]
    omega
  · have g0 := fl_lt 12 12 n 2 (by decide)
    have g1 := fl_lt 10 5 n 64 (by decide)
    have g2 := fl_lt 4 1 n 16 (by decide)
    have g3 := fl_lt 11 11 n 2 (by decide)
    generalize fl 12 12 n = q0 at *
    generalize fl 10 5 n = q1 at *
    generalize fl 4 1 n = q2 at *
    generalize fl 11 11 n = q3 at *
    simp (disch := omega) only [i64w]
    rw [or_sum _ (q1 * 33554432) 31 (by omega) (by omega) (by omega) (by omega) (by omega) (by omega), or_sum _ (t * 1048576) 25 (by omega) (by omega) (by omega) (by omega) (by omega) (by omega), or_sum _ (s * 32768) 20 (by omega) (by omega) (by omega) (by omega) (by omega) (by omega), or_sum _ (f3 * 4096) 15 (by omega) (by omega) (by omega) (by omega) (by omega) (by omega), or_sum _ (q2 * 256) 12 (by omega) (by omega) (by omega) (by omega) (by omega) (by omega), or_sum _ (q3 * 128) 8 (by omega) (by omega) (by omega) (by omega) (by omega) (by omega), or_sum' _ pc 7 (by omega) (by omega) (by omega) (by omega) (by omega) (by omega)]
    omega
  · simp (disch := omega) only [i64w]
    rw [or_sum _ (d * 128) 12 (by omega) (by omega) (by omega) (by omega) (by omega) (by omega), or_sum' _ pc 7 (by omega) (by omega) (by omega) (by omega) (by omega) (by omega)]
    omega
  · have g0 := fl_lt 20 20 n 2 (by decide)
    have g1 := fl_lt 10 1 n 1024 (by decide)
    have g2 := fl_lt 19 12 n 256 (by decide)
    have g3 := fl_lt 11 11 n 2 (by decide)
    generalize fl 20 20 n = q0 at *
    generalize fl 10 1 n = q1 at *
    generalize fl 19 12 n = q2 at *
    generalize fl 11 11 n = q3 at *
    simp (disch := omega) only [i64w]
    rw [or_sum _ (q1 * 2097152) 31 (by omega) (by omega) (by omega) (by omega) (by omega) (by omega), or_sum _ (q3 * 1048576) 21 (by omega) (by omega) (by omega) (by omega) (by omega) (by omega), or_sum _ (q2 * 4096) 20 (by omega) (by omega) (by omega) (by omega) (by omega) (by omega), or_sum _ (d * 128) 12 (by omega) (by omega) (by omega) (by omega) (by omega) (by omega), or_sum' _ pc 7 (by omega) (by omega) (by omega) (by omega) (by omega) (by omega)]
    omega
  · obtain rfl : op = 47 := by omega
    rw [or_sum' 1048576 pc 20 (by omega) (by omega) (by omega) (by omega) (by omega) (by omega)]
    omega
  · obtain rfl : op = 46 := by unfold frm at e; omega
    exact ⟨rfl, HS.to_ext⟩
end Go.Proofs.Ythndggachjdkfaa
