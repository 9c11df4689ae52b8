/- Walks: words to instructions, by the program. -/
import Derived.Test.YthndggachjdkfaaVInst8
namespace Go.Proofs.Ythndggachjdkfaa
open Go.RowKit
set_option maxRecDepth 20000
set_option linter.unusedSimpArgs false
set_option linter.unusedVariables false
theorem or_neg (x y : Int) (k : Nat) (hk : k ≤ 62) (hx : -4611686018427387904 ≤ x) (hx' : x < 4611686018427387904) (hm : x % 2 ^ k = 0) (hy : 0 ≤ y) (hy' : y < 2 ^ k) : Go.bits .or .i64 x y = x + y := by
  have p := pow_le62 k hk
  have hc : ((2 ^ k : Nat) : Int) = (2 : Int) ^ k := by simp
  show IntKind.wrap .i64 _ = _
  rw [wrap_i64]
  show wrap64 (((BitVec.ofInt 64 x ||| BitVec.ofInt 64 y).toNat : Nat) : Int) = _
  rw [BitVec.toNat_or, toNat_ofInt, toNat_ofInt]
  have ey : (y % ((2 ^ 64 : Nat) : Int)).toNat = y.toNat := by omega
  have h2 : (x % ((2 ^ 64 : Nat) : Int)) % 2 ^ k = 0 := by
    rw [Int.emod_emod_of_dvd _ ⟨2 ^ (64 - k), by rw [← Int.pow_add]; simp [show k + (64 - k) = 64 by omega]⟩, hm]
  have hX : 0 ≤ x % ((2 ^ 64 : Nat) : Int) ∧ x % ((2 ^ 64 : Nat) : Int) < 18446744073709551616 := by omega
  have hX2 : x % ((2 ^ 64 : Nat) : Int) = x ∨ x % ((2 ^ 64 : Nat) : Int) = x + 18446744073709551616 := by omega
  generalize x % ((2 ^ 64 : Nat) : Int) = X at *
  have e := Int.mul_ediv_add_emod X (2 ^ k)
  have hq := ediv_le X (2 ^ k) hX.1 (by omega)
  have ex : X.toNat = 2 ^ k * (X / 2 ^ k).toNat := by
    have : ((2 ^ k * (X / 2 ^ k).toNat : Nat) : Int) = 2 ^ k * (X / 2 ^ k) := by rw [Int.natCast_mul, hc, Int.toNat_of_nonneg hq.1]
    omega
  rw [ey, ex, ← Nat.two_pow_add_eq_or_of_lt (by omega), ← ex]
  unfold wrap64
  omega
theorem bitf_c (at_ n w : Int) (b : Nat) (h : Hp) (h0 : 0 ≤ at_) (h1 : at_ ≤ 31) (h2 : 1 ≤ n) (h3 : n ≤ 31) (w0 : 0 ≤ w) (w1 : w ≤ 4294967295) (hc : hcell h b 0 = some (.int .i64 w)) : HC Try.prog 105 [.int .i64 at_, .int .i64 n, .pointer (some ⟨b, 0, none⟩)] h fun v h' => v = .int .i64 (fl (at_ + n - 1) at_ w) ∧ h' = h := by
  refine hc_of Try.func105 (rfl : Try.f105.body = some _) Try.ntmps105 Try.results105 Try.call105 rfl ?_; have HS := Sep.nil h; conv => whnf
  repeat' ((first | ((with_reducible refine EvDraw.ord (id := 1) (.go 0 (.go 1 (.go 2 (.go 3 (.go 4 (.go 5 (.go 6 (.go 7 .done)))))))) fol ?_ ?_ ?_); kernel_rfl; kernel_rfl) | ((with_reducible refine EvLd.at_ hc ?_)) | ((with_reducible refine EvKeep.same ?_)) | (with_reducible first | refine EvSeq.go ?_ | refine EvIf.tt ?_ | refine EvIf.ff ?_) | ((with_reducible refine Hole.mk (kK ?_)); clear kK) | ((with_reducible refine EvIf.mk (fun c => ?_) (fun c => ?_)) <;> (try simp only [cs_] at c) <;> (try (exfalso; first | omega | (revert c; decide)))) | ((with_reducible refine EvNew.sep HS ?_); intro bN hN HS1 hX; replace HS := HS1; clear HS1) | ((with_reducible refine EvIdx.lit ?_ ?_ ?_); (first | omega | decide); (first | omega | decide)) | ((with_reducible first | refine EvNe.mk ?_ ?_ | refine EvGe.mk ?_ ?_); (first | decide | omega)) | ((with_reducible refine EvLd.q HS (by repeat first | exact .h | apply Spot.t) ?_); (conv => whnf); intro hC) | (with_reducible refine EvLdN.q HS (by repeat first | exact .h | apply Spot.t) (fun hC => ?_)) | ((with_reducible refine EvSt.q HS (by repeat first | exact .h | apply Spot.t) ?_); (conv => whnf); intro hN HS1 hU; replace HS := HS1; clear HS1) | ((with_reducible refine EvKeep.cq (A := keepK _ _ (Hole _) _) HS (by repeat first | exact .h | apply Spot.t) ?_); (conv => whnf); (refine ⟨?_, ?_⟩); assumption; intro hC) | ((with_reducible refine EvKeep.nq (A := keepK _ _ (Hole _) _) HS (by repeat first | exact .h | apply Spot.t) ?_ ?_); assumption; intro hC) | ((fail_if_success with_reducible refine EvKeep.hole ?_); (with_reducible refine EvKeep.abs (fun X kK => ?_)))) <;> conv => whnf)
  refine ⟨?_, rfl⟩
  show Value.int _ _ = Value.int _ _
  have p := pow_le62 n.toNat (by omega)
  have hb : IntKind.i64.bits = 64 := rfl
  rw [hb, show min at_.toNat 64 = at_.toNat by omega, show min n.toNat 64 = n.toNat by omega, Int.one_mul, i64w (2 ^ _) (by omega) (by omega), i64w (_ - 1) (by omega) (by omega), and_mask _ _ (by omega)]
  unfold fl
  rw [show at_ + n - 1 - at_ + 1 = n by omega, Int.emod_eq_of_lt w0 (by omega)]
theorem bitf_s1 {h0 h : Hp} {b : Nat} {w : Int} {T : TypeId} {A : Asn} {L : List Asn} (HS : Sep h0 h (A :: Bx b [.int .i64 w] T :: L)) (w0 : 0 ≤ w) (w1 : w ≤ 4294967295) (at_ n : Int) (h0 : 0 ≤ at_) (h1 : at_ ≤ 31) (h2 : 1 ≤ n) (h3 : n ≤ 31) : HC Try.prog 105 [.int .i64 at_, .int .i64 n, .pointer (some ⟨b, 0, none⟩)] h fun v h' => v = .int .i64 (fl (at_ + n - 1) at_ w) ∧ h' = h :=
  bitf_c at_ n w b h h0 h1 h2 h3 w0 w1 (HS.cell 1 rfl rfl)
theorem bitf_s2 {h0 h : Hp} {b : Nat} {w : Int} {T : TypeId} {A B : Asn} {L : List Asn} (HS : Sep h0 h (A :: B :: Bx b [.int .i64 w] T :: L)) (w0 : 0 ≤ w) (w1 : w ≤ 4294967295) (at_ n : Int) (h0 : 0 ≤ at_) (h1 : at_ ≤ 31) (h2 : 1 ≤ n) (h3 : n ≤ 31) : HC Try.prog 105 [.int .i64 at_, .int .i64 n, .pointer (some ⟨b, 0, none⟩)] h fun v h' => v = .int .i64 (fl (at_ + n - 1) at_ w) ∧ h' = h :=
  bitf_c at_ n w b h h0 h1 h2 h3 w0 w1 (HS.cell 2 rfl rfl)
theorem iEnc_v (op w d s t n : Int) (h : Hp) (hd : d = rrd (frm op) w) (hs : s = rs1 (frm op) w) (ht : t = rs2 (frm op) w) (hn : n = rimm (frm op) w) : HC Try.prog 95 [inst op d s t n] h fun v h' => v = .tuple #[.int .i64 (encp op (rrd (frm op) w) (rs1 (frm op) w) (rs2 (frm op) w) (rimm (frm op) w)).1, .bool (encp op (rrd (frm op) w) (rs1 (frm op) w) (rs2 (frm op) w) (rimm (frm op) w)).2] ∧ Ext h h' := by
  subst hd hs ht hn
  exact iEnc_p _ _ _ _ _ h
abbrev sh_ (n : Int) : Nat := min n.toNat IntKind.i64.bits
theorem imm2 (w : Int) (w0 : 0 ≤ w) (w1 : w ≤ 4294967295) : sg w / 2 ^ sh_ 20 = wd (fl 31 20 w) 12 := by
  simp [fl, wd, sg, sh_, IntKind.bits]
  omega
theorem imm4 (w : Int) (w0 : 0 ≤ w) (w1 : w ≤ 4294967295) : Go.bits .or .i64 (IntKind.i64.wrap (sg w / 2 ^ sh_ 25 * 2 ^ sh_ 5)) (fl (7 + 5 - 1) 7 w) = wd (fl 31 25 w * 32 + fl 11 7 w) 12 := by
  have r := sg_range w
  have q := fl_lt (7 + 5 - 1) 7 w 32 (by decide)
  have e1 : sh_ 25 = 25 := rfl
  have e2 : sh_ 5 = 5 := rfl
  rw [e1, e2, i64w _ (by omega) (by omega), or_neg _ _ 5 (by decide) (by omega) (by omega) (by omega) (by omega) (by omega)]
  simp [fl, wd, sg] at r q ⊢
  omega
theorem imm5 (w : Int) (w0 : 0 ≤ w) (w1 : w ≤ 4294967295) : Go.bits .or .i64 (Go.bits .or .i64 (Go.bits .or .i64 (IntKind.i64.wrap (sg w / 2 ^ sh_ 31 * 2 ^ sh_ 12)) (IntKind.i64.wrap (fl (7 + 1 - 1) 7 w * 2 ^ sh_ 11))) (IntKind.i64.wrap (fl (25 + 6 - 1) 25 w * 2 ^ sh_ 5))) (IntKind.i64.wrap (fl (8 + 4 - 1) 8 w * 2 ^ sh_ 1)) = wd (fl 31 31 w * 4096 + fl 7 7 w * 2048 + fl 30 25 w * 32 + fl 11 8 w * 2) 13 := by
  have r := sg_range w
  have q1 := fl_lt (7 + 1 - 1) 7 w 2 (by decide)
  have q2 := fl_lt (25 + 6 - 1) 25 w 64 (by decide)
  have q3 := fl_lt (8 + 4 - 1) 8 w 16 (by decide)
  have e1 : sh_ 31 = 31 := rfl
  have e2 : sh_ 12 = 12 := rfl
  have e3 : sh_ 11 = 11 := rfl
  have e4 : sh_ 5 = 5 := rfl
  have e5 : sh_ 1 = 1 := rfl
  rw [e1, e2, e3, e4, e5]
  simp (disch := omega) only [i64w]
  rw [or_neg _ (fl (7 + 1 - 1) 7 w * 2 ^ 11) 12 (by decide) (by omega) (by omega) (by omega) (by omega) (by omega), or_neg _ (fl (25 + 6 - 1) 25 w * 2 ^ 5) 11 (by decide) (by omega) (by omega) (by omega) (by omega) (by omega), or_neg _ _ 5 (by decide) (by omega) (by omega) (by omega) (by omega) (by omega)]
  simp [fl, wd, sg] at r q1 q2 q3 ⊢
  omega
theorem imm7 (w : Int) (w0 : 0 ≤ w) (w1 : w ≤ 4294967295) : Go.bits .or .i64 (Go.bits .or .i64 (Go.bits .or .i64 (IntKind.i64.wrap (sg w / 2 ^ sh_ 31 * 2 ^ sh_ 20)) (IntKind.i64.wrap (fl (12 + 8 - 1) 12 w * 2 ^ sh_ 12))) (IntKind.i64.wrap (fl (20 + 1 - 1) 20 w * 2 ^ sh_ 11))) (IntKind.i64.wrap (fl (21 + 10 - 1) 21 w * 2 ^ sh_ 1)) = wd (fl 31 31 w * 1048576 + fl 19 12 w * 4096 + fl 20 20 w * 2048 + fl 30 21 w * 2) 21 := by
  have r := sg_range w
  have q1 := fl_lt (12 + 8 - 1) 12 w 256 (by decide)
  have q2 := fl_lt (20 + 1 - 1) 20 w 2 (by decide)
  have q3 := fl_lt (21 + 10 - 1) 21 w 1024 (by decide)
  have e1 : sh_ 31 = 31 := rfl
  have e2 : sh_ 20 = 20 := rfl
  have e3 : sh_ 12 = 12 := rfl
  have e4 : sh_ 11 = 11 := rfl
  have e5 : sh_ 1 = 1 := rfl
  rw [e1, e2, e3, e4, e5]
  simp (disch := omega) only [i64w]
  rw [or_neg _ (fl (12 + 8 - 1) 12 w * 2 ^ 12) 20 (by decide) (by omega) (by omega) (by omega) (by omega) (by omega), or_neg _ (fl (20 + 1 - 1) 20 w * 2 ^ 11) 12 (by decide) (by omega) (by omega) (by omega) (by omega) (by omega), or_neg _ _ 11 (by decide) (by omega) (by omega) (by omega) (by omega) (by omega)]
  simp [fl, wd, sg] at r q1 q2 q3 ⊢
  omega
theorem low7 (w : Int) (w0 : 0 ≤ w) (w1 : w ≤ 4294967295) : fl (0 + 7 - 1) 0 w = w % 128 := by
  simp [fl]
set_option maxHeartbeats 1000000 in
theorem iDec_c (w : Int) (h : Hp) : HC Try.prog 44 [.int .i64 w] h fun v h' => v = decp w ∧ Ext h h' := by
  refine hc_of Try.func44 (rfl : Try.f44.body = some _) Try.ntmps44 Try.results44 Try.call44 rfl ?_; have HS := Sep.nil h; conv => whnf
  repeat' ((first | ((with_reducible refine EvDraw.ord (id := 1) (.go 0 (.go 1 (.alt 2 (.go 3 .done) .stop))) fol ?_ ?_ ?_); kernel_rfl; kernel_rfl) | ((with_reducible refine EvKeep.same ?_)) | ((with_reducible refine EvCall.mk (HC.mono (iWord_c _ _) ?_)); (rintro _ _ ⟨rfl, rfl⟩)) | (with_reducible first | refine EvSeq.go ?_ | refine EvIf.tt ?_ | refine EvIf.ff ?_) | ((with_reducible refine Hole.mk (kK ?_)); clear kK) | ((with_reducible refine EvIf.mk (fun c => ?_) (fun c => ?_)) <;> (try simp only [cs_] at c) <;> (try (exfalso; first | omega | (revert c; decide)))) | ((with_reducible refine EvNew.sep HS ?_); intro bN hN HS1 hX; replace HS := HS1; clear HS1) | ((with_reducible refine EvIdx.lit ?_ ?_ ?_); (first | omega | decide); (first | omega | decide)) | ((with_reducible first | refine EvNe.mk ?_ ?_ | refine EvGe.mk ?_ ?_); (first | decide | omega)) | ((with_reducible refine EvLd.q HS (by repeat first | exact .h | apply Spot.t) ?_); (conv => whnf); intro hC) | (with_reducible refine EvLdN.q HS (by repeat first | exact .h | apply Spot.t) (fun hC => ?_)) | ((with_reducible refine EvSt.q HS (by repeat first | exact .h | apply Spot.t) ?_); (conv => whnf); intro hN HS1 hU; replace HS := HS1; clear HS1) | ((with_reducible refine EvKeep.cq (A := keepK _ _ (Hole _) _) HS (by repeat first | exact .h | apply Spot.t) ?_); (conv => whnf); (refine ⟨?_, ?_⟩); assumption; intro hC) | ((with_reducible refine EvKeep.nq (A := keepK _ _ (Hole _) _) HS (by repeat first | exact .h | apply Spot.t) ?_ ?_); assumption; intro hC) | ((fail_if_success with_reducible refine EvKeep.hole ?_); (with_reducible refine EvKeep.abs (fun X kK => ?_)))) <;> conv => whnf)
  · refine ⟨?_, HS.to_ext⟩
    unfold decp
    rw [if_pos (by omega)]
  · have w0 : 0 ≤ w := by omega
    have w1 : w ≤ 4294967295 := by omega
    rename_i bb _ _ _
    have hw : ¬(w < 0 ∨ w > 4294967295) := by omega
    repeat' ((first | ((with_reducible refine EvCall.mk (HC.mono (bitf_s1 HS w0 w1 _ _ (by decide) (by decide) (by decide) (by decide)) ?_)); (rintro _ _ ⟨rfl, rfl⟩)) | ((with_reducible refine EvCall.mk (HC.mono (iSigned_c _ _) ?_)); (rintro _ _ ⟨rfl, rfl⟩)) | (with_reducible first | refine EvSeq.go ?_ | refine EvIf.tt ?_ | refine EvIf.ff ?_) | ((with_reducible refine Hole.mk (kK ?_)); clear kK) | ((with_reducible refine EvIf.mk (fun c => ?_) (fun c => ?_)) <;> (try simp only [cs_] at c) <;> (try (exfalso; first | omega | (revert c; decide)))) | ((with_reducible refine EvNew.sep HS ?_); intro bN hN HS1 hX; replace HS := HS1; clear HS1) | ((with_reducible refine EvIdx.lit ?_ ?_ ?_); (first | omega | decide); (first | omega | decide)) | ((with_reducible first | refine EvNe.mk ?_ ?_ | refine EvGe.mk ?_ ?_); (first | decide | omega)) | ((with_reducible refine EvLd.q HS (by repeat first | exact .h | apply Spot.t) ?_); (conv => whnf); intro hC) | (with_reducible refine EvLdN.q HS (by repeat first | exact .h | apply Spot.t) (fun hC => ?_)) | ((with_reducible refine EvSt.q HS (by repeat first | exact .h | apply Spot.t) ?_); (conv => whnf); intro hN HS1 hU; replace HS := HS1; clear HS1) | ((with_reducible refine EvKeep.cq (A := keepK _ _ (Hole _) _) HS (by repeat first | exact .h | apply Spot.t) ?_); (conv => whnf); (refine ⟨?_, ?_⟩); assumption; intro hC) | ((with_reducible refine EvKeep.nq (A := keepK _ _ (Hole _) _) HS (by repeat first | exact .h | apply Spot.t) ?_ ?_); assumption; intro hC) | ((fail_if_success with_reducible refine EvKeep.hole ?_); (with_reducible refine EvKeep.abs (fun X kK => ?_)))) <;> conv => whnf)
    refine EvLoop.keep ([3, 9, 10, 11, 12, 13, 14, 15, 30, 31, 32, 33, 34, 35, 36, 37, 38, 39, 40, 41, 42, 43, 44, 45, 46, 47, 48, 49, 50, 51, 52, 53, 54, 55, 56, 57, 58, 59, 60, 61, 62, 63, 64, 65, 66, 67, 68, 69, 70, 71, 72, 73, 74, 75, 76, 77, 78, 79, 80, 81, 82, 83, 84, 85, 86, 87, 88, 89, 90, 91, 92, 93, 94, 95, 96, 97, 98, 99, 100, 101, 102, 103, 104, 105, 106, 107, 108, 109, 110, 111, 112, 113, 114, 115, 116, 117, 118, 119, 120, 121, 122, 123, 124, 125, 126, 127, 128, 129, 130, 131, 132, 133, 134, 135, 136, 137, 138, 139, 140, 141, 142, 143, 144, 145], 16) (α := Int) (fun x => [(9, .int .i64 x)]) (fun x h' => Sep h h' [Bx bN [.int .i64 0, .int .i64 0, .int .i64 0, .int .i64 0, .int .i64 0] 71, Bx bb [.int .i64 w] 3] ∧ ∃ k : Nat, k ≤ 47 ∧ x = k + 1 ∧ findOp w 47 1 = findOp w (47 - k) (k + 1)) (fun x => (48 - x).toNat) 1 (by (repeat' (first | exact trivial | refine ⟨rfl, ?_⟩))) ⟨HS, 0, by omega, rfl, rfl⟩ ?_
    clear HS
    rintro _ _ ⟨HS, k, hk, rfl, hf⟩
    conv => whnf
    repeat' ((first | ((with_reducible refine EvCall.mk (HC.mono (bitf_s1 HS w0 w1 _ _ (by decide) (by decide) (by decide) (by decide)) ?_)); (rintro _ _ ⟨rfl, rfl⟩)) | ((with_reducible refine EvCall.mk (HC.mono (bitf_s2 HS w0 w1 _ _ (by decide) (by decide) (by decide) (by decide)) ?_)); (rintro _ _ ⟨rfl, rfl⟩)) | ((with_reducible refine EvCall.mk (HC.mono (partsOf_c (k+1) _ (by omega) (by omega)) ?_)); (rintro _ hN ⟨rfl, hX⟩); replace HS := HS.ext hX) | (with_reducible first | refine EvSeq.go ?_ | refine EvIf.tt ?_ | refine EvIf.ff ?_) | ((with_reducible refine Hole.mk (kK ?_)); clear kK) | ((with_reducible refine EvIf.mk (fun c => ?_) (fun c => ?_)) <;> (try simp only [cs_] at c) <;> (try (exfalso; first | omega | (revert c; decide)))) | ((with_reducible refine EvNew.sep HS ?_); intro bN hN HS1 hX; replace HS := HS1; clear HS1) | ((with_reducible refine EvIdx.lit ?_ ?_ ?_); (first | omega | decide); (first | omega | decide)) | ((with_reducible first | refine EvNe.mk ?_ ?_ | refine EvGe.mk ?_ ?_); (first | decide | omega)) | ((with_reducible refine EvLd.q HS (by repeat first | exact .h | apply Spot.t) ?_); (conv => whnf); intro hC) | (with_reducible refine EvLdN.q HS (by repeat first | exact .h | apply Spot.t) (fun hC => ?_)) | ((with_reducible refine EvSt.q HS (by repeat first | exact .h | apply Spot.t) ?_); (conv => whnf); intro hN HS1 hU; replace HS := HS1; clear HS1) | ((with_reducible refine EvKeep.cq (A := keepK _ _ (Hole _) _) HS (by repeat first | exact .h | apply Spot.t) ?_); (conv => whnf); (refine ⟨?_, ?_⟩); assumption; intro hC) | ((with_reducible refine EvKeep.nq (A := keepK _ _ (Hole _) _) HS (by repeat first | exact .h | apply Spot.t) ?_ ?_); assumption; intro hC) | ((fail_if_success with_reducible refine EvKeep.hole ?_); (with_reducible refine EvKeep.abs (fun X kK => ?_)))) <;> conv => whnf)
    · have c1 : (k : Int) + 1 ≤ 47 := by omega
      rw [low7 w w0 w1] at c
      exact ⟨_, (by (repeat' (first | exact trivial | refine ⟨rfl, ?_⟩))), ⟨HS, k + 1, by omega, stepw c1, hf.trans (findOp_no c1 (fits_c fun h => c h.symm))⟩, stepm c1⟩
    · have c1 : (k : Int) + 1 ≤ 47 := by omega
      rw [low7 w w0 w1] at c
      have cp := c.symm
      have hfr := sDec_lt w ((k : Int) + 1) (by omega) c1
      rcases frm_cases ((k : Int) + 1) with e | e | e | e | e | e | e | e | e
      · exact absurd e hfr
      all_goals
        repeat' ((first | ((with_reducible refine EvDraw.ord (id := 1) (.go 0 (.go 1 (.alt 2 (.go 3 .done) .stop))) fol ?_ ?_ ?_); kernel_rfl; kernel_rfl) | ((with_reducible refine EvKeep.same ?_)) | ((with_reducible refine EvCall.mk (HC.mono (formOf_v ((k:Int)+1) _ (congrArg letr e) _) ?_)); (rintro _ _ ⟨rfl, rfl⟩)) | ((with_reducible refine EvCall.mk (HC.mono (bitf_s1 HS w0 w1 _ _ (by decide) (by decide) (by decide) (by decide)) ?_)); (rintro _ _ ⟨rfl, rfl⟩)) | ((with_reducible refine EvCall.mk (HC.mono (bitf_s2 HS w0 w1 _ _ (by decide) (by decide) (by decide) (by decide)) ?_)); (rintro _ _ ⟨rfl, rfl⟩)) | ((with_reducible refine EvCall.mk (HC.mono (iEnc_v ((k:Int)+1) w _ _ _ _ _ (by rw [e]; with_unfolding_all rfl) (by rw [e]; with_unfolding_all rfl) (by rw [e]; with_unfolding_all rfl) (by rw [e]; with_unfolding_all (first | exact imm2 w w0 w1 | exact imm4 w w0 w1 | exact imm5 w w0 w1 | exact imm7 w w0 w1 | rfl))) ?_)); (rintro _ hN ⟨rfl, hX⟩); replace HS := HS.ext hX) | (with_reducible first | refine EvSeq.go ?_ | refine EvIf.tt ?_ | refine EvIf.ff ?_) | ((with_reducible refine Hole.mk (kK ?_)); clear kK) | ((with_reducible refine EvIf.mk (fun c => ?_) (fun c => ?_)) <;> (try simp only [cs_] at c) <;> (try (exfalso; first | omega | (revert c; decide)))) | ((with_reducible refine EvNew.sep HS ?_); intro bN hN HS1 hX; replace HS := HS1; clear HS1) | ((with_reducible refine EvIdx.lit ?_ ?_ ?_); (first | omega | decide); (first | omega | decide)) | ((with_reducible first | refine EvNe.mk ?_ ?_ | refine EvGe.mk ?_ ?_); (first | decide | omega)) | ((with_reducible refine EvLd.q HS (by repeat first | exact .h | apply Spot.t) ?_); (conv => whnf); intro hC) | (with_reducible refine EvLdN.q HS (by repeat first | exact .h | apply Spot.t) (fun hC => ?_)) | ((with_reducible refine EvSt.q HS (by repeat first | exact .h | apply Spot.t) ?_); (conv => whnf); intro hN HS1 hU; replace HS := HS1; clear HS1) | ((with_reducible refine EvKeep.cq (A := keepK _ _ (Hole _) _) HS (by repeat first | exact .h | apply Spot.t) ?_); (conv => whnf); (refine ⟨?_, ?_⟩); assumption; intro hC) | ((with_reducible refine EvKeep.nq (A := keepK _ _ (Hole _) _) HS (by repeat first | exact .h | apply Spot.t) ?_ ?_); assumption; intro hC) | ((fail_if_success with_reducible refine EvKeep.hole ?_); (with_reducible refine EvKeep.abs (fun X kK => ?_)))) <;> conv => whnf)
      all_goals
        first
        | exact ⟨_, (by (repeat' (first | exact trivial | refine ⟨rfl, ?_⟩))), ⟨HS.tail, k + 1, by omega, stepw c1, hf.trans (findOp_no c1 (fits_no cp fun _ h => c h))⟩, stepm c1⟩
        | exact ⟨_, (by (repeat' (first | exact trivial | refine ⟨rfl, ?_⟩))), ⟨HS.tail, k + 1, by omega, stepw c1, hf.trans (findOp_no c1 (fits_no cp fun h _ => by simp [h] at c))⟩, stepm c1⟩
        | (refine ⟨?_, HS.to_ext⟩
           unfold decp
           rw [if_neg hw, hf, findOp_yes c1 ((fits_enc _ _ cp).mpr ⟨by assumption, c⟩)]
           show _ = Value.tuple #[rin ((k : Int) + 1) w, .bool true]
           unfold rin
           rw [e]
           first
           | rfl
           | (rw [show rimm 2 w = wd (fl 31 20 w) 12 from rfl, ← imm2 w w0 w1]; rfl)
           | (rw [show rimm 4 w = wd (fl 31 25 w * 32 + fl 11 7 w) 12 from rfl, ← imm4 w w0 w1]; rfl)
           | (rw [show rimm 5 w = wd (fl 31 31 w * 4096 + fl 7 7 w * 2048 + fl 30 25 w * 32 + fl 11 8 w * 2) 13 from rfl, ← imm5 w w0 w1]; rfl)
           | (rw [show rimm 7 w = wd (fl 31 31 w * 1048576 + fl 19 12 w * 4096 + fl 20 20 w * 2048 + fl 30 21 w * 2) 21 from rfl, ← imm7 w w0 w1]; rfl))
    · refine ⟨?_, HS.to_ext⟩
      obtain rfl : k = 47 := by omega
      unfold decp
      rw [if_neg hw, hf]
      rfl
end Go.Proofs.Ythndggachjdkfaa
