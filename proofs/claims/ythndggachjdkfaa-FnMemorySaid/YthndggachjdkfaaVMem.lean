/- The law of memory. -/
import Derived.Test.YthndggachjdkfaaVDr6
import Derived.Test.YthndggachjdkfaaVSw
import Derived.Test.YthndggachjdkfaaVLd
namespace Go.Proofs.Ythndggachjdkfaa
open Go.RowKit
set_option maxRecDepth 20000
set_option linter.unusedSimpArgs false
set_option linter.unusedVariables false
theorem wr_at (l : List Int) (p : Nat) (w : Int) : ∀ (n k : Nat), k < n → p + n ≤ l.length → (wr l p w n).getD (p + k) 0 = w / 256 ^ k % 256
  | n + 1, k, hk, hl => by
    show ((wr l p w n).set (p + n) (w / 256 ^ n % 256)).getD (p + k) 0 = _
    rw [List.getD_eq_getElem?_getD, List.getElem?_set]
    by_cases e : k = n
    · subst e
      rw [if_pos rfl, if_pos (by rw [wr_len]; omega)]
      try rfl
    · rw [if_neg (by omega), ← List.getD_eq_getElem?_getD]
      exact wr_at l p w n k (by omega) (by omega)
theorem le_wr (l : List Int) (p : Nat) (w : Int) (n : Nat) (hn : n ≤ 4) (hl : p + n ≤ l.length) : ∀ k : Nat, k ≤ n → le (wr l p w n) p k = w % 256 ^ k
  | 0, _ => by simp [le] <;> omega
  | k + 1, hk => by
    rw [le_top, le_wr l p w n hn hl k (by omega), wr_at l p w n k (by omega) hl]
    obtain rfl | rfl | rfl | rfl : k = 0 ∨ k = 1 ∨ k = 2 ∨ k = 3 := by omega
    all_goals (simp <;> omega)
theorem nar_low (kd w : Int) (hk : ks kd ≠ 0) : (nar kd (w % 256 ^ (ks kd).toNat)).1 = (nar kd w).1 := by
  obtain rfl | rfl | rfl | rfl | rfl : kd = 1 ∨ kd = 2 ∨ kd = 3 ∨ kd = 4 ∨ kd = 5 := by unfold ks at hk; omega
  · show (((w % 256 + 128) % 256 - 128) % 4294967296 : Int) = (((w + 128) % 256) - 128) % 4294967296
    omega
  · show (w % 256 % 256 : Int) = w % 256
    omega
  · show (((w % 65536 + 32768) % 65536 - 32768) % 4294967296 : Int) = (((w + 32768) % 65536) - 32768) % 4294967296
    omega
  · show (w % 65536 % 65536 : Int) = w % 65536
    omega
  · show (w % 4294967296 % 4294967296 : Int) = w % 4294967296
    omega
/-- What LoadWord tells. -/
def lwv (m : Mac) (kd a : Int) : Int := if mok m = true ∧ ks kd ≠ 0 then ldR m kd a else 0
theorem stM_ne {m : Mac} {kd a w : Int} (h : flt m.data.length m.stack.length kd a ≠ 0) : stM m kd a w = m := by
  unfold stM
  rw [if_pos h]
theorem swm_ne {m : Mac} {kd a w : Int} (h : swf m kd a ≠ 0) : swm m kd a w = m := by
  unfold swf at h
  unfold swm
  split
  · rename_i c
    rw [if_pos c] at h
    exact stM_ne h
  · rfl
theorem swm_same (m : Mac) (kd a w : Int) : (swm m kd a w).code = m.code ∧ (swm m kd a w).regs = m.regs ∧ (swm m kd a w).inp = m.inp ∧ (swm m kd a w).out = m.out ∧ (swm m kd a w).data.length = m.data.length ∧ (swm m kd a w).stack.length = m.stack.length ∧ mok (swm m kd a w) = mok m := by
  have key : ∀ d s : List Int, d.length = m.data.length → s.length = m.stack.length → mok { m with data := d, stack := s } = mok m := by
    intro d s h1 h2
    unfold mok
    dsimp only
    rw [h1, h2]
  unfold swm
  split
  · unfold stM
    split
    · exact ⟨rfl, rfl, rfl, rfl, rfl, rfl, rfl⟩
    · split
      · exact ⟨rfl, rfl, rfl, rfl, wr_len .., rfl, key _ _ (wr_len ..) rfl⟩
      · exact ⟨rfl, rfl, rfl, rfl, rfl, wr_len .., key _ _ rfl (wr_len ..)⟩
  · exact ⟨rfl, rfl, rfl, rfl, rfl, rfl, rfl⟩
theorem swf_same (m : Mac) (kd a w : Int) : swf (swm m kd a w) kd a = swf m kd a := by
  obtain ⟨_, _, _, _, h1, h2, h3⟩ := swm_same m kd a w
  unfold swf
  rw [h1, h2, h3]
theorem wrb_ {l : List Int} (h : Byt l) (p : Nat) (w : Int) : ∀ n, Byt (wr l p w n)
  | 0 => h
  | n + 1 => by
    intro x hx
    have hx : x ∈ (wr l p w n).set (p + n) (w / 256 ^ n % 256) := hx
    rcases List.mem_or_eq_of_mem_set hx with hx | rfl
    · exact wrb_ h p w n x hx
    · omega
theorem swm_b {m : Mac} (hb : B4 m) (hl : Len 200001 m) (kd a w : Int) : B4 (swm m kd a w) ∧ Len 200001 (swm m kd a w) := by
  obtain ⟨h1, h2, h3, h4, h5, h6, _⟩ := swm_same m kd a w
  refine ⟨?_, ?_⟩
  · obtain ⟨b1, b2, b3, b4⟩ := hb
    unfold swm
    split
    · unfold stM
      split
      · exact ⟨b1, b2, b3, b4⟩
      · split
        · exact ⟨wrb_ b1 _ _ _, b2, b3, b4⟩
        · exact ⟨b1, wrb_ b2 _ _ _, b3, b4⟩
    · exact ⟨b1, b2, b3, b4⟩
  · obtain ⟨l1, l2, l3, l4, l5, l6⟩ := hl
    exact ⟨by rw [h1]; exact l1, by rw [h2]; exact l2, by rw [h5]; exact l3, by rw [h6]; exact l4, by rw [h3]; exact l5, by rw [h4]; exact l6⟩
/-- what is stored is loaded -/
theorem lwv_swm {m : Mac} {kd a w : Int} (h : swf m kd a = 0) : lwv (swm m kd a w) kd a = (nar kd w).1 := by
  obtain ⟨_, _, _, _, h1, h2, h3⟩ := swm_same m kd a w
  unfold swf at h
  split at h
  case isFalse => cases h
  rename_i c
  have hn := ks_cases c.2
  unfold lwv
  rw [h3, if_pos c]
  unfold ldR mflt
  rw [h1, h2, h, if_pos rfl]
  unfold ldW
  rw [h1, h2]
  dsimp only
  rw [← nar_low kd w c.2]
  have e0 : swm m kd a w = if (spot m.data.length m.stack.length a (ks kd)).1 = 1 then { m with data := wr m.data (spot m.data.length m.stack.length a (ks kd)).2.toNat w (ks kd).toNat } else { m with stack := wr m.stack (spot m.data.length m.stack.length a (ks kd)).2.toNat w (ks kd).toNat } := by
    unfold swm
    rw [if_pos c]
    unfold stM
    rw [if_neg (by rw [h]; simp)]
  rw [e0]
  congr 2
  unfold flt at h
  split at h
  · cases h
  rcases spot_cases m.data.length m.stack.length a (ks kd) with ⟨e, q1, q2⟩ | ⟨e, q1, q2⟩ | e
  · rw [e]
    dsimp only
    rw [if_pos rfl, if_pos rfl]
    exact le_wr _ _ _ _ (by omega) (by omega) _ (Nat.le_refl _)
  · rw [e]
    dsimp only
    rw [if_neg (by decide), if_neg (by decide)]
    exact le_wr _ _ _ _ (by omega) (by omega) _ (Nat.le_refl _)
  · rw [e] at h
    cases h
set_option maxHeartbeats 4000000 in
theorem sLw_o {h0 h : Hp} {L : List Asn} {x : MH} {m : Mac} (HS : Sep h0 h (x.own m ++ L)) (b : Small x) (hb : B4 m) (kd a : Int) (a0 : -9223372036854775808 ≤ a) (a1 : a ≤ 9223372036854775807) :
    HC Try.prog 29 [x.v m, .int .i64 kd, .int .i64 a] h fun v h' => v = .tuple #[.int .i64 (lwv m kd a), .int .i64 (swf m kd a)] ∧ Sep h0 h' (x.own m ++ L) := by
  refine hc_of Try.func29 (rfl : Try.f29.body = some _) Try.ntmps29 Try.results29 Try.call29 rfl ?_; conv => whnf
  repeat' ((first | (with_reducible first | refine EvSeq.go ?_ | refine EvIf.tt ?_ | refine EvIf.ff ?_) | ((with_reducible refine Hole.mk (kK ?_)); clear kK) | ((with_reducible refine EvIf.mk (fun c => ?_) (fun c => ?_)) <;> (try simp only [cs_] at c) <;> (try (exfalso; first | omega | (revert c; decide)))) | ((with_reducible refine EvNew.sep HS ?_); intro bN hN HS1 hX; replace HS := HS1; clear HS1) | ((with_reducible refine EvIdx.lit ?_ ?_ ?_); (first | omega | decide); (first | omega | decide)) | ((with_reducible first | refine EvNe.mk ?_ ?_ | refine EvGe.mk ?_ ?_); (first | decide | omega)) | ((with_reducible refine EvLd.q HS (by repeat first | exact .h | apply Spot.t) ?_); (conv => whnf); intro hC) | (with_reducible refine EvLdN.q HS (by repeat first | exact .h | apply Spot.t) (fun hC => ?_)) | ((with_reducible refine EvSt.q HS (by repeat first | exact .h | apply Spot.t) ?_); (conv => whnf); intro hN HS1 hU; replace HS := HS1; clear HS1) | ((with_reducible refine EvKeep.cq (A := keepK _ _ (Hole _) _) HS (by repeat first | exact .h | apply Spot.t) ?_); (conv => whnf); (refine ⟨?_, ?_⟩); assumption; intro hC) | ((with_reducible refine EvKeep.nq (A := keepK _ _ (Hole _) _) HS (by repeat first | exact .h | apply Spot.t) ?_ ?_); assumption; intro hC) | ((fail_if_success with_reducible refine EvKeep.hole ?_); (with_reducible refine EvKeep.abs (fun X kK => ?_)))) <;> conv => whnf)
  refine EvCall.mk ((sMok_c HS.tail.rdm b).mono ?_)
  rintro _ hN ⟨rfl, hX⟩
  replace HS := HS.ext hX
  conv => whnf
  repeat' ((first | ((with_reducible refine EvCall.mk (HC.mono (sKs_c _ _) ?_)); (rintro _ _ ⟨rfl, rfl⟩)) | (with_reducible first | refine EvSeq.go ?_ | refine EvIf.tt ?_ | refine EvIf.ff ?_) | ((with_reducible refine Hole.mk (kK ?_)); clear kK) | ((with_reducible refine EvIf.mk (fun c => ?_) (fun c => ?_)) <;> (try simp only [cs_] at c) <;> (try (exfalso; first | omega | (revert c; decide)))) | ((with_reducible refine EvNew.sep HS ?_); intro bN hN HS1 hX; replace HS := HS1; clear HS1) | ((with_reducible refine EvIdx.lit ?_ ?_ ?_); (first | omega | decide); (first | omega | decide)) | ((with_reducible first | refine EvNe.mk ?_ ?_ | refine EvGe.mk ?_ ?_); (first | decide | omega)) | ((with_reducible refine EvLd.q HS (by repeat first | exact .h | apply Spot.t) ?_); (conv => whnf); intro hC) | (with_reducible refine EvLdN.q HS (by repeat first | exact .h | apply Spot.t) (fun hC => ?_)) | ((with_reducible refine EvSt.q HS (by repeat first | exact .h | apply Spot.t) ?_); (conv => whnf); intro hN HS1 hU; replace HS := HS1; clear HS1) | ((with_reducible refine EvKeep.cq (A := keepK _ _ (Hole _) _) HS (by repeat first | exact .h | apply Spot.t) ?_); (conv => whnf); (refine ⟨?_, ?_⟩); assumption; intro hC) | ((with_reducible refine EvKeep.nq (A := keepK _ _ (Hole _) _) HS (by repeat first | exact .h | apply Spot.t) ?_ ?_); assumption; intro hC) | ((fail_if_success with_reducible refine EvKeep.hole ?_); (with_reducible refine EvKeep.abs (fun X kK => ?_)))) <;> conv => whnf)
  · have e1 : lwv m kd a = 0 := by unfold lwv; rw [if_neg (by rw [c]; simp)]
    have e2 : swf m kd a = 4 := by unfold swf; rw [if_neg (by rw [c]; simp)]
    rw [e1, e2]
    exact ⟨rfl, HS.tail⟩
  · have e1 : lwv m kd a = 0 := by unfold lwv; rw [if_neg (fun e => e.2 c)]
    have e2 : swf m kd a = 4 := by unfold swf; rw [if_neg (fun e => e.2 c)]
    rw [e1, e2]
    exact ⟨rfl, HS.tail⟩
  · have hm : mok m = true := by assumption
    have ⟨z1, z2⟩ := mok_sizes hm
    have q := Sep.rdm (x := x) (m := m) HS.tail
    refine EvCall.mk ((l3Load_c (x := x) (m := m) HS kd a c (by rw [← q.dl]; exact z1) (by rw [← q.sl]; exact z2) hb.1 hb.2.1 a0 a1).mono ?_)
    rintro _ hN ⟨rfl, HS1⟩
    replace HS := HS1
    clear HS1
    conv => whnf
    repeat' ((first | (with_reducible first | refine EvSeq.go ?_ | refine EvIf.tt ?_ | refine EvIf.ff ?_) | ((with_reducible refine Hole.mk (kK ?_)); clear kK) | ((with_reducible refine EvIf.mk (fun c => ?_) (fun c => ?_)) <;> (try simp only [cs_] at c) <;> (try (exfalso; first | omega | (revert c; decide)))) | ((with_reducible refine EvNew.sep HS ?_); intro bN hN HS1 hX; replace HS := HS1; clear HS1) | ((with_reducible refine EvIdx.lit ?_ ?_ ?_); (first | omega | decide); (first | omega | decide)) | ((with_reducible first | refine EvNe.mk ?_ ?_ | refine EvGe.mk ?_ ?_); (first | decide | omega)) | ((with_reducible refine EvLd.q HS (by repeat first | exact .h | apply Spot.t) ?_); (conv => whnf); intro hC) | (with_reducible refine EvLdN.q HS (by repeat first | exact .h | apply Spot.t) (fun hC => ?_)) | ((with_reducible refine EvSt.q HS (by repeat first | exact .h | apply Spot.t) ?_); (conv => whnf); intro hN HS1 hU; replace HS := HS1; clear HS1) | ((with_reducible refine EvKeep.cq (A := keepK _ _ (Hole _) _) HS (by repeat first | exact .h | apply Spot.t) ?_); (conv => whnf); (refine ⟨?_, ?_⟩); assumption; intro hC) | ((with_reducible refine EvKeep.nq (A := keepK _ _ (Hole _) _) HS (by repeat first | exact .h | apply Spot.t) ?_ ?_); assumption; intro hC) | ((fail_if_success with_reducible refine EvKeep.hole ?_); (with_reducible refine EvKeep.abs (fun X kK => ?_)))) <;> conv => whnf)
    have e1 : lwv m kd a = ldR m kd a := by unfold lwv; rw [if_pos ⟨hm, c⟩]
    have e2 : swf m kd a = mflt m kd a := by unfold swf mflt; rw [if_pos ⟨hm, c⟩]
    rw [e1, e2]
    exact ⟨rfl, HS.tail⟩
set_option maxHeartbeats 4000000 in
theorem iLw_o {h0 h : Hp} {L : List Asn} {x : MH} {m : Mac} (HS : Sep h0 h (x.own m ++ L)) (b : Small x) (hb : B4 m) (kd a : Int) (a0 : -9223372036854775808 ≤ a) (a1 : a ≤ 9223372036854775807) :
    HC Try.prog 30 [x.v m, .int .i64 kd, .int .i64 a] h fun v h' => v = .tuple #[.int .i64 (lwv m kd a), .int .i64 (swf m kd a)] ∧ Sep h0 h' (x.own m ++ L) := by
  refine hc_of Try.func30 (rfl : Try.f30.body = some _) Try.ntmps30 Try.results30 Try.call30 rfl ?_; conv => whnf
  repeat' ((first | (with_reducible first | refine EvSeq.go ?_ | refine EvIf.tt ?_ | refine EvIf.ff ?_) | ((with_reducible refine Hole.mk (kK ?_)); clear kK) | ((with_reducible refine EvIf.mk (fun c => ?_) (fun c => ?_)) <;> (try simp only [cs_] at c) <;> (try (exfalso; first | omega | (revert c; decide)))) | ((with_reducible refine EvNew.sep HS ?_); intro bN hN HS1 hX; replace HS := HS1; clear HS1) | ((with_reducible refine EvIdx.lit ?_ ?_ ?_); (first | omega | decide); (first | omega | decide)) | ((with_reducible first | refine EvNe.mk ?_ ?_ | refine EvGe.mk ?_ ?_); (first | decide | omega)) | ((with_reducible refine EvLd.q HS (by repeat first | exact .h | apply Spot.t) ?_); (conv => whnf); intro hC) | (with_reducible refine EvLdN.q HS (by repeat first | exact .h | apply Spot.t) (fun hC => ?_)) | ((with_reducible refine EvSt.q HS (by repeat first | exact .h | apply Spot.t) ?_); (conv => whnf); intro hN HS1 hU; replace HS := HS1; clear HS1) | ((with_reducible refine EvKeep.cq (A := keepK _ _ (Hole _) _) HS (by repeat first | exact .h | apply Spot.t) ?_); (conv => whnf); (refine ⟨?_, ?_⟩); assumption; intro hC) | ((with_reducible refine EvKeep.nq (A := keepK _ _ (Hole _) _) HS (by repeat first | exact .h | apply Spot.t) ?_ ?_); assumption; intro hC) | ((fail_if_success with_reducible refine EvKeep.hole ?_); (with_reducible refine EvKeep.abs (fun X kK => ?_)))) <;> conv => whnf)
  refine EvCall.mk ((iMok_c HS.tail.rdm b).mono ?_)
  rintro _ hN ⟨rfl, hX⟩
  replace HS := HS.ext hX
  conv => whnf
  repeat' ((first | (with_reducible first | refine EvSeq.go ?_ | refine EvIf.tt ?_ | refine EvIf.ff ?_) | ((with_reducible refine Hole.mk (kK ?_)); clear kK) | ((with_reducible refine EvIf.mk (fun c => ?_) (fun c => ?_)) <;> (try simp only [cs_] at c) <;> (try (exfalso; first | omega | (revert c; decide)))) | ((with_reducible refine EvNew.sep HS ?_); intro bN hN HS1 hX; replace HS := HS1; clear HS1) | ((with_reducible refine EvIdx.lit ?_ ?_ ?_); (first | omega | decide); (first | omega | decide)) | ((with_reducible first | refine EvNe.mk ?_ ?_ | refine EvGe.mk ?_ ?_); (first | decide | omega)) | ((with_reducible refine EvLd.q HS (by repeat first | exact .h | apply Spot.t) ?_); (conv => whnf); intro hC) | (with_reducible refine EvLdN.q HS (by repeat first | exact .h | apply Spot.t) (fun hC => ?_)) | ((with_reducible refine EvSt.q HS (by repeat first | exact .h | apply Spot.t) ?_); (conv => whnf); intro hN HS1 hU; replace HS := HS1; clear HS1) | ((with_reducible refine EvKeep.cq (A := keepK _ _ (Hole _) _) HS (by repeat first | exact .h | apply Spot.t) ?_); (conv => whnf); (refine ⟨?_, ?_⟩); assumption; intro hC) | ((with_reducible refine EvKeep.nq (A := keepK _ _ (Hole _) _) HS (by repeat first | exact .h | apply Spot.t) ?_ ?_); assumption; intro hC) | ((fail_if_success with_reducible refine EvKeep.hole ?_); (with_reducible refine EvKeep.abs (fun X kK => ?_)))) <;> conv => whnf)
  · have e1 : lwv m kd a = 0 := by unfold lwv; rw [if_neg (by rw [c]; simp)]
    have e2 : swf m kd a = 4 := by unfold swf; rw [if_neg (by rw [c]; simp)]
    rw [e1, e2]
    exact ⟨rfl, HS.tail⟩
  · have hm : mok m = true := by assumption
    have ⟨z1, z2⟩ := mok_sizes hm
    have q := Sep.rdm (x := x) (m := m) HS.tail
    refine EvCall.mk ((load_c (x := x) (m := m) HS kd a (by rw [← q.dl]; exact z1) (by rw [← q.sl]; exact z2) hb.1 hb.2.1 a0 a1).mono ?_)
    rintro _ hN ⟨rfl, HS1⟩
    replace HS := HS1
    clear HS1
    conv => whnf
    repeat' ((first | (with_reducible first | refine EvSeq.go ?_ | refine EvIf.tt ?_ | refine EvIf.ff ?_) | ((with_reducible refine Hole.mk (kK ?_)); clear kK) | ((with_reducible refine EvIf.mk (fun c => ?_) (fun c => ?_)) <;> (try simp only [cs_] at c) <;> (try (exfalso; first | omega | (revert c; decide)))) | ((with_reducible refine EvNew.sep HS ?_); intro bN hN HS1 hX; replace HS := HS1; clear HS1) | ((with_reducible refine EvIdx.lit ?_ ?_ ?_); (first | omega | decide); (first | omega | decide)) | ((with_reducible first | refine EvNe.mk ?_ ?_ | refine EvGe.mk ?_ ?_); (first | decide | omega)) | ((with_reducible refine EvLd.q HS (by repeat first | exact .h | apply Spot.t) ?_); (conv => whnf); intro hC) | (with_reducible refine EvLdN.q HS (by repeat first | exact .h | apply Spot.t) (fun hC => ?_)) | ((with_reducible refine EvSt.q HS (by repeat first | exact .h | apply Spot.t) ?_); (conv => whnf); intro hN HS1 hU; replace HS := HS1; clear HS1) | ((with_reducible refine EvKeep.cq (A := keepK _ _ (Hole _) _) HS (by repeat first | exact .h | apply Spot.t) ?_); (conv => whnf); (refine ⟨?_, ?_⟩); assumption; intro hC) | ((with_reducible refine EvKeep.nq (A := keepK _ _ (Hole _) _) HS (by repeat first | exact .h | apply Spot.t) ?_ ?_); assumption; intro hC) | ((fail_if_success with_reducible refine EvKeep.hole ?_); (with_reducible refine EvKeep.abs (fun X kK => ?_)))) <;> conv => whnf)
    have e1 : lwv m kd a = if ks kd = 0 then 0 else ldR m kd a := by unfold lwv; by_cases hk : ks kd = 0 <;> simp [hm, hk]
    have e2 : swf m kd a = fltI m.data.length m.stack.length kd a := by unfold swf fltI; by_cases hk : ks kd = 0 <;> simp [hm, hk]
    rw [e1, e2]
    exact ⟨rfl, HS.tail⟩
end Go.Proofs.Ythndggachjdkfaa
