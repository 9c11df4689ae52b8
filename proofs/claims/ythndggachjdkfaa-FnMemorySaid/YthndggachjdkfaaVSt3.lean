/- Walks: bytes stored, by the program. -/
import Derived.Test.YthndggachjdkfaaVSt2
namespace Go.Proofs.Ythndggachjdkfaa
open Go.RowKit
set_option maxRecDepth 20000
set_option linter.unusedSimpArgs false
set_option linter.unusedVariables false
theorem iKs_j {h0 h : Hp} {L : List Asn} (HS : Sep h0 h L) (k n : Int) (hn : ks k = n) : HC Try.prog 138 [.int .i64 k] h fun v h' => v = .int .i64 n ∧ Sep h0 h' L := (iKs_c k h).mono fun v h' e => ⟨hn ▸ e.1, HS.ext e.2⟩
/-- the fault of an address -/
def fltI (d s : Nat) (kd a : Int) : Int := if ks kd = 0 then 4 else flt d s kd a
set_option maxHeartbeats 4000000 in
theorem place_no {h0 h : Hp} {L : List Asn} {x : MH} {m : Mac} {b : Nat} (HS : Sep h0 h (Bx b (x.cs m) 36 :: L)) (kd a : Int) (hd : x.d.n ≤ 65536) (hs : x.s.n ≤ 65536) (a0 : -9223372036854775808 ≤ a) (a1 : a ≤ 9223372036854775807) (hf : fltI x.d.n x.s.n kd a ≠ 0) :
    HC Try.prog 113 [.pointer (some ⟨b, 0, none⟩), .int .i64 kd, .int .i64 a] h fun v h' => v = .tuple #[.slice none 0 0, .int .i64 (fltI x.d.n x.s.n kd a)] ∧ Sep h0 h' (Bx b (x.cs m) 36 :: L) := by
  by_cases hk : ks kd = 0
  · refine hc_of Try.func113 (rfl : Try.f113.body = some _) Try.ntmps113 Try.results113 Try.call113 rfl ?_; conv => whnf
    repeat' ((first | ((with_reducible refine EvCall.mk (HC.mono (iKs_j HS kd 0 hk) ?_)); (rintro _ hN ⟨rfl, HS1⟩); replace HS := HS1; clear HS1) | (with_reducible first | refine EvSeq.go ?_ | refine EvIf.tt ?_ | refine EvIf.ff ?_) | ((with_reducible refine Hole.mk (kK ?_)); clear kK) | ((with_reducible refine EvIf.mk (fun c => ?_) (fun c => ?_)) <;> (try simp only [cs_] at c) <;> (try (exfalso; first | omega | (revert c; decide)))) | ((with_reducible refine EvNew.sep HS ?_); intro bN hN HS1 hX; replace HS := HS1; clear HS1) | ((with_reducible refine EvIdx.lit ?_ ?_ ?_); (first | omega | decide); (first | omega | decide)) | ((with_reducible first | refine EvNe.mk ?_ ?_ | refine EvGe.mk ?_ ?_); (first | decide | omega)) | ((with_reducible refine EvLd.q HS (by repeat first | exact .h | apply Spot.t) ?_); (conv => whnf); intro hC) | (with_reducible refine EvLdN.q HS (by repeat first | exact .h | apply Spot.t) (fun hC => ?_)) | ((with_reducible refine EvSt.q HS (by repeat first | exact .h | apply Spot.t) ?_); (conv => whnf); intro hN HS1 hU; replace HS := HS1; clear HS1) | ((with_reducible refine EvKeep.cq (A := keepK _ _ (Hole _) _) HS (by repeat first | exact .h | apply Spot.t) ?_); (conv => whnf); (refine ⟨?_, ?_⟩); assumption; intro hC) | ((with_reducible refine EvKeep.nq (A := keepK _ _ (Hole _) _) HS (by repeat first | exact .h | apply Spot.t) ?_ ?_); assumption; intro hC) | ((fail_if_success with_reducible refine EvKeep.hole ?_); (with_reducible refine EvKeep.abs (fun X kK => ?_)))) <;> conv => whnf)
    have : fltI x.d.n x.s.n kd a = 4 := by unfold fltI; rw [if_pos hk]
    rw [this]
    exact ⟨rfl, HS⟩
  · have hn := ks_cases hk
    have ht := tmodk (a := a) hn
    have e2 : IntKind.i64.wrap (IntKind.i64.wrap (1048576 + (x.d.n : Int)) - ks kd) = 1048576 + (x.d.n : Int) - ks kd := by rw [i64w (1048576 + (x.d.n : Int)) (by omega) (by omega), i64w _ (by omega) (by omega)]
    have e3 : IntKind.i64.wrap (2097152 - (x.s.n : Int)) = 2097152 - (x.s.n : Int) := i64w _ (by omega) (by omega)
    have e4 : IntKind.i64.wrap (2097152 - ks kd) = 2097152 - ks kd := i64w _ (by omega) (by omega)
    have hsp : a % ks kd ≠ 0 ∨ (¬(1048576 ≤ a ∧ a ≤ 1048576 + x.d.n - ks kd) ∧ ¬(2097152 - x.s.n ≤ a ∧ a ≤ 2097152 - ks kd)) := by unfold fltI flt spot at hf; grind
    refine hc_of Try.func113 (rfl : Try.f113.body = some _) Try.ntmps113 Try.results113 Try.call113 rfl ?_; conv => whnf
    repeat' ((first | ((with_reducible refine EvCall.mk (HC.mono (iKs_j HS kd _ rfl) ?_)); (rintro _ hN ⟨rfl, HS1⟩); replace HS := HS1; clear HS1) | ((with_reducible refine EvNe.mk ?_ ?_); omega) | (with_reducible first | refine EvSeq.go ?_ | refine EvIf.tt ?_ | refine EvIf.ff ?_) | ((with_reducible refine Hole.mk (kK ?_)); clear kK) | ((with_reducible refine EvIf.mk (fun c => ?_) (fun c => ?_)) <;> (try simp only [cs_] at c) <;> (try (exfalso; first | omega | (revert c; decide)))) | ((with_reducible refine EvNew.sep HS ?_); intro bN hN HS1 hX; replace HS := HS1; clear HS1) | ((with_reducible refine EvIdx.lit ?_ ?_ ?_); (first | omega | decide); (first | omega | decide)) | ((with_reducible first | refine EvNe.mk ?_ ?_ | refine EvGe.mk ?_ ?_); (first | decide | omega)) | ((with_reducible refine EvLd.q HS (by repeat first | exact .h | apply Spot.t) ?_); (conv => whnf); intro hC) | (with_reducible refine EvLdN.q HS (by repeat first | exact .h | apply Spot.t) (fun hC => ?_)) | ((with_reducible refine EvSt.q HS (by repeat first | exact .h | apply Spot.t) ?_); (conv => whnf); intro hN HS1 hU; replace HS := HS1; clear HS1) | ((with_reducible refine EvKeep.cq (A := keepK _ _ (Hole _) _) HS (by repeat first | exact .h | apply Spot.t) ?_); (conv => whnf); (refine ⟨?_, ?_⟩); assumption; intro hC) | ((with_reducible refine EvKeep.nq (A := keepK _ _ (Hole _) _) HS (by repeat first | exact .h | apply Spot.t) ?_ ?_); assumption; intro hC) | ((fail_if_success with_reducible refine EvKeep.hole ?_); (with_reducible refine EvKeep.abs (fun X kK => ?_)))) <;> conv => whnf)
    all_goals
      refine ⟨?_, HS⟩
      show Value.tuple #[_, .int _ _] = Value.tuple #[_, .int _ _]
      clear HS
      unfold fltI flt spot
      grind
set_option maxHeartbeats 4000000 in
theorem place_d {h0 h : Hp} {L : List Asn} {x : MH} {m : Mac} {b : Nat} (HS : Sep h0 h (Bx b (x.cs m) 36 :: (x.own m ++ L))) (kd a : Int) (hd : x.d.n ≤ 65536) (hs : x.s.n ≤ 65536) (hk : ks kd ≠ 0) (hz : a % ks kd = 0) (q1 : 1048576 ≤ a) (q2 : a ≤ 1048576 + x.d.n - ks kd) :
    HC Try.prog 113 [.pointer (some ⟨b, 0, none⟩), .int .i64 kd, .int .i64 a] h fun v h' => (∃ b' o c', x.d.a = some ⟨b', o, none⟩ ∧ v = .tuple #[.slice (some ⟨b', o + (a - 1048576).toNat, none⟩) (ks kd).toNat c', .int .i64 0]) ∧ Sep h0 h' (Bx b (x.cs m) 36 :: (x.own m ++ L)) := by
  have hn := ks_cases hk
  have ht := tmodk (a := a) hn
  have e2 : IntKind.i64.wrap (IntKind.i64.wrap (1048576 + (x.d.n : Int)) - ks kd) = 1048576 + (x.d.n : Int) - ks kd := by rw [i64w (1048576 + (x.d.n : Int)) (by omega) (by omega), i64w _ (by omega) (by omega)]
  have e5 : IntKind.i64.wrap (2097152 - (x.s.n : Int)) = 2097152 - (x.s.n : Int) := i64w _ (by omega) (by omega)
  have e6 : IntKind.i64.wrap (2097152 - ks kd) = 2097152 - ks kd := i64w _ (by omega) (by omega)
  have e3 : IntKind.i64.wrap (a - 1048576) = (a - 1048576) := by exact i64w _ (by omega) (by omega)
  have e4 : IntKind.i64.wrap (IntKind.i64.wrap (a - 1048576) + ks kd) = (a - 1048576) + ks kd := by rw [e3, i64w _ (by omega) (by omega)]
  have hlc := (HS.len 4 rfl).2
  have hrd := HS.rd 4 rfl
  have hll := (HS.len 4 rfl).1
  refine hc_of Try.func113 (rfl : Try.f113.body = some _) Try.ntmps113 Try.results113 Try.call113 rfl ?_; conv => whnf
  repeat' ((first | ((with_reducible refine EvCall.mk (HC.mono (iKs_j HS kd _ rfl) ?_)); (rintro _ hN ⟨rfl, HS1⟩); replace HS := HS1; clear HS1) | ((with_reducible refine EvNe.mk ?_ ?_); omega) | (with_reducible first | refine EvSeq.go ?_ | refine EvIf.tt ?_ | refine EvIf.ff ?_) | ((with_reducible refine Hole.mk (kK ?_)); clear kK) | ((with_reducible refine EvIf.mk (fun c => ?_) (fun c => ?_)) <;> (try simp only [cs_] at c) <;> (try (exfalso; first | omega | (revert c; decide)))) | ((with_reducible refine EvNew.sep HS ?_); intro bN hN HS1 hX; replace HS := HS1; clear HS1) | ((with_reducible refine EvIdx.lit ?_ ?_ ?_); (first | omega | decide); (first | omega | decide)) | ((with_reducible first | refine EvNe.mk ?_ ?_ | refine EvGe.mk ?_ ?_); (first | decide | omega)) | ((with_reducible refine EvLd.q HS (by repeat first | exact .h | apply Spot.t) ?_); (conv => whnf); intro hC) | (with_reducible refine EvLdN.q HS (by repeat first | exact .h | apply Spot.t) (fun hC => ?_)) | ((with_reducible refine EvSt.q HS (by repeat first | exact .h | apply Spot.t) ?_); (conv => whnf); intro hN HS1 hU; replace HS := HS1; clear HS1) | ((with_reducible refine EvKeep.cq (A := keepK _ _ (Hole _) _) HS (by repeat first | exact .h | apply Spot.t) ?_); (conv => whnf); (refine ⟨?_, ?_⟩); assumption; intro hC) | ((with_reducible refine EvKeep.nq (A := keepK _ _ (Hole _) _) HS (by repeat first | exact .h | apply Spot.t) ?_ ?_); assumption; intro hC) | ((fail_if_success with_reducible refine EvKeep.hole ?_); (with_reducible refine EvKeep.abs (fun X kK => ?_)))) <;> conv => whnf)
  refine EvCut.mk (by omega) (by omega) (by omega) (by omega) ?_
  conv => whnf
  obtain ⟨b', o, e, _⟩ := hrd (a - 1048576).toNat _ (List.getElem?_eq_getElem (by omega))
  refine ⟨⟨b', o, x.d.c - (a - 1048576).toNat, e, ?_⟩, HS⟩
  rw [e4, e3, if_neg (by omega), e]
  simp only [Option.map_some, Addr.add_lit, Nat.mul_one, Int.toNat_natCast]
  rw [show ((a - 1048576) + ks kd).toNat - (a - 1048576).toNat = (ks kd).toNat by omega]
set_option maxHeartbeats 4000000 in
theorem place_s {h0 h : Hp} {L : List Asn} {x : MH} {m : Mac} {b : Nat} (HS : Sep h0 h (Bx b (x.cs m) 36 :: (x.own m ++ L))) (kd a : Int) (hd : x.d.n ≤ 65536) (hs : x.s.n ≤ 65536) (hk : ks kd ≠ 0) (hz : a % ks kd = 0) (q0 : ¬(1048576 ≤ a ∧ a ≤ 1048576 + x.d.n - ks kd)) (q1 : 2097152 - x.s.n ≤ a) (q2 : a ≤ 2097152 - ks kd) :
    HC Try.prog 113 [.pointer (some ⟨b, 0, none⟩), .int .i64 kd, .int .i64 a] h fun v h' => (∃ b' o c', x.s.a = some ⟨b', o, none⟩ ∧ v = .tuple #[.slice (some ⟨b', o + (a - (2097152 - (x.s.n : Int))).toNat, none⟩) (ks kd).toNat c', .int .i64 0]) ∧ Sep h0 h' (Bx b (x.cs m) 36 :: (x.own m ++ L)) := by
  have hn := ks_cases hk
  have ht := tmodk (a := a) hn
  have e2 : IntKind.i64.wrap (IntKind.i64.wrap (1048576 + (x.d.n : Int)) - ks kd) = 1048576 + (x.d.n : Int) - ks kd := by rw [i64w (1048576 + (x.d.n : Int)) (by omega) (by omega), i64w _ (by omega) (by omega)]
  have e5 : IntKind.i64.wrap (2097152 - (x.s.n : Int)) = 2097152 - (x.s.n : Int) := i64w _ (by omega) (by omega)
  have e6 : IntKind.i64.wrap (2097152 - ks kd) = 2097152 - ks kd := i64w _ (by omega) (by omega)
  have e3 : IntKind.i64.wrap (a - IntKind.i64.wrap (2097152 - (x.s.n : Int))) = (a - (2097152 - (x.s.n : Int))) := by rw [e5]; exact i64w _ (by omega) (by omega)
  have e4 : IntKind.i64.wrap (IntKind.i64.wrap (a - IntKind.i64.wrap (2097152 - (x.s.n : Int))) + ks kd) = (a - (2097152 - (x.s.n : Int))) + ks kd := by rw [e3, i64w _ (by omega) (by omega)]
  have hlc := (HS.len 3 rfl).2
  have hrd := HS.rd 3 rfl
  have hll := (HS.len 3 rfl).1
  refine hc_of Try.func113 (rfl : Try.f113.body = some _) Try.ntmps113 Try.results113 Try.call113 rfl ?_; conv => whnf
  repeat' ((first | ((with_reducible refine EvCall.mk (HC.mono (iKs_j HS kd _ rfl) ?_)); (rintro _ hN ⟨rfl, HS1⟩); replace HS := HS1; clear HS1) | ((with_reducible refine EvNe.mk ?_ ?_); omega) | (with_reducible first | refine EvSeq.go ?_ | refine EvIf.tt ?_ | refine EvIf.ff ?_) | ((with_reducible refine Hole.mk (kK ?_)); clear kK) | ((with_reducible refine EvIf.mk (fun c => ?_) (fun c => ?_)) <;> (try simp only [cs_] at c) <;> (try (exfalso; first | omega | (revert c; decide)))) | ((with_reducible refine EvNew.sep HS ?_); intro bN hN HS1 hX; replace HS := HS1; clear HS1) | ((with_reducible refine EvIdx.lit ?_ ?_ ?_); (first | omega | decide); (first | omega | decide)) | ((with_reducible first | refine EvNe.mk ?_ ?_ | refine EvGe.mk ?_ ?_); (first | decide | omega)) | ((with_reducible refine EvLd.q HS (by repeat first | exact .h | apply Spot.t) ?_); (conv => whnf); intro hC) | (with_reducible refine EvLdN.q HS (by repeat first | exact .h | apply Spot.t) (fun hC => ?_)) | ((with_reducible refine EvSt.q HS (by repeat first | exact .h | apply Spot.t) ?_); (conv => whnf); intro hN HS1 hU; replace HS := HS1; clear HS1) | ((with_reducible refine EvKeep.cq (A := keepK _ _ (Hole _) _) HS (by repeat first | exact .h | apply Spot.t) ?_); (conv => whnf); (refine ⟨?_, ?_⟩); assumption; intro hC) | ((with_reducible refine EvKeep.nq (A := keepK _ _ (Hole _) _) HS (by repeat first | exact .h | apply Spot.t) ?_ ?_); assumption; intro hC) | ((fail_if_success with_reducible refine EvKeep.hole ?_); (with_reducible refine EvKeep.abs (fun X kK => ?_)))) <;> conv => whnf)
  refine EvCut.mk (by omega) (by omega) (by omega) (by omega) ?_
  conv => whnf
  obtain ⟨b', o, e, _⟩ := hrd (a - (2097152 - (x.s.n : Int))).toNat _ (List.getElem?_eq_getElem (by omega))
  refine ⟨⟨b', o, x.s.c - (a - (2097152 - (x.s.n : Int))).toNat, e, ?_⟩, HS⟩
  rw [e4, e3, if_neg (by omega), e]
  simp only [Option.map_some, Addr.add_lit, Nat.mul_one, Int.toNat_natCast]
  rw [show ((a - (2097152 - (x.s.n : Int))) + ks kd).toNat - (a - (2097152 - (x.s.n : Int))).toNat = (ks kd).toNat by omega]
def stI (m : Mac) (kd a w : Int) : Mac := if ks kd = 0 then m else stM m kd a w
theorem place_nov {h0 h : Hp} {L : List Asn} {x : MH} {m : Mac} {b : Nat} (HS : Sep h0 h (Bx b (x.cs m) 36 :: L)) (kd a f : Int) (hd : x.d.n ≤ 65536) (hs : x.s.n ≤ 65536) (a0 : -9223372036854775808 ≤ a) (a1 : a ≤ 9223372036854775807) (hf : fltI x.d.n x.s.n kd a = f) (hne : f ≠ 0) :
    HC Try.prog 113 [.pointer (some ⟨b, 0, none⟩), .int .i64 kd, .int .i64 a] h fun v h' => v = .tuple #[.slice none 0 0, .int .i64 f] ∧ Sep h0 h' (Bx b (x.cs m) 36 :: L) := by
  subst hf
  exact place_no HS kd a hd hs a0 a1 hne
theorem wr_next2 (l : List Int) (p i : Nat) (w v : Int) (k : Nat) (hi : i = p + k) (hv : v = w / 256 ^ k % 256) : (ints .u8 (wr l p w k)).set i (.int .u8 v) = ints .u8 (wr l p w (k + 1)) := by
  subst hi hv
  simp only [wr, ints, List.map_set]
theorem shbyte (w : Int) (k : Nat) (hk : k < 4) : IntKind.u8.wrap (w / 2 ^ min (IntKind.i64.wrap (8 * (k : Int))).toNat IntKind.i64.bits) = w / 256 ^ k % 256 := by
  rw [wrap_u8]
  obtain rfl | rfl | rfl | rfl : k = 0 ∨ k = 1 ∨ k = 2 ∨ k = 3 := by omega
  all_goals rfl
set_option maxHeartbeats 4000000 in
theorem store_c {h0 h : Hp} {L : List Asn} {x : MH} {m : Mac} {b : Nat} (HS : Sep h0 h (Bx b (x.cs m) 36 :: (x.own m ++ L))) (kd a w : Int) (hd : x.d.n ≤ 65536) (hs : x.s.n ≤ 65536) (a0 : -9223372036854775808 ≤ a) (a1 : a ≤ 9223372036854775807) :
    HC Try.prog 69 [.pointer (some ⟨b, 0, none⟩), .int .i64 kd, .int .i64 a, .int .i64 w] h fun v h' => v = .int .i64 (fltI m.data.length m.stack.length kd a) ∧ Sep h0 h' (Bx b (x.cs m) 36 :: (x.own (stI m kd a w) ++ L)) := by
  have r := HS.tail.rdm
  have hdl := r.dl
  have hsl := r.sl
  by_cases hf : fltI x.d.n x.s.n kd a = 0
  · have hk : ks kd ≠ 0 := by unfold fltI at hf; intro e; rw [if_pos e] at hf; cases hf
    have hn := ks_cases hk
    have hf' := hf
    unfold fltI flt at hf'
    rw [if_neg hk] at hf'
    have hz : a % ks kd = 0 := by false_or_by_contra; rename_i hc; rw [if_pos hc] at hf'; cases hf'
    rw [if_neg (fun e => e hz)] at hf'
    have hst : stI m kd a w = stM m kd a w := by unfold stI; rw [if_neg hk]
    rw [← hdl, ← hsl] at hf
    by_cases q : 1048576 ≤ a ∧ a ≤ 1048576 + x.d.n - ks kd
    · have hq : spot x.d.n x.s.n a (ks kd) = (1, a - 1048576) := by unfold spot; rw [if_pos q]
      have hfl : flt m.data.length m.stack.length kd a = 0 := by rw [hdl, hsl]; unfold flt; rw [if_neg (fun e => e hz), hq]; rfl
      obtain ⟨q1, q2⟩ := q
      refine hc_of Try.func69 (rfl : Try.f69.body = some _) Try.ntmps69 Try.results69 Try.call69 rfl ?_; conv => whnf
      repeat' ((first | (with_reducible first | refine EvSeq.go ?_ | refine EvIf.tt ?_ | refine EvIf.ff ?_) | ((with_reducible refine Hole.mk (kK ?_)); clear kK) | ((with_reducible refine EvIf.mk (fun c => ?_) (fun c => ?_)) <;> (try simp only [cs_] at c) <;> (try (exfalso; first | omega | (revert c; decide)))) | ((with_reducible refine EvNew.sep HS ?_); intro bN hN HS1 hX; replace HS := HS1; clear HS1) | ((with_reducible refine EvIdx.lit ?_ ?_ ?_); (first | omega | decide); (first | omega | decide)) | ((with_reducible first | refine EvNe.mk ?_ ?_ | refine EvGe.mk ?_ ?_); (first | decide | omega)) | ((with_reducible refine EvLd.q HS (by repeat first | exact .h | apply Spot.t) ?_); (conv => whnf); intro hC) | (with_reducible refine EvLdN.q HS (by repeat first | exact .h | apply Spot.t) (fun hC => ?_)) | ((with_reducible refine EvSt.q HS (by repeat first | exact .h | apply Spot.t) ?_); (conv => whnf); intro hN HS1 hU; replace HS := HS1; clear HS1) | ((with_reducible refine EvKeep.cq (A := keepK _ _ (Hole _) _) HS (by repeat first | exact .h | apply Spot.t) ?_); (conv => whnf); (refine ⟨?_, ?_⟩); assumption; intro hC) | ((with_reducible refine EvKeep.nq (A := keepK _ _ (Hole _) _) HS (by repeat first | exact .h | apply Spot.t) ?_ ?_); assumption; intro hC) | ((fail_if_success with_reducible refine EvKeep.hole ?_); (with_reducible refine EvKeep.abs (fun X kK => ?_)))) <;> conv => whnf)
      refine EvCall.mk ((place_d HS kd a hd hs hk hz q1 q2).mono ?_)
      rintro _ hN ⟨⟨b', o, c', eA, rfl⟩, HS1⟩
      replace HS := HS1
      clear HS1
      conv => whnf
      repeat' ((first | (with_reducible first | refine EvSeq.go ?_ | refine EvIf.tt ?_ | refine EvIf.ff ?_) | ((with_reducible refine Hole.mk (kK ?_)); clear kK) | ((with_reducible refine EvIf.mk (fun c => ?_) (fun c => ?_)) <;> (try simp only [cs_] at c) <;> (try (exfalso; first | omega | (revert c; decide)))) | ((with_reducible refine EvNew.sep HS ?_); intro bN hN HS1 hX; replace HS := HS1; clear HS1) | ((with_reducible refine EvIdx.lit ?_ ?_ ?_); (first | omega | decide); (first | omega | decide)) | ((with_reducible first | refine EvNe.mk ?_ ?_ | refine EvGe.mk ?_ ?_); (first | decide | omega)) | ((with_reducible refine EvLd.q HS (by repeat first | exact .h | apply Spot.t) ?_); (conv => whnf); intro hC) | (with_reducible refine EvLdN.q HS (by repeat first | exact .h | apply Spot.t) (fun hC => ?_)) | ((with_reducible refine EvSt.q HS (by repeat first | exact .h | apply Spot.t) ?_); (conv => whnf); intro hN HS1 hU; replace HS := HS1; clear HS1) | ((with_reducible refine EvKeep.cq (A := keepK _ _ (Hole _) _) HS (by repeat first | exact .h | apply Spot.t) ?_); (conv => whnf); (refine ⟨?_, ?_⟩); assumption; intro hC) | ((with_reducible refine EvKeep.nq (A := keepK _ _ (Hole _) _) HS (by repeat first | exact .h | apply Spot.t) ?_ ?_); assumption; intro hC) | ((fail_if_success with_reducible refine EvKeep.hole ?_); (with_reducible refine EvKeep.abs (fun X kK => ?_)))) <;> conv => whnf)
      refine EvLoop.keep ([11, 21, 22, 23, 24, 25, 26, 27, 28, 29, 30, 31, 32], 12) (α := Nat) (fun k => [(21, .int .i64 k), (20, .int .i64 ((ks kd).toNat : Int))]) (fun k h' => (k : Int) ≤ ks kd ∧ Sep h0 h' (Bx b (x.cs m) 36 :: (x.own { m with data := wr m.data (a - 1048576).toNat w k } ++ L))) (fun k => (ks kd - k).toNat) 0 (by (repeat' (first | exact trivial | refine ⟨rfl, ?_⟩))) ⟨by omega, HS⟩ ?_
      clear HS r
      rintro k _ ⟨hk4, HS⟩
      conv => whnf
      have e8 : IntKind.i64.wrap (8 * (k : Int)) = 8 * k := i64w _ (by omega) (by omega)
      repeat' ((first | (with_reducible first | refine EvSeq.go ?_ | refine EvIf.tt ?_ | refine EvIf.ff ?_) | ((with_reducible refine Hole.mk (kK ?_)); clear kK) | ((with_reducible refine EvIf.mk (fun c => ?_) (fun c => ?_)) <;> (try simp only [cs_] at c) <;> (try (exfalso; first | omega | (revert c; decide)))) | ((with_reducible refine EvNew.sep HS ?_); intro bN hN HS1 hX; replace HS := HS1; clear HS1) | ((with_reducible refine EvIdx.lit ?_ ?_ ?_); (first | omega | decide); (first | omega | decide)) | ((with_reducible first | refine EvNe.mk ?_ ?_ | refine EvGe.mk ?_ ?_); (first | decide | omega)) | ((with_reducible refine EvLd.q HS (by repeat first | exact .h | apply Spot.t) ?_); (conv => whnf); intro hC) | (with_reducible refine EvLdN.q HS (by repeat first | exact .h | apply Spot.t) (fun hC => ?_)) | ((with_reducible refine EvSt.q HS (by repeat first | exact .h | apply Spot.t) ?_); (conv => whnf); intro hN HS1 hU; replace HS := HS1; clear HS1) | ((with_reducible refine EvKeep.cq (A := keepK _ _ (Hole _) _) HS (by repeat first | exact .h | apply Spot.t) ?_); (conv => whnf); (refine ⟨?_, ?_⟩); assumption; intro hC) | ((with_reducible refine EvKeep.nq (A := keepK _ _ (Hole _) _) HS (by repeat first | exact .h | apply Spot.t) ?_ ?_); assumption; intro hC) | ((fail_if_success with_reducible refine EvKeep.hole ?_); (with_reducible refine EvKeep.abs (fun X kK => ?_)))) <;> conv => whnf)
      · rw [Nat.add_assoc]
        refine EvSt.sli HS 4 rfl eA (by omega) ?_
        intro h' HS
        conv => whnf
        repeat' ((first | (with_reducible first | refine EvSeq.go ?_ | refine EvIf.tt ?_ | refine EvIf.ff ?_) | ((with_reducible refine Hole.mk (kK ?_)); clear kK) | ((with_reducible refine EvIf.mk (fun c => ?_) (fun c => ?_)) <;> (try simp only [cs_] at c) <;> (try (exfalso; first | omega | (revert c; decide)))) | ((with_reducible refine EvNew.sep HS ?_); intro bN hN HS1 hX; replace HS := HS1; clear HS1) | ((with_reducible refine EvIdx.lit ?_ ?_ ?_); (first | omega | decide); (first | omega | decide)) | ((with_reducible first | refine EvNe.mk ?_ ?_ | refine EvGe.mk ?_ ?_); (first | decide | omega)) | ((with_reducible refine EvLd.q HS (by repeat first | exact .h | apply Spot.t) ?_); (conv => whnf); intro hC) | (with_reducible refine EvLdN.q HS (by repeat first | exact .h | apply Spot.t) (fun hC => ?_)) | ((with_reducible refine EvSt.q HS (by repeat first | exact .h | apply Spot.t) ?_); (conv => whnf); intro hN HS1 hU; replace HS := HS1; clear HS1) | ((with_reducible refine EvKeep.cq (A := keepK _ _ (Hole _) _) HS (by repeat first | exact .h | apply Spot.t) ?_); (conv => whnf); (refine ⟨?_, ?_⟩); assumption; intro hC) | ((with_reducible refine EvKeep.nq (A := keepK _ _ (Hole _) _) HS (by repeat first | exact .h | apply Spot.t) ?_ ?_); assumption; intro hC) | ((fail_if_success with_reducible refine EvKeep.hole ?_); (with_reducible refine EvKeep.abs (fun X kK => ?_)))) <;> conv => whnf)
        refine ⟨k + 1, ⟨congrArg (fun z => some (Value.int .i64 z)) ((i64w _ (by omega) (by omega)).trans (by omega)), rfl, (by (repeat' (first | exact trivial | refine ⟨rfl, ?_⟩)))⟩, ⟨by omega, ?_⟩, by omega⟩
        have hl := wr_next2 m.data (a - 1048576).toNat ((a - 1048576).toNat + (k : Int).toNat * 1) w _ k (by omega) (shbyte w k (by omega))
        exact Eq.mp (congrArg (fun z => Sep h0 h' (Bx b (x.cs m) 36 :: ([SlB x.o m.out, SlB x.i m.inp, SlB x.s m.stack, Sl 5 x.d.a x.d.n x.d.c z, SlI x.r m.regs, SlI x.c m.code] ++ L))) hl) HS
      · have hkk : (ks kd).toNat = k := by omega
        refine ⟨congrArg (Value.int .i64) hf.symm, ?_⟩
        rw [hst]
        have e : stM m kd a w = { m with data := wr m.data (a - 1048576).toNat w k } := by
          unfold stM
          rw [hfl, if_neg (by decide), hdl, hsl, hq, if_pos rfl, hkk]
        rw [e]
        exact HS
    · have q0 := q
      have ⟨hq, q1, q2⟩ : spot x.d.n x.s.n a (ks kd) = (2, a - (2097152 - x.s.n)) ∧ 2097152 - x.s.n ≤ a ∧ a ≤ 2097152 - ks kd := by
        unfold spot at hf' ⊢
        rw [if_neg q] at hf' ⊢
        by_cases q3 : 2097152 - (x.s.n : Int) ≤ a ∧ a ≤ 2097152 - ks kd
        · exact ⟨if_pos q3, q3.1, q3.2⟩
        · rw [if_neg q3] at hf'; cases hf'
      have hfl : flt m.data.length m.stack.length kd a = 0 := by rw [hdl, hsl]; unfold flt; rw [if_neg (fun e => e hz), hq]; rfl
      refine hc_of Try.func69 (rfl : Try.f69.body = some _) Try.ntmps69 Try.results69 Try.call69 rfl ?_; conv => whnf
      repeat' ((first | (with_reducible first | refine EvSeq.go ?_ | refine EvIf.tt ?_ | refine EvIf.ff ?_) | ((with_reducible refine Hole.mk (kK ?_)); clear kK) | ((with_reducible refine EvIf.mk (fun c => ?_) (fun c => ?_)) <;> (try simp only [cs_] at c) <;> (try (exfalso; first | omega | (revert c; decide)))) | ((with_reducible refine EvNew.sep HS ?_); intro bN hN HS1 hX; replace HS := HS1; clear HS1) | ((with_reducible refine EvIdx.lit ?_ ?_ ?_); (first | omega | decide); (first | omega | decide)) | ((with_reducible first | refine EvNe.mk ?_ ?_ | refine EvGe.mk ?_ ?_); (first | decide | omega)) | ((with_reducible refine EvLd.q HS (by repeat first | exact .h | apply Spot.t) ?_); (conv => whnf); intro hC) | (with_reducible refine EvLdN.q HS (by repeat first | exact .h | apply Spot.t) (fun hC => ?_)) | ((with_reducible refine EvSt.q HS (by repeat first | exact .h | apply Spot.t) ?_); (conv => whnf); intro hN HS1 hU; replace HS := HS1; clear HS1) | ((with_reducible refine EvKeep.cq (A := keepK _ _ (Hole _) _) HS (by repeat first | exact .h | apply Spot.t) ?_); (conv => whnf); (refine ⟨?_, ?_⟩); assumption; intro hC) | ((with_reducible refine EvKeep.nq (A := keepK _ _ (Hole _) _) HS (by repeat first | exact .h | apply Spot.t) ?_ ?_); assumption; intro hC) | ((fail_if_success with_reducible refine EvKeep.hole ?_); (with_reducible refine EvKeep.abs (fun X kK => ?_)))) <;> conv => whnf)
      refine EvCall.mk ((place_s HS kd a hd hs hk hz q0 q1 q2).mono ?_)
      rintro _ hN ⟨⟨b', o, c', eA, rfl⟩, HS1⟩
      replace HS := HS1
      clear HS1
      conv => whnf
      repeat' ((first | (with_reducible first | refine EvSeq.go ?_ | refine EvIf.tt ?_ | refine EvIf.ff ?_) | ((with_reducible refine Hole.mk (kK ?_)); clear kK) | ((with_reducible refine EvIf.mk (fun c => ?_) (fun c => ?_)) <;> (try simp only [cs_] at c) <;> (try (exfalso; first | omega | (revert c; decide)))) | ((with_reducible refine EvNew.sep HS ?_); intro bN hN HS1 hX; replace HS := HS1; clear HS1) | ((with_reducible refine EvIdx.lit ?_ ?_ ?_); (first | omega | decide); (first | omega | decide)) | ((with_reducible first | refine EvNe.mk ?_ ?_ | refine EvGe.mk ?_ ?_); (first | decide | omega)) | ((with_reducible refine EvLd.q HS (by repeat first | exact .h | apply Spot.t) ?_); (conv => whnf); intro hC) | (with_reducible refine EvLdN.q HS (by repeat first | exact .h | apply Spot.t) (fun hC => ?_)) | ((with_reducible refine EvSt.q HS (by repeat first | exact .h | apply Spot.t) ?_); (conv => whnf); intro hN HS1 hU; replace HS := HS1; clear HS1) | ((with_reducible refine EvKeep.cq (A := keepK _ _ (Hole _) _) HS (by repeat first | exact .h | apply Spot.t) ?_); (conv => whnf); (refine ⟨?_, ?_⟩); assumption; intro hC) | ((with_reducible refine EvKeep.nq (A := keepK _ _ (Hole _) _) HS (by repeat first | exact .h | apply Spot.t) ?_ ?_); assumption; intro hC) | ((fail_if_success with_reducible refine EvKeep.hole ?_); (with_reducible refine EvKeep.abs (fun X kK => ?_)))) <;> conv => whnf)
      refine EvLoop.keep ([11, 21, 22, 23, 24, 25, 26, 27, 28, 29, 30, 31, 32], 12) (α := Nat) (fun k => [(21, .int .i64 k), (20, .int .i64 ((ks kd).toNat : Int))]) (fun k h' => (k : Int) ≤ ks kd ∧ Sep h0 h' (Bx b (x.cs m) 36 :: (x.own { m with stack := wr m.stack (a - (2097152 - (x.s.n : Int))).toNat w k } ++ L))) (fun k => (ks kd - k).toNat) 0 (by (repeat' (first | exact trivial | refine ⟨rfl, ?_⟩))) ⟨by omega, HS⟩ ?_
      clear HS r
      rintro k _ ⟨hk4, HS⟩
      conv => whnf
      have e8 : IntKind.i64.wrap (8 * (k : Int)) = 8 * k := i64w _ (by omega) (by omega)
      repeat' ((first | (with_reducible first | refine EvSeq.go ?_ | refine EvIf.tt ?_ | refine EvIf.ff ?_) | ((with_reducible refine Hole.mk (kK ?_)); clear kK) | ((with_reducible refine EvIf.mk (fun c => ?_) (fun c => ?_)) <;> (try simp only [cs_] at c) <;> (try (exfalso; first | omega | (revert c; decide)))) | ((with_reducible refine EvNew.sep HS ?_); intro bN hN HS1 hX; replace HS := HS1; clear HS1) | ((with_reducible refine EvIdx.lit ?_ ?_ ?_); (first | omega | decide); (first | omega | decide)) | ((with_reducible first | refine EvNe.mk ?_ ?_ | refine EvGe.mk ?_ ?_); (first | decide | omega)) | ((with_reducible refine EvLd.q HS (by repeat first | exact .h | apply Spot.t) ?_); (conv => whnf); intro hC) | (with_reducible refine EvLdN.q HS (by repeat first | exact .h | apply Spot.t) (fun hC => ?_)) | ((with_reducible refine EvSt.q HS (by repeat first | exact .h | apply Spot.t) ?_); (conv => whnf); intro hN HS1 hU; replace HS := HS1; clear HS1) | ((with_reducible refine EvKeep.cq (A := keepK _ _ (Hole _) _) HS (by repeat first | exact .h | apply Spot.t) ?_); (conv => whnf); (refine ⟨?_, ?_⟩); assumption; intro hC) | ((with_reducible refine EvKeep.nq (A := keepK _ _ (Hole _) _) HS (by repeat first | exact .h | apply Spot.t) ?_ ?_); assumption; intro hC) | ((fail_if_success with_reducible refine EvKeep.hole ?_); (with_reducible refine EvKeep.abs (fun X kK => ?_)))) <;> conv => whnf)
      · rw [Nat.add_assoc]
        refine EvSt.sli HS 3 rfl eA (by omega) ?_
        intro h' HS
        conv => whnf
        repeat' ((first | (with_reducible first | refine EvSeq.go ?_ | refine EvIf.tt ?_ | refine EvIf.ff ?_) | ((with_reducible refine Hole.mk (kK ?_)); clear kK) | ((with_reducible refine EvIf.mk (fun c => ?_) (fun c => ?_)) <;> (try simp only [cs_] at c) <;> (try (exfalso; first | omega | (revert c; decide)))) | ((with_reducible refine EvNew.sep HS ?_); intro bN hN HS1 hX; replace HS := HS1; clear HS1) | ((with_reducible refine EvIdx.lit ?_ ?_ ?_); (first | omega | decide); (first | omega | decide)) | ((with_reducible first | refine EvNe.mk ?_ ?_ | refine EvGe.mk ?_ ?_); (first | decide | omega)) | ((with_reducible refine EvLd.q HS (by repeat first | exact .h | apply Spot.t) ?_); (conv => whnf); intro hC) | (with_reducible refine EvLdN.q HS (by repeat first | exact .h | apply Spot.t) (fun hC => ?_)) | ((with_reducible refine EvSt.q HS (by repeat first | exact .h | apply Spot.t) ?_); (conv => whnf); intro hN HS1 hU; replace HS := HS1; clear HS1) | ((with_reducible refine EvKeep.cq (A := keepK _ _ (Hole _) _) HS (by repeat first | exact .h | apply Spot.t) ?_); (conv => whnf); (refine ⟨?_, ?_⟩); assumption; intro hC) | ((with_reducible refine EvKeep.nq (A := keepK _ _ (Hole _) _) HS (by repeat first | exact .h | apply Spot.t) ?_ ?_); assumption; intro hC) | ((fail_if_success with_reducible refine EvKeep.hole ?_); (with_reducible refine EvKeep.abs (fun X kK => ?_)))) <;> conv => whnf)
        refine ⟨k + 1, ⟨congrArg (fun z => some (Value.int .i64 z)) ((i64w _ (by omega) (by omega)).trans (by omega)), rfl, (by (repeat' (first | exact trivial | refine ⟨rfl, ?_⟩)))⟩, ⟨by omega, ?_⟩, by omega⟩
        have hl := wr_next2 m.stack (a - (2097152 - (x.s.n : Int))).toNat ((a - (2097152 - (x.s.n : Int))).toNat + (k : Int).toNat * 1) w _ k (by omega) (shbyte w k (by omega))
        exact Eq.mp (congrArg (fun z => Sep h0 h' (Bx b (x.cs m) 36 :: ([SlB x.o m.out, SlB x.i m.inp, Sl 5 x.s.a x.s.n x.s.c z, SlB x.d m.data, SlI x.r m.regs, SlI x.c m.code] ++ L))) hl) HS
      · have hkk : (ks kd).toNat = k := by omega
        refine ⟨congrArg (Value.int .i64) hf.symm, ?_⟩
        rw [hst]
        have e : stM m kd a w = { m with stack := wr m.stack (a - (2097152 - (x.s.n : Int))).toNat w k } := by
          unfold stM
          rw [hfl, if_neg (by decide), hdl, hsl, hq, if_neg (by simp), hkk]
        rw [e]
        exact HS
  · refine hc_of Try.func69 (rfl : Try.f69.body = some _) Try.ntmps69 Try.results69 Try.call69 rfl ?_; conv => whnf
    repeat' ((first | ((with_reducible refine EvCall.mk (HC.mono (place_nov HS kd a _ hd hs a0 a1 rfl hf) ?_)); (rintro _ hN ⟨rfl, HS1⟩); replace HS := HS1; clear HS1) | (with_reducible first | refine EvSeq.go ?_ | refine EvIf.tt ?_ | refine EvIf.ff ?_) | ((with_reducible refine Hole.mk (kK ?_)); clear kK) | ((with_reducible refine EvIf.mk (fun c => ?_) (fun c => ?_)) <;> (try simp only [cs_] at c) <;> (try (exfalso; first | omega | (revert c; decide)))) | ((with_reducible refine EvNew.sep HS ?_); intro bN hN HS1 hX; replace HS := HS1; clear HS1) | ((with_reducible refine EvIdx.lit ?_ ?_ ?_); (first | omega | decide); (first | omega | decide)) | ((with_reducible first | refine EvNe.mk ?_ ?_ | refine EvGe.mk ?_ ?_); (first | decide | omega)) | ((with_reducible refine EvLd.q HS (by repeat first | exact .h | apply Spot.t) ?_); (conv => whnf); intro hC) | (with_reducible refine EvLdN.q HS (by repeat first | exact .h | apply Spot.t) (fun hC => ?_)) | ((with_reducible refine EvSt.q HS (by repeat first | exact .h | apply Spot.t) ?_); (conv => whnf); intro hN HS1 hU; replace HS := HS1; clear HS1) | ((with_reducible refine EvKeep.cq (A := keepK _ _ (Hole _) _) HS (by repeat first | exact .h | apply Spot.t) ?_); (conv => whnf); (refine ⟨?_, ?_⟩); assumption; intro hC) | ((with_reducible refine EvKeep.nq (A := keepK _ _ (Hole _) _) HS (by repeat first | exact .h | apply Spot.t) ?_ ?_); assumption; intro hC) | ((fail_if_success with_reducible refine EvKeep.hole ?_); (with_reducible refine EvKeep.abs (fun X kK => ?_)))) <;> conv => whnf)
    refine EvLoop.keep ([11, 21, 22, 23, 24, 25, 26, 27, 28, 29, 30, 31, 32], 12) (α := Unit) (fun k => [(21, .int .i64 0), (20, .int .i64 0)]) (fun k h' => Sep h0 h' (Bx b (x.cs m) 36 :: (x.own m ++ L))) (fun k => 0) () (by (repeat' (first | exact trivial | refine ⟨rfl, ?_⟩))) HS ?_
    clear HS r
    rintro _ _ HS
    conv => whnf
    repeat' ((first | (with_reducible first | refine EvSeq.go ?_ | refine EvIf.tt ?_ | refine EvIf.ff ?_) | ((with_reducible refine Hole.mk (kK ?_)); clear kK) | ((with_reducible refine EvIf.mk (fun c => ?_) (fun c => ?_)) <;> (try simp only [cs_] at c) <;> (try (exfalso; first | omega | (revert c; decide)))) | ((with_reducible refine EvNew.sep HS ?_); intro bN hN HS1 hX; replace HS := HS1; clear HS1) | ((with_reducible refine EvIdx.lit ?_ ?_ ?_); (first | omega | decide); (first | omega | decide)) | ((with_reducible first | refine EvNe.mk ?_ ?_ | refine EvGe.mk ?_ ?_); (first | decide | omega)) | ((with_reducible refine EvLd.q HS (by repeat first | exact .h | apply Spot.t) ?_); (conv => whnf); intro hC) | (with_reducible refine EvLdN.q HS (by repeat first | exact .h | apply Spot.t) (fun hC => ?_)) | ((with_reducible refine EvSt.q HS (by repeat first | exact .h | apply Spot.t) ?_); (conv => whnf); intro hN HS1 hU; replace HS := HS1; clear HS1) | ((with_reducible refine EvKeep.cq (A := keepK _ _ (Hole _) _) HS (by repeat first | exact .h | apply Spot.t) ?_); (conv => whnf); (refine ⟨?_, ?_⟩); assumption; intro hC) | ((with_reducible refine EvKeep.nq (A := keepK _ _ (Hole _) _) HS (by repeat first | exact .h | apply Spot.t) ?_ ?_); assumption; intro hC) | ((fail_if_success with_reducible refine EvKeep.hole ?_); (with_reducible refine EvKeep.abs (fun X kK => ?_)))) <;> conv => whnf)
    have hst : stI m kd a w = m := by
      unfold stI
      by_cases hk : ks kd = 0
      · rw [if_pos hk]
      · rw [if_neg hk]
        unfold stM
        rw [if_pos]
        unfold fltI at hf
        rw [if_neg hk, ← hdl, ← hsl] at hf
        exact hf
    rw [hst, hdl, hsl]
    exact ⟨rfl, HS⟩
end Go.Proofs.Ythndggachjdkfaa
