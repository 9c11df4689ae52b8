/- Walks: bytes stored, by the reference. -/
import Derived.Test.YthndggachjdkfaaVSt
namespace Go.Proofs.Ythndggachjdkfaa
open Go.RowKit
set_option maxRecDepth 20000
set_option linter.unusedSimpArgs false
set_option linter.unusedVariables false
theorem sepL_back {A : Asn} {L2 : List Asn} {h : Hp} : ∀ {L1 : List Asn} {S : Foot}, sepL (A :: (L1 ++ L2)) h S → sepL (L1 ++ A :: L2) h S
  | [], _, s => s
  | B :: L1, S, s => by
    obtain ⟨S1, S2, b, r, d, s1, s2⟩ := sepL_swap s
    exact ⟨S1, S2, b, sepL_back r, d, s1, s2⟩
/-- a store into the i-th row -/
theorem EvSt.sli {h0 h : Hp} {L : List Asn} {T : TypeId} {A : Option Addr} {n c b o j : Nat} {vs : List Value} {v : Value} {K : Hp → Prop} (s : Sep h0 h L) (i : Nat) (hi : L[i]? = some (Sl T A n c vs)) (e : A = some ⟨b, o, none⟩) (hj : j < n)
    (k : ∀ h', Sep h0 h' (L.set i (Sl T A n c (vs.set j v))) → K h') : EvSt h b (o + j) [v] K := by
  have hlt := (List.getElem?_eq_some_iff.mp hi).1
  refine EvSt.sl (s.front i hi) e hj (fun h' s' => k h' ?_)
  rw [List.set_eq_take_append_cons_drop, if_pos hlt]
  rw [List.eraseIdx_eq_take_drop_succ] at s'
  obtain ⟨e, S, hS, r⟩ := s'
  exact ⟨e, S, hS, sepL_back r⟩
/-- Bytes of a number written from a place on, least first. -/
def wr (l : List Int) (p : Nat) (w : Int) : Nat → List Int
  | 0 => l
  | i + 1 => (wr l p w i).set (p + i) (w / 256 ^ i % 256)
theorem wr_len (l : List Int) (p : Nat) (w : Int) (i : Nat) : (wr l p w i).length = l.length := by induction i with
  | zero => rfl
  | succ i ih => simp [wr, ih]
def flt (d s : Nat) (kd a : Int) : Int := if a % ks kd ≠ 0 then 3 else if (spot d s a (ks kd)).1 = 0 then 4 else 0
def stM (m : Mac) (kd a w : Int) : Mac := if flt m.data.length m.stack.length kd a ≠ 0 then m else
  if (spot m.data.length m.stack.length a (ks kd)).1 = 1 then { m with data := wr m.data (spot m.data.length m.stack.length a (ks kd)).2.toNat w (ks kd).toNat }
  else { m with stack := wr m.stack (spot m.data.length m.stack.length a (ks kd)).2.toNat w (ks kd).toNat }
theorem l3Spot_v {h0 h : Hp} {L : List Asn} {x : MH} {m : Mac} {b : Nat} {q p : Int} (HS : Sep h0 h (Bx b (x.cs m) 36 :: L)) (a n : Int) (hd : x.d.n ≤ 65536) (hs : x.s.n ≤ 65536) (n0 : 1 ≤ n) (n1 : n ≤ 4) (a0 : -9223372036854775808 ≤ a) (a1 : a ≤ 9223372036854775807) (hq : spot x.d.n x.s.n a n = (q, p)) :
    HC Try.prog 112 [.pointer (some ⟨b, 0, none⟩), .int .i64 a, .int .i64 n] h fun v h' => v = .tuple #[.int .i64 q, .int .i64 p] ∧ h' = h := by
  have := l3Spot_c HS a n hd hs n0 n1 a0 a1
  rwa [hq] at this
theorem sKs_v (k n : Int) (hn : ks k = n) (h : Hp) : HC Try.prog 64 [.int .i64 k] h fun v h' => v = .int .i64 n ∧ h' = h := hn ▸ sKs_c k h
theorem tmodk {a n : Int} (hn : n = 1 ∨ n = 2 ∨ n = 4) : Int.tmod a n = 0 ↔ a % n = 0 := by
  by_cases h : 0 ≤ a
  · rw [tmod_pos h]
  · rw [tmod_neg (by omega)]
    rcases hn with rfl | rfl | rfl <;> omega
theorem ks_cases {k : Int} (h : ks k ≠ 0) : ks k = 1 ∨ ks k = 2 ∨ ks k = 4 := by unfold ks at *; grind
theorem spot_cases (d s : Nat) (a n : Int) : (spot d s a n = (1, a - 1048576) ∧ 1048576 ≤ a ∧ a ≤ 1048576 + d - n) ∨ (spot d s a n = (2, a - (2097152 - s)) ∧ 2097152 - s ≤ a ∧ a ≤ 2097152 - n) ∨ spot d s a n = (0, 0) := by unfold spot; grind
theorem wstep (w : Int) (k : Nat) (hk : k ≤ 4) : (w % 4294967296) / 256 ^ k / 256 = (w % 4294967296) / 256 ^ (k + 1) := by
  rw [Int.pow_succ, Int.ediv_ediv_of_nonneg (Int.le_of_lt (Int.pow_pos (by decide)))]
theorem wbyte (w : Int) (k : Nat) (hk : k < 4) : IntKind.u8.wrap ((w % 4294967296 / 256 ^ k).tmod 256) = w / 256 ^ k % 256 := by
  have hw := ediv_le (w % 4294967296) (256 ^ k) (by omega) (Int.le_of_lt (Int.pow_pos (by decide)))
  rw [tmod_pos hw.1, wrap_u8]
  obtain rfl | rfl | rfl | rfl : k = 0 ∨ k = 1 ∨ k = 2 ∨ k = 3 := by omega
  all_goals (simp; try omega)
theorem wr_next (l : List Int) (p i : Nat) (w v : Int) (k : Nat) (hi : i = p + k) (hv : v = w / 256 ^ k % 256) : (ints .u8 (wr l p w k)).set (i * 1) (.int .u8 v) = ints .u8 (wr l p w (k + 1)) := by
  subst hi hv
  rw [Nat.mul_one]
  simp only [wr, ints, List.map_set]
set_option maxHeartbeats 4000000 in
theorem l3Store_c {h0 h : Hp} {L : List Asn} {x : MH} {m : Mac} {b : Nat} (HS : Sep h0 h (Bx b (x.cs m) 36 :: (x.own m ++ L))) (kd a w : Int) (hk : ks kd ≠ 0) (hd : x.d.n ≤ 65536) (hs : x.s.n ≤ 65536) (a0 : -9223372036854775808 ≤ a) (a1 : a ≤ 9223372036854775807) :
    HC Try.prog 67 [.pointer (some ⟨b, 0, none⟩), .int .i64 kd, .int .i64 a, .int .i64 w] h fun v h' => v = .int .i64 (flt m.data.length m.stack.length kd a) ∧ Sep h0 h' (Bx b (x.cs m) 36 :: (x.own (stM m kd a w) ++ L)) := by
  have r := HS.tail.rdm
  have hdl := r.dl
  have hsl := r.sl
  have hn := ks_cases hk
  have ht := tmodk (a := a) hn
  rcases spot_cases x.d.n x.s.n a (ks kd) with ⟨hq, q1, q2⟩ | ⟨hq, q1, q2⟩ | hq
  · refine hc_of Try.func67 (rfl : Try.f67.body = some _) Try.ntmps67 Try.results67 Try.call67 rfl ?_; conv => whnf
    repeat' ((first | ((with_reducible refine EvCall.mk (HC.mono (sKs_c _ _) ?_)); (rintro _ _ ⟨rfl, rfl⟩)) | ((with_reducible refine EvCall.mk (HC.mono (sWord_c _ _) ?_)); (rintro _ _ ⟨rfl, rfl⟩)) | ((with_reducible refine EvNe.mk ?_ ?_); omega) | ((with_reducible refine EvCall.mk (HC.mono (l3Spot_v HS a _ hd hs (by omega) (by omega) a0 a1 hq) ?_)); (rintro _ _ ⟨rfl, rfl⟩)) | (with_reducible first | refine EvSeq.go ?_ | refine EvIf.tt ?_ | refine EvIf.ff ?_) | ((with_reducible refine Hole.mk (kK ?_)); clear kK) | ((with_reducible refine EvIf.mk (fun c => ?_) (fun c => ?_)) <;> (try simp only [cs_] at c) <;> (try (exfalso; first | omega | (revert c; decide)))) | ((with_reducible refine EvNew.sep HS ?_); intro bN hN HS1 hX; replace HS := HS1; clear HS1) | ((with_reducible refine EvIdx.lit ?_ ?_ ?_); (first | omega | decide); (first | omega | decide)) | ((with_reducible first | refine EvNe.mk ?_ ?_ | refine EvGe.mk ?_ ?_); (first | decide | omega)) | ((with_reducible refine EvLd.q HS (by repeat first | exact .h | apply Spot.t) ?_); (conv => whnf); intro hC) | (with_reducible refine EvLdN.q HS (by repeat first | exact .h | apply Spot.t) (fun hC => ?_)) | ((with_reducible refine EvSt.q HS (by repeat first | exact .h | apply Spot.t) ?_); (conv => whnf); intro hN HS1 hU; replace HS := HS1; clear HS1) | ((with_reducible refine EvKeep.cq (A := keepK _ _ (Hole _) _) HS (by repeat first | exact .h | apply Spot.t) ?_); (conv => whnf); (refine ⟨?_, ?_⟩); assumption; intro hC) | ((with_reducible refine EvKeep.nq (A := keepK _ _ (Hole _) _) HS (by repeat first | exact .h | apply Spot.t) ?_ ?_); assumption; intro hC) | ((fail_if_success with_reducible refine EvKeep.hole ?_); (with_reducible refine EvKeep.abs (fun X kK => ?_)))) <;> conv => whnf)
    · refine ⟨congrArg (Value.int .i64) ?_, ?_⟩
      · unfold flt; rw [if_pos (fun e => c (ht.mpr e))]
      · have e : stM m kd a w = m := by unfold stM flt; rw [if_pos (fun e => c (ht.mpr e)), if_pos (by decide)]
        rw [e]; exact HS
    · have w0 : 0 ≤ w % 4294967296 ∧ w % 4294967296 < 4294967296 := by omega
      have hz : a % ks kd = 0 := ht.mp (by assumption)
      refine EvLoop.keep ([3, 12, 30, 31, 32, 33, 34, 35, 36, 37, 38, 39, 40, 41, 42, 43, 44, 45, 46, 47, 48, 49, 50, 51, 52, 53, 54, 55, 56, 57, 58, 59, 60], 13) (α := Nat) (fun k => [(12, .int .i64 k), (3, .int .i64 (w % 4294967296 / 256 ^ k))]) (fun k h' => (k : Int) ≤ ks kd ∧ Sep h0 h' (Bx b (x.cs m) 36 :: (x.own { m with data := wr m.data (a - 1048576).toNat w k } ++ L))) (fun k => (ks kd - k).toNat) 0 ⟨rfl, congrArg (fun z => some (Value.int .i64 z)) (by simp), (by (repeat' (first | exact trivial | refine ⟨rfl, ?_⟩)))⟩ ⟨by omega, HS⟩ ?_
      clear HS r
      rintro k _ ⟨hk4, HS⟩
      conv => whnf
      have e1 : IntKind.i64.wrap ((a - 1048576) + (k : Int)) = (a - 1048576) + k := i64w _ (by omega) (by omega)
      have hw := ediv_le (w % 4294967296) (256 ^ k) w0.1 (Int.le_of_lt (Int.pow_pos (by decide)))
      repeat' ((first | (with_reducible first | refine EvSeq.go ?_ | refine EvIf.tt ?_ | refine EvIf.ff ?_) | ((with_reducible refine Hole.mk (kK ?_)); clear kK) | ((with_reducible refine EvIf.mk (fun c => ?_) (fun c => ?_)) <;> (try simp only [cs_] at c) <;> (try (exfalso; first | omega | (revert c; decide)))) | ((with_reducible refine EvNew.sep HS ?_); intro bN hN HS1 hX; replace HS := HS1; clear HS1) | ((with_reducible refine EvIdx.lit ?_ ?_ ?_); (first | omega | decide); (first | omega | decide)) | ((with_reducible first | refine EvNe.mk ?_ ?_ | refine EvGe.mk ?_ ?_); (first | decide | omega)) | ((with_reducible refine EvLd.q HS (by repeat first | exact .h | apply Spot.t) ?_); (conv => whnf); intro hC) | (with_reducible refine EvLdN.q HS (by repeat first | exact .h | apply Spot.t) (fun hC => ?_)) | ((with_reducible refine EvSt.q HS (by repeat first | exact .h | apply Spot.t) ?_); (conv => whnf); intro hN HS1 hU; replace HS := HS1; clear HS1) | ((with_reducible refine EvKeep.cq (A := keepK _ _ (Hole _) _) HS (by repeat first | exact .h | apply Spot.t) ?_); (conv => whnf); (refine ⟨?_, ?_⟩); assumption; intro hC) | ((with_reducible refine EvKeep.nq (A := keepK _ _ (Hole _) _) HS (by repeat first | exact .h | apply Spot.t) ?_ ?_); assumption; intro hC) | ((fail_if_success with_reducible refine EvKeep.hole ?_); (with_reducible refine EvKeep.abs (fun X kK => ?_)))) <;> conv => whnf)
      · refine EvIdx.rd (HS.rd 4 rfl) (HS.len 4 rfl).1 (by omega) (by omega) ?_
        intro bI oI eI hI
        conv => whnf
        refine EvSt.sli HS 4 rfl eI (by omega) ?_
        intro h' HS
        conv => whnf
        repeat' ((first | (with_reducible first | refine EvSeq.go ?_ | refine EvIf.tt ?_ | refine EvIf.ff ?_) | ((with_reducible refine Hole.mk (kK ?_)); clear kK) | ((with_reducible refine EvIf.mk (fun c => ?_) (fun c => ?_)) <;> (try simp only [cs_] at c) <;> (try (exfalso; first | omega | (revert c; decide)))) | ((with_reducible refine EvNew.sep HS ?_); intro bN hN HS1 hX; replace HS := HS1; clear HS1) | ((with_reducible refine EvIdx.lit ?_ ?_ ?_); (first | omega | decide); (first | omega | decide)) | ((with_reducible first | refine EvNe.mk ?_ ?_ | refine EvGe.mk ?_ ?_); (first | decide | omega)) | ((with_reducible refine EvLd.q HS (by repeat first | exact .h | apply Spot.t) ?_); (conv => whnf); intro hC) | (with_reducible refine EvLdN.q HS (by repeat first | exact .h | apply Spot.t) (fun hC => ?_)) | ((with_reducible refine EvSt.q HS (by repeat first | exact .h | apply Spot.t) ?_); (conv => whnf); intro hN HS1 hU; replace HS := HS1; clear HS1) | ((with_reducible refine EvKeep.cq (A := keepK _ _ (Hole _) _) HS (by repeat first | exact .h | apply Spot.t) ?_); (conv => whnf); (refine ⟨?_, ?_⟩); assumption; intro hC) | ((with_reducible refine EvKeep.nq (A := keepK _ _ (Hole _) _) HS (by repeat first | exact .h | apply Spot.t) ?_ ?_); assumption; intro hC) | ((fail_if_success with_reducible refine EvKeep.hole ?_); (with_reducible refine EvKeep.abs (fun X kK => ?_)))) <;> conv => whnf)
        refine ⟨k + 1, ⟨congrArg (fun z => some (Value.int .i64 z)) ((i64w _ (by omega) (by omega)).trans (by omega)), congrArg (fun z => some (Value.int .i64 z)) ?_, (by (repeat' (first | exact trivial | refine ⟨rfl, ?_⟩)))⟩, ⟨by omega, ?_⟩, by omega⟩
        · have h2 := ediv_le _ 256 hw.1 (by decide)
          rw [tdiv_pos hw.1, i64w _ (by omega) (by omega), wstep w k (by omega)]
        · have hl := wr_next m.data (a - 1048576).toNat (IntKind.i64.wrap ((a - 1048576) + (k : Int))).toNat w (IntKind.u8.wrap ((w % 4294967296 / 256 ^ k).tmod 256)) k (by rw [e1]; omega) (wbyte w k (by omega))
          exact Eq.mp (congrArg (fun z => Sep h0 h' (Bx b (x.cs m) 36 :: ([SlB x.o m.out, SlB x.i m.inp, SlB x.s m.stack, Sl 5 x.d.a x.d.n x.d.c z, SlI x.r m.regs, SlI x.c m.code] ++ L))) hl) HS
      · have hkk : (ks kd).toNat = k := by omega
        have hf : flt m.data.length m.stack.length kd a = 0 := by
          unfold flt
          rw [hdl, hsl, hq, if_neg (fun e => e hz), if_neg (by simp)]
        refine ⟨congrArg (Value.int .i64) hf.symm, ?_⟩
        have e : stM m kd a w = { m with data := wr m.data (a - 1048576).toNat w k } := by
          unfold stM
          rw [hf, if_neg (by decide), hdl, hsl, hq, if_pos rfl, hkk]
        rw [e]
        exact HS
  · refine hc_of Try.func67 (rfl : Try.f67.body = some _) Try.ntmps67 Try.results67 Try.call67 rfl ?_; conv => whnf
    repeat' ((first | ((with_reducible refine EvCall.mk (HC.mono (sKs_c _ _) ?_)); (rintro _ _ ⟨rfl, rfl⟩)) | ((with_reducible refine EvCall.mk (HC.mono (sWord_c _ _) ?_)); (rintro _ _ ⟨rfl, rfl⟩)) | ((with_reducible refine EvNe.mk ?_ ?_); omega) | ((with_reducible refine EvCall.mk (HC.mono (l3Spot_v HS a _ hd hs (by omega) (by omega) a0 a1 hq) ?_)); (rintro _ _ ⟨rfl, rfl⟩)) | (with_reducible first | refine EvSeq.go ?_ | refine EvIf.tt ?_ | refine EvIf.ff ?_) | ((with_reducible refine Hole.mk (kK ?_)); clear kK) | ((with_reducible refine EvIf.mk (fun c => ?_) (fun c => ?_)) <;> (try simp only [cs_] at c) <;> (try (exfalso; first | omega | (revert c; decide)))) | ((with_reducible refine EvNew.sep HS ?_); intro bN hN HS1 hX; replace HS := HS1; clear HS1) | ((with_reducible refine EvIdx.lit ?_ ?_ ?_); (first | omega | decide); (first | omega | decide)) | ((with_reducible first | refine EvNe.mk ?_ ?_ | refine EvGe.mk ?_ ?_); (first | decide | omega)) | ((with_reducible refine EvLd.q HS (by repeat first | exact .h | apply Spot.t) ?_); (conv => whnf); intro hC) | (with_reducible refine EvLdN.q HS (by repeat first | exact .h | apply Spot.t) (fun hC => ?_)) | ((with_reducible refine EvSt.q HS (by repeat first | exact .h | apply Spot.t) ?_); (conv => whnf); intro hN HS1 hU; replace HS := HS1; clear HS1) | ((with_reducible refine EvKeep.cq (A := keepK _ _ (Hole _) _) HS (by repeat first | exact .h | apply Spot.t) ?_); (conv => whnf); (refine ⟨?_, ?_⟩); assumption; intro hC) | ((with_reducible refine EvKeep.nq (A := keepK _ _ (Hole _) _) HS (by repeat first | exact .h | apply Spot.t) ?_ ?_); assumption; intro hC) | ((fail_if_success with_reducible refine EvKeep.hole ?_); (with_reducible refine EvKeep.abs (fun X kK => ?_)))) <;> conv => whnf)
    · refine ⟨congrArg (Value.int .i64) ?_, ?_⟩
      · unfold flt; rw [if_pos (fun e => c (ht.mpr e))]
      · have e : stM m kd a w = m := by unfold stM flt; rw [if_pos (fun e => c (ht.mpr e)), if_pos (by decide)]
        rw [e]; exact HS
    · have w0 : 0 ≤ w % 4294967296 ∧ w % 4294967296 < 4294967296 := by omega
      have hz : a % ks kd = 0 := ht.mp (by assumption)
      refine EvLoop.keep ([3, 12, 30, 31, 32, 33, 34, 35, 36, 37, 38, 39, 40, 41, 42, 43, 44, 45, 46, 47, 48, 49, 50, 51, 52, 53, 54, 55, 56, 57, 58, 59, 60], 13) (α := Nat) (fun k => [(12, .int .i64 k), (3, .int .i64 (w % 4294967296 / 256 ^ k))]) (fun k h' => (k : Int) ≤ ks kd ∧ Sep h0 h' (Bx b (x.cs m) 36 :: (x.own { m with stack := wr m.stack (a - (2097152 - (x.s.n : Int))).toNat w k } ++ L))) (fun k => (ks kd - k).toNat) 0 ⟨rfl, congrArg (fun z => some (Value.int .i64 z)) (by simp), (by (repeat' (first | exact trivial | refine ⟨rfl, ?_⟩)))⟩ ⟨by omega, HS⟩ ?_
      clear HS r
      rintro k _ ⟨hk4, HS⟩
      conv => whnf
      have e1 : IntKind.i64.wrap ((a - (2097152 - (x.s.n : Int))) + (k : Int)) = (a - (2097152 - (x.s.n : Int))) + k := i64w _ (by omega) (by omega)
      have hw := ediv_le (w % 4294967296) (256 ^ k) w0.1 (Int.le_of_lt (Int.pow_pos (by decide)))
      repeat' ((first | (with_reducible first | refine EvSeq.go ?_ | refine EvIf.tt ?_ | refine EvIf.ff ?_) | ((with_reducible refine Hole.mk (kK ?_)); clear kK) | ((with_reducible refine EvIf.mk (fun c => ?_) (fun c => ?_)) <;> (try simp only [cs_] at c) <;> (try (exfalso; first | omega | (revert c; decide)))) | ((with_reducible refine EvNew.sep HS ?_); intro bN hN HS1 hX; replace HS := HS1; clear HS1) | ((with_reducible refine EvIdx.lit ?_ ?_ ?_); (first | omega | decide); (first | omega | decide)) | ((with_reducible first | refine EvNe.mk ?_ ?_ | refine EvGe.mk ?_ ?_); (first | decide | omega)) | ((with_reducible refine EvLd.q HS (by repeat first | exact .h | apply Spot.t) ?_); (conv => whnf); intro hC) | (with_reducible refine EvLdN.q HS (by repeat first | exact .h | apply Spot.t) (fun hC => ?_)) | ((with_reducible refine EvSt.q HS (by repeat first | exact .h | apply Spot.t) ?_); (conv => whnf); intro hN HS1 hU; replace HS := HS1; clear HS1) | ((with_reducible refine EvKeep.cq (A := keepK _ _ (Hole _) _) HS (by repeat first | exact .h | apply Spot.t) ?_); (conv => whnf); (refine ⟨?_, ?_⟩); assumption; intro hC) | ((with_reducible refine EvKeep.nq (A := keepK _ _ (Hole _) _) HS (by repeat first | exact .h | apply Spot.t) ?_ ?_); assumption; intro hC) | ((fail_if_success with_reducible refine EvKeep.hole ?_); (with_reducible refine EvKeep.abs (fun X kK => ?_)))) <;> conv => whnf)
      · refine EvIdx.rd (HS.rd 3 rfl) (HS.len 3 rfl).1 (by omega) (by omega) ?_
        intro bI oI eI hI
        conv => whnf
        refine EvSt.sli HS 3 rfl eI (by omega) ?_
        intro h' HS
        conv => whnf
        repeat' ((first | (with_reducible first | refine EvSeq.go ?_ | refine EvIf.tt ?_ | refine EvIf.ff ?_) | ((with_reducible refine Hole.mk (kK ?_)); clear kK) | ((with_reducible refine EvIf.mk (fun c => ?_) (fun c => ?_)) <;> (try simp only [cs_] at c) <;> (try (exfalso; first | omega | (revert c; decide)))) | ((with_reducible refine EvNew.sep HS ?_); intro bN hN HS1 hX; replace HS := HS1; clear HS1) | ((with_reducible refine EvIdx.lit ?_ ?_ ?_); (first | omega | decide); (first | omega | decide)) | ((with_reducible first | refine EvNe.mk ?_ ?_ | refine EvGe.mk ?_ ?_); (first | decide | omega)) | ((with_reducible refine EvLd.q HS (by repeat first | exact .h | apply Spot.t) ?_); (conv => whnf); intro hC) | (with_reducible refine EvLdN.q HS (by repeat first | exact .h | apply Spot.t) (fun hC => ?_)) | ((with_reducible refine EvSt.q HS (by repeat first | exact .h | apply Spot.t) ?_); (conv => whnf); intro hN HS1 hU; replace HS := HS1; clear HS1) | ((with_reducible refine EvKeep.cq (A := keepK _ _ (Hole _) _) HS (by repeat first | exact .h | apply Spot.t) ?_); (conv => whnf); (refine ⟨?_, ?_⟩); assumption; intro hC) | ((with_reducible refine EvKeep.nq (A := keepK _ _ (Hole _) _) HS (by repeat first | exact .h | apply Spot.t) ?_ ?_); assumption; intro hC) | ((fail_if_success with_reducible refine EvKeep.hole ?_); (with_reducible refine EvKeep.abs (fun X kK => ?_)))) <;> conv => whnf)
        refine ⟨k + 1, ⟨congrArg (fun z => some (Value.int .i64 z)) ((i64w _ (by omega) (by omega)).trans (by omega)), congrArg (fun z => some (Value.int .i64 z)) ?_, (by (repeat' (first | exact trivial | refine ⟨rfl, ?_⟩)))⟩, ⟨by omega, ?_⟩, by omega⟩
        · have h2 := ediv_le _ 256 hw.1 (by decide)
          rw [tdiv_pos hw.1, i64w _ (by omega) (by omega), wstep w k (by omega)]
        · have hl := wr_next m.stack (a - (2097152 - (x.s.n : Int))).toNat (IntKind.i64.wrap ((a - (2097152 - (x.s.n : Int))) + (k : Int))).toNat w (IntKind.u8.wrap ((w % 4294967296 / 256 ^ k).tmod 256)) k (by rw [e1]; omega) (wbyte w k (by omega))
          exact Eq.mp (congrArg (fun z => Sep h0 h' (Bx b (x.cs m) 36 :: ([SlB x.o m.out, SlB x.i m.inp, Sl 5 x.s.a x.s.n x.s.c z, SlB x.d m.data, SlI x.r m.regs, SlI x.c m.code] ++ L))) hl) HS
      · have hkk : (ks kd).toNat = k := by omega
        have hf : flt m.data.length m.stack.length kd a = 0 := by
          unfold flt
          rw [hdl, hsl, hq, if_neg (fun e => e hz), if_neg (by simp)]
        refine ⟨congrArg (Value.int .i64) hf.symm, ?_⟩
        have e : stM m kd a w = { m with stack := wr m.stack (a - (2097152 - (x.s.n : Int))).toNat w k } := by
          unfold stM
          rw [hf, if_neg (by decide), hdl, hsl, hq, if_neg (by simp), hkk]
        rw [e]
        exact HS
  · refine hc_of Try.func67 (rfl : Try.f67.body = some _) Try.ntmps67 Try.results67 Try.call67 rfl ?_; conv => whnf
    repeat' ((first | ((with_reducible refine EvCall.mk (HC.mono (sKs_c _ _) ?_)); (rintro _ _ ⟨rfl, rfl⟩)) | ((with_reducible refine EvCall.mk (HC.mono (sWord_c _ _) ?_)); (rintro _ _ ⟨rfl, rfl⟩)) | ((with_reducible refine EvNe.mk ?_ ?_); omega) | ((with_reducible refine EvCall.mk (HC.mono (l3Spot_v HS a _ hd hs (by omega) (by omega) a0 a1 hq) ?_)); (rintro _ _ ⟨rfl, rfl⟩)) | (with_reducible first | refine EvSeq.go ?_ | refine EvIf.tt ?_ | refine EvIf.ff ?_) | ((with_reducible refine Hole.mk (kK ?_)); clear kK) | ((with_reducible refine EvIf.mk (fun c => ?_) (fun c => ?_)) <;> (try simp only [cs_] at c) <;> (try (exfalso; first | omega | (revert c; decide)))) | ((with_reducible refine EvNew.sep HS ?_); intro bN hN HS1 hX; replace HS := HS1; clear HS1) | ((with_reducible refine EvIdx.lit ?_ ?_ ?_); (first | omega | decide); (first | omega | decide)) | ((with_reducible first | refine EvNe.mk ?_ ?_ | refine EvGe.mk ?_ ?_); (first | decide | omega)) | ((with_reducible refine EvLd.q HS (by repeat first | exact .h | apply Spot.t) ?_); (conv => whnf); intro hC) | (with_reducible refine EvLdN.q HS (by repeat first | exact .h | apply Spot.t) (fun hC => ?_)) | ((with_reducible refine EvSt.q HS (by repeat first | exact .h | apply Spot.t) ?_); (conv => whnf); intro hN HS1 hU; replace HS := HS1; clear HS1) | ((with_reducible refine EvKeep.cq (A := keepK _ _ (Hole _) _) HS (by repeat first | exact .h | apply Spot.t) ?_); (conv => whnf); (refine ⟨?_, ?_⟩); assumption; intro hC) | ((with_reducible refine EvKeep.nq (A := keepK _ _ (Hole _) _) HS (by repeat first | exact .h | apply Spot.t) ?_ ?_); assumption; intro hC) | ((fail_if_success with_reducible refine EvKeep.hole ?_); (with_reducible refine EvKeep.abs (fun X kK => ?_)))) <;> conv => whnf)
    · refine ⟨congrArg (Value.int .i64) ?_, ?_⟩
      · unfold flt; rw [if_pos (fun e => c (ht.mpr e))]
      · have e : stM m kd a w = m := by unfold stM flt; rw [if_pos (fun e => c (ht.mpr e)), if_pos (by decide)]
        rw [e]; exact HS
    · have hz : a % ks kd = 0 := ht.mp (by assumption)
      have hf : flt m.data.length m.stack.length kd a = 4 := by
        unfold flt
        rw [hdl, hsl, hq, if_neg (fun e => e hz), if_pos rfl]
      refine ⟨congrArg (Value.int .i64) hf.symm, ?_⟩
      have e : stM m kd a w = m := by unfold stM; rw [hf, if_pos (by decide)]
      rw [e]; exact HS
end Go.Proofs.Ythndggachjdkfaa
