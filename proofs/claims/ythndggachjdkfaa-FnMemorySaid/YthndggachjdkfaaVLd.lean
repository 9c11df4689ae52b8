/- Walks: bytes loaded. -/
import Derived.Test.YthndggachjdkfaaVSt3
import Derived.Test.YthndggachjdkfaaVNar
namespace Go.Proofs.Ythndggachjdkfaa
open Go.RowKit
set_option maxRecDepth 20000
set_option linter.unusedSimpArgs false
set_option linter.unusedVariables false
/-- Bytes. -/
def Byt (l : List Int) : Prop := ∀ x ∈ l, 0 ≤ x ∧ x ≤ 255
theorem Byt.getD {l : List Int} (h : Byt l) (i : Nat) : 0 ≤ l.getD i 0 ∧ l.getD i 0 ≤ 255 := by
  rw [List.getD_eq_getElem?_getD]
  cases e : l[i]? with
  | none => simp
  | some x => exact h x (List.mem_of_getElem? e)
/-- A number of some bytes, the lowest first. -/
def le (l : List Int) (p : Nat) : Nat → Int
  | 0 => 0
  | k + 1 => l.getD p 0 + 256 * le l (p + 1) k
theorem le_range {l : List Int} (h : Byt l) : ∀ (k p : Nat), 0 ≤ le l p k ∧ le l p k < 256 ^ k
  | 0, _ => by simp [le]
  | k + 1, p => by
    have a := h.getD p
    have b := le_range h k (p + 1)
    unfold le
    rw [Int.pow_succ]
    omega
theorem le_top (l : List Int) : ∀ (k p : Nat), le l p (k + 1) = le l p k + 256 ^ k * l.getD (p + k) 0
  | 0, p => by simp [le]
  | k + 1, p => by
    rw [le, le_top l k (p + 1), le, Int.pow_succ, Nat.add_assoc, Nat.add_comm 1 k]
    grind
def mflt (m : Mac) (kd a : Int) : Int := flt m.data.length m.stack.length kd a
/-- What a load without fault reads. -/
def ldW (m : Mac) (kd a : Int) : Int :=
  let q := spot m.data.length m.stack.length a (ks kd)
  (nar kd (le (if q.1 = 1 then m.data else m.stack) q.2.toNat (ks kd).toNat)).1
def ldR (m : Mac) (kd a : Int) : Int := if mflt m kd a = 0 then ldW m kd a else 0
theorem pow256 (k : Nat) (hk : k ≤ 4) : (256 : Int) ^ k ≤ 4294967296 := by
  obtain rfl | rfl | rfl | rfl | rfl : k = 0 ∨ k = 1 ∨ k = 2 ∨ k = 3 ∨ k = 4 := by omega
  all_goals decide
theorem getD_lt {l : List Int} {i : Nat} (h : i < l.length) : l.getD i 0 = l[i] := by
  rw [List.getD_eq_getElem?_getD, List.getElem?_eq_getElem h]
  rfl
theorem le_next {l : List Int} (hb : Byt l) {p n k : Nat} (hk : k < n) (hn : n ≤ 4) (hl : p + n ≤ l.length) : IntKind.i64.wrap (IntKind.i64.wrap (le l (p + (n - k)) k * 256) + IntKind.i64.wrap (l.getD (p + (n - 1 - k)) 0)) = le l (p + (n - (k + 1))) (k + 1) := by
  have a := le_range hb k (p + (n - k))
  have b := hb.getD (p + (n - 1 - k))
  have c := pow256 k (by omega)
  rw [i64w (le l (p + (n - k)) k * 256) (by omega) (by omega), i64w (l.getD (p + (n - 1 - k)) 0) (by omega) (by omega), i64w _ (by omega) (by omega), le]
  rw [show p + (n - (k + 1)) = p + (n - 1 - k) by omega, show p + (n - 1 - k) + 1 = p + (n - k) by omega]
  omega
set_option maxHeartbeats 4000000 in
theorem l3Load_c {h0 h : Hp} {L : List Asn} {x : MH} {m : Mac} {b : Nat} (HS : Sep h0 h (Bx b (x.cs m) 36 :: (x.own m ++ L))) (kd a : Int) (hk : ks kd ≠ 0) (hd : x.d.n ≤ 65536) (hs : x.s.n ≤ 65536) (bd : Byt m.data) (bs : Byt m.stack) (a0 : -9223372036854775808 ≤ a) (a1 : a ≤ 9223372036854775807) :
    HC Try.prog 65 [.pointer (some ⟨b, 0, none⟩), .int .i64 kd, .int .i64 a] h fun v h' => v = .tuple #[.int .i64 (ldR m kd a), .int .i64 (mflt m kd a)] ∧ Sep h0 h' (Bx b (x.cs m) 36 :: (x.own m ++ L)) := by
  have r := HS.tail.rdm
  have hdl := r.dl
  have hsl := r.sl
  have hn := ks_cases hk
  have ht := tmodk (a := a) hn
  unfold ldR mflt ldW
  rw [hdl, hsl]
  rcases spot_cases x.d.n x.s.n a (ks kd) with ⟨hq, q1, q2⟩ | ⟨hq, q1, q2⟩ | hq
  · refine hc_of Try.func65 (rfl : Try.f65.body = some _) Try.ntmps65 Try.results65 Try.call65 rfl ?_; conv => whnf
    repeat' ((first | ((with_reducible refine EvCall.mk (HC.mono (sKs_c _ _) ?_)); (rintro _ _ ⟨rfl, rfl⟩)) | ((with_reducible refine EvNe.mk ?_ ?_); omega) | ((with_reducible refine EvCall.mk (HC.mono (l3Spot_v HS a _ hd hs (by omega) (by omega) a0 a1 hq) ?_)); (rintro _ _ ⟨rfl, rfl⟩)) | (with_reducible first | refine EvSeq.go ?_ | refine EvIf.tt ?_ | refine EvIf.ff ?_) | ((with_reducible refine Hole.mk (kK ?_)); clear kK) | ((with_reducible refine EvIf.mk (fun c => ?_) (fun c => ?_)) <;> (try simp only [cs_] at c) <;> (try (exfalso; first | omega | (revert c; decide)))) | ((with_reducible refine EvNew.sep HS ?_); intro bN hN HS1 hX; replace HS := HS1; clear HS1) | ((with_reducible refine EvIdx.lit ?_ ?_ ?_); (first | omega | decide); (first | omega | decide)) | ((with_reducible first | refine EvNe.mk ?_ ?_ | refine EvGe.mk ?_ ?_); (first | decide | omega)) | ((with_reducible refine EvLd.q HS (by repeat first | exact .h | apply Spot.t) ?_); (conv => whnf); intro hC) | (with_reducible refine EvLdN.q HS (by repeat first | exact .h | apply Spot.t) (fun hC => ?_)) | ((with_reducible refine EvSt.q HS (by repeat first | exact .h | apply Spot.t) ?_); (conv => whnf); intro hN HS1 hU; replace HS := HS1; clear HS1) | ((with_reducible refine EvKeep.cq (A := keepK _ _ (Hole _) _) HS (by repeat first | exact .h | apply Spot.t) ?_); (conv => whnf); (refine ⟨?_, ?_⟩); assumption; intro hC) | ((with_reducible refine EvKeep.nq (A := keepK _ _ (Hole _) _) HS (by repeat first | exact .h | apply Spot.t) ?_ ?_); assumption; intro hC) | ((fail_if_success with_reducible refine EvKeep.hole ?_); (with_reducible refine EvKeep.abs (fun X kK => ?_)))) <;> conv => whnf)
    · refine ⟨?_, HS⟩
      have hf : flt x.d.n x.s.n kd a = 3 := by unfold flt; rw [if_pos (fun e => c (ht.mpr e))]
      rw [hf]
      rfl
    · have hz : a % ks kd = 0 := ht.mp (by assumption)
      have hf : flt x.d.n x.s.n kd a = 0 := by unfold flt; rw [if_neg (fun e => e hz), hq]; rfl
      refine EvLoop.keep ([12, 13, 43, 44, 45, 46, 47, 48, 49, 50, 51, 52, 53, 54, 55, 56], 16) (α := Nat) (fun k => [(13, .int .i64 (ks kd - 1 - k)), (12, .int .i64 (le m.data ((a - 1048576).toNat + ((ks kd).toNat - k)) k))]) (fun k h' => (k : Int) ≤ ks kd ∧ Sep h0 h' (Bx b (x.cs m) 36 :: (x.own m ++ L))) (fun k => (ks kd - k).toNat) 0 ⟨congrArg (fun z => some (Value.int .i64 z)) ((i64w _ (by omega) (by omega)).trans (by omega)), rfl, (by (repeat' (first | exact trivial | refine ⟨rfl, ?_⟩)))⟩ ⟨by omega, HS⟩ ?_
      clear HS r
      rintro k _ ⟨hk4, HS⟩
      have r := HS.tail.rdm
      conv => whnf
      have e1 : IntKind.i64.wrap ((a - 1048576) + (ks kd - 1 - (k : Int))) = (a - 1048576) + (ks kd - 1 - k) := i64w _ (by omega) (by omega)
      repeat' ((first | ((with_reducible refine EvCall.mk (HC.mono (sNar_c _ _ _) ?_)); (rintro _ _ ⟨rfl, rfl⟩)) | (with_reducible first | refine EvSeq.go ?_ | refine EvIf.tt ?_ | refine EvIf.ff ?_) | ((with_reducible refine Hole.mk (kK ?_)); clear kK) | ((with_reducible refine EvIf.mk (fun c => ?_) (fun c => ?_)) <;> (try simp only [cs_] at c) <;> (try (exfalso; first | omega | (revert c; decide)))) | ((with_reducible refine EvNew.sep HS ?_); intro bN hN HS1 hX; replace HS := HS1; clear HS1) | ((with_reducible refine EvIdx.lit ?_ ?_ ?_); (first | omega | decide); (first | omega | decide)) | ((with_reducible first | refine EvNe.mk ?_ ?_ | refine EvGe.mk ?_ ?_); (first | decide | omega)) | ((with_reducible refine EvLd.q HS (by repeat first | exact .h | apply Spot.t) ?_); (conv => whnf); intro hC) | (with_reducible refine EvLdN.q HS (by repeat first | exact .h | apply Spot.t) (fun hC => ?_)) | ((with_reducible refine EvSt.q HS (by repeat first | exact .h | apply Spot.t) ?_); (conv => whnf); intro hN HS1 hU; replace HS := HS1; clear HS1) | ((with_reducible refine EvKeep.cq (A := keepK _ _ (Hole _) _) HS (by repeat first | exact .h | apply Spot.t) ?_); (conv => whnf); (refine ⟨?_, ?_⟩); assumption; intro hC) | ((with_reducible refine EvKeep.nq (A := keepK _ _ (Hole _) _) HS (by repeat first | exact .h | apply Spot.t) ?_ ?_); assumption; intro hC) | ((fail_if_success with_reducible refine EvKeep.hole ?_); (with_reducible refine EvKeep.abs (fun X kK => ?_)))) <;> conv => whnf)
      · refine EvIdx.rd r.d (by simpa using hdl) (by omega) (by omega) ?_
        intro bI oI eI hI
        conv => whnf
        refine EvLd.row hI (by omega) ?_
        conv => whnf
        repeat' ((first | (with_reducible first | refine EvSeq.go ?_ | refine EvIf.tt ?_ | refine EvIf.ff ?_) | ((with_reducible refine Hole.mk (kK ?_)); clear kK) | ((with_reducible refine EvIf.mk (fun c => ?_) (fun c => ?_)) <;> (try simp only [cs_] at c) <;> (try (exfalso; first | omega | (revert c; decide)))) | ((with_reducible refine EvNew.sep HS ?_); intro bN hN HS1 hX; replace HS := HS1; clear HS1) | ((with_reducible refine EvIdx.lit ?_ ?_ ?_); (first | omega | decide); (first | omega | decide)) | ((with_reducible first | refine EvNe.mk ?_ ?_ | refine EvGe.mk ?_ ?_); (first | decide | omega)) | ((with_reducible refine EvLd.q HS (by repeat first | exact .h | apply Spot.t) ?_); (conv => whnf); intro hC) | (with_reducible refine EvLdN.q HS (by repeat first | exact .h | apply Spot.t) (fun hC => ?_)) | ((with_reducible refine EvSt.q HS (by repeat first | exact .h | apply Spot.t) ?_); (conv => whnf); intro hN HS1 hU; replace HS := HS1; clear HS1) | ((with_reducible refine EvKeep.cq (A := keepK _ _ (Hole _) _) HS (by repeat first | exact .h | apply Spot.t) ?_); (conv => whnf); (refine ⟨?_, ?_⟩); assumption; intro hC) | ((with_reducible refine EvKeep.nq (A := keepK _ _ (Hole _) _) HS (by repeat first | exact .h | apply Spot.t) ?_ ?_); assumption; intro hC) | ((fail_if_success with_reducible refine EvKeep.hole ?_); (with_reducible refine EvKeep.abs (fun X kK => ?_)))) <;> conv => whnf)
        refine ⟨k + 1, ⟨congrArg (fun z => some (Value.int .i64 z)) ((i64w _ (by omega) (by omega)).trans (by omega)), congrArg (fun z => some (Value.int .i64 z)) ?_, (by (repeat' (first | exact trivial | refine ⟨rfl, ?_⟩)))⟩, ⟨by omega, HS⟩, by omega⟩
        have := le_next bd (p := (a - 1048576).toNat) (n := (ks kd).toNat) (k := k) (by omega) (by omega) (by omega)
        rw [← this, getD_lt (by omega)]
        congr 3
        congr 1
        omega
      · have hkk : (ks kd).toNat = k := by omega
        refine ⟨?_, HS⟩
        rw [hf, hq, if_pos rfl, hkk]
        refine congrArg (fun z => Value.tuple #[.int .i64 (nar kd z).1, .int .i64 0]) ?_
        show le m.data ((a - 1048576).toNat + (k - k)) k = le (if (1 : Int) = 1 then m.data else m.stack) (a - 1048576).toNat k
        rw [if_pos rfl, Nat.sub_self, Nat.add_zero]
  · refine hc_of Try.func65 (rfl : Try.f65.body = some _) Try.ntmps65 Try.results65 Try.call65 rfl ?_; conv => whnf
    repeat' ((first | ((with_reducible refine EvCall.mk (HC.mono (sKs_c _ _) ?_)); (rintro _ _ ⟨rfl, rfl⟩)) | ((with_reducible refine EvNe.mk ?_ ?_); omega) | ((with_reducible refine EvCall.mk (HC.mono (l3Spot_v HS a _ hd hs (by omega) (by omega) a0 a1 hq) ?_)); (rintro _ _ ⟨rfl, rfl⟩)) | (with_reducible first | refine EvSeq.go ?_ | refine EvIf.tt ?_ | refine EvIf.ff ?_) | ((with_reducible refine Hole.mk (kK ?_)); clear kK) | ((with_reducible refine EvIf.mk (fun c => ?_) (fun c => ?_)) <;> (try simp only [cs_] at c) <;> (try (exfalso; first | omega | (revert c; decide)))) | ((with_reducible refine EvNew.sep HS ?_); intro bN hN HS1 hX; replace HS := HS1; clear HS1) | ((with_reducible refine EvIdx.lit ?_ ?_ ?_); (first | omega | decide); (first | omega | decide)) | ((with_reducible first | refine EvNe.mk ?_ ?_ | refine EvGe.mk ?_ ?_); (first | decide | omega)) | ((with_reducible refine EvLd.q HS (by repeat first | exact .h | apply Spot.t) ?_); (conv => whnf); intro hC) | (with_reducible refine EvLdN.q HS (by repeat first | exact .h | apply Spot.t) (fun hC => ?_)) | ((with_reducible refine EvSt.q HS (by repeat first | exact .h | apply Spot.t) ?_); (conv => whnf); intro hN HS1 hU; replace HS := HS1; clear HS1) | ((with_reducible refine EvKeep.cq (A := keepK _ _ (Hole _) _) HS (by repeat first | exact .h | apply Spot.t) ?_); (conv => whnf); (refine ⟨?_, ?_⟩); assumption; intro hC) | ((with_reducible refine EvKeep.nq (A := keepK _ _ (Hole _) _) HS (by repeat first | exact .h | apply Spot.t) ?_ ?_); assumption; intro hC) | ((fail_if_success with_reducible refine EvKeep.hole ?_); (with_reducible refine EvKeep.abs (fun X kK => ?_)))) <;> conv => whnf)
    · refine ⟨?_, HS⟩
      have hf : flt x.d.n x.s.n kd a = 3 := by unfold flt; rw [if_pos (fun e => c (ht.mpr e))]
      rw [hf]
      rfl
    · have hz : a % ks kd = 0 := ht.mp (by assumption)
      have hf : flt x.d.n x.s.n kd a = 0 := by unfold flt; rw [if_neg (fun e => e hz), hq]; rfl
      refine EvLoop.keep ([12, 13, 43, 44, 45, 46, 47, 48, 49, 50, 51, 52, 53, 54, 55, 56], 16) (α := Nat) (fun k => [(13, .int .i64 (ks kd - 1 - k)), (12, .int .i64 (le m.stack ((a - (2097152 - (x.s.n : Int))).toNat + ((ks kd).toNat - k)) k))]) (fun k h' => (k : Int) ≤ ks kd ∧ Sep h0 h' (Bx b (x.cs m) 36 :: (x.own m ++ L))) (fun k => (ks kd - k).toNat) 0 ⟨congrArg (fun z => some (Value.int .i64 z)) ((i64w _ (by omega) (by omega)).trans (by omega)), rfl, (by (repeat' (first | exact trivial | refine ⟨rfl, ?_⟩)))⟩ ⟨by omega, HS⟩ ?_
      clear HS r
      rintro k _ ⟨hk4, HS⟩
      have r := HS.tail.rdm
      conv => whnf
      have e1 : IntKind.i64.wrap ((a - (2097152 - (x.s.n : Int))) + (ks kd - 1 - (k : Int))) = (a - (2097152 - (x.s.n : Int))) + (ks kd - 1 - k) := i64w _ (by omega) (by omega)
      repeat' ((first | ((with_reducible refine EvCall.mk (HC.mono (sNar_c _ _ _) ?_)); (rintro _ _ ⟨rfl, rfl⟩)) | (with_reducible first | refine EvSeq.go ?_ | refine EvIf.tt ?_ | refine EvIf.ff ?_) | ((with_reducible refine Hole.mk (kK ?_)); clear kK) | ((with_reducible refine EvIf.mk (fun c => ?_) (fun c => ?_)) <;> (try simp only [cs_] at c) <;> (try (exfalso; first | omega | (revert c; decide)))) | ((with_reducible refine EvNew.sep HS ?_); intro bN hN HS1 hX; replace HS := HS1; clear HS1) | ((with_reducible refine EvIdx.lit ?_ ?_ ?_); (first | omega | decide); (first | omega | decide)) | ((with_reducible first | refine EvNe.mk ?_ ?_ | refine EvGe.mk ?_ ?_); (first | decide | omega)) | ((with_reducible refine EvLd.q HS (by repeat first | exact .h | apply Spot.t) ?_); (conv => whnf); intro hC) | (with_reducible refine EvLdN.q HS (by repeat first | exact .h | apply Spot.t) (fun hC => ?_)) | ((with_reducible refine EvSt.q HS (by repeat first | exact .h | apply Spot.t) ?_); (conv => whnf); intro hN HS1 hU; replace HS := HS1; clear HS1) | ((with_reducible refine EvKeep.cq (A := keepK _ _ (Hole _) _) HS (by repeat first | exact .h | apply Spot.t) ?_); (conv => whnf); (refine ⟨?_, ?_⟩); assumption; intro hC) | ((with_reducible refine EvKeep.nq (A := keepK _ _ (Hole _) _) HS (by repeat first | exact .h | apply Spot.t) ?_ ?_); assumption; intro hC) | ((fail_if_success with_reducible refine EvKeep.hole ?_); (with_reducible refine EvKeep.abs (fun X kK => ?_)))) <;> conv => whnf)
      · refine EvIdx.rd r.s (by simpa using hsl) (by omega) (by omega) ?_
        intro bI oI eI hI
        conv => whnf
        refine EvLd.row hI (by omega) ?_
        conv => whnf
        repeat' ((first | (with_reducible first | refine EvSeq.go ?_ | refine EvIf.tt ?_ | refine EvIf.ff ?_) | ((with_reducible refine Hole.mk (kK ?_)); clear kK) | ((with_reducible refine EvIf.mk (fun c => ?_) (fun c => ?_)) <;> (try simp only [cs_] at c) <;> (try (exfalso; first | omega | (revert c; decide)))) | ((with_reducible refine EvNew.sep HS ?_); intro bN hN HS1 hX; replace HS := HS1; clear HS1) | ((with_reducible refine EvIdx.lit ?_ ?_ ?_); (first | omega | decide); (first | omega | decide)) | ((with_reducible first | refine EvNe.mk ?_ ?_ | refine EvGe.mk ?_ ?_); (first | decide | omega)) | ((with_reducible refine EvLd.q HS (by repeat first | exact .h | apply Spot.t) ?_); (conv => whnf); intro hC) | (with_reducible refine EvLdN.q HS (by repeat first | exact .h | apply Spot.t) (fun hC => ?_)) | ((with_reducible refine EvSt.q HS (by repeat first | exact .h | apply Spot.t) ?_); (conv => whnf); intro hN HS1 hU; replace HS := HS1; clear HS1) | ((with_reducible refine EvKeep.cq (A := keepK _ _ (Hole _) _) HS (by repeat first | exact .h | apply Spot.t) ?_); (conv => whnf); (refine ⟨?_, ?_⟩); assumption; intro hC) | ((with_reducible refine EvKeep.nq (A := keepK _ _ (Hole _) _) HS (by repeat first | exact .h | apply Spot.t) ?_ ?_); assumption; intro hC) | ((fail_if_success with_reducible refine EvKeep.hole ?_); (with_reducible refine EvKeep.abs (fun X kK => ?_)))) <;> conv => whnf)
        refine ⟨k + 1, ⟨congrArg (fun z => some (Value.int .i64 z)) ((i64w _ (by omega) (by omega)).trans (by omega)), congrArg (fun z => some (Value.int .i64 z)) ?_, (by (repeat' (first | exact trivial | refine ⟨rfl, ?_⟩)))⟩, ⟨by omega, HS⟩, by omega⟩
        have := le_next bs (p := (a - (2097152 - (x.s.n : Int))).toNat) (n := (ks kd).toNat) (k := k) (by omega) (by omega) (by omega)
        rw [← this, getD_lt (by omega)]
        congr 3
        congr 1
        omega
      · have hkk : (ks kd).toNat = k := by omega
        refine ⟨?_, HS⟩
        rw [hf, hq, if_pos rfl, hkk]
        refine congrArg (fun z => Value.tuple #[.int .i64 (nar kd z).1, .int .i64 0]) ?_
        show le m.stack ((a - (2097152 - (x.s.n : Int))).toNat + (k - k)) k = le (if (2 : Int) = 1 then m.data else m.stack) (a - (2097152 - (x.s.n : Int))).toNat k
        rw [if_neg (by simp), Nat.sub_self, Nat.add_zero]
  · refine hc_of Try.func65 (rfl : Try.f65.body = some _) Try.ntmps65 Try.results65 Try.call65 rfl ?_; conv => whnf
    repeat' ((first | ((with_reducible refine EvCall.mk (HC.mono (sKs_c _ _) ?_)); (rintro _ _ ⟨rfl, rfl⟩)) | ((with_reducible refine EvNe.mk ?_ ?_); omega) | ((with_reducible refine EvCall.mk (HC.mono (l3Spot_v HS a _ hd hs (by omega) (by omega) a0 a1 hq) ?_)); (rintro _ _ ⟨rfl, rfl⟩)) | (with_reducible first | refine EvSeq.go ?_ | refine EvIf.tt ?_ | refine EvIf.ff ?_) | ((with_reducible refine Hole.mk (kK ?_)); clear kK) | ((with_reducible refine EvIf.mk (fun c => ?_) (fun c => ?_)) <;> (try simp only [cs_] at c) <;> (try (exfalso; first | omega | (revert c; decide)))) | ((with_reducible refine EvNew.sep HS ?_); intro bN hN HS1 hX; replace HS := HS1; clear HS1) | ((with_reducible refine EvIdx.lit ?_ ?_ ?_); (first | omega | decide); (first | omega | decide)) | ((with_reducible first | refine EvNe.mk ?_ ?_ | refine EvGe.mk ?_ ?_); (first | decide | omega)) | ((with_reducible refine EvLd.q HS (by repeat first | exact .h | apply Spot.t) ?_); (conv => whnf); intro hC) | (with_reducible refine EvLdN.q HS (by repeat first | exact .h | apply Spot.t) (fun hC => ?_)) | ((with_reducible refine EvSt.q HS (by repeat first | exact .h | apply Spot.t) ?_); (conv => whnf); intro hN HS1 hU; replace HS := HS1; clear HS1) | ((with_reducible refine EvKeep.cq (A := keepK _ _ (Hole _) _) HS (by repeat first | exact .h | apply Spot.t) ?_); (conv => whnf); (refine ⟨?_, ?_⟩); assumption; intro hC) | ((with_reducible refine EvKeep.nq (A := keepK _ _ (Hole _) _) HS (by repeat first | exact .h | apply Spot.t) ?_ ?_); assumption; intro hC) | ((fail_if_success with_reducible refine EvKeep.hole ?_); (with_reducible refine EvKeep.abs (fun X kK => ?_)))) <;> conv => whnf)
    · refine ⟨?_, HS⟩
      have hf : flt x.d.n x.s.n kd a = 3 := by unfold flt; rw [if_pos (fun e => c (ht.mpr e))]
      rw [hf]
      rfl
    · have hz : a % ks kd = 0 := ht.mp (by assumption)
      have hf : flt x.d.n x.s.n kd a = 4 := by unfold flt; rw [if_neg (fun e => e hz), hq]; rfl
      rw [hf]
      exact ⟨rfl, HS⟩
theorem nat_orsh (a b m : Nat) (ha : a < 2 ^ m) : a ||| (b * 2 ^ m) = a + b * 2 ^ m := by
  have h := Nat.shiftLeft_add_eq_or_of_lt ha b
  rw [Nat.shiftLeft_eq] at h
  rw [Nat.or_comm, ← h, Nat.add_comm]
theorem or_low (y x : Int) (k : Nat) (y0 : 0 ≤ y) (y1 : y < 256 ^ k) (x0 : 0 ≤ x) (x1 : x ≤ 255) (hk : k < 4) :
    Go.bits .or .i64 y (IntKind.i64.wrap (IntKind.i64.wrap x * 2 ^ min (IntKind.i64.wrap (8 * (k : Int))).toNat IntKind.i64.bits)) = y + 256 ^ k * x := by
  have key : ∀ (P n : Nat), P = 2 ^ n → P ≤ 16777216 → y < P → Go.bits .or .i64 y (IntKind.i64.wrap (IntKind.i64.wrap x * (P : Int))) = y + P * x := by
    intro P n hP hle hy
    obtain ⟨Y, rfl⟩ := Int.eq_ofNat_of_zero_le y0
    obtain ⟨X, rfl⟩ := Int.eq_ofNat_of_zero_le x0
    have hx : X * P ≤ 255 * 16777216 := Nat.mul_le_mul (by omega) hle
    have e : ((X : Int) * (P : Int)) = ((X * P : Nat) : Int) := by simp
    rw [i64w (X : Int) (by omega) (by omega), e, i64w _ (by omega) (by omega), or_nat Y (X * P) (by omega) (by omega), hP, nat_orsh Y X n (by rw [← hP]; omega)]
    push_cast
    rw [Int.mul_comm]
  obtain rfl | rfl | rfl | rfl : k = 0 ∨ k = 1 ∨ k = 2 ∨ k = 3 := by omega
  · exact key 1 0 rfl (by decide) (by simpa using y1)
  · exact key 256 8 rfl (by decide) (by simpa using y1)
  · exact key 65536 16 rfl (by decide) (by simpa using y1)
  · exact key 16777216 24 rfl (by decide) (by simpa using y1)
set_option maxHeartbeats 4000000 in
theorem load_c {h0 h : Hp} {L : List Asn} {x : MH} {m : Mac} {b : Nat} (HS : Sep h0 h (Bx b (x.cs m) 36 :: (x.own m ++ L))) (kd a : Int) (hd : x.d.n ≤ 65536) (hs : x.s.n ≤ 65536) (bd : Byt m.data) (bs : Byt m.stack) (a0 : -9223372036854775808 ≤ a) (a1 : a ≤ 9223372036854775807) :
    HC Try.prog 66 [.pointer (some ⟨b, 0, none⟩), .int .i64 kd, .int .i64 a] h fun v h' => v = .tuple #[.int .i64 (if ks kd = 0 then 0 else ldR m kd a), .int .i64 (fltI m.data.length m.stack.length kd a)] ∧ Sep h0 h' (Bx b (x.cs m) 36 :: (x.own m ++ L)) := by
  have r := HS.tail.rdm
  have hdl := r.dl
  have hsl := r.sl
  by_cases hf : fltI x.d.n x.s.n kd a = 0
  · have hk : ks kd ≠ 0 := by unfold fltI at hf; intro e; rw [if_pos e] at hf; cases hf
    have hn := ks_cases hk
    have hf' := hf
    unfold fltI flt at hf'
    rw [if_neg hk] at hf'
    have hz : a % ks kd = 0 := by false_or_by_contra; rename_i hc; rw [if_pos hc] at hf'; cases hf'
    rw [if_neg (fun e => e hz)] at hf'
    rw [← hdl, ← hsl] at hf
    by_cases q : 1048576 ≤ a ∧ a ≤ 1048576 + x.d.n - ks kd
    · have hq : spot x.d.n x.s.n a (ks kd) = (1, a - 1048576) := by unfold spot; rw [if_pos q]
      have hfl : flt m.data.length m.stack.length kd a = 0 := by rw [hdl, hsl]; unfold flt; rw [if_neg (fun e => e hz), hq]; rfl
      obtain ⟨q1, q2⟩ := q
      refine hc_of Try.func66 (rfl : Try.f66.body = some _) Try.ntmps66 Try.results66 Try.call66 rfl ?_; conv => whnf
      repeat' ((first | (with_reducible first | refine EvSeq.go ?_ | refine EvIf.tt ?_ | refine EvIf.ff ?_) | ((with_reducible refine Hole.mk (kK ?_)); clear kK) | ((with_reducible refine EvIf.mk (fun c => ?_) (fun c => ?_)) <;> (try simp only [cs_] at c) <;> (try (exfalso; first | omega | (revert c; decide)))) | ((with_reducible refine EvNew.sep HS ?_); intro bN hN HS1 hX; replace HS := HS1; clear HS1) | ((with_reducible refine EvIdx.lit ?_ ?_ ?_); (first | omega | decide); (first | omega | decide)) | ((with_reducible first | refine EvNe.mk ?_ ?_ | refine EvGe.mk ?_ ?_); (first | decide | omega)) | ((with_reducible refine EvLd.q HS (by repeat first | exact .h | apply Spot.t) ?_); (conv => whnf); intro hC) | (with_reducible refine EvLdN.q HS (by repeat first | exact .h | apply Spot.t) (fun hC => ?_)) | ((with_reducible refine EvSt.q HS (by repeat first | exact .h | apply Spot.t) ?_); (conv => whnf); intro hN HS1 hU; replace HS := HS1; clear HS1) | ((with_reducible refine EvKeep.cq (A := keepK _ _ (Hole _) _) HS (by repeat first | exact .h | apply Spot.t) ?_); (conv => whnf); (refine ⟨?_, ?_⟩); assumption; intro hC) | ((with_reducible refine EvKeep.nq (A := keepK _ _ (Hole _) _) HS (by repeat first | exact .h | apply Spot.t) ?_ ?_); assumption; intro hC) | ((fail_if_success with_reducible refine EvKeep.hole ?_); (with_reducible refine EvKeep.abs (fun X kK => ?_)))) <;> conv => whnf)
      refine EvCall.mk ((place_d HS kd a hd hs hk hz q1 q2).mono ?_)
      rintro _ hN ⟨⟨b', o, c', eA, rfl⟩, HS1⟩
      replace HS := HS1
      clear HS1
      conv => whnf
      repeat' ((first | (with_reducible first | refine EvSeq.go ?_ | refine EvIf.tt ?_ | refine EvIf.ff ?_) | ((with_reducible refine Hole.mk (kK ?_)); clear kK) | ((with_reducible refine EvIf.mk (fun c => ?_) (fun c => ?_)) <;> (try simp only [cs_] at c) <;> (try (exfalso; first | omega | (revert c; decide)))) | ((with_reducible refine EvNew.sep HS ?_); intro bN hN HS1 hX; replace HS := HS1; clear HS1) | ((with_reducible refine EvIdx.lit ?_ ?_ ?_); (first | omega | decide); (first | omega | decide)) | ((with_reducible first | refine EvNe.mk ?_ ?_ | refine EvGe.mk ?_ ?_); (first | decide | omega)) | ((with_reducible refine EvLd.q HS (by repeat first | exact .h | apply Spot.t) ?_); (conv => whnf); intro hC) | (with_reducible refine EvLdN.q HS (by repeat first | exact .h | apply Spot.t) (fun hC => ?_)) | ((with_reducible refine EvSt.q HS (by repeat first | exact .h | apply Spot.t) ?_); (conv => whnf); intro hN HS1 hU; replace HS := HS1; clear HS1) | ((with_reducible refine EvKeep.cq (A := keepK _ _ (Hole _) _) HS (by repeat first | exact .h | apply Spot.t) ?_); (conv => whnf); (refine ⟨?_, ?_⟩); assumption; intro hC) | ((with_reducible refine EvKeep.nq (A := keepK _ _ (Hole _) _) HS (by repeat first | exact .h | apply Spot.t) ?_ ?_); assumption; intro hC) | ((fail_if_success with_reducible refine EvKeep.hole ?_); (with_reducible refine EvKeep.abs (fun X kK => ?_)))) <;> conv => whnf)
      refine EvLoop.keep ([10, 11, 12, 25, 26, 27, 28, 29, 30, 31, 32, 33, 34, 35, 36, 37], 13) (α := Nat) (fun k => [(25, .int .i64 k), (24, .int .i64 ((ks kd).toNat : Int)), (23, .slice (some ⟨b', o + (a - 1048576).toNat, none⟩) (ks kd).toNat c'), (10, .int .i64 (le m.data (a - 1048576).toNat k))]) (fun k h' => (k : Int) ≤ ks kd ∧ Sep h0 h' (Bx b (x.cs m) 36 :: (x.own m ++ L))) (fun k => (ks kd - k).toNat) 0 (by (repeat' (first | exact trivial | refine ⟨rfl, ?_⟩))) ⟨by omega, HS⟩ ?_
      clear HS r
      rintro k _ ⟨hk4, HS⟩
      have r := HS.tail.rdm
      have e8 : IntKind.i64.wrap (8 * (k : Int)) = 8 * k := i64w _ (by omega) (by omega)
      conv => whnf
      repeat' ((first | ((with_reducible refine EvCall.mk (HC.mono (iNar_c _ _ _) ?_)); (rintro _ _ ⟨rfl, rfl⟩)) | (with_reducible first | refine EvSeq.go ?_ | refine EvIf.tt ?_ | refine EvIf.ff ?_) | ((with_reducible refine Hole.mk (kK ?_)); clear kK) | ((with_reducible refine EvIf.mk (fun c => ?_) (fun c => ?_)) <;> (try simp only [cs_] at c) <;> (try (exfalso; first | omega | (revert c; decide)))) | ((with_reducible refine EvNew.sep HS ?_); intro bN hN HS1 hX; replace HS := HS1; clear HS1) | ((with_reducible refine EvIdx.lit ?_ ?_ ?_); (first | omega | decide); (first | omega | decide)) | ((with_reducible first | refine EvNe.mk ?_ ?_ | refine EvGe.mk ?_ ?_); (first | decide | omega)) | ((with_reducible refine EvLd.q HS (by repeat first | exact .h | apply Spot.t) ?_); (conv => whnf); intro hC) | (with_reducible refine EvLdN.q HS (by repeat first | exact .h | apply Spot.t) (fun hC => ?_)) | ((with_reducible refine EvSt.q HS (by repeat first | exact .h | apply Spot.t) ?_); (conv => whnf); intro hN HS1 hU; replace HS := HS1; clear HS1) | ((with_reducible refine EvKeep.cq (A := keepK _ _ (Hole _) _) HS (by repeat first | exact .h | apply Spot.t) ?_); (conv => whnf); (refine ⟨?_, ?_⟩); assumption; intro hC) | ((with_reducible refine EvKeep.nq (A := keepK _ _ (Hole _) _) HS (by repeat first | exact .h | apply Spot.t) ?_ ?_); assumption; intro hC) | ((fail_if_success with_reducible refine EvKeep.hole ?_); (with_reducible refine EvKeep.abs (fun X kK => ?_)))) <;> conv => whnf)
      · have hlt : (a - 1048576).toNat + k < m.data.length := by omega
        have hb := bd.getD ((a - 1048576).toNat + k)
        have hy := le_range bd k (a - 1048576).toNat
        refine EvLd.at_ (v := .int .u8 (m.data.getD ((a - 1048576).toNat + k) 0)) ?_ ?_
        · obtain ⟨b2, o2, e2, h2⟩ := r.d ((a - 1048576).toNat + k) (.int .u8 (m.data.getD ((a - 1048576).toNat + k) 0)) (by rw [getD_lt hlt]; simp [hlt])
          rw [eA] at e2
          cases e2
          rw [← h2]
          congr 1
          omega
        conv => whnf
        repeat' ((first | (with_reducible first | refine EvSeq.go ?_ | refine EvIf.tt ?_ | refine EvIf.ff ?_) | ((with_reducible refine Hole.mk (kK ?_)); clear kK) | ((with_reducible refine EvIf.mk (fun c => ?_) (fun c => ?_)) <;> (try simp only [cs_] at c) <;> (try (exfalso; first | omega | (revert c; decide)))) | ((with_reducible refine EvNew.sep HS ?_); intro bN hN HS1 hX; replace HS := HS1; clear HS1) | ((with_reducible refine EvIdx.lit ?_ ?_ ?_); (first | omega | decide); (first | omega | decide)) | ((with_reducible first | refine EvNe.mk ?_ ?_ | refine EvGe.mk ?_ ?_); (first | decide | omega)) | ((with_reducible refine EvLd.q HS (by repeat first | exact .h | apply Spot.t) ?_); (conv => whnf); intro hC) | (with_reducible refine EvLdN.q HS (by repeat first | exact .h | apply Spot.t) (fun hC => ?_)) | ((with_reducible refine EvSt.q HS (by repeat first | exact .h | apply Spot.t) ?_); (conv => whnf); intro hN HS1 hU; replace HS := HS1; clear HS1) | ((with_reducible refine EvKeep.cq (A := keepK _ _ (Hole _) _) HS (by repeat first | exact .h | apply Spot.t) ?_); (conv => whnf); (refine ⟨?_, ?_⟩); assumption; intro hC) | ((with_reducible refine EvKeep.nq (A := keepK _ _ (Hole _) _) HS (by repeat first | exact .h | apply Spot.t) ?_ ?_); assumption; intro hC) | ((fail_if_success with_reducible refine EvKeep.hole ?_); (with_reducible refine EvKeep.abs (fun X kK => ?_)))) <;> conv => whnf)
        refine ⟨k + 1, ⟨congrArg (fun z => some (Value.int .i64 z)) ((i64w _ (by omega) (by omega)).trans (by omega)), rfl, rfl, congrArg (fun z => some (Value.int .i64 z)) ?_, (by (repeat' (first | exact trivial | refine ⟨rfl, ?_⟩)))⟩, ⟨by omega, HS⟩, by omega⟩
        exact (or_low _ _ k hy.1 hy.2 hb.1 hb.2 (by omega)).trans (le_top m.data k _).symm
      · have hkk : (ks kd).toNat = k := by omega
        refine ⟨?_, HS⟩
        rw [hf, if_neg hk]
        unfold ldR mflt ldW
        rw [hfl, if_pos rfl, hdl, hsl, hq, hkk]
        rfl
    · have q0 := q
      have ⟨hq, q1, q2⟩ : spot x.d.n x.s.n a (ks kd) = (2, a - (2097152 - x.s.n)) ∧ 2097152 - x.s.n ≤ a ∧ a ≤ 2097152 - ks kd := by
        unfold spot at hf' ⊢
        rw [if_neg q] at hf' ⊢
        by_cases q3 : 2097152 - (x.s.n : Int) ≤ a ∧ a ≤ 2097152 - ks kd
        · exact ⟨if_pos q3, q3.1, q3.2⟩
        · rw [if_neg q3] at hf'; cases hf'
      have hfl : flt m.data.length m.stack.length kd a = 0 := by rw [hdl, hsl]; unfold flt; rw [if_neg (fun e => e hz), hq]; rfl
      refine hc_of Try.func66 (rfl : Try.f66.body = some _) Try.ntmps66 Try.results66 Try.call66 rfl ?_; conv => whnf
      repeat' ((first | (with_reducible first | refine EvSeq.go ?_ | refine EvIf.tt ?_ | refine EvIf.ff ?_) | ((with_reducible refine Hole.mk (kK ?_)); clear kK) | ((with_reducible refine EvIf.mk (fun c => ?_) (fun c => ?_)) <;> (try simp only [cs_] at c) <;> (try (exfalso; first | omega | (revert c; decide)))) | ((with_reducible refine EvNew.sep HS ?_); intro bN hN HS1 hX; replace HS := HS1; clear HS1) | ((with_reducible refine EvIdx.lit ?_ ?_ ?_); (first | omega | decide); (first | omega | decide)) | ((with_reducible first | refine EvNe.mk ?_ ?_ | refine EvGe.mk ?_ ?_); (first | decide | omega)) | ((with_reducible refine EvLd.q HS (by repeat first | exact .h | apply Spot.t) ?_); (conv => whnf); intro hC) | (with_reducible refine EvLdN.q HS (by repeat first | exact .h | apply Spot.t) (fun hC => ?_)) | ((with_reducible refine EvSt.q HS (by repeat first | exact .h | apply Spot.t) ?_); (conv => whnf); intro hN HS1 hU; replace HS := HS1; clear HS1) | ((with_reducible refine EvKeep.cq (A := keepK _ _ (Hole _) _) HS (by repeat first | exact .h | apply Spot.t) ?_); (conv => whnf); (refine ⟨?_, ?_⟩); assumption; intro hC) | ((with_reducible refine EvKeep.nq (A := keepK _ _ (Hole _) _) HS (by repeat first | exact .h | apply Spot.t) ?_ ?_); assumption; intro hC) | ((fail_if_success with_reducible refine EvKeep.hole ?_); (with_reducible refine EvKeep.abs (fun X kK => ?_)))) <;> conv => whnf)
      refine EvCall.mk ((place_s HS kd a hd hs hk hz q0 q1 q2).mono ?_)
      rintro _ hN ⟨⟨b', o, c', eA, rfl⟩, HS1⟩
      replace HS := HS1
      clear HS1
      conv => whnf
      repeat' ((first | (with_reducible first | refine EvSeq.go ?_ | refine EvIf.tt ?_ | refine EvIf.ff ?_) | ((with_reducible refine Hole.mk (kK ?_)); clear kK) | ((with_reducible refine EvIf.mk (fun c => ?_) (fun c => ?_)) <;> (try simp only [cs_] at c) <;> (try (exfalso; first | omega | (revert c; decide)))) | ((with_reducible refine EvNew.sep HS ?_); intro bN hN HS1 hX; replace HS := HS1; clear HS1) | ((with_reducible refine EvIdx.lit ?_ ?_ ?_); (first | omega | decide); (first | omega | decide)) | ((with_reducible first | refine EvNe.mk ?_ ?_ | refine EvGe.mk ?_ ?_); (first | decide | omega)) | ((with_reducible refine EvLd.q HS (by repeat first | exact .h | apply Spot.t) ?_); (conv => whnf); intro hC) | (with_reducible refine EvLdN.q HS (by repeat first | exact .h | apply Spot.t) (fun hC => ?_)) | ((with_reducible refine EvSt.q HS (by repeat first | exact .h | apply Spot.t) ?_); (conv => whnf); intro hN HS1 hU; replace HS := HS1; clear HS1) | ((with_reducible refine EvKeep.cq (A := keepK _ _ (Hole _) _) HS (by repeat first | exact .h | apply Spot.t) ?_); (conv => whnf); (refine ⟨?_, ?_⟩); assumption; intro hC) | ((with_reducible refine EvKeep.nq (A := keepK _ _ (Hole _) _) HS (by repeat first | exact .h | apply Spot.t) ?_ ?_); assumption; intro hC) | ((fail_if_success with_reducible refine EvKeep.hole ?_); (with_reducible refine EvKeep.abs (fun X kK => ?_)))) <;> conv => whnf)
      refine EvLoop.keep ([10, 11, 12, 25, 26, 27, 28, 29, 30, 31, 32, 33, 34, 35, 36, 37], 13) (α := Nat) (fun k => [(25, .int .i64 k), (24, .int .i64 ((ks kd).toNat : Int)), (23, .slice (some ⟨b', o + (a - (2097152 - (x.s.n : Int))).toNat, none⟩) (ks kd).toNat c'), (10, .int .i64 (le m.stack (a - (2097152 - (x.s.n : Int))).toNat k))]) (fun k h' => (k : Int) ≤ ks kd ∧ Sep h0 h' (Bx b (x.cs m) 36 :: (x.own m ++ L))) (fun k => (ks kd - k).toNat) 0 (by (repeat' (first | exact trivial | refine ⟨rfl, ?_⟩))) ⟨by omega, HS⟩ ?_
      clear HS r
      rintro k _ ⟨hk4, HS⟩
      have r := HS.tail.rdm
      have e8 : IntKind.i64.wrap (8 * (k : Int)) = 8 * k := i64w _ (by omega) (by omega)
      conv => whnf
      repeat' ((first | ((with_reducible refine EvCall.mk (HC.mono (iNar_c _ _ _) ?_)); (rintro _ _ ⟨rfl, rfl⟩)) | (with_reducible first | refine EvSeq.go ?_ | refine EvIf.tt ?_ | refine EvIf.ff ?_) | ((with_reducible refine Hole.mk (kK ?_)); clear kK) | ((with_reducible refine EvIf.mk (fun c => ?_) (fun c => ?_)) <;> (try simp only [cs_] at c) <;> (try (exfalso; first | omega | (revert c; decide)))) | ((with_reducible refine EvNew.sep HS ?_); intro bN hN HS1 hX; replace HS := HS1; clear HS1) | ((with_reducible refine EvIdx.lit ?_ ?_ ?_); (first | omega | decide); (first | omega | decide)) | ((with_reducible first | refine EvNe.mk ?_ ?_ | refine EvGe.mk ?_ ?_); (first | decide | omega)) | ((with_reducible refine EvLd.q HS (by repeat first | exact .h | apply Spot.t) ?_); (conv => whnf); intro hC) | (with_reducible refine EvLdN.q HS (by repeat first | exact .h | apply Spot.t) (fun hC => ?_)) | ((with_reducible refine EvSt.q HS (by repeat first | exact .h | apply Spot.t) ?_); (conv => whnf); intro hN HS1 hU; replace HS := HS1; clear HS1) | ((with_reducible refine EvKeep.cq (A := keepK _ _ (Hole _) _) HS (by repeat first | exact .h | apply Spot.t) ?_); (conv => whnf); (refine ⟨?_, ?_⟩); assumption; intro hC) | ((with_reducible refine EvKeep.nq (A := keepK _ _ (Hole _) _) HS (by repeat first | exact .h | apply Spot.t) ?_ ?_); assumption; intro hC) | ((fail_if_success with_reducible refine EvKeep.hole ?_); (with_reducible refine EvKeep.abs (fun X kK => ?_)))) <;> conv => whnf)
      · have hlt : (a - (2097152 - (x.s.n : Int))).toNat + k < m.stack.length := by omega
        have hb := bs.getD ((a - (2097152 - (x.s.n : Int))).toNat + k)
        have hy := le_range bs k (a - (2097152 - (x.s.n : Int))).toNat
        refine EvLd.at_ (v := .int .u8 (m.stack.getD ((a - (2097152 - (x.s.n : Int))).toNat + k) 0)) ?_ ?_
        · obtain ⟨b2, o2, e2, h2⟩ := r.s ((a - (2097152 - (x.s.n : Int))).toNat + k) (.int .u8 (m.stack.getD ((a - (2097152 - (x.s.n : Int))).toNat + k) 0)) (by rw [getD_lt hlt]; simp [hlt])
          rw [eA] at e2
          cases e2
          rw [← h2]
          congr 1
          omega
        conv => whnf
        repeat' ((first | (with_reducible first | refine EvSeq.go ?_ | refine EvIf.tt ?_ | refine EvIf.ff ?_) | ((with_reducible refine Hole.mk (kK ?_)); clear kK) | ((with_reducible refine EvIf.mk (fun c => ?_) (fun c => ?_)) <;> (try simp only [cs_] at c) <;> (try (exfalso; first | omega | (revert c; decide)))) | ((with_reducible refine EvNew.sep HS ?_); intro bN hN HS1 hX; replace HS := HS1; clear HS1) | ((with_reducible refine EvIdx.lit ?_ ?_ ?_); (first | omega | decide); (first | omega | decide)) | ((with_reducible first | refine EvNe.mk ?_ ?_ | refine EvGe.mk ?_ ?_); (first | decide | omega)) | ((with_reducible refine EvLd.q HS (by repeat first | exact .h | apply Spot.t) ?_); (conv => whnf); intro hC) | (with_reducible refine EvLdN.q HS (by repeat first | exact .h | apply Spot.t) (fun hC => ?_)) | ((with_reducible refine EvSt.q HS (by repeat first | exact .h | apply Spot.t) ?_); (conv => whnf); intro hN HS1 hU; replace HS := HS1; clear HS1) | ((with_reducible refine EvKeep.cq (A := keepK _ _ (Hole _) _) HS (by repeat first | exact .h | apply Spot.t) ?_); (conv => whnf); (refine ⟨?_, ?_⟩); assumption; intro hC) | ((with_reducible refine EvKeep.nq (A := keepK _ _ (Hole _) _) HS (by repeat first | exact .h | apply Spot.t) ?_ ?_); assumption; intro hC) | ((fail_if_success with_reducible refine EvKeep.hole ?_); (with_reducible refine EvKeep.abs (fun X kK => ?_)))) <;> conv => whnf)
        refine ⟨k + 1, ⟨congrArg (fun z => some (Value.int .i64 z)) ((i64w _ (by omega) (by omega)).trans (by omega)), rfl, rfl, congrArg (fun z => some (Value.int .i64 z)) ?_, (by (repeat' (first | exact trivial | refine ⟨rfl, ?_⟩)))⟩, ⟨by omega, HS⟩, by omega⟩
        exact (or_low _ _ k hy.1 hy.2 hb.1 hb.2 (by omega)).trans (le_top m.stack k _).symm
      · have hkk : (ks kd).toNat = k := by omega
        refine ⟨?_, HS⟩
        rw [hf, if_neg hk]
        unfold ldR mflt ldW
        rw [hfl, if_pos rfl, hdl, hsl, hq, hkk]
        rfl
  · refine hc_of Try.func66 (rfl : Try.f66.body = some _) Try.ntmps66 Try.results66 Try.call66 rfl ?_; conv => whnf
    repeat' ((first | ((with_reducible refine EvCall.mk (HC.mono (place_nov HS kd a _ hd hs a0 a1 rfl hf) ?_)); (rintro _ hN ⟨rfl, HS1⟩); replace HS := HS1; clear HS1) | (with_reducible first | refine EvSeq.go ?_ | refine EvIf.tt ?_ | refine EvIf.ff ?_) | ((with_reducible refine Hole.mk (kK ?_)); clear kK) | ((with_reducible refine EvIf.mk (fun c => ?_) (fun c => ?_)) <;> (try simp only [cs_] at c) <;> (try (exfalso; first | omega | (revert c; decide)))) | ((with_reducible refine EvNew.sep HS ?_); intro bN hN HS1 hX; replace HS := HS1; clear HS1) | ((with_reducible refine EvIdx.lit ?_ ?_ ?_); (first | omega | decide); (first | omega | decide)) | ((with_reducible first | refine EvNe.mk ?_ ?_ | refine EvGe.mk ?_ ?_); (first | decide | omega)) | ((with_reducible refine EvLd.q HS (by repeat first | exact .h | apply Spot.t) ?_); (conv => whnf); intro hC) | (with_reducible refine EvLdN.q HS (by repeat first | exact .h | apply Spot.t) (fun hC => ?_)) | ((with_reducible refine EvSt.q HS (by repeat first | exact .h | apply Spot.t) ?_); (conv => whnf); intro hN HS1 hU; replace HS := HS1; clear HS1) | ((with_reducible refine EvKeep.cq (A := keepK _ _ (Hole _) _) HS (by repeat first | exact .h | apply Spot.t) ?_); (conv => whnf); (refine ⟨?_, ?_⟩); assumption; intro hC) | ((with_reducible refine EvKeep.nq (A := keepK _ _ (Hole _) _) HS (by repeat first | exact .h | apply Spot.t) ?_ ?_); assumption; intro hC) | ((fail_if_success with_reducible refine EvKeep.hole ?_); (with_reducible refine EvKeep.abs (fun X kK => ?_)))) <;> conv => whnf)
    refine ⟨?_, HS⟩
    rw [hdl, hsl]
    refine congrArg (fun z => Value.tuple #[.int .i64 z, .int .i64 (fltI x.d.n x.s.n kd a)]) ?_
    by_cases hk : ks kd = 0
    · rw [if_pos hk]
    · rw [if_neg hk]
      unfold ldR mflt
      rw [hdl, hsl, if_neg]
      intro e
      apply hf
      unfold fltI
      rw [if_neg hk, e]
end Go.Proofs.Ythndggachjdkfaa
