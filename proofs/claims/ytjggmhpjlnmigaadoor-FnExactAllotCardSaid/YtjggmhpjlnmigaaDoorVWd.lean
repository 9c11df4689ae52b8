/- Live registers: the program's words, and what a step reads and sets. -/
import Derived.Test.YtjggmhpjlnmigaaDoorVPl3
import Derived.Test.YtjggmhpjlnmigaaDoorVLv
import Derived.Test.YtjggmhpjlnmigaaDoorVRb
import Derived.Test.YtjggmhpjlnmigaaDoorVBt
import Derived.Laws.BitsAllLaws
namespace Go.Proofs.YtjggmhpjlnmigaaDoor
open Go.RowKit
set_option maxRecDepth 20000
set_option linter.unusedSimpArgs false
set_option linter.unusedVariables false
theorem Sep.all {h0 h : Hp} {L : List Asn} (s : Sep h0 h L) : Sep h0 h [All L] := Sep.fold L (by rw [List.append_nil]; exact s)
set_option maxHeartbeats 2000000 in
theorem iUses_c {h : Hp} {x : Ii} {rg m : Int} (ox : IiOk h x) (hi : iok rg m x = true) : HC Tryd.prog 42 [.agg x.cells.toArray] h fun v h' => ∃ A n c L UM, v = .tuple #[.slice A n c, .int .i64 (st x)] ∧ L.length = n ∧ n ≤ 10 ∧ (∀ h0 h2 M, IiOk h0 x → Sep h0 h2 (All UM :: M) → Rd h2 A (ints .i64 L)) ∧ (∀ r, r ∈ L ↔ r ∈ us x) ∧ Sep h h' [All UM] := by
  obtain ⟨h1, h2, h3, h4, h5, h6, h7, h8⟩ := iok_yes hi
  have hf := fld_tab x.op h1
  have hl := ox.l
  have hA : fld x.op / 4 % 4 = 1 → 0 ≤ x.a := fun e => by
    rw [e] at h3
    have := rok_yes h3 (by decide)
    omega
  have hL : fld x.op < 128 → x.l = [] := fun e => List.eq_nil_of_length_eq_zero (by omega)
  have hc : (x.op = 1 ∧ fld x.op = 33) ∨ (x.op = 2 ∧ fld x.op = 5) ∨ (x.op = 3 ∧ fld x.op = 53) ∨ (x.op = 4 ∧ fld x.op = 37) ∨ (x.op = 5 ∧ fld x.op = 37) ∨ (x.op = 6 ∧ fld x.op = 52) ∨ (x.op = 7 ∧ fld x.op = 97) ∨ (x.op = 8 ∧ fld x.op = 33) ∨ (x.op = 9 ∧ fld x.op = 194) ∨ (x.op = 10 ∧ fld x.op = 134) ∨ (x.op = 11 ∧ fld x.op = 32) ∨ (x.op = 12 ∧ fld x.op = 32) ∨ (x.op = 13 ∧ fld x.op = 116) ∨ (x.op = 14 ∧ fld x.op = 8) ∨ (x.op = 15 ∧ fld x.op = 52) ∨ (x.op = 16 ∧ fld x.op = 36) := by
    have hc : x.op = 1 ∨ x.op = 2 ∨ x.op = 3 ∨ x.op = 4 ∨ x.op = 5 ∨ x.op = 6 ∨ x.op = 7 ∨ x.op = 8 ∨ x.op = 9 ∨ x.op = 10 ∨ x.op = 11 ∨ x.op = 12 ∨ x.op = 13 ∨ x.op = 14 ∨ x.op = 15 ∨ x.op = 16 := by omega
    rw [hf]
    rcases hc with e | e | e | e | e | e | e | e | e | e | e | e | e | e | e | e <;> simp [e]
  refine hc_of Tryd.func42 (rfl : Tryd.f42.body = some _) Tryd.ntmps42 Tryd.results42 Tryd.call42 rfl ?_; have HS := Sep.nil h; conv => whnf
  refine EvNew.sep HS ?_
  intro bx gbx HS1 xbx
  replace HS := HS1
  clear HS1
  conv => whnf
  rcases hc with ⟨e, hk⟩ | ⟨e, hk⟩ | ⟨e, hk⟩ | ⟨e, hk⟩ | ⟨e, hk⟩ | ⟨e, hk⟩ | ⟨e, hk⟩ | ⟨e, hk⟩ | ⟨e, hk⟩ | ⟨e, hk⟩ | ⟨e, hk⟩ | ⟨e, hk⟩ | ⟨e, hk⟩ | ⟨e, hk⟩ | ⟨e, hk⟩ | ⟨e, hk⟩
  all_goals
    have es : st x = if fld x.op % 4 = 0 then -1 else x.d := rfl
    rw [hk] at hA hL es
    simp only [Int.reduceMod, Int.reduceEq, if_true, if_false] at es
    repeat' ((first | ((with_reducible refine EvDraw.ord (id := 5) (.go 0 (.go 1 (.go 2 (.go 3 .done)))) fol ?_ ?_ ?_); kernel_rfl; kernel_rfl) | ((with_reducible refine EvDraw.ord (id := 9) (.go 0 (.go 1 (.go 3 (.go 4 (.alt 2 (.go 5 (.go 6 .done)) .stop))))) fol ?_ ?_ ?_); kernel_rfl; kernel_rfl) | ((with_reducible refine EvDraw.ord (id := 11) (.go 0 (.go 1 (.go 2 (.go 3 (.go 5 (.go 6 (.alt 4 (.go 7 (.go 8 .done)) .stop))))))) fol ?_ ?_ ?_); kernel_rfl; kernel_rfl) | ((with_reducible refine EvDraw.ord (id := 19) (.go 0 (.go 1 (.go 2 (.go 3 (.go 4 (.go 5 .done)))))) fol ?_ ?_ ?_); kernel_rfl; kernel_rfl) | ((with_reducible refine EvDraw.ord (id := 21) (.go 0 (.go 1 (.go 3 (.go 4 (.go 6 (.go 7 (.alt 2 (.alt 5 (.go 8 (.go 9 .done)) .stop) .stop))))))) fol ?_ ?_ ?_); kernel_rfl; kernel_rfl) | (with_reducible first | refine EvSeq.go ?_ | refine EvIf.tt ?_ | refine EvIf.ff ?_) | ((with_reducible refine Hole.mk (kK ?_)); clear kK) | ((with_reducible refine EvIf.mk (fun c => ?_) (fun c => ?_)) <;> (try simp only [cs_] at c) <;> (try (exfalso; first | omega | (revert c; decide)))) | ((with_reducible refine EvNew.sep HS ?_); intro bN hN HS1 hX; replace HS := HS1; clear HS1) | ((with_reducible refine EvLd.q HS (by repeat first | exact .h | apply Spot.t) ?_); (conv => whnf); intro hC) | ((with_reducible refine EvKeep.cq (A := keepK _ _ (Hole _) _) HS (by repeat first | exact .h | apply Spot.t) ?_); (conv => whnf); (refine ⟨?_, ?_⟩); assumption; intro hC) | ((fail_if_success with_reducible refine EvKeep.hole ?_); (with_reducible refine EvKeep.abs (fun X kK => ?_)))) <;> conv => whnf)
    try
      (have HS2 := HS.row (vs := [.int .i64 x.a]) (rest := []) (n := 1) (c := 1) rfl rfl
       clear HS
       have HS := HS2
       clear HS2
       refine EvApp.sli HS 0 rfl (ox.r.ext HS.to_ext) (by simpa using hl) (by simp [Value.oneCell']) (by omega) (by omega) ?_
       intro A2 c2 h2 HS2
       clear HS
       have HS := HS2
       clear HS2
       dsimp only [List.eraseIdx] at HS
       conv => whnf
       repeat' ((first | ((with_reducible refine Hole.mk (kK ?_)); clear kK) | ((with_reducible refine EvKeep.cq (A := keepK _ _ (Hole _) _) HS (by repeat first | exact .h | apply Spot.t) ?_); (conv => whnf); (refine ⟨?_, ?_⟩); assumption; intro hC) | ((fail_if_success with_reducible refine EvKeep.hole ?_); (with_reducible refine EvKeep.abs (fun X kK => ?_)))) <;> conv => whnf)
       skip)
    all_goals
      first
        | exact ⟨none, 0, _, [], _, congrArg (fun z => Value.tuple #[_, .int .i64 z]) es.symm, rfl, by omega, fun _ _ _ _ _ => Rd.nil _ _, fun r => by first | (simp [us, hk, hL]; done) | (simp [us, hk, hL]; intro h9; omega), HS.all⟩
        | exact ⟨_, _, _, [x.a], _, congrArg (fun z => Value.tuple #[_, .int .i64 z]) es.symm, rfl, by omega, fun _ _ _ _ s => Rd.of_blk (s.unfold.pt_i 0 rfl), fun r => by first | (simp [us, hk, hL, hA]; done) | (simp [us, hk, hL, c]; done), HS.all⟩
        | exact ⟨_, _, _, [x.a, x.b], _, congrArg (fun z => Value.tuple #[_, .int .i64 z]) es.symm, rfl, by omega, fun _ _ _ _ s => Rd.of_blk (s.unfold.pt_i 0 rfl), fun r => by simp [us, hk, hL, hA], HS.all⟩
        | exact ⟨_, _, _, x.l, _, congrArg (fun z => Value.tuple #[_, .int .i64 z]) es.symm, hl, by omega, fun _ _ _ o s => o.r.ext s.to_ext, fun r => by simp [us, hk], HS.all⟩
        | exact ⟨_, _, _, x.a :: x.l, _, congrArg (fun z => Value.tuple #[_, .int .i64 z]) es.symm, (by rw [List.length_cons, hl, Nat.add_comm]), by omega, fun _ _ _ _ s => s.unfold.rd 0 rfl, fun r => by simp [us, hk, hA, or_comm], HS.all⟩
/-- the library's table, as it is laid -/
def gDb : Nat := 2
structure GB (h : Hp) : Prop where
  t : ∀ j, j < 64 → hcell h gDb j = some (.int .u8 (Lib.deBruijn64tab.getD j 0))
theorem GB.ext {h h' : Hp} (e : Ext h h') (g : GB h) : GB h' := ⟨fun j hj => e.cell (g.t j hj)⟩
abbrev eW (w : Nat) : Value := .int .u64 (w : Int)
theorem tz_c {h : Hp} (g : GB h) {w : Nat} (h0 : w ≠ 0) (hw : w < 18446744073709551616) : HC Tryd.prog 67 [eW w] h fun v h' => v = .int .i64 (Lib.ctz 64 w : Nat) ∧ h' = h := by
  obtain ⟨hlow, hk⟩ := Lib.lowest_bit 64 w h0 hw
  obtain ⟨hi, htab⟩ := Lib.deBruijn64_at _ hk
  obtain ⟨pw, hpw⟩ : ∃ pw, 2 ^ Lib.ctz 64 w = pw := ⟨_, rfl⟩
  rw [hpw] at hi htab hlow
  have e1 : IntKind.u64.wrap (0 - (w : Int)) = ((18446744073709551616 - w : Nat) : Int) := by rw [IntKind.wrap_u64]; omega
  have key : IntKind.u64.wrap (Go.bits .and .u64 (w : Int) (IntKind.u64.wrap (0 - (w : Int))) * 285870213051353865) / 288230376151711744 = ((pw * 285870213051353865 % 18446744073709551616 / 288230376151711744 : Nat) : Int) := by
    rw [e1, u64_and_nat w _ hw (by omega), show w &&& (18446744073709551616 - w) = pw from hlow, IntKind.wrap_u64]
    clear hpw htab hi hk hlow e1
    omega
  obtain ⟨q, hq⟩ : ∃ q : Nat, pw * 285870213051353865 % 18446744073709551616 / 288230376151711744 = q := ⟨_, rfl⟩
  rw [hq] at key hi htab
  have hcell0 := g.t q hi
  rw [htab] at hcell0
  unfold gDb at hcell0
  refine hc_of Tryd.func67 (rfl : Tryd.f67.body = some _) Tryd.ntmps67 Tryd.results67 Tryd.call67 rfl ?_; have HS := Sep.nil h; conv => whnf
  repeat' ((first | (with_reducible first | refine EvSeq.go ?_ | refine EvIf.tt ?_ | refine EvIf.ff ?_) | ((with_reducible refine EvIf.mk (fun c => ?_) (fun c => ?_)) <;> (try simp only [cs_] at c) <;> (try (exfalso; first | omega | (revert c; decide)))) | ((with_reducible first | refine EvNe.mk ?_ ?_ | refine EvGe.mk ?_ ?_); (first | decide | omega))) <;> conv => whnf)
  have e3 : (2 : Int) ^ min (Int.toNat 58) IntKind.u64.bits = 288230376151711744 := by decide
  rw [e3, key]
  refine EvBnd.mk (by omega) (by omega) ?_
  conv => whnf
  repeat' (((refine EvLd.at_ (v := .int .u8 (Lib.ctz 64 w : Nat)) (by rw [Int.toNat_natCast, Nat.zero_add, Nat.mul_one]; exact hcell0) ?_)) <;> conv => whnf)
  refine ⟨?_, rfl⟩
  exact congrArg _ (i64w _ (by omega) (by omega))
theorem eqW_c {h : Hp} {A B : Option Addr} {n m c d : Nat} {W V : List Nat} (r : Rd h A (W.map eW)) (hl : W.length = n) (r' : Rd h B (V.map eW)) (hl' : V.length = m) (hn : n ≤ 1000000) (hm : m ≤ 1000000) : HC Tryd.prog 66 [.slice A n c, .slice B m d] h fun v h' => v = .bool (decide (W = V)) ∧ h' = h := by
  refine hc_of Tryd.func66 (rfl : Tryd.f66.body = some _) Tryd.ntmps66 Tryd.results66 Tryd.call66 rfl ?_; have HS := Sep.nil h; conv => whnf
  repeat' ((first | (with_reducible first | refine EvSeq.go ?_ | refine EvIf.tt ?_ | refine EvIf.ff ?_) | ((with_reducible refine EvIf.mk (fun c => ?_) (fun c => ?_)) <;> (try simp only [cs_] at c) <;> (try (exfalso; first | omega | (revert c; decide))))) <;> conv => whnf)
  · refine ⟨congrArg Value.bool ?_, rfl⟩
    rw [eq_comm, decide_eq_false_iff_not]
    intro e
    subst e
    omega
  · refine EvLoop.keep ([4, 5, 13, 14, 15, 16, 17, 18, 19, 20, 21, 22, 23, 24, 25], 6) (α := Nat) (fun k => [(13, .int .i64 k), (12, .int .i64 n)]) (fun k h' => h' = h ∧ k ≤ n ∧ W.take k = V.take k) (fun k => n - k) 0 (by (repeat' (first | exact trivial | refine ⟨rfl, ?_⟩))) ⟨rfl, Nat.zero_le _, by simp⟩ ?_
    rintro k _ ⟨rfl, hk, ht⟩
    conv => whnf
    obtain hlt | hge := Nat.lt_or_ge k n
    · obtain ⟨x, hxk⟩ : ∃ x, W[k]? = some x := ⟨_, List.getElem?_eq_getElem (by omega)⟩
      obtain ⟨y, hyk⟩ : ∃ y, V[k]? = some y := ⟨_, List.getElem?_eq_getElem (by omega)⟩
      have hv : (W.map eW)[((k : Int)).toNat]? = some (eW x) := by simp [hxk]
      have hv' : (V.map eW)[((k : Int)).toNat]? = some (eW y) := by simp [hyk]
      repeat' ((first | ((with_reducible refine EvDraw.ord (id := 6) (.go 0 (.go 1 (.go 2 (.go 3 (.go 4 (.go 5 (.go 6 (.go 7 (.go 8 .done))))))))) fol ?_ ?_ ?_); kernel_rfl; kernel_rfl) | ((with_reducible refine EvIdx.rd r (by simpa using hl) (by omega) (by omega) ?_); intro bI oI eI hI) | ((with_reducible refine EvLd.rowv (by assumption) hv ?_)) | ((with_reducible refine EvIdx.rd r' (by simpa using hl') (by omega) (by omega) ?_); intro bI oI eI hI) | ((with_reducible refine EvLd.rowv (by assumption) hv' ?_)) | (with_reducible first | refine EvSeq.go ?_ | refine EvIf.tt ?_ | refine EvIf.ff ?_) | ((with_reducible refine EvIf.mk (fun c => ?_) (fun c => ?_)) <;> (try simp only [cs_] at c) <;> (try (exfalso; first | omega | (revert c; decide))))) <;> conv => whnf)
      · refine ⟨congrArg Value.bool ?_, rfl⟩
        rw [eq_comm, decide_eq_false_iff_not]
        intro e
        subst e
        rw [hxk] at hyk
        cases hyk
        omega
      · refine ⟨k + 1, ⟨congrArg (fun z => some (Value.int .i64 z)) ((i64w _ (by omega) (by omega)).trans (by omega)), (by (repeat' (first | exact trivial | refine ⟨rfl, ?_⟩)))⟩, ⟨rfl, by omega, ?_⟩, by omega⟩
        have : x = y := by omega
        rw [List.take_add_one, List.take_add_one, ht, hxk, hyk, this]
    · repeat' ((first | (with_reducible first | refine EvSeq.go ?_ | refine EvIf.tt ?_ | refine EvIf.ff ?_) | ((with_reducible refine EvIf.mk (fun c => ?_) (fun c => ?_)) <;> (try simp only [cs_] at c) <;> (try (exfalso; first | omega | (revert c; decide))))) <;> conv => whnf)
      rw [List.take_of_length_le (by omega), List.take_of_length_le (by omega)] at ht
      exact ⟨congrArg Value.bool (decide_eq_true ht).symm, rfl⟩
theorem Sep.mem_rd {h0 h : Hp} {L : List Asn} (s : Sep h0 h L) (i : Nat) {T : TypeId} {A : Option Addr} {n c : Nat} {W : List Nat} (hi : L[i]? = some (Sl T A n c (W.map eW))) : W.length = n := by
  have := (s.len i hi).1
  simpa using this
theorem members_c {h : Hp} (gb : GB h) {A : Option Addr} {n ca : Nat} {W : List Nat} (r : Rd h A (W.map eW)) (hl : W.length = n) (b : B64 W) (hn : n ≤ 100) : HC Tryd.prog 34 [.slice A n ca] h fun v h' => ∃ A' m c', v = .slice A' m c' ∧ m ≤ 64 * n ∧
    Sep h h' [Sl 3 A' m c' (ints .i64 (mkd (bt W) (64 * n)))] := by
  refine hc_of Tryd.func34 (rfl : Tryd.f34.body = some _) Tryd.ntmps34 Tryd.results34 Tryd.call34 rfl ?_; have HS := Sep.nil h; conv => whnf
  have HS0 := HS.triv 3 none
  clear HS
  repeat' ((with_reducible first | refine EvSeq.go ?_ | refine EvIf.tt ?_ | refine EvIf.ff ?_) <;> conv => whnf)
  refine EvLoop.keep ([3, 4, 5, 8, 9, 10, 11, 12, 13, 14, 15, 16, 17, 18, 19, 20, 21, 22, 23, 24, 25, 26, 27], 6) (α := Nat × Option Addr × Nat × Nat) (fun (k, B, m, d) => [(8, .int .i64 k), (7, .int .i64 n), (6, .slice A n ca), (3, .slice B m d)]) (fun (k, B, m, d) h' => k ≤ n ∧ m ≤ 64 * k ∧ Sep h h' [Sl 3 B m d (ints .i64 (mkd (bt W) (64 * k)))]) (fun (k, _, _, _) => n - k) (0, none, 0, 0) (by (repeat' (first | exact trivial | refine ⟨rfl, ?_⟩))) ⟨Nat.zero_le _, Nat.le_refl _, HS0⟩ ?_
  clear HS0
  rintro ⟨k, B, m, d⟩ h1 ⟨hk, hm, HS⟩
  conv => whnf
  obtain hlt | hge := Nat.lt_or_ge k n
  · obtain ⟨w, hwk⟩ : ∃ w, W[k]? = some w := ⟨_, List.getElem?_eq_getElem (by omega)⟩
    have hv : (W.map eW)[((k : Int)).toNat]? = some (eW w) := by simp [hwk]
    have hw64 := b.at_ hwk
    repeat' ((first | ((with_reducible refine EvIdx.rd (r.ext HS.to_ext) (by simpa using hl) (by omega) (by omega) ?_); intro bI oI eI hI) | ((with_reducible refine EvLd.rowv (by assumption) hv ?_)) | (with_reducible first | refine EvSeq.go ?_ | refine EvIf.tt ?_ | refine EvIf.ff ?_) | ((with_reducible refine EvIf.mk (fun c => ?_) (fun c => ?_)) <;> (try simp only [cs_] at c) <;> (try (exfalso; first | omega | (revert c; decide))))) <;> conv => whnf)
    refine EvLoop.keep ([3, 5, 13, 14, 15, 16, 17, 18, 19, 20, 21, 22, 23, 24, 25, 26], 6) (α := Nat × Option Addr × Nat × Nat × List Nat) (fun (u, B, m, d, _) => [(5, eW u), (3, .slice B m d), (8, .int .i64 k), (7, .int .i64 n), (6, .slice A n ca)])
      (fun (u, B, m, d, l) h' => u < 18446744073709551616 ∧ (List.range 64).filter w.testBit = l ++ (List.range 64).filter u.testBit ∧ m ≤ 64 * k + l.length ∧
        Sep h h' [Sl 3 B m d (ints .i64 (mkd (bt W) (64 * k) ++ l.map (fun t : Nat => 64 * (k : Int) + (t : Int))))])
      (fun (u, _) => u) (w, B, m, d, []) (by (repeat' (first | exact trivial | refine ⟨rfl, ?_⟩))) ⟨hw64, rfl, hm, by simpa using HS⟩ ?_
    clear HS
    rintro ⟨u, B2, m2, d2, l⟩ h2 ⟨hu, hfl, hm2, HS⟩
    have hlen : l.length + ((List.range 64).filter u.testBit).length ≤ 64 := by
      rw [← List.length_append, ← hfl]
      refine Nat.le_trans (List.length_filter_le _ _) ?_
      simp
    have hll := (HS.len 0 rfl).1
    conv => whnf
    obtain h0 | h0 := Nat.eq_zero_or_pos u
    · subst h0
      repeat' ((first | (with_reducible first | refine EvSeq.go ?_ | refine EvIf.tt ?_ | refine EvIf.ff ?_) | ((with_reducible refine EvIf.mk (fun c => ?_) (fun c => ?_)) <;> (try simp only [cs_] at c) <;> (try (exfalso; first | omega | (revert c; decide))))) <;> conv => whnf)
      have hf0 : (List.range 64).filter (Nat.testBit 0) = [] := List.filter_eq_nil_iff.mpr (fun i _ => by simp)
      rw [hf0, List.append_nil] at hfl
      refine ⟨(k + 1, B2, m2, d2), ⟨congrArg (fun z => some (Value.int .i64 z)) ((i64w _ (by omega) (by omega)).trans (by omega)), (by (repeat' (first | exact trivial | refine ⟨rfl, ?_⟩)))⟩, ⟨by omega, by omega, ?_⟩, by show n - (k + 1) < n - k; omega⟩
      rw [mkd_words W hwk, hfl]
      exact HS
    · have ws := word_step (Nat.pos_iff_ne_zero.mp h0) hu
      repeat' ((first | (with_reducible first | refine EvSeq.go ?_ | refine EvIf.tt ?_ | refine EvIf.ff ?_) | ((with_reducible refine EvIf.mk (fun c => ?_) (fun c => ?_)) <;> (try simp only [cs_] at c) <;> (try (exfalso; first | omega | (revert c; decide))))) <;> conv => whnf)
      refine EvCall.mk ((tz_c (gb.ext HS.to_ext) (Nat.pos_iff_ne_zero.mp h0) hu).mono ?_)
      rintro _ _ ⟨rfl, rfl⟩
      conv => whnf
      repeat' ((first | ((first | refine EvApp.sli HS 1 rfl (Rd.of_blk (HS.pt_i 0 rfl)) rfl (by simp [Value.oneCell']) (by omega) (by omega) ?_ | refine EvApp.sli HS 2 rfl (Rd.of_blk (HS.pt_i 0 rfl)) rfl (by simp [Value.oneCell']) (by omega) (by omega) ?_ | refine EvApp.sli HS 3 rfl (Rd.of_blk (HS.pt_i 0 rfl)) rfl (by simp [Value.oneCell']) (by omega) (by omega) ?_ | refine EvApp.sli HS 4 rfl (Rd.of_blk (HS.pt_i 0 rfl)) rfl (by simp [Value.oneCell']) (by omega) (by omega) ?_ | refine EvApp.sli HS 5 rfl (Rd.of_blk (HS.pt_i 0 rfl)) rfl (by simp [Value.oneCell']) (by omega) (by omega) ?_ | refine EvApp.sli HS 6 rfl (Rd.of_blk (HS.pt_i 0 rfl)) rfl (by simp [Value.oneCell']) (by omega) (by omega) ?_ | refine EvApp.sli HS 7 rfl (Rd.of_blk (HS.pt_i 0 rfl)) rfl (by simp [Value.oneCell']) (by omega) (by omega) ?_ | refine EvApp.sli HS 8 rfl (Rd.of_blk (HS.pt_i 0 rfl)) rfl (by simp [Value.oneCell']) (by omega) (by omega) ?_); intro AP cP hP HSP; replace HS := HSP; clear HSP; dsimp only [List.eraseIdx] at HS) | ((with_reducible refine EvNew.sep HS ?_); intro bN hN HS1 hX; replace HS := HS1; clear HS1)) <;> conv => whnf)
      have e1 : IntKind.u64.wrap ((u : Int) - 1) = ((u - 1 : Nat) : Int) := by rw [IntKind.wrap_u64]; omega
      have e2 : IntKind.i64.wrap (IntKind.i64.wrap (64 * (k : Int)) + (Lib.ctz 64 u : Nat)) = 64 * (k : Int) + (Lib.ctz 64 u : Nat) := by
        have e0 : IntKind.i64.wrap (64 * (k : Int)) = 64 * (k : Int) := i64w _ (by omega) (by omega)
        rw [e0, i64w _ (by omega) (by omega)]
      refine ⟨(u &&& (u - 1), _, _, _, l ++ [Lib.ctz 64 u]), ⟨congrArg (fun z => some (Value.int .u64 z)) ?_, rfl, (by (repeat' (first | exact trivial | refine ⟨rfl, ?_⟩)))⟩, ⟨by omega, ?_, ?_, ?_⟩, ws.2.1⟩
      · show Go.bits .and .u64 _ _ = _
        rw [e1, u64_and_nat u _ hu (by omega)]
      · rw [hfl, ws.2.2, List.append_assoc]
        rfl
      · rw [List.length_append]
        show m2 + 1 ≤ _
        simp only [List.length_singleton]
        omega
      · have e3 : ints .i64 (mkd (bt W) (64 * k) ++ (l ++ [Lib.ctz 64 u]).map (fun t : Nat => 64 * (k : Int) + (t : Int))) = ints .i64 (mkd (bt W) (64 * k) ++ l.map (fun t : Nat => 64 * (k : Int) + (t : Int))) ++ [.int .i64 (64 * (k : Int) + (Lib.ctz 64 u : Nat))] := by simp
        rw [e3]
        rw [e2] at HS
        exact HS.take [_]
  · repeat' ((first | (with_reducible first | refine EvSeq.go ?_ | refine EvIf.tt ?_ | refine EvIf.ff ?_) | ((with_reducible refine EvIf.mk (fun c => ?_) (fun c => ?_)) <;> (try simp only [cs_] at c) <;> (try (exfalso; first | omega | (revert c; decide))))) <;> conv => whnf)
    obtain rfl : k = n := by omega
    exact ⟨_, _, _, rfl, hm, HS⟩
end Go.Proofs.YtjggmhpjlnmigaaDoor
