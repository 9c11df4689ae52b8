/- Live registers: the reference, its small functions. -/
import Derived.Test.YtjggmhpjlnmigaaDoorVLv
import Derived.Test.YtjggmhpjlnmigaaDoorVRb
namespace Go.Proofs.YtjggmhpjlnmigaaDoor
open Go.RowKit
set_option maxRecDepth 20000
set_option linter.unusedSimpArgs false
set_option linter.unusedVariables false
theorem sets_c {x : Ii} (h1 : 1 ≤ x.op ∧ x.op ≤ 16) (h : Hp) : HC Tryd.prog 59 [.agg x.cells.toArray] h fun v h' => v = .int .i64 (st x) ∧ Ext h h' := by
  have hf := fld_r x.op
  refine hc_of Tryd.func59 (rfl : Tryd.f59.body = some _) Tryd.ntmps59 Tryd.results59 Tryd.call59 rfl ?_; have HS := Sep.nil h; conv => whnf
  repeat' ((first | ((with_reducible refine EvCall.mk (HC.mono (fld_c _ (by omega) (by omega) _) ?_)); (rintro _ hN ⟨rfl, hX⟩); replace HS := HS.ext hX) | (with_reducible first | refine EvSeq.go ?_ | refine EvIf.tt ?_ | refine EvIf.ff ?_) | ((with_reducible refine Hole.mk (kK ?_)); clear kK) | ((with_reducible refine EvIf.mk (fun c => ?_) (fun c => ?_)) <;> (try simp only [cs_] at c) <;> (try (exfalso; first | omega | (revert c; decide)))) | ((with_reducible refine EvNew.sep HS ?_); intro bN hN HS1 hX; replace HS := HS1; clear HS1) | ((with_reducible refine EvIdx.lit ?_ ?_ ?_); (first | omega | decide); (first | omega | decide)) | ((with_reducible first | refine EvNe.mk ?_ ?_ | refine EvGe.mk ?_ ?_); (first | decide | omega)) | ((with_reducible refine EvLd.q HS (by repeat first | exact .h | apply Spot.t) ?_); (conv => whnf); intro hC) | (with_reducible refine EvLdN.q HS (by repeat first | exact .h | apply Spot.t) (fun hC => ?_)) | ((with_reducible refine EvSt.q HS (by repeat first | exact .h | apply Spot.t) ?_); (conv => whnf); intro hN HS1 hU; replace HS := HS1; clear HS1) | ((with_reducible refine EvKeep.cq (A := keepK _ _ (Hole _) _) HS (by repeat first | exact .h | apply Spot.t) ?_); (conv => whnf); (refine ⟨?_, ?_⟩); assumption; intro hC) | ((with_reducible refine EvKeep.nq (A := keepK _ _ (Hole _) _) HS (by repeat first | exact .h | apply Spot.t) ?_ ?_); assumption; intro hC) | ((fail_if_success with_reducible refine EvKeep.hole ?_); (with_reducible refine EvKeep.abs (fun X kK => ?_)))) <;> conv => whnf)
  · refine ⟨?_, HS.to_ext⟩
    rw [tmod_pos hf.1] at c
    unfold st
    rw [if_pos c]
  · refine ⟨?_, HS.to_ext⟩
    rw [tmod_pos hf.1] at c
    unfold st
    rw [if_neg c]
theorem uses_c {h : Hp} {x : Ii} (ox : IiOk h x) (h1 : 1 ≤ x.op ∧ x.op ≤ 16) (h8 : x.l.length ≤ 8) : HC Tryd.prog 58 [.agg x.cells.toArray] h fun v h' => ∃ A c, v = .slice A (us x).length c ∧ Sep h h' [Sl 3 A (us x).length c (ints .i64 (us x))] := by
  have hf := fld_r x.op
  have hl := ox.l
  have a4 : (IntKind.i64.wrap ((fld x.op).tdiv 4)).tmod 4 = fld x.op / 4 % 4 := by rw [tdiv_pos hf.1, i64w _ (by omega) (by omega), tmod_pos (by omega)]
  have b2 : (IntKind.i64.wrap ((fld x.op).tdiv 16)).tmod 2 = fld x.op / 16 % 2 := by rw [tdiv_pos hf.1, i64w _ (by omega) (by omega), tmod_pos (by omega)]
  refine hc_of Tryd.func58 (rfl : Tryd.f58.body = some _) Tryd.ntmps58 Tryd.results58 Tryd.call58 rfl ?_; have HS := Sep.nil h; conv => whnf
  refine EvNew.sep HS ?_
  intro bx gbx HS1 xbx
  replace HS := HS1
  clear HS1
  conv => whnf
  repeat' ((first | ((with_reducible refine EvCall.mk (HC.mono (fld_c _ (by omega) (by omega) _) ?_)); (rintro _ hN ⟨rfl, hX⟩); replace HS := HS.ext hX) | ((refine EvCall.mk (HC.mono (l3Ints_c (ox.r.ext HS.to_ext) ox.l ox.b) ?_)); (rintro _ hN ⟨AN, cN, rfl, HS1⟩); replace HS := HS.join1 HS1; clear HS1) | ((first | refine EvApp.sli HS 1 rfl (Rd.of_blk (HS.pt_i 0 rfl)) rfl (by simp [Value.oneCell']) (by omega) (by omega) ?_ | refine EvApp.sli HS 2 rfl (Rd.of_blk (HS.pt_i 0 rfl)) rfl (by simp [Value.oneCell']) (by omega) (by omega) ?_ | refine EvApp.sli HS 3 rfl (Rd.of_blk (HS.pt_i 0 rfl)) rfl (by simp [Value.oneCell']) (by omega) (by omega) ?_ | refine EvApp.sli HS 4 rfl (Rd.of_blk (HS.pt_i 0 rfl)) rfl (by simp [Value.oneCell']) (by omega) (by omega) ?_ | refine EvApp.sli HS 5 rfl (Rd.of_blk (HS.pt_i 0 rfl)) rfl (by simp [Value.oneCell']) (by omega) (by omega) ?_ | refine EvApp.sli HS 6 rfl (Rd.of_blk (HS.pt_i 0 rfl)) rfl (by simp [Value.oneCell']) (by omega) (by omega) ?_ | refine EvApp.sli HS 7 rfl (Rd.of_blk (HS.pt_i 0 rfl)) rfl (by simp [Value.oneCell']) (by omega) (by omega) ?_ | refine EvApp.sli HS 8 rfl (Rd.of_blk (HS.pt_i 0 rfl)) rfl (by simp [Value.oneCell']) (by omega) (by omega) ?_); intro AP cP hP HSP; replace HS := HSP; clear HSP; dsimp only [List.eraseIdx] at HS) | (with_reducible first | refine EvSeq.go ?_ | refine EvIf.tt ?_ | refine EvIf.ff ?_) | ((with_reducible refine Hole.mk (kK ?_)); clear kK) | ((with_reducible refine EvIf.mk (fun c => ?_) (fun c => ?_)) <;> (try simp only [cs_] at c) <;> (try (exfalso; first | omega | (revert c; decide)))) | ((with_reducible refine EvNew.sep HS ?_); intro bN hN HS1 hX; replace HS := HS1; clear HS1) | ((with_reducible refine EvIdx.lit ?_ ?_ ?_); (first | omega | decide); (first | omega | decide)) | ((with_reducible first | refine EvNe.mk ?_ ?_ | refine EvGe.mk ?_ ?_); (first | decide | omega)) | ((with_reducible refine EvLd.q HS (by repeat first | exact .h | apply Spot.t) ?_); (conv => whnf); intro hC) | (with_reducible refine EvLdN.q HS (by repeat first | exact .h | apply Spot.t) (fun hC => ?_)) | ((with_reducible refine EvSt.q HS (by repeat first | exact .h | apply Spot.t) ?_); (conv => whnf); intro hN HS1 hU; replace HS := HS1; clear HS1) | ((with_reducible refine EvKeep.cq (A := keepK _ _ (Hole _) _) HS (by repeat first | exact .h | apply Spot.t) ?_); (conv => whnf); (refine ⟨?_, ?_⟩); assumption; intro hC) | ((with_reducible refine EvKeep.nq (A := keepK _ _ (Hole _) _) HS (by repeat first | exact .h | apply Spot.t) ?_ ?_); assumption; intro hC) | ((fail_if_success with_reducible refine EvKeep.hole ?_); (with_reducible refine EvKeep.abs (fun X kK => ?_)))) <;> conv => whnf)
  all_goals
    first
      | (have e : us x = x.l ++ ([x.a] ++ [x.b]) := by
           unfold us
           rw [if_pos (by omega), if_pos (by omega)]
         rw [e]
         refine ⟨_, _, by rw [List.length_append, hl]; rfl, ?_⟩
         have e2 : ints .i64 (x.l ++ ([x.a] ++ [x.b])) = ints .i64 x.l ++ [.int .i64 x.a] ++ [.int .i64 x.b] := by simp
         rw [e2, List.length_append, hl]
         exact HS.take [_])
      | (have e : us x = x.l ++ ([x.a] ++ []) := by
           unfold us
           rw [if_pos (by omega), if_neg (by omega)]
         rw [e]
         refine ⟨_, _, by rw [List.length_append, hl]; rfl, ?_⟩
         have e2 : ints .i64 (x.l ++ ([x.a] ++ [])) = ints .i64 x.l ++ [.int .i64 x.a] := by simp
         rw [e2, List.length_append, hl]
         exact HS.take [_])
      | (have e : us x = x.l ++ ([] ++ [x.b]) := by
           unfold us
           rw [if_neg (by omega), if_pos (by omega)]
         rw [e]
         refine ⟨_, _, by rw [List.length_append, hl]; rfl, ?_⟩
         have e2 : ints .i64 (x.l ++ ([] ++ [x.b])) = ints .i64 x.l ++ [.int .i64 x.b] := by simp
         rw [e2, List.length_append, hl]
         exact HS.take [_])
      | (have e : us x = x.l ++ ([] ++ []) := by
           unfold us
           rw [if_neg (by omega), if_neg (by omega)]
         rw [e]
         refine ⟨_, _, by rw [List.length_append, hl]; rfl, ?_⟩
         have e2 : ints .i64 (x.l ++ ([] ++ [])) = ints .i64 x.l := by simp
         rw [e2, List.length_append, hl]
         exact HS.take [_])
theorem next_c {h : Hp} {f : Fu} (o : FuOk h f) (hn : f.cl.length ≤ 8000) {i : Nat} {x : Ii} (hx : f.cl[i]? = some x) : HC Tryd.prog 57 [f.v, .int .i64 i] h fun v h' => ∃ b, v = .slice (some ⟨b, 0, none⟩) (nx f.cl i x).length (nx f.cl i x).length ∧ Sep h h' [Bx b (ints .i64 (nx f.cl i x)) 3] := by
  have hlt := (List.getElem?_eq_some_iff.mp hx).1
  have hxl := o.c.l
  refine hc_of Tryd.func57 (rfl : Tryd.f57.body = some _) Tryd.ntmps57 Tryd.results57 Tryd.call57 rfl ?_; have HS := Sep.nil h; conv => whnf
  refine EvNew.sep HS ?_
  intro bf gbf HS1 xbf
  replace HS := HS1
  clear HS1
  conv => whnf
  repeat' ((first | ((with_reducible refine EvIdx.el Ii.len (by decide) (o.c.r.ext HS.to_ext) hxl (by omega) (by omega) ?_); intro bI oI z eI hz hI; have hzx : x = z := Option.some.inj (hx.symm.trans hz); subst hzx) | ((with_reducible refine EvLdN.el hI (Ii.len _) ?_)) | ((refine EvCall.mk (HC.mono (lab_c (o.ext HS.to_ext) _) ?_)); rintro _ hN ⟨rfl, hX⟩; replace HS := HS.ext hX) | (with_reducible first | refine EvSeq.go ?_ | refine EvIf.tt ?_ | refine EvIf.ff ?_) | ((with_reducible refine Hole.mk (kK ?_)); clear kK) | ((with_reducible refine EvIf.mk (fun c => ?_) (fun c => ?_)) <;> (try simp only [cs_] at c) <;> (try (exfalso; first | omega | (revert c; decide)))) | ((with_reducible refine EvNew.sep HS ?_); intro bN hN HS1 hX; replace HS := HS1; clear HS1) | ((with_reducible refine EvIdx.lit ?_ ?_ ?_); (first | omega | decide); (first | omega | decide)) | ((with_reducible first | refine EvNe.mk ?_ ?_ | refine EvGe.mk ?_ ?_); (first | decide | omega)) | ((with_reducible refine EvLd.q HS (by repeat first | exact .h | apply Spot.t) ?_); (conv => whnf); intro hC) | (with_reducible refine EvLdN.q HS (by repeat first | exact .h | apply Spot.t) (fun hC => ?_)) | ((with_reducible refine EvSt.q HS (by repeat first | exact .h | apply Spot.t) ?_); (conv => whnf); intro hN HS1 hU; replace HS := HS1; clear HS1) | ((with_reducible refine EvKeep.cq (A := keepK _ _ (Hole _) _) HS (by repeat first | exact .h | apply Spot.t) ?_); (conv => whnf); (refine ⟨?_, ?_⟩); assumption; intro hC) | ((with_reducible refine EvKeep.nq (A := keepK _ _ (Hole _) _) HS (by repeat first | exact .h | apply Spot.t) ?_ ?_); assumption; intro hC) | ((fail_if_success with_reducible refine EvKeep.hole ?_); (with_reducible refine EvKeep.abs (fun X kK => ?_)))) <;> conv => whnf)
  · have e : nx f.cl i x = [] := by
      unfold nx
      rw [if_pos c]
    rw [e]
    exact ⟨_, rfl, HS.take [_]⟩
  · have e : nx f.cl i x = [lab f.cl x.n] := by
      unfold nx
      rw [if_neg (by omega), if_pos c]
    rw [e]
    exact ⟨_, rfl, HS.take [_]⟩
  · have e : nx f.cl i x = [IntKind.i64.wrap ((i : Int) + 1), lab f.cl x.n] := by
      unfold nx
      rw [if_neg (by omega), if_neg (by omega), if_pos c, i64w _ (by omega) (by omega)]
    rw [e]
    exact ⟨_, rfl, HS.take [_]⟩
  · have e : nx f.cl i x = [IntKind.i64.wrap ((i : Int) + 1)] := by
      unfold nx
      rw [if_neg (by omega), if_neg (by omega), if_neg c, i64w _ (by omega) (by omega)]
    rw [e]
    exact ⟨_, rfl, HS.take [_]⟩
def mkd (p : Nat → Bool) (n : Nat) : List Int := ((List.range n).filter p).map Int.ofNat
theorem mkd_succ (p : Nat → Bool) (n : Nat) : mkd p (n + 1) = if p n then mkd p n ++ [(n : Int)] else mkd p n := by
  unfold mkd
  rw [List.range_succ, List.filter_append, List.map_append]
  cases hp : p n <;> simp [hp]
theorem smarked_c {h : Hp} {A : Option Addr} {n c : Nat} {bl : List Bool} (r : Rd h A (bl.map .bool)) (hl : bl.length = n) (hn : n ≤ 1000000) : HC Tryd.prog 29 [.slice A n c] h fun v h' => ∃ A' m c', v = .slice A' m c' ∧ m ≤ n ∧
    Sep h h' [Sl 3 A' m c' (ints .i64 (mkd (fun i => bl[i]? == some true) n))] := by
  refine hc_of Tryd.func29 (rfl : Tryd.f29.body = some _) Tryd.ntmps29 Tryd.results29 Tryd.call29 rfl ?_; have HS := Sep.nil h; conv => whnf
  repeat' ((first | (with_reducible first | refine EvSeq.go ?_ | refine EvIf.tt ?_ | refine EvIf.ff ?_) | ((with_reducible refine Hole.mk (kK ?_)); clear kK) | ((with_reducible refine EvIf.mk (fun c => ?_) (fun c => ?_)) <;> (try simp only [cs_] at c) <;> (try (exfalso; first | omega | (revert c; decide)))) | ((with_reducible refine EvNew.sep HS ?_); intro bN hN HS1 hX; replace HS := HS1; clear HS1) | ((with_reducible refine EvIdx.lit ?_ ?_ ?_); (first | omega | decide); (first | omega | decide)) | ((with_reducible first | refine EvNe.mk ?_ ?_ | refine EvGe.mk ?_ ?_); (first | decide | omega)) | ((with_reducible refine EvLd.q HS (by repeat first | exact .h | apply Spot.t) ?_); (conv => whnf); intro hC) | (with_reducible refine EvLdN.q HS (by repeat first | exact .h | apply Spot.t) (fun hC => ?_)) | ((with_reducible refine EvSt.q HS (by repeat first | exact .h | apply Spot.t) ?_); (conv => whnf); intro hN HS1 hU; replace HS := HS1; clear HS1) | ((with_reducible refine EvKeep.cq (A := keepK _ _ (Hole _) _) HS (by repeat first | exact .h | apply Spot.t) ?_); (conv => whnf); (refine ⟨?_, ?_⟩); assumption; intro hC) | ((with_reducible refine EvKeep.nq (A := keepK _ _ (Hole _) _) HS (by repeat first | exact .h | apply Spot.t) ?_ ?_); assumption; intro hC) | ((fail_if_success with_reducible refine EvKeep.hole ?_); (with_reducible refine EvKeep.abs (fun X kK => ?_)))) <;> conv => whnf)
  have HS0 := HS.row (vs := []) (rest := []) (n := 0) (c := 0) rfl rfl
  clear HS
  refine EvLoop.keep ([3, 4, 6, 7, 8, 9, 10, 11, 12, 13, 14, 15, 16, 17, 18, 19], 5) (α := Nat × Option Addr × Nat × Nat) (fun (k, B, m, d) => [(4, .int .i64 k), (3, .slice B m d)]) (fun (k, B, m, d) h' => k ≤ n ∧ m ≤ k ∧ Sep h h' [Sl 3 B m d (ints .i64 (mkd (fun i => bl[i]? == some true) k))]) (fun (k, _, _, _) => n - k) (0, _, 0, 0) (by (repeat' (first | exact trivial | refine ⟨rfl, ?_⟩))) ⟨Nat.zero_le _, Nat.le_refl _, HS0⟩ ?_
  clear HS0
  rintro ⟨k, B, m, d⟩ h1 ⟨hk, hm, HS⟩
  conv => whnf
  obtain hlt | hge := Nat.lt_or_ge k n
  · obtain ⟨t, htk⟩ : ∃ t, bl[k]? = some t := ⟨_, List.getElem?_eq_getElem (by omega)⟩
    have hv : (bl.map Value.bool)[((k : Int)).toNat]? = some (.bool t) := by simp [htk]
    repeat' ((first | ((with_reducible refine EvIdx.rd (r.ext HS.to_ext) (by simpa using hl) (by omega) (by omega) ?_); intro bI oI eI hI) | ((with_reducible refine EvLd.rowv (by assumption) hv ?_)) | ((first | refine EvApp.sli HS 1 rfl (Rd.of_blk (HS.pt_i 0 rfl)) rfl (by simp [Value.oneCell']) (by omega) (by omega) ?_ | refine EvApp.sli HS 2 rfl (Rd.of_blk (HS.pt_i 0 rfl)) rfl (by simp [Value.oneCell']) (by omega) (by omega) ?_ | refine EvApp.sli HS 3 rfl (Rd.of_blk (HS.pt_i 0 rfl)) rfl (by simp [Value.oneCell']) (by omega) (by omega) ?_ | refine EvApp.sli HS 4 rfl (Rd.of_blk (HS.pt_i 0 rfl)) rfl (by simp [Value.oneCell']) (by omega) (by omega) ?_ | refine EvApp.sli HS 5 rfl (Rd.of_blk (HS.pt_i 0 rfl)) rfl (by simp [Value.oneCell']) (by omega) (by omega) ?_ | refine EvApp.sli HS 6 rfl (Rd.of_blk (HS.pt_i 0 rfl)) rfl (by simp [Value.oneCell']) (by omega) (by omega) ?_ | refine EvApp.sli HS 7 rfl (Rd.of_blk (HS.pt_i 0 rfl)) rfl (by simp [Value.oneCell']) (by omega) (by omega) ?_ | refine EvApp.sli HS 8 rfl (Rd.of_blk (HS.pt_i 0 rfl)) rfl (by simp [Value.oneCell']) (by omega) (by omega) ?_); intro AP cP hP HSP; replace HS := HSP; clear HSP; dsimp only [List.eraseIdx] at HS) | (with_reducible first | refine EvSeq.go ?_ | refine EvIf.tt ?_ | refine EvIf.ff ?_) | ((with_reducible refine Hole.mk (kK ?_)); clear kK) | ((with_reducible refine EvIf.mk (fun c => ?_) (fun c => ?_)) <;> (try simp only [cs_] at c) <;> (try (exfalso; first | omega | (revert c; decide)))) | ((with_reducible refine EvNew.sep HS ?_); intro bN hN HS1 hX; replace HS := HS1; clear HS1) | ((with_reducible refine EvIdx.lit ?_ ?_ ?_); (first | omega | decide); (first | omega | decide)) | ((with_reducible first | refine EvNe.mk ?_ ?_ | refine EvGe.mk ?_ ?_); (first | decide | omega)) | ((with_reducible refine EvLd.q HS (by repeat first | exact .h | apply Spot.t) ?_); (conv => whnf); intro hC) | (with_reducible refine EvLdN.q HS (by repeat first | exact .h | apply Spot.t) (fun hC => ?_)) | ((with_reducible refine EvSt.q HS (by repeat first | exact .h | apply Spot.t) ?_); (conv => whnf); intro hN HS1 hU; replace HS := HS1; clear HS1) | ((with_reducible refine EvKeep.cq (A := keepK _ _ (Hole _) _) HS (by repeat first | exact .h | apply Spot.t) ?_); (conv => whnf); (refine ⟨?_, ?_⟩); assumption; intro hC) | ((with_reducible refine EvKeep.nq (A := keepK _ _ (Hole _) _) HS (by repeat first | exact .h | apply Spot.t) ?_ ?_); assumption; intro hC) | ((fail_if_success with_reducible refine EvKeep.hole ?_); (with_reducible refine EvKeep.abs (fun X kK => ?_)))) <;> conv => whnf)
    all_goals
      refine ⟨(k + 1, _, _, _), ⟨congrArg (fun z => some (Value.int .i64 z)) ((i64w _ (by omega) (by omega)).trans (by omega)), rfl, (by (repeat' (first | exact trivial | refine ⟨rfl, ?_⟩)))⟩, ⟨by omega, ?_, ?_⟩, by show n - (k + 1) < n - k; omega⟩
    · show m + 1 ≤ k + 1
      omega
    · show Sep _ _ _
      rw [mkd_succ, if_pos (by rw [htk, c]; rfl)]
      have e2 : ints .i64 (mkd (fun i => bl[i]? == some true) k ++ [(k : Int)]) = ints .i64 (mkd (fun i => bl[i]? == some true) k) ++ [.int .i64 (k : Int)] := by simp
      rw [e2]
      exact HS.take [_]
    · show m ≤ k + 1
      omega
    · show Sep _ _ _
      rw [mkd_succ, if_neg (by rw [htk, c]; decide)]
      exact HS.take [_]
  · repeat' ((first | (with_reducible first | refine EvSeq.go ?_ | refine EvIf.tt ?_ | refine EvIf.ff ?_) | ((with_reducible refine Hole.mk (kK ?_)); clear kK) | ((with_reducible refine EvIf.mk (fun c => ?_) (fun c => ?_)) <;> (try simp only [cs_] at c) <;> (try (exfalso; first | omega | (revert c; decide)))) | ((with_reducible refine EvNew.sep HS ?_); intro bN hN HS1 hX; replace HS := HS1; clear HS1) | ((with_reducible refine EvIdx.lit ?_ ?_ ?_); (first | omega | decide); (first | omega | decide)) | ((with_reducible first | refine EvNe.mk ?_ ?_ | refine EvGe.mk ?_ ?_); (first | decide | omega)) | ((with_reducible refine EvLd.q HS (by repeat first | exact .h | apply Spot.t) ?_); (conv => whnf); intro hC) | (with_reducible refine EvLdN.q HS (by repeat first | exact .h | apply Spot.t) (fun hC => ?_)) | ((with_reducible refine EvSt.q HS (by repeat first | exact .h | apply Spot.t) ?_); (conv => whnf); intro hN HS1 hU; replace HS := HS1; clear HS1) | ((with_reducible refine EvKeep.cq (A := keepK _ _ (Hole _) _) HS (by repeat first | exact .h | apply Spot.t) ?_); (conv => whnf); (refine ⟨?_, ?_⟩); assumption; intro hC) | ((with_reducible refine EvKeep.nq (A := keepK _ _ (Hole _) _) HS (by repeat first | exact .h | apply Spot.t) ?_ ?_); assumption; intro hC) | ((fail_if_success with_reducible refine EvKeep.hole ?_); (with_reducible refine EvKeep.abs (fun X kK => ?_)))) <;> conv => whnf)
    obtain rfl : k = n := by omega
    exact ⟨_, _, _, rfl, hm, HS⟩
end Go.Proofs.YtjggmhpjlnmigaaDoor
