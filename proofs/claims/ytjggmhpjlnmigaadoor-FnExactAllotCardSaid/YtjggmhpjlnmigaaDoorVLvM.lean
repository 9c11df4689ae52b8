/- Live registers: the reference, its small functions. -/
import Derived.Test.YtjggmhpjlnmigaaDoorVLv
import Derived.Test.YtjggmhpjlnmigaaDoorVRb
import Derived.Test.YtjggmhpjlnmigaaDoorVLive0
namespace Go.Proofs.YtjggmhpjlnmigaaDoor
open Go.RowKit
set_option maxRecDepth 20000
set_option linter.unusedSimpArgs false
set_option linter.unusedVariables false
theorem sets_c {x : Ii} (h1 : 1 ≤ x.op ∧ x.op ≤ 16) (h : Hp) : HC Tryd.prog 59 [.agg x.cells.toArray] h fun v h' => v = .int .i64 (st x) ∧ Ext h h' := by
  have hf := fld_r x.op
  refine hc_of Tryd.func59 (rfl : Tryd.f59.body = some _) Tryd.ntmps59 Tryd.results59 Tryd.call59 rfl ?_; have HS := Sep.nil h; conv => whnf
  repeat' ((first | ((with_reducible refine EvCall.mk (HC.mono (fld_c _ (by omega) (by omega) _) ?_)); (rintro _ hN ⟨rfl, hX⟩); replace HS := HS.ext hX) | (with_reducible first | refine EvSeq.go ?_ | refine EvIf.tt ?_ | refine EvIf.ff ?_) | ((with_reducible refine EvIf.mk (fun c => ?_) (fun c => ?_)) <;> (try simp only [cs_] at c) <;> (try (exfalso; first | omega | (revert c; decide)))) | ((with_reducible refine EvNew.sep HS ?_); intro bN hN HS1 hX; replace HS := HS1; clear HS1) | ((with_reducible first | refine EvNe.mk ?_ ?_ | refine EvGe.mk ?_ ?_); (first | decide | omega)) | ((with_reducible refine EvLd.q HS (by repeat first | exact .h | apply Spot.t) ?_); (conv => whnf); intro hC)) <;> conv => whnf)
  · refine ⟨?_, HS.to_ext⟩
    rw [tmod_pos hf.1] at c
    unfold st
    rw [if_pos c]
  · refine ⟨?_, HS.to_ext⟩
    rw [tmod_pos hf.1] at c
    unfold st
    rw [if_neg c]
theorem uses_c {h : Hp} {x : Ii} (ox : IiOk h x) (h1 : 1 ≤ x.op ∧ x.op ≤ 16) (h8 : x.l.length ≤ 8) : HC Tryd.prog 58 [.agg x.cells.toArray] h fun v h' => ∃ A c, v = .slice A (us x).length c ∧ Sep h h' [Sl 3 A (us x).length c (ints .i64 (us x))] := by
  have hf := fld_r x.op
  have hl := ox.l
  have a4 : (IntKind.i64.wrap ((fld x.op).tdiv 4)).tmod 4 = fld x.op / 4 % 4 := by rw [tdiv_pos hf.1, i64w _ (by omega) (by omega), tmod_pos (by omega)]
  have b2 : (IntKind.i64.wrap ((fld x.op).tdiv 16)).tmod 2 = fld x.op / 16 % 2 := by rw [tdiv_pos hf.1, i64w _ (by omega) (by omega), tmod_pos (by omega)]
  refine hc_of Tryd.func58 (rfl : Tryd.f58.body = some _) Tryd.ntmps58 Tryd.results58 Tryd.call58 rfl ?_; have HS := Sep.nil h; conv => whnf
  refine EvNew.sep HS ?_
  intro bx gbx HS1 xbx
  replace HS := HS1
  clear HS1
  conv => whnf
  repeat' ((first | ((with_reducible refine EvCall.mk (HC.mono (fld_c _ (by omega) (by omega) _) ?_)); (rintro _ hN ⟨rfl, hX⟩); replace HS := HS.ext hX) | ((refine EvCall.mk (HC.mono (l3Ints_c (ox.r.ext HS.to_ext) ox.l ox.b) ?_)); (rintro _ hN ⟨AN, cN, rfl, HS1⟩); replace HS := HS.join1 HS1; clear HS1) | ((first | refine EvApp.sli HS 1 rfl (Rd.of_blk (HS.pt_i 0 rfl)) rfl (by simp [Value.oneCell']) (by omega) (by omega) ?_ | refine EvApp.sli HS 2 rfl (Rd.of_blk (HS.pt_i 0 rfl)) rfl (by simp [Value.oneCell']) (by omega) (by omega) ?_ | refine EvApp.sli HS 3 rfl (Rd.of_blk (HS.pt_i 0 rfl)) rfl (by simp [Value.oneCell']) (by omega) (by omega) ?_ | refine EvApp.sli HS 4 rfl (Rd.of_blk (HS.pt_i 0 rfl)) rfl (by simp [Value.oneCell']) (by omega) (by omega) ?_ | refine EvApp.sli HS 5 rfl (Rd.of_blk (HS.pt_i 0 rfl)) rfl (by simp [Value.oneCell']) (by omega) (by omega) ?_ | refine EvApp.sli HS 6 rfl (Rd.of_blk (HS.pt_i 0 rfl)) rfl (by simp [Value.oneCell']) (by omega) (by omega) ?_ | refine EvApp.sli HS 7 rfl (Rd.of_blk (HS.pt_i 0 rfl)) rfl (by simp [Value.oneCell']) (by omega) (by omega) ?_ | refine EvApp.sli HS 8 rfl (Rd.of_blk (HS.pt_i 0 rfl)) rfl (by simp [Value.oneCell']) (by omega) (by omega) ?_); intro AP cP hP HSP; replace HS := HSP; clear HSP; dsimp only [List.eraseIdx] at HS) | (with_reducible first | refine EvSeq.go ?_ | refine EvIf.tt ?_ | refine EvIf.ff ?_) | ((with_reducible refine EvIf.mk (fun c => ?_) (fun c => ?_)) <;> (try simp only [cs_] at c) <;> (try (exfalso; first | omega | (revert c; decide)))) | ((with_reducible refine EvNew.sep HS ?_); intro bN hN HS1 hX; replace HS := HS1; clear HS1) | ((with_reducible first | refine EvNe.mk ?_ ?_ | refine EvGe.mk ?_ ?_); (first | decide | omega)) | ((with_reducible refine EvLd.q HS (by repeat first | exact .h | apply Spot.t) ?_); (conv => whnf); intro hC)) <;> conv => whnf)
  all_goals
    first
      | (have e : us x = x.l ++ ([x.a] ++ [x.b]) := by
           unfold us
           rw [if_pos (by omega), if_pos (by omega)]
         rw [e]
         refine ⟨_, _, by rw [List.length_append, hl]; rfl, ?_⟩
         have e2 : ints .i64 (x.l ++ ([x.a] ++ [x.b])) = ints .i64 x.l ++ [.int .i64 x.a] ++ [.int .i64 x.b] := by simp
         rw [e2, List.length_append, hl]
         exact HS.take [_])
      | (have e : us x = x.l ++ ([x.a] ++ []) := by
           unfold us
           rw [if_pos (by omega), if_neg (by omega)]
         rw [e]
         refine ⟨_, _, by rw [List.length_append, hl]; rfl, ?_⟩
         have e2 : ints .i64 (x.l ++ ([x.a] ++ [])) = ints .i64 x.l ++ [.int .i64 x.a] := by simp
         rw [e2, List.length_append, hl]
         exact HS.take [_])
      | (have e : us x = x.l ++ ([] ++ [x.b]) := by
           unfold us
           rw [if_neg (by omega), if_pos (by omega)]
         rw [e]
         refine ⟨_, _, by rw [List.length_append, hl]; rfl, ?_⟩
         have e2 : ints .i64 (x.l ++ ([] ++ [x.b])) = ints .i64 x.l ++ [.int .i64 x.b] := by simp
         rw [e2, List.length_append, hl]
         exact HS.take [_])
      | (have e : us x = x.l ++ ([] ++ []) := by
           unfold us
           rw [if_neg (by omega), if_neg (by omega)]
         rw [e]
         refine ⟨_, _, by rw [List.length_append, hl]; rfl, ?_⟩
         have e2 : ints .i64 (x.l ++ ([] ++ [])) = ints .i64 x.l := by simp
         rw [e2, List.length_append, hl]
         exact HS.take [_])
theorem next_c {h : Hp} {f : Fu} (o : FuOk h f) (hn : f.cl.length ≤ 8000) {i : Nat} {x : Ii} (hx : f.cl[i]? = some x) : HC Tryd.prog 57 [f.v, .int .i64 i] h fun v h' => ∃ b, v = .slice (some ⟨b, 0, none⟩) (nx f.cl i x).length (nx f.cl i x).length ∧ Sep h h' [Bx b (ints .i64 (nx f.cl i x)) 3] := by
  have hlt := (List.getElem?_eq_some_iff.mp hx).1
  have hxl := o.c.l
  refine hc_of Tryd.func57 (rfl : Tryd.f57.body = some _) Tryd.ntmps57 Tryd.results57 Tryd.call57 rfl ?_; have HS := Sep.nil h; conv => whnf
  refine EvNew.sep HS ?_
  intro bf gbf HS1 xbf
  replace HS := HS1
  clear HS1
  conv => whnf
  repeat' ((first | ((with_reducible refine EvIdx.el Ii.len (by decide) (o.c.r.ext HS.to_ext) hxl (by omega) (by omega) ?_); intro bI oI z eI hz hI; have hzx : x = z := Option.some.inj (hx.symm.trans hz); subst hzx) | ((with_reducible refine EvLdN.el hI (Ii.len _) ?_)) | ((refine EvCall.mk (HC.mono (lab_c (o.ext HS.to_ext) _) ?_)); rintro _ hN ⟨rfl, hX⟩; replace HS := HS.ext hX) | (with_reducible first | refine EvSeq.go ?_ | refine EvIf.tt ?_ | refine EvIf.ff ?_) | ((with_reducible refine EvIf.mk (fun c => ?_) (fun c => ?_)) <;> (try simp only [cs_] at c) <;> (try (exfalso; first | omega | (revert c; decide)))) | ((with_reducible refine EvNew.sep HS ?_); intro bN hN HS1 hX; replace HS := HS1; clear HS1) | ((with_reducible refine EvLd.q HS (by repeat first | exact .h | apply Spot.t) ?_); (conv => whnf); intro hC) | (with_reducible refine EvLdN.q HS (by repeat first | exact .h | apply Spot.t) (fun hC => ?_)) | ((with_reducible refine EvSt.q HS (by repeat first | exact .h | apply Spot.t) ?_); (conv => whnf); intro hN HS1 hU; replace HS := HS1; clear HS1)) <;> conv => whnf)
  · have e : nx f.cl i x = [] := by
      unfold nx
      rw [if_pos c]
    rw [e]
    exact ⟨_, rfl, HS.take [_]⟩
  · have e : nx f.cl i x = [lab f.cl x.n] := by
      unfold nx
      rw [if_neg (by omega), if_pos c]
    rw [e]
    exact ⟨_, rfl, HS.take [_]⟩
  · have e : nx f.cl i x = [IntKind.i64.wrap ((i : Int) + 1), lab f.cl x.n] := by
      unfold nx
      rw [if_neg (by omega), if_neg (by omega), if_pos c, i64w _ (by omega) (by omega)]
    rw [e]
    exact ⟨_, rfl, HS.take [_]⟩
  · have e : nx f.cl i x = [IntKind.i64.wrap ((i : Int) + 1)] := by
      unfold nx
      rw [if_neg (by omega), if_neg (by omega), if_neg c, i64w _ (by omega) (by omega)]
    rw [e]
    exact ⟨_, rfl, HS.take [_]⟩
def mkd (p : Nat → Bool) (n : Nat) : List Int := ((List.range n).filter p).map Int.ofNat
theorem mkd_succ (p : Nat → Bool) (n : Nat) : mkd p (n + 1) = if p n then mkd p n ++ [(n : Int)] else mkd p n := by
  unfold mkd
  rw [List.range_succ, List.filter_append, List.map_append]
  cases hp : p n <;> simp [hp]
theorem smarked_c {h : Hp} {A : Option Addr} {n c : Nat} {bl : List Bool} (r : Rd h A (bl.map .bool)) (hl : bl.length = n) (hn : n ≤ 1000000) : HC Tryd.prog 29 [.slice A n c] h fun v h' => ∃ A' m c', v = .slice A' m c' ∧ m ≤ n ∧
    Sep h h' [Sl 3 A' m c' (ints .i64 (mkd (fun i => bl[i]? == some true) n))] := by
  refine hc_of Tryd.func29 (rfl : Tryd.f29.body = some _) Tryd.ntmps29 Tryd.results29 Tryd.call29 rfl ?_; have HS := Sep.nil h; conv => whnf
  repeat' ((first | (with_reducible first | refine EvSeq.go ?_ | refine EvIf.tt ?_ | refine EvIf.ff ?_) | ((with_reducible refine EvNew.sep HS ?_); intro bN hN HS1 hX; replace HS := HS1; clear HS1)) <;> conv => whnf)
  have HS0 := HS.row (vs := []) (rest := []) (n := 0) (c := 0) rfl rfl
  clear HS
  refine EvLoop.keep ([3, 4, 6, 7, 8, 9, 10, 11, 12, 13, 14, 15, 16, 17, 18, 19], 5) (α := Nat × Option Addr × Nat × Nat) (fun (k, B, m, d) => [(4, .int .i64 k), (3, .slice B m d)]) (fun (k, B, m, d) h' => k ≤ n ∧ m ≤ k ∧ Sep h h' [Sl 3 B m d (ints .i64 (mkd (fun i => bl[i]? == some true) k))]) (fun (k, _, _, _) => n - k) (0, _, 0, 0) (by (repeat' (first | exact trivial | refine ⟨rfl, ?_⟩))) ⟨Nat.zero_le _, Nat.le_refl _, HS0⟩ ?_
  clear HS0
  rintro ⟨k, B, m, d⟩ h1 ⟨hk, hm, HS⟩
  conv => whnf
  obtain hlt | hge := Nat.lt_or_ge k n
  · obtain ⟨t, htk⟩ : ∃ t, bl[k]? = some t := ⟨_, List.getElem?_eq_getElem (by omega)⟩
    have hv : (bl.map Value.bool)[((k : Int)).toNat]? = some (.bool t) := by simp [htk]
    repeat' ((first | ((with_reducible refine EvIdx.rd (r.ext HS.to_ext) (by simpa using hl) (by omega) (by omega) ?_); intro bI oI eI hI) | ((with_reducible refine EvLd.rowv (by assumption) hv ?_)) | ((first | refine EvApp.sli HS 1 rfl (Rd.of_blk (HS.pt_i 0 rfl)) rfl (by simp [Value.oneCell']) (by omega) (by omega) ?_ | refine EvApp.sli HS 2 rfl (Rd.of_blk (HS.pt_i 0 rfl)) rfl (by simp [Value.oneCell']) (by omega) (by omega) ?_ | refine EvApp.sli HS 3 rfl (Rd.of_blk (HS.pt_i 0 rfl)) rfl (by simp [Value.oneCell']) (by omega) (by omega) ?_ | refine EvApp.sli HS 4 rfl (Rd.of_blk (HS.pt_i 0 rfl)) rfl (by simp [Value.oneCell']) (by omega) (by omega) ?_ | refine EvApp.sli HS 5 rfl (Rd.of_blk (HS.pt_i 0 rfl)) rfl (by simp [Value.oneCell']) (by omega) (by omega) ?_ | refine EvApp.sli HS 6 rfl (Rd.of_blk (HS.pt_i 0 rfl)) rfl (by simp [Value.oneCell']) (by omega) (by omega) ?_ | refine EvApp.sli HS 7 rfl (Rd.of_blk (HS.pt_i 0 rfl)) rfl (by simp [Value.oneCell']) (by omega) (by omega) ?_ | refine EvApp.sli HS 8 rfl (Rd.of_blk (HS.pt_i 0 rfl)) rfl (by simp [Value.oneCell']) (by omega) (by omega) ?_); intro AP cP hP HSP; replace HS := HSP; clear HSP; dsimp only [List.eraseIdx] at HS) | (with_reducible first | refine EvSeq.go ?_ | refine EvIf.tt ?_ | refine EvIf.ff ?_) | ((with_reducible refine EvIf.mk (fun c => ?_) (fun c => ?_)) <;> (try simp only [cs_] at c) <;> (try (exfalso; first | omega | (revert c; decide)))) | ((with_reducible refine EvNew.sep HS ?_); intro bN hN HS1 hX; replace HS := HS1; clear HS1)) <;> conv => whnf)
    all_goals
      refine ⟨(k + 1, _, _, _), ⟨congrArg (fun z => some (Value.int .i64 z)) ((i64w _ (by omega) (by omega)).trans (by omega)), rfl, (by (repeat' (first | exact trivial | refine ⟨rfl, ?_⟩)))⟩, ⟨by omega, ?_, ?_⟩, by show n - (k + 1) < n - k; omega⟩
    · show m + 1 ≤ k + 1
      omega
    · show Sep _ _ _
      rw [mkd_succ, if_pos (by rw [htk, c]; rfl)]
      have e2 : ints .i64 (mkd (fun i => bl[i]? == some true) k ++ [(k : Int)]) = ints .i64 (mkd (fun i => bl[i]? == some true) k) ++ [.int .i64 (k : Int)] := by simp
      rw [e2]
      exact HS.take [_]
    · show m ≤ k + 1
      omega
    · show Sep _ _ _
      rw [mkd_succ, if_neg (by rw [htk, c]; decide)]
      exact HS.take [_]
  · repeat' ((first | (with_reducible first | refine EvSeq.go ?_ | refine EvIf.tt ?_ | refine EvIf.ff ?_) | ((with_reducible refine EvIf.mk (fun c => ?_) (fun c => ?_)) <;> (try simp only [cs_] at c) <;> (try (exfalso; first | omega | (revert c; decide))))) <;> conv => whnf)
    obtain rfl : k = n := by omega
    exact ⟨_, _, _, rfl, hm, HS⟩
end Go.Proofs.YtjggmhpjlnmigaaDoor
/- Live registers: the reference's search for the least sets. -/
namespace Go.Proofs.YtjggmhpjlnmigaaDoor
open Go.RowKit
set_option maxRecDepth 20000
set_option linter.unusedSimpArgs false
set_option linter.unusedVariables false
theorem nx_len (cl : List Ii) (i : Nat) (x : Ii) : (nx cl i x).length ≤ 2 := by
  unfold nx
  split
  · simp
  · split
    · simp
    · split <;> simp
theorem us_len {x : Ii} (h : x.l.length ≤ 8) : (us x).length ≤ 10 := by
  unfold us
  simp only [List.length_append]
  split <;> split <;> simp <;> omega
/-- is a place marked? -/
def mrk (xs : List (Rg Bool)) (i r : Nat) : Prop := ∃ x, xs[i]? = some x ∧ x.l[r]? = some true
theorem mk_set {xs : List (Rg Bool)} {i r : Nat} {x : Rg Bool} (hx : xs[i]? = some x) (hr : r < x.l.length) (i' r' : Nat) : mrk (xs.set i { x with l := x.l.set r true }) i' r' ↔ mrk xs i' r' ∨ (i' = i ∧ r' = r) := by
  have hlt := (List.getElem?_eq_some_iff.mp hx).1
  unfold mrk
  rw [List.getElem?_set]
  by_cases e : i = i'
  · subst e
    rw [if_pos rfl, if_pos hlt]
    constructor
    · rintro ⟨y, hy, h⟩
      cases hy
      simp only [List.getElem?_set] at h
      by_cases e : r = r'
      · exact .inr ⟨rfl, e.symm⟩
      · rw [if_neg e] at h
        exact .inl ⟨x, hx, h⟩
    · rintro (⟨y, hy, h⟩ | ⟨_, rfl⟩)
      · rw [hx] at hy
        cases hy
        refine ⟨_, rfl, ?_⟩
        simp only [List.getElem?_set]
        by_cases e : r = r'
        · subst e
          rw [if_pos rfl, if_pos hr]
        · rw [if_neg e]
          exact h
      · refine ⟨_, rfl, ?_⟩
        simp [List.getElem?_set, hr]
  · rw [if_neg e]
    constructor
    · exact fun h => .inl h
    · rintro (h | ⟨e', _⟩)
      · exact h
      · exact absurd e'.symm e
/-- how many places are free -/
def cnt : List (Rg Bool) → Nat
  | [] => 0
  | x :: r => x.l.count false + cnt r
theorem count_set : ∀ {l : List Bool} {r : Nat}, l[r]? = some false → (l.set r true).count false + 1 = l.count false
  | b :: l, 0, h => by
    cases h
    simp
  | b :: l, r + 1, h => by
    have := count_set (l := l) (r := r) (by simpa using h)
    simp only [List.set_cons_succ, List.count_cons]
    omega
theorem cnt_set : ∀ {xs : List (Rg Bool)} {i r : Nat} {x : Rg Bool}, xs[i]? = some x → x.l[r]? = some false → cnt (xs.set i { x with l := x.l.set r true }) + 1 = cnt xs
  | y :: xs, 0, r, x, h, hr => by
    cases h
    have := count_set hr
    simp only [List.set_cons_zero, cnt]
    omega
  | y :: xs, i + 1, r, x, h, hr => by
    have := cnt_set (xs := xs) (i := i) (by simpa using h) hr
    simp only [List.set_cons_succ, cnt]
    omega
structure Row (R : Nat) (xs : List (Rg Bool)) : Prop where
  w : ∀ x ∈ xs, x.l.length = R
theorem Row.at_ {R : Nat} {xs : List (Rg Bool)} (o : Row R xs) {i : Nat} {x : Rg Bool} (h : xs[i]? = some x) : x.l.length = R := o.w x (List.mem_of_getElem? h)
theorem Row.set {R : Nat} {xs : List (Rg Bool)} (o : Row R xs) {i r : Nat} {x : Rg Bool} (h : xs[i]? = some x) : Row R (xs.set i { x with l := x.l.set r true }) := ⟨fun y hy => by
  rcases List.mem_or_eq_of_mem_set hy with hy | rfl
  · exact o.w y hy
  · rw [List.length_set]; exact o.at_ h⟩
theorem set_map_h {xs : List (Rg Bool)} {i : Nat} {x : Rg Bool} (h : xs[i]? = some x) (l : List Bool) : (xs.set i { x with l := l }).map Rg.h = xs.map Rg.h := by
  apply List.ext_getElem?
  intro j
  have hlt := (List.getElem?_eq_some_iff.mp h).1
  simp only [List.getElem?_map, List.getElem?_set]
  split
  · rename_i e
    subst e
    rw [h]
    rfl
  · rfl
/-- what flows into a step is marked there -/
def Cl (cl : List Ii) (zs : List (Rg Bool)) (i : Nat) : Prop := ∀ x (j r : Nat), cl[i]? = some x → (j : Int) ∈ nx cl i x → mrk zs j r → (r : Int) ≠ st x → mrk zs i r
theorem Cl.out {cl : List Ii} {zs : List (Rg Bool)} {i : Nat} (h : cl.length ≤ i) : Cl cl zs i := fun x j r hx => by
  rw [List.getElem?_eq_none h] at hx
  cases hx
/-- marks in the midst of a round that began with zs -/
structure Wk (cl : List Ii) (R : Nat) (zs : List (Rg Bool)) (m : Bool) (ws : List (Rg Bool)) : Prop where
  row : Row R ws
  snd : ∀ i r, mrk ws i r → Lv cl i r
  mono : ∀ i r, mrk zs i r → mrk ws i r
  same : m = false → ws = zs
  less : m = true → cnt ws < cnt zs
theorem Wk.start {cl : List Ii} {R : Nat} {zs : List (Rg Bool)} (a : Row R zs) (b : ∀ i r, mrk zs i r → Lv cl i r) : Wk cl R zs false zs := ⟨a, b, fun _ _ h => h, fun _ => rfl, fun e => by cases e⟩
theorem Wk.le {cl : List Ii} {R : Nat} {zs : List (Rg Bool)} {m : Bool} {ws : List (Rg Bool)} (w : Wk cl R zs m ws) : cnt ws ≤ cnt zs := by
  cases m with
  | false => rw [w.same rfl]; exact Nat.le_refl _
  | true => exact Nat.le_of_lt (w.less rfl)
theorem Wk.set {cl : List Ii} {R : Nat} {zs : List (Rg Bool)} {m : Bool} {ws : List (Rg Bool)} (w : Wk cl R zs m ws) {i r : Nat} {y : Rg Bool} (hy : ws[i]? = some y) (hr : y.l[r]? = some false) (l : Lv cl i r) :
    Wk cl R zs true (ws.set i { y with l := y.l.set r true }) := by
  have hlt := (List.getElem?_eq_some_iff.mp hr).1
  refine ⟨w.row.set hy, fun i' r' hm => ?_, fun i' r' hm => (mk_set hy hlt i' r').mpr (.inl (w.mono i' r' hm)), (fun e => by cases e), fun _ => ?_⟩
  · rcases (mk_set hy hlt i' r').mp hm with hm | ⟨rfl, rfl⟩
    · exact w.snd i' r' hm
    · exact l
  · have := cnt_set hy hr
    have := w.le
    omega
theorem mkCells_bool (n : Nat) : mkCells [.bool false] n = (List.replicate n false).map Value.bool := by rw [mkCells_one, List.map_replicate]
/-- a row more, none marked in it -/
theorem grow_row {cl : List Ii} {R k : Nat} {xs zs : List (Rg Bool)} {hd : Hdr} (hrow : Row R xs) (hsnd : ∀ i r, mrk xs i r → Lv cl i r) (hl : xs.length = k) (hz : xs ++ [⟨hd, List.replicate R false⟩] = zs) :
    Row R zs ∧ (∀ i r, mrk zs i r → Lv cl i r) ∧ (∀ i r, mrk xs i r → mrk zs i r) := by
  subst hz
  refine ⟨⟨fun x hx => ?_⟩, fun i r hm => ?_, fun i r hm => ?_⟩
  · rcases List.mem_append.mp hx with hx | hx
    · exact hrow.w x hx
    · obtain rfl := List.mem_singleton.mp hx
      simp
  · obtain ⟨x, hx, hr⟩ := hm
    refine hsnd i r ⟨x, ?_, hr⟩
    rw [List.getElem?_append] at hx
    split at hx
    · exact hx
    · rw [List.getElem?_singleton] at hx
      split at hx
      · cases hx
        simp [List.getElem?_replicate] at hr
      · cases hx
  · obtain ⟨x, hx, hr⟩ := hm
    exact ⟨x, by rw [List.getElem?_append_left (List.getElem?_eq_some_iff.mp hx).1]; exact hx, hr⟩
theorem grow_next {cl : List Ii} {k : Nat} {ys zs : List (Rg Int)} {y : Rg Int} {x : Ii} (hl : ys.length = k) (hn : ∀ (i : Nat) y z, ys[i]? = some y → cl[i]? = some z → y.l = nx cl i z) (hx : cl[k]? = some x) (hz : ys ++ [y] = zs) (hy : y.l = nx cl k x) :
    ∀ (i : Nat) y z, zs[i]? = some y → cl[i]? = some z → y.l = nx cl i z := by
  subst hz
  intro i w z hw hz
  rw [List.getElem?_append] at hw
  split at hw
  · exact hn i w z hw hz
  · rw [List.getElem?_singleton] at hw
    split at hw
    · cases hw
      obtain rfl : i = k := by omega
      rw [hx] at hz
      cases hz
      exact hy
    · cases hw
set_option maxHeartbeats 2000000 in
theorem sLive_c {h : Hp} {f : Fu} (o : FuOk h f) (g : Good f) : HC Tryd.prog 28 [f.v] h fun v h' => ∃ A c xs, v = .slice A f.cl.length c ∧ Row f.rg.toNat xs ∧ (∀ i r, mrk xs i r ↔ i < f.cl.length ∧ Lv f.cl i r) ∧ Sep h h' [RgP Value.bool 52 4 A f.cl.length c xs] := by
  have hxl := o.c.l
  have hn := o.c.b
  have hlen := g.len
  have hrg := g.rg
  refine hc_of Tryd.func28 (rfl : Tryd.f28.body = some _) Tryd.ntmps28 Tryd.results28 Tryd.call28 rfl ?_; have HS := Sep.nil h; conv => whnf
  refine EvNew.sep HS ?_
  intro bf gbf HS1 xbf
  replace HS := HS1
  clear HS1
  conv => whnf
  repeat' ((first | (with_reducible first | refine EvSeq.go ?_ | refine EvIf.tt ?_ | refine EvIf.ff ?_) | ((with_reducible refine EvNew.sep HS ?_); intro bN hN HS1 hX; replace HS := HS1; clear HS1)) <;> conv => whnf)
  have q0 := (HS.row (vs := []) (rest := []) (n := 0) (c := 0) rfl rfl).rg0 (enc := Value.int .i64) (T := 3)
  have HS0 := ((q0.front 1 rfl).row (vs := []) (rest := []) (n := 0) (c := 0) rfl rfl).rg0 (enc := Value.bool) (T := 4)
  clear q0
  dsimp only [List.eraseIdx] at HS0
  clear HS
  refine EvLoop.keep ([3, 4, 5, 6, 7, 16, 17, 18, 19, 20, 21, 22, 23, 24, 25, 26, 27, 28, 29, 30, 31, 32, 33, 34, 35, 36, 37, 38, 39, 40, 41, 42, 43, 44, 45, 46, 47, 48, 49, 50, 51, 52, 53, 54, 55], 14) (α := Nat × (Option Addr × Nat × List (Rg Bool)) × (Option Addr × Nat × List (Rg Int))) (fun (k, (A, c, xs), (B, d, ys)) => [(5, .int .i64 k), (3, .slice A k c), (4, .slice B k d)])
    (fun (k, (A, c, xs), (B, d, ys)) h' => k ≤ f.ch.n ∧ Row f.rg.toNat xs ∧ (∀ i r, mrk xs i r → Lv f.cl i r) ∧ (∀ (i : Nat) z (r : Nat), i < k → f.cl[i]? = some z → (r : Int) ∈ us z → mrk xs i r) ∧ (∀ (i : Nat) y z, ys[i]? = some y → f.cl[i]? = some z → y.l = nx f.cl i z) ∧
      Sep h h' [RgP Value.bool 52 4 A k c xs, RgP (Value.int .i64) 22 3 B k d ys, Bx bf [.string f.nm, .int .i64 f.pa, .int .i64 f.rg, f.sh.v, f.ch.v] 31]) (fun (k, _) => f.ch.n - k) (0, (_, 0, []), (_, 0, []))
    (by (repeat' (first | exact trivial | refine ⟨rfl, ?_⟩))) ⟨Nat.zero_le _, ⟨fun x hx => by cases hx⟩, (fun i r hm => by obtain ⟨x, hx, _⟩ := hm; cases hx), fun i z r hi => absurd hi (Nat.not_lt_zero _), (fun i y z hy => by simp at hy), HS0⟩ ?_
  clear HS0
  rintro ⟨k, ⟨A, ca, xs⟩, ⟨B, d, ys⟩⟩ h1 ⟨hk, hrow, hsnd, husd, hnxt, HS⟩
  conv => whnf
  obtain hlt | hge := Nat.lt_or_ge k f.ch.n
  · obtain ⟨x, hxk⟩ : ∃ x, f.cl[k]? = some x := ⟨_, List.getElem?_eq_getElem (by omega)⟩
    have ox := o.c.at_ hxk
    have hl0 := HS.rgl 0 rfl
    have hl1 := HS.rgl 1 rfl
    repeat' ((first | ((refine EvMk.mk (by omega) (by omega) (by omega) (by omega) ?_)) | (with_reducible first | refine EvSeq.go ?_ | refine EvIf.tt ?_ | refine EvIf.ff ?_) | ((with_reducible refine EvIf.mk (fun c => ?_) (fun c => ?_)) <;> (try simp only [cs_] at c) <;> (try (exfalso; first | omega | (revert c; decide)))) | ((with_reducible refine EvNew.sep HS ?_); intro bN hN HS1 hX; replace HS := HS1; clear HS1) | ((with_reducible refine EvLd.q HS (by repeat first | exact .h | apply Spot.t) ?_); (conv => whnf); intro hC)) <;> conv => whnf)
    have HS2 := (HS.front 1 rfl).mkrow (enc := Value.bool) (z := false)
    clear HS
    dsimp only [List.eraseIdx] at HS2
    refine EvApp.rg HS2 2 rfl 0 rfl (Rd.of_blk (HS2.pt_i 1 rfl)) (by omega) (by omega) ?_
    intro A2 c2 h2 zs0 hz0 HS
    clear HS2
    dsimp only [List.eraseIdx] at HS
    conv => whnf
    repeat' ((with_reducible refine EvLdN.q HS (by repeat first | exact .h | apply Spot.t) (fun hC => ?_)) <;> conv => whnf)
    refine EvCall.mk ((next_c (o.ext HS.to_ext) (by omega) hxk).mono ?_)
    rintro _ h3 ⟨bn, rfl, HS1⟩
    replace HS := HS.join1 HS1
    clear HS1
    conv => whnf
    repeat' (((with_reducible refine EvNew.sep HS ?_); intro bN hN HS1 hX; replace HS := HS1; clear HS1) <;> conv => whnf)
    have HS2 := (HS.front 1 rfl).mkrw (enc := Value.int .i64)
    clear HS
    dsimp only [List.eraseIdx] at HS2
    refine EvApp.rg HS2 4 rfl 0 rfl (Rd.of_blk (HS2.pt_i 1 rfl)) (by omega) (by omega) ?_
    intro B2 d2 h4 ys0 hy0 HS
    clear HS2
    dsimp only [List.eraseIdx] at HS
    conv => whnf
    repeat' ((first | ((with_reducible refine EvIdx.el Ii.len (by decide) (o.c.r.ext HS.to_ext) hxl (by omega) (by omega) ?_); intro bI oI z eI hz hI; have hzx : x = z := Option.some.inj (hxk.symm.trans hz); subst hzx) | ((with_reducible refine EvLdN.el hI (Ii.len _) ?_)) | ((with_reducible refine EvLd.q HS (by repeat first | exact .h | apply Spot.t) ?_); (conv => whnf); intro hC)) <;> conv => whnf)
    refine EvCall.mk ((uses_c (ox.ext HS.to_ext) (g.op hxk) (g.args hxk).1).mono ?_)
    rintro _ h5 ⟨U, cu, rfl, HS1⟩
    replace HS := HS.join1 HS1
    clear HS1
    have hul := us_len (g.args hxk).1
    have HS2 := HS.pk (M := [_, _, _, _]) (PK.q .h (PK.q (.t (.t .h)) (PK.q .h (PK.q (.t (.t .h)) .nil))))
    clear HS
    obtain ⟨hr0, hs0, hu0⟩ := grow_row hrow hsnd hl0.1 hz0
    have hnx0 := grow_next (cl := f.cl) hl1.1 hnxt hxk hy0 rfl
    conv => whnf
    repeat' (fail <;> conv => whnf)
    refine EvLoop.keep ([7, 41, 42, 43, 44, 45, 46, 47, 48, 49, 50, 51, 52, 53, 54, 55], 14) (α := Nat × List (Rg Bool)) (fun (q, _) => [(7, .int .i64 q)])
      (fun (q, zs) h' => q ≤ (us x).length ∧ Row f.rg.toNat zs ∧ (∀ i r, mrk zs i r → Lv f.cl i r) ∧ (∀ i r, mrk xs i r → mrk zs i r) ∧ (∀ (j r : Nat), j < q → (us x)[j]? = some (r : Int) → mrk zs k r) ∧
        Sep h h' [Sl 3 U (us x).length cu (ints .i64 (us x)), RgP Value.bool 52 4 A2 (k + 1) c2 zs, RgP (Value.int .i64) 22 3 B2 (k + 1) d2 ys0, Bx bf [.string f.nm, .int .i64 f.pa, .int .i64 f.rg, f.sh.v, f.ch.v] 31])
      (fun (q, _) => (us x).length - q) (0, zs0) (by (repeat' (first | exact trivial | refine ⟨rfl, ?_⟩))) ⟨Nat.zero_le _, hr0, hs0, hu0, fun j r hj => absurd hj (Nat.not_lt_zero _), HS2⟩ ?_
    clear HS2
    rintro ⟨q, zs⟩ h6 ⟨hq, hzr, hzs, hzx, hzq, HS⟩
    conv => whnf
    obtain hlt2 | hge2 := Nat.lt_or_ge q (us x).length
    · obtain ⟨r, hrq⟩ : ∃ r, (us x)[q]? = some r := ⟨_, List.getElem?_eq_getElem hlt2⟩
      have hrb := g.use hxk (List.mem_of_getElem? hrq)
      have hzl := (HS.rgl 1 rfl).1
      obtain ⟨y, hyk⟩ : ∃ y, zs[k]? = some y := ⟨_, List.getElem?_eq_getElem (by omega)⟩
      have hyl := hzr.at_ hyk
      have hyr := HS.rgx 1 rfl hyk
      have hyn := hyr.2
      have hur : (ints .i64 (us x))[((q : Int)).toNat]? = some (.int .i64 r) := by simp [hrq]
      repeat' ((first | ((with_reducible refine EvDraw.ord (id := 12) (.go 0 (.go 1 (.go 2 (.go 3 (.go 4 (.go 5 (.go 6 (.go 7 (.go 8 (.alt 9 .done .stop)))))))))) fol ?_ ?_ ?_); kernel_rfl; kernel_rfl) | ((with_reducible refine EvIdx.rd (HS.rgr 1 rfl) (by simpa [rhds] using hzl) (by omega) (by omega) ?_); intro bI oI eI hI) | ((with_reducible refine EvLd.rowv (by assumption) (rhds_at hyk) ?_)) | ((with_reducible refine EvIdx.rd (HS.rd 0 rfl) (by simp) (by omega) (by omega) ?_); intro bI oI eI hI) | ((with_reducible refine EvLd.rowv (by assumption) hur ?_)) | ((with_reducible refine EvIdx.rd hyr.1 (by simpa using hyn) (by omega) (by omega) ?_); intro bI oI eI hI) | (with_reducible first | refine EvSeq.go ?_ | refine EvIf.tt ?_ | refine EvIf.ff ?_) | ((with_reducible refine EvIf.mk (fun c => ?_) (fun c => ?_)) <;> (try simp only [cs_] at c) <;> (try (exfalso; first | omega | (revert c; decide))))) <;> conv => whnf)
      refine EvSt.rg HS 1 rfl hyk eI (by omega) true ?_
      intro h7 HS7
      clear HS
      have HS := HS7
      clear HS7
      dsimp only [List.set] at HS
      conv => whnf
      repeat' (fail <;> conv => whnf)
      have hms := mk_set hyk (r := r.toNat) (by omega)
      refine ⟨(q + 1, _), ⟨congrArg (fun z => some (Value.int .i64 z)) ((i64w _ (by omega) (by omega)).trans (by omega)), (by (repeat' (first | exact trivial | refine ⟨rfl, ?_⟩)))⟩, ⟨by omega, hzr.set hyk, fun i r' hm => ?_, fun i r' hm => (hms i r').mpr (.inl (hzx i r' hm)), fun j r' hj hjr => (hms k r').mpr ?_, HS⟩, by show _ - (q + 1) < _ - q; omega⟩
      · rcases (hms i r').mp hm with hm | ⟨rfl, rfl⟩
        · exact hzs i r' hm
        · rw [show (r.toNat : Int) = r by omega]
          exact .use hxk (List.mem_of_getElem? hrq)
      · obtain hj2 | hj2 := Nat.lt_or_ge j q
        · exact .inl (hzq j r' hj2 hjr)
        · obtain rfl : j = q := by omega
          rw [hrq] at hjr
          cases hjr
          exact .inr ⟨rfl, by simp⟩
    · repeat' ((first | (with_reducible first | refine EvSeq.go ?_ | refine EvIf.tt ?_ | refine EvIf.ff ?_) | ((with_reducible refine EvIf.mk (fun c => ?_) (fun c => ?_)) <;> (try simp only [cs_] at c) <;> (try (exfalso; first | omega | (revert c; decide))))) <;> conv => whnf)
      refine ⟨(k + 1, (A2, c2, zs), (B2, d2, ys0)), ⟨congrArg (fun z => some (Value.int .i64 z)) ((i64w _ (by omega) (by omega)).trans (by omega)), rfl, rfl, (by (repeat' (first | exact trivial | refine ⟨rfl, ?_⟩)))⟩, ⟨by omega, hzr, hzs, fun i z' r hi hzi hr => ?_, hnx0, HS.tail⟩, by show _ - (k + 1) < _ - k; omega⟩
      obtain hi2 | hi2 := Nat.lt_or_ge i k
      · exact hzx i r (husd i z' r hi2 hzi hr)
      · obtain rfl : i = k := by omega
        obtain rfl : x = z' := Option.some.inj (hxk.symm.trans hzi)
        obtain ⟨j, hj⟩ := List.getElem?_of_mem hr
        exact hzq j r (by have := (List.getElem?_eq_some_iff.mp hj).1; omega) hj
  · repeat' ((first | (with_reducible first | refine EvSeq.go ?_ | refine EvIf.tt ?_ | refine EvIf.ff ?_) | ((with_reducible refine EvIf.mk (fun c => ?_) (fun c => ?_)) <;> (try simp only [cs_] at c) <;> (try (exfalso; first | omega | (revert c; decide)))) | ((with_reducible refine EvLd.q HS (by repeat first | exact .h | apply Spot.t) ?_); (conv => whnf); intro hC)) <;> conv => whnf)
    obtain rfl : k = f.ch.n := by omega
    refine EvLoop.keep ([8, 9, 10, 11, 12, 13, 56, 57, 58, 59, 60, 61, 62, 63, 64, 65, 66, 67, 68, 69, 70, 71, 72, 73, 74, 75, 76, 77, 78, 79, 80, 81, 82, 83, 84, 85, 86, 87, 88, 89, 90, 91, 92, 93, 94, 95, 96, 97, 98, 99, 100, 101, 102, 103, 104, 105, 106, 107, 108, 109, 110, 111, 112, 113, 114, 115, 116, 117, 118, 119, 120], 14) (α := Bool × List (Rg Bool)) (fun (m, _) => [(8, .bool m)])
      (fun (m, zs) h' => Row f.rg.toNat zs ∧ (∀ i r, mrk zs i r → Lv f.cl i r) ∧ (∀ i r, mrk xs i r → mrk zs i r) ∧ (m = false → ∀ i, Cl f.cl zs i) ∧
        Sep h h' [RgP Value.bool 52 4 A f.ch.n ca zs, RgP (Value.int .i64) 22 3 B f.ch.n d ys, Bx bf [.string f.nm, .int .i64 f.pa, .int .i64 f.rg, f.sh.v, f.ch.v] 31])
      (fun (m, zs) => 2 * cnt zs + m.toNat) (true, xs) (by (repeat' (first | exact trivial | refine ⟨rfl, ?_⟩))) ⟨hrow, hsnd, fun _ _ hm => hm, (fun e => by cases e), HS⟩ ?_
    clear HS
    rintro ⟨mo, zs⟩ h2 ⟨zr, zsnd, zxs, zcl, HS⟩
    conv => whnf
    repeat' ((first | (with_reducible first | refine EvSeq.go ?_ | refine EvIf.tt ?_ | refine EvIf.ff ?_) | ((with_reducible refine EvIf.mk (fun c => ?_) (fun c => ?_)) <;> (try simp only [cs_] at c) <;> (try (exfalso; first | omega | (revert c; decide)))) | ((with_reducible refine EvLd.q HS (by repeat first | exact .h | apply Spot.t) ?_); (conv => whnf); intro hC)) <;> conv => whnf)
    · obtain rfl : mo = true := c
      refine EvLoop.keep ([8, 9, 10, 11, 12, 13, 61, 62, 63, 64, 65, 66, 67, 68, 69, 70, 71, 72, 73, 74, 75, 76, 77, 78, 79, 80, 81, 82, 83, 84, 85, 86, 87, 88, 89, 90, 91, 92, 93, 94, 95, 96, 97, 98, 99, 100, 101, 102, 103, 104, 105, 106, 107, 108, 109, 110, 111, 112, 113, 114, 115, 116, 117, 118, 119, 120], 14) (α := Int × Bool × List (Rg Bool)) (fun (t, m, _) => [(9, .int .i64 t), (8, .bool m)])
        (fun (t, m, ws) h' => ∃ p : Nat, t = (p : Int) - 1 ∧ p ≤ f.ch.n ∧ Wk f.cl f.rg.toNat zs m ws ∧ (m = false → ∀ i, p ≤ i → Cl f.cl zs i) ∧
          Sep h h' [RgP Value.bool 52 4 A f.ch.n ca ws, RgP (Value.int .i64) 22 3 B f.ch.n d ys, Bx bf [.string f.nm, .int .i64 f.pa, .int .i64 f.rg, f.sh.v, f.ch.v] 31])
        (fun (t, _) => (t + 1).toNat) ((f.ch.n : Int) - 1, false, zs) ⟨congrArg (fun z => some (Value.int .i64 z)) (i64w _ (by omega) (by omega)), (by (repeat' (first | exact trivial | refine ⟨rfl, ?_⟩)))⟩ ⟨f.ch.n, rfl, Nat.le_refl _, Wk.start zr zsnd, fun _ i hi => Cl.out (by omega), HS⟩ ?_
      clear HS
      rintro ⟨t, m, ws⟩ h3 ⟨p, ht, hp, hw, hcl, HS⟩
      conv => whnf
      cases p with
      | zero =>
        repeat' ((first | (with_reducible first | refine EvSeq.go ?_ | refine EvIf.tt ?_ | refine EvIf.ff ?_) | ((with_reducible refine EvIf.mk (fun c => ?_) (fun c => ?_)) <;> (try simp only [cs_] at c) <;> (try (exfalso; first | omega | (revert c; decide))))) <;> conv => whnf)
        refine ⟨(m, ws), ⟨rfl, (by (repeat' (first | exact trivial | refine ⟨rfl, ?_⟩)))⟩, ⟨hw.row, hw.snd, fun i r hm => hw.mono i r (zxs i r hm), fun e i => ?_, HS⟩, ?_⟩
        · rw [hw.same e]
          exact hcl e i (Nat.zero_le _)
        · show 2 * cnt ws + m.toNat < 2 * cnt zs + 1
          cases m with
          | false =>
            rw [hw.same rfl]
            exact Nat.lt_succ_self _
          | true =>
            have := hw.less rfl
            show 2 * cnt ws + 1 < _
            omega
      | succ i =>
        obtain ⟨x, hxi⟩ : ∃ x, f.cl[i]? = some x := ⟨_, List.getElem?_eq_getElem (by omega)⟩
        have ox := o.c.at_ hxi
        obtain rfl : t = (i : Int) := by omega
        clear ht
        have hl1 := (HS.rgl 1 rfl).1
        obtain ⟨yn, hyn⟩ : ∃ yn, ys[i]? = some yn := ⟨_, List.getElem?_eq_getElem (by omega)⟩
        have hynl := hnxt i yn x hyn hxi
        have hnl := nx_len f.cl i x
        repeat' ((first | ((with_reducible refine EvIdx.el Ii.len (by decide) (o.c.r.ext HS.to_ext) hxl (by omega) (by omega) ?_); intro bI oI z eI hz hI; have hzx : x = z := Option.some.inj (hxi.symm.trans hz); subst hzx) | ((with_reducible refine EvLdN.el hI (Ii.len _) ?_)) | ((with_reducible refine EvCall.mk (HC.mono (sets_c (g.op hxi) _) ?_)); (rintro _ hN ⟨rfl, hX⟩); replace HS := HS.ext hX) | (with_reducible first | refine EvSeq.go ?_ | refine EvIf.tt ?_ | refine EvIf.ff ?_) | ((with_reducible refine EvIf.mk (fun c => ?_) (fun c => ?_)) <;> (try simp only [cs_] at c) <;> (try (exfalso; first | omega | (revert c; decide)))) | ((with_reducible refine EvLd.q HS (by repeat first | exact .h | apply Spot.t) ?_); (conv => whnf); intro hC)) <;> conv => whnf)
        refine EvLoop.keep ([8, 11, 12, 13, 71, 72, 73, 74, 75, 76, 77, 78, 79, 80, 81, 82, 83, 84, 85, 86, 87, 88, 89, 90, 91, 92, 93, 94, 95, 96, 97, 98, 99, 100, 101, 102, 103, 104, 105, 106, 107, 108, 109, 110, 111, 112, 113, 114, 115, 116, 117, 118, 119, 120], 14) (α := Nat × Bool × List (Rg Bool)) (fun (k, m, _) => [(11, .int .i64 k), (8, .bool m)])
          (fun (k, m1, vs) h' => k ≤ (nx f.cl i x).length ∧ Wk f.cl f.rg.toNat zs m1 vs ∧ (m1 = false → m = false) ∧ (m1 = false → ∀ (q j r : Nat), q < k → (nx f.cl i x)[q]? = some (j : Int) → mrk zs j r → (r : Int) ≠ st x → mrk zs i r) ∧
            Sep h h' [RgP Value.bool 52 4 A f.ch.n ca vs, RgP (Value.int .i64) 22 3 B f.ch.n d ys, Bx bf [.string f.nm, .int .i64 f.pa, .int .i64 f.rg, f.sh.v, f.ch.v] 31])
          (fun (k, _) => (nx f.cl i x).length - k) (0, m, ws) (by (repeat' (first | exact trivial | refine ⟨rfl, ?_⟩))) ⟨Nat.zero_le _, hw, id, (fun _ q j r hq => absurd hq (Nat.not_lt_zero _)), HS⟩ ?_
        clear HS
        rintro ⟨k, m1, vs⟩ h4 ⟨hk4, hw4, hm4, hc4, HS⟩
        have hl0 := (HS.rgl 0 rfl).1
        have hynr := HS.rgx 1 rfl hyn
        have hynn := hynr.2
        rw [hynl] at hynn hynr
        conv => whnf
        obtain hlt4 | hge4 := Nat.lt_or_ge k (nx f.cl i x).length
        · obtain ⟨jv, hjv⟩ : ∃ jv, (nx f.cl i x)[k]? = some jv := ⟨_, List.getElem?_eq_getElem hlt4⟩
          have hjb := g.next hxi (List.mem_of_getElem? hjv)
          obtain ⟨j, rfl⟩ : ∃ j : Nat, jv = (j : Int) := ⟨jv.toNat, by omega⟩
          obtain ⟨yj, hyj⟩ : ∃ yj, vs[j]? = some yj := ⟨_, List.getElem?_eq_getElem (by omega)⟩
          have hjr : (ints .i64 (nx f.cl i x))[((k : Int)).toNat]? = some (.int .i64 (j : Int)) := by simp [hjv]
          repeat' ((first | ((with_reducible refine EvIdx.rd (HS.rgr 1 rfl) (by simpa [rhds] using hl1) (by omega) (by omega) ?_); intro bI oI eI hI) | ((with_reducible refine EvLd.rowv (by assumption) (rhds_at hyn) ?_)) | ((with_reducible refine EvIdx.rd hynr.1 (by simpa using hynn) (by omega) (by omega) ?_); intro bI oI eI hI) | ((with_reducible refine EvLd.rowv (by assumption) hjr ?_)) | ((with_reducible refine EvIdx.rd (HS.rgr 0 rfl) (by simpa [rhds] using hl0) (by omega) (by omega) ?_); intro bI oI eI hI) | ((with_reducible refine EvLd.rowv (by assumption) (rhds_at hyj) ?_)) | (with_reducible first | refine EvSeq.go ?_ | refine EvIf.tt ?_ | refine EvIf.ff ?_) | ((with_reducible refine EvIf.mk (fun c => ?_) (fun c => ?_)) <;> (try simp only [cs_] at c) <;> (try (exfalso; first | omega | (revert c; decide))))) <;> conv => whnf)
          refine EvLoop.keep ([8, 13, 90, 91, 92, 93, 94, 95, 96, 97, 98, 99, 100, 101, 102, 103, 104, 105, 106, 107, 108, 109, 110, 111, 112, 113, 114, 115, 116, 117, 118, 119, 120], 14) (α := Nat × Bool × List (Rg Bool)) (fun (r, m, _) => [(13, .int .i64 r), (8, .bool m)])
            (fun (r, m2, ts) h' => r ≤ f.rg.toNat ∧ Wk f.cl f.rg.toNat zs m2 ts ∧ (m2 = false → m1 = false) ∧ (m2 = false → ∀ r', r' < r → mrk zs j r' → (r' : Int) ≠ st x → mrk zs i r') ∧ (ts.map Rg.h)[j]? = some yj.h ∧
              Sep h h' [RgP Value.bool 52 4 A f.ch.n ca ts, RgP (Value.int .i64) 22 3 B f.ch.n d ys, Bx bf [.string f.nm, .int .i64 f.pa, .int .i64 f.rg, f.sh.v, f.ch.v] 31])
            (fun (r, _) => f.rg.toNat - r) (0, m1, vs) (by (repeat' (first | exact trivial | refine ⟨rfl, ?_⟩))) ⟨Nat.zero_le _, hw4, id, (fun _ r hr => absurd hr (Nat.not_lt_zero _)), by rw [List.getElem?_map, hyj]; rfl, HS⟩ ?_
          clear HS
          rintro ⟨r, m2, ts⟩ h5 ⟨hr5, hw5, hm5, hc5, hh5, HS⟩
          have hl5 := (HS.rgl 0 rfl).1
          obtain ⟨tj, htj⟩ : ∃ tj, ts[j]? = some tj := ⟨_, List.getElem?_eq_getElem (by omega)⟩
          obtain ⟨ti, hti⟩ : ∃ ti, ts[i]? = some ti := ⟨_, List.getElem?_eq_getElem (by omega)⟩
          have hjh : tj.h = yj.h := by
            rw [List.getElem?_map, htj] at hh5
            exact Option.some.inj hh5
          have rj := HS.rgx 0 rfl htj
          have ri := HS.rgx 0 rfl hti
          have wj := hw5.row.at_ htj
          have wi := hw5.row.at_ hti
          have nj := rj.2
          have ni := ri.2
          rw [hjh] at rj nj
          conv => whnf
          obtain hlt5 | hge5 := Nat.lt_or_ge r f.rg.toNat
          · obtain ⟨bj, hbj⟩ : ∃ bj, tj.l[r]? = some bj := ⟨_, List.getElem?_eq_getElem (by omega)⟩
            obtain ⟨bi, hbi⟩ : ∃ bi, ti.l[r]? = some bi := ⟨_, List.getElem?_eq_getElem (by omega)⟩
            have vj : (tj.l.map Value.bool)[((r : Int)).toNat]? = some (.bool bj) := by simp [hbj]
            have vi : (ti.l.map Value.bool)[((r : Int)).toNat]? = some (.bool bi) := by simp [hbi]
            repeat' ((first | ((with_reducible refine EvIdx.rd rj.1 (by simpa using nj) (by omega) (by omega) ?_); intro bI oI eI hI) | ((with_reducible refine EvLd.rowv (by assumption) vj ?_)) | ((with_reducible refine EvIdx.rd (HS.rgr 0 rfl) (by simpa [rhds] using hl5) (by omega) (by omega) ?_); intro bI oI eI hI) | ((with_reducible refine EvLd.rowv (by assumption) (rhds_at hti) ?_)) | ((with_reducible refine EvIdx.rd ri.1 (by simpa using ni) (by omega) (by omega) ?_); intro bI oI eI hI) | ((with_reducible refine EvLd.rowv (by assumption) vi ?_)) | (with_reducible first | refine EvSeq.go ?_ | refine EvIf.tt ?_ | refine EvIf.ff ?_) | ((with_reducible refine EvIf.mk (fun c => ?_) (fun c => ?_)) <;> (try simp only [cs_] at c) <;> (try (exfalso; first | omega | (revert c; decide)))) | ((with_reducible refine EvLd.q HS (by repeat first | exact .h | apply Spot.t) ?_); (conv => whnf); intro hC)) <;> conv => whnf)
            · refine EvSt.rg HS 0 rfl hti eI (by omega) true ?_
              intro h6 HS6
              clear HS
              have HS := HS6
              clear HS6
              dsimp only [List.set] at HS
              rw [Int.toNat_natCast] at HS
              conv => whnf
              repeat' (fail <;> conv => whnf)
              refine ⟨(r + 1, true, _), ⟨congrArg (fun z => some (Value.int .i64 z)) ((i64w _ (by omega) (by omega)).trans (by omega)), rfl, (by (repeat' (first | exact trivial | refine ⟨rfl, ?_⟩)))⟩, ⟨by omega, hw5.set hti (hbi.trans (congrArg some (by assumption))) (Lv.flow hxi (List.mem_of_getElem? hjv) (hw5.snd j r ⟨tj, htj, hbj.trans (congrArg some (by assumption))⟩) (by assumption)), (fun e => by cases e), (fun e => by cases e), by rw [set_map_h hti]; exact hh5, HS⟩, by show _ - (r + 1) < _ - r; omega⟩
            all_goals
              refine ⟨(r + 1, m2, ts), ⟨congrArg (fun z => some (Value.int .i64 z)) ((i64w _ (by omega) (by omega)).trans (by omega)), (by (repeat' (first | exact trivial | refine ⟨rfl, ?_⟩)))⟩, ⟨by omega, hw5, hm5, fun e r' hr' hm hne => ?_, hh5, HS⟩, by show _ - (r + 1) < _ - r; omega⟩
              obtain hr2 | hr2 := Nat.lt_or_ge r' r
              · exact hc5 e r' hr2 hm hne
              · obtain rfl : r' = r := by omega
                have es := hw5.same e
                first
                  | exact absurd (by assumption) hne
                  | exact ⟨ti, es ▸ hti, hbi.trans (congrArg some (by assumption))⟩
                  | (exfalso
                     obtain ⟨y, hy, hyt⟩ := hm
                     rw [← es, htj] at hy
                     cases hy
                     rw [hbj] at hyt
                     cases hyt
                     contradiction)
          · repeat' ((first | (with_reducible first | refine EvSeq.go ?_ | refine EvIf.tt ?_ | refine EvIf.ff ?_) | ((with_reducible refine EvIf.mk (fun c => ?_) (fun c => ?_)) <;> (try simp only [cs_] at c) <;> (try (exfalso; first | omega | (revert c; decide)))) | ((with_reducible refine EvLd.q HS (by repeat first | exact .h | apply Spot.t) ?_); (conv => whnf); intro hC)) <;> conv => whnf)
            refine ⟨(k + 1, m2, ts), ⟨congrArg (fun z => some (Value.int .i64 z)) ((i64w _ (by omega) (by omega)).trans (by omega)), (by (repeat' (first | exact trivial | refine ⟨rfl, ?_⟩)))⟩, ⟨by omega, hw5, fun e => hm4 (hm5 e), fun e q j' r' hq hj' hm hne => ?_, HS⟩, by show _ - (k + 1) < _ - k; omega⟩
            obtain hq2 | hq2 := Nat.lt_or_ge q k
            · exact hc4 (hm5 e) q j' r' hq2 hj' hm hne
            · obtain rfl : q = k := by omega
              have ej : (j' : Int) = j := Option.some.inj (hj'.symm.trans hjv)
              obtain rfl : j' = j := by omega
              refine hc5 e r' ?_ hm hne
              obtain ⟨y, hy, hyt⟩ := hm
              have := zr.at_ hy
              have := (List.getElem?_eq_some_iff.mp hyt).1
              omega
        · repeat' ((first | ((with_reducible refine EvIdx.rd (HS.rgr 1 rfl) (by simpa [rhds] using hl1) (by omega) (by omega) ?_); intro bI oI eI hI) | ((with_reducible refine EvLd.rowv (by assumption) (rhds_at hyn) ?_)) | (with_reducible first | refine EvSeq.go ?_ | refine EvIf.tt ?_ | refine EvIf.ff ?_) | ((with_reducible refine EvIf.mk (fun c => ?_) (fun c => ?_)) <;> (try simp only [cs_] at c) <;> (try (exfalso; first | omega | (revert c; decide))))) <;> conv => whnf)
          refine ⟨((i : Int) - 1, m1, vs), ⟨congrArg (fun z => some (Value.int .i64 z)) (i64w _ (by omega) (by omega)), (by (repeat' (first | exact trivial | refine ⟨rfl, ?_⟩)))⟩, ⟨i, rfl, by omega, hw4, fun e i' hi' => ?_, HS⟩, by show ((i : Int) - 1 + 1).toNat < ((i : Int) + 1).toNat; omega⟩
          obtain hi2 | hi2 := Nat.lt_or_ge i i'
          · exact hcl (hm4 e) i' hi2
          · obtain rfl : i' = i := by omega
            intro x' j r hx' hj hm hne
            obtain rfl : x = x' := Option.some.inj (hxi.symm.trans hx')
            obtain ⟨q, hq⟩ := List.getElem?_of_mem hj
            exact hc4 e q j r (by have := (List.getElem?_eq_some_iff.mp hq).1; omega) hq hm hne
    · refine ⟨A, ca, zs, by rw [hxl], zr, fun i r => ⟨fun hm => ?_, fun hm => ?_⟩, by rw [hxl]; exact HS.take [_]⟩
      · refine ⟨?_, zsnd i r hm⟩
        obtain ⟨y, hy, _⟩ := hm
        have := (List.getElem?_eq_some_iff.mp hy).1
        have := (HS.rgl 0 rfl).1
        omega
      · have key : ∀ (i : Nat) (ri : Int), Lv f.cl i ri → ∀ r : Nat, ri = r → mrk zs i r := by
          intro i ri h
          induction h with
          | @use i x r h u =>
            intro r' e
            subst e
            exact zxs i r' (husd i x r' (by have := (List.getElem?_eq_some_iff.mp h).1; omega) h u)
          | @flow i j x r h n l st ih =>
            intro r' e
            subst e
            exact zcl (by assumption) i x j r' h n (ih r' rfl) st
        exact key i r hm.2 r rfl
end Go.Proofs.YtjggmhpjlnmigaaDoor
/- Live registers: the reference's answer. -/
namespace Go.Proofs.YtjggmhpjlnmigaaDoor
open Go.RowKit
set_option maxRecDepth 20000
set_option linter.unusedSimpArgs false
set_option linter.unusedVariables false
theorem mkd_marked {R : Nat} {l : List Bool} {p : Int → Prop} (hl : l.length = R) (h : ∀ r : Nat, l[r]? = some true ↔ p r) (hp : ∀ r : Nat, p r → r < R) : mkd (fun i => l[i]? == some true) R = marked p R := by
  unfold mkd marked
  rw [List.filter_map]
  congr 1
  refine List.filter_congr (fun r hr => ?_)
  simp only [Function.comp]
  by_cases e : l[r]? = some true
  · rw [e]
    have := (h r).mp e
    simp [this]
  · have : ¬ p r := fun hh => e ((h r).mpr hh)
    simp only [beq_iff_eq, Int.ofNat_eq_natCast, this, decide_false]
    simpa using e
/-- rows of registers, as the law's own rows -/
def Rg.w (x : Rg Int) : Rw := ⟨x.h, x.l⟩
theorem Sep.to_rr {h0 h : Hp} {L : List Asn} {A : Option Addr} {n c : Nat} {xs : List (Rg Int)} (s : Sep h0 h (RgP (Value.int .i64) 22 3 A n c xs :: L)) : Sep h0 h (RrP A n c (xs.map Rg.w) :: L) := by
  have e : RrP A n c (xs.map Rg.w) = RgP (Value.int .i64) 22 3 A n c xs := by
    unfold RrP RgP RrL RgL hds rhds
    simp only [List.map_map]
    rfl
  rw [e]
  exact s
theorem marked_len (p : Int → Prop) (n : Nat) : (marked p n).length ≤ n := by
  unfold marked
  refine Nat.le_trans (List.length_filter_le _ _) ?_
  simp
set_option maxHeartbeats 2000000 in
theorem sLb_c {h : Hp} {f : Fu} (o : FuOk h f) : HC Tryd.prog 7 [f.v] h fun v h' => ∃ A n c xs, v = .slice A n c ∧ xs.map Rw.l = lvf f ∧ n ≤ 8000 ∧ (∀ x ∈ xs, x.l.length = x.h.n ∧ x.h.n ≤ 2000) ∧ Sep h h' [RrP A n c xs] := by
  refine hc_of Tryd.func7 (rfl : Tryd.f7.body = some _) Tryd.ntmps7 Tryd.results7 Tryd.call7 rfl ?_; have HS := Sep.nil h; conv => whnf
  refine EvNew.sep HS ?_
  intro bf gbf HS1 xbf
  replace HS := HS1
  clear HS1
  conv => whnf
  repeat' ((first | ((with_reducible refine EvCall.mk (HC.mono (sFok_c (o.ext HS.to_ext)) ?_)); (rintro _ hN ⟨rfl, hX⟩); replace HS := HS.ext hX) | (with_reducible first | refine EvSeq.go ?_ | refine EvIf.tt ?_ | refine EvIf.ff ?_) | ((with_reducible refine EvIf.mk (fun c => ?_) (fun c => ?_)) <;> (try simp only [cs_] at c) <;> (try (exfalso; first | omega | (revert c; decide)))) | ((with_reducible refine EvNew.sep HS ?_); intro bN hN HS1 hX; replace HS := HS1; clear HS1) | (with_reducible refine EvLdN.q HS (by repeat first | exact .h | apply Spot.t) (fun hC => ?_))) <;> conv => whnf)
  · have HS2 := ((HS.row (vs := []) (rest := []) (n := 0) (c := 0) rfl rfl).rg0 (enc := Value.int .i64) (T := 3)).to_rr
    refine ⟨_, 0, 0, [], rfl, ?_, by omega, (fun x hx => by cases hx), HS2.take [_]⟩
    unfold lvf
    rw [c]
    rfl
  · have g := good_of c
    have hlen := g.len
    have hrg := g.rg
    have e0 : lvf f = (List.range f.cl.length).map (fun i => marked (fun r => Lv f.cl i r) f.rg.toNat) := by
      unfold lvf
      rw [c]
      rfl
    refine EvCall.mk ((sLive_c (o.ext HS.to_ext) g).mono ?_)
    rintro _ hN ⟨A, ca, xs, rfl, xr, xi, HS1⟩
    replace HS := HS.join1 HS1
    clear HS1
    have hxl := (HS.rgl 0 rfl).1
    conv => whnf
    repeat' ((with_reducible first | refine EvSeq.go ?_ | refine EvIf.tt ?_ | refine EvIf.ff ?_) <;> conv => whnf)
    have HS0 := ((HS.front 1 rfl).row (vs := []) (rest := []) (n := 0) (c := 0) rfl rfl).rg0 (enc := Value.int .i64) (T := 3)
    clear HS
    dsimp only [List.eraseIdx] at HS0
    refine EvLoop.keep ([3, 5, 13, 14, 15, 16, 17, 18, 19, 20, 21, 22, 23, 24, 25, 26], 6) (α := Nat × Option Addr × Nat × List (Rg Int)) (fun (k, B, d, _) => [(5, .int .i64 k), (3, .slice B k d)])
      (fun (k, B, d, ys) h' => k ≤ f.cl.length ∧ ys.map Rg.l = (List.range k).map (fun i => marked (fun r => Lv f.cl i r) f.rg.toNat) ∧ (∀ y ∈ ys, y.l.length = y.h.n ∧ y.h.n ≤ 2000) ∧ Sep h h' [RgP (Value.int .i64) 22 3 B k d ys, RgP Value.bool 52 4 A f.cl.length ca xs])
      (fun (k, _) => f.cl.length - k) (0, _, 0, []) (by (repeat' (first | exact trivial | refine ⟨rfl, ?_⟩))) ⟨Nat.zero_le _, rfl, (fun y hy => by cases hy), HS0.take [_, _]⟩ ?_
    clear HS0
    rintro ⟨k, B, d, ys⟩ h1 ⟨hk, hys, hyb, HS⟩
    conv => whnf
    obtain hlt | hge := Nat.lt_or_ge k f.cl.length
    · obtain ⟨x, hxk⟩ : ∃ x, xs[k]? = some x := ⟨_, List.getElem?_eq_getElem (by omega)⟩
      have hxr := HS.rgx 1 rfl hxk
      have hxw := xr.at_ hxk
      have hxn := hxr.2
      have hyl := (HS.rgl 0 rfl).1
      repeat' ((first | ((with_reducible refine EvIdx.rd (HS.rgr 1 rfl) (by simpa [rhds] using hxl) (by omega) (by omega) ?_); intro bI oI eI hI) | ((with_reducible refine EvLd.rowv (by assumption) (rhds_at hxk) ?_)) | (with_reducible first | refine EvSeq.go ?_ | refine EvIf.tt ?_ | refine EvIf.ff ?_) | ((with_reducible refine EvIf.mk (fun c => ?_) (fun c => ?_)) <;> (try simp only [cs_] at c) <;> (try (exfalso; first | omega | (revert c; decide))))) <;> conv => whnf)
      refine EvCall.mk ((smarked_c hxr.1 hxr.2 (by omega)).mono ?_)
      rintro _ h2 ⟨M, m, cm, rfl, hm, HS1⟩
      replace HS := HS.join1 HS1
      clear HS1
      have hml := (HS.len 0 rfl).1
      have em : mkd (fun i => x.l[i]? == some true) x.h.n = marked (fun r => Lv f.cl k r) f.rg.toNat := by
        rw [← hxn, hxw]
        refine mkd_marked hxw (fun r => ?_) (fun r hr => by have := hr.bd g; omega)
        constructor
        · exact fun e => ((xi k r).mp ⟨x, hxk, e⟩).2
        · intro e
          obtain ⟨y, hy, hyr⟩ := (xi k r).mpr ⟨hlt, e⟩
          rw [hxk] at hy
          cases hy
          exact hyr
      rw [em] at HS hml
      conv => whnf
      repeat' (((with_reducible refine EvNew.sep HS ?_); intro bN hN HS1 hX; replace HS := HS1; clear HS1) <;> conv => whnf)
      refine EvApp.rg (x := ⟨⟨M, m, cm⟩, marked (fun r => Lv f.cl k r) f.rg.toNat⟩) HS 2 rfl 1 rfl (Rd.of_blk (HS.pt_i 0 rfl)) (by omega) (by omega) ?_
      intro B2 d2 h4 zs hz HS2
      clear HS
      have HS := HS2
      clear HS2
      dsimp only [List.eraseIdx] at HS
      conv => whnf
      repeat' (fail <;> conv => whnf)
      refine ⟨(k + 1, B2, d2, zs), ⟨congrArg (fun z => some (Value.int .i64 z)) ((i64w _ (by omega) (by omega)).trans (by omega)), rfl, (by (repeat' (first | exact trivial | refine ⟨rfl, ?_⟩)))⟩, ⟨by omega, ?_, fun y hy => ?_, HS.pk (PK.q .h (PK.q (.t .h) .nil))⟩, by show _ - (k + 1) < _ - k; omega⟩
      · rw [← hz, List.map_append, hys, List.range_succ, List.map_append]
        rfl
      · rw [← hz] at hy
        rcases List.mem_append.mp hy with hy | hy
        · exact hyb y hy
        · obtain rfl := List.mem_singleton.mp hy
          exact ⟨by simpa using hml, by show m ≤ 2000; omega⟩
    · repeat' ((first | (with_reducible first | refine EvSeq.go ?_ | refine EvIf.tt ?_ | refine EvIf.ff ?_) | ((with_reducible refine EvIf.mk (fun c => ?_) (fun c => ?_)) <;> (try simp only [cs_] at c) <;> (try (exfalso; first | omega | (revert c; decide))))) <;> conv => whnf)
      obtain rfl : k = f.cl.length := by omega
      refine ⟨B, _, d, ys.map Rg.w, rfl, ?_, by omega, fun x hx => ?_, HS.to_rr.take [_]⟩
      · rw [e0, ← hys, List.map_map]
        rfl
      · obtain ⟨y, hy, rfl⟩ := List.mem_map.mp hx
        exact hyb y hy
theorem sLb (Q : Hp → Prop) : LiveC Q 7 (fun F => lvf (Fu.of F)) := fun h f _ o _ => (sLb_c o).mono fun v h' ⟨A, n, c, xs, e, e2, r⟩ => ⟨A, n, c, xs, e, e2.trans (lvf_full f).symm, r⟩
end Go.Proofs.YtjggmhpjlnmigaaDoor
