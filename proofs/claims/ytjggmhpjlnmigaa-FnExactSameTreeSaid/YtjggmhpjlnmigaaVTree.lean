/- Trees: are two the same? -/
import Derived.Test.YtjggmhpjlnmigaaVRec
import Derived.Test.YtjggmhpjlnmigaaVCom
namespace Go.Proofs.Ytjggmhpjlnmigaa
open Go.RowKit
set_option maxRecDepth 20000
set_option linter.unusedSimpArgs false
set_option linter.unusedVariables false
structure Hd where
  a : Option Addr
  n : Nat
  c : Nat
structure Nd where
  k : Int
  m : Int
  n : Int
  s : ByteArray
  kids : Hd
  kl : List Int
  line : Int
  col : Int
def Nd.cells (x : Nd) : List Value := [.int .i64 x.k, .int .i64 x.m, .int .i64 x.n, .string x.s, .slice x.kids.a x.kids.n x.kids.c, .int .i64 x.line, .int .i64 x.col]
theorem Nd.len (x : Nd) : x.cells.length = 7 := rfl
/-- what is compared -/
def Nd.key (x : Nd) : Int × Int × Int × List UInt8 × List Int := (x.k, x.m, x.n, x.s.toList, x.kl)
def Nd.full (x : Nd) : (Int × Int × Int × ByteArray × List Int) × Int × Int := ((x.k, x.m, x.n, x.s, x.kl), x.line, x.col)
structure NdOk (h : Hp) (x : Nd) : Prop where
  r : Rd h x.kids.a (ints .i64 x.kl)
  l : x.kl.length = x.kids.n
  b : x.kids.n ≤ 1000000000
theorem NdOk.ext {h h' : Hp} (e : Ext h h') {x : Nd} (o : NdOk h x) : NdOk h' x := ⟨o.r.ext e, o.l, o.b⟩
structure NdsOk (h : Hp) (A : Option Addr) (n : Nat) (xs : List Nd) : Prop where
  r : Rd h A (xs.flatMap Nd.cells)
  l : xs.length = n
  b : n ≤ 1000000000
  o : ∀ x ∈ xs, NdOk h x
theorem NdsOk.ext {h h' : Hp} (e : Ext h h') {A : Option Addr} {n : Nat} {xs : List Nd} (o : NdsOk h A n xs) : NdsOk h' A n xs := ⟨o.r.ext e, o.l, o.b, fun x hx => (o.o x hx).ext e⟩
theorem NdsOk.at_ {h : Hp} {A : Option Addr} {n : Nat} {xs : List Nd} (o : NdsOk h A n xs) {i : Nat} {x : Nd} (e : xs[i]? = some x) : NdOk h x := o.o x (List.mem_of_getElem? e)
theorem equalI_c {h : Hp} {A B : Option Addr} {n m c d : Nat} {l l' : List Int} (r : Rd h A (ints .i64 l)) (hl : l.length = n) (r' : Rd h B (ints .i64 l')) (hl' : l'.length = m) (hn : n ≤ 1000000000) (hm : m ≤ 1000000000) : HC Try.prog 33 [.slice A n c, .slice B m d] h fun v h' => v = .bool (decide (l = l')) ∧ h' = h := by
  refine hc_of Try.func33 (rfl : Try.f33.body = some _) Try.ntmps33 Try.results33 Try.call33 rfl ?_; have HS := Sep.nil h; conv => whnf
  repeat' ((first | (with_reducible first | refine EvSeq.go ?_ | refine EvIf.tt ?_ | refine EvIf.ff ?_) | ((with_reducible refine Hole.mk (kK ?_)); clear kK) | ((with_reducible refine EvIf.mk (fun c => ?_) (fun c => ?_)) <;> (try simp only [cs_] at c) <;> (try (exfalso; first | omega | (revert c; decide)))) | ((with_reducible refine EvNew.sep HS ?_); intro bN hN HS1 hX; replace HS := HS1; clear HS1) | ((with_reducible refine EvIdx.lit ?_ ?_ ?_); (first | omega | decide); (first | omega | decide)) | ((with_reducible first | refine EvNe.mk ?_ ?_ | refine EvGe.mk ?_ ?_); (first | decide | omega)) | ((with_reducible refine EvLd.q HS (by repeat first | exact .h | apply Spot.t) ?_); (conv => whnf); intro hC) | (with_reducible refine EvLdN.q HS (by repeat first | exact .h | apply Spot.t) (fun hC => ?_)) | ((with_reducible refine EvSt.q HS (by repeat first | exact .h | apply Spot.t) ?_); (conv => whnf); intro hN HS1 hU; replace HS := HS1; clear HS1) | ((with_reducible refine EvKeep.cq (A := keepK _ _ (Hole _) _) HS (by repeat first | exact .h | apply Spot.t) ?_); (conv => whnf); (refine ⟨?_, ?_⟩); assumption; intro hC) | ((with_reducible refine EvKeep.nq (A := keepK _ _ (Hole _) _) HS (by repeat first | exact .h | apply Spot.t) ?_ ?_); assumption; intro hC) | ((fail_if_success with_reducible refine EvKeep.hole ?_); (with_reducible refine EvKeep.abs (fun X kK => ?_)))) <;> conv => whnf)
  · refine ⟨?_, rfl⟩
    rw [decide_eq_false]
    rintro rfl
    omega
  · refine EvLoop.keep ([4, 5, 13, 14, 15, 16, 17, 18, 19, 20, 21, 22, 23, 24, 25], 6) (α := Int) (fun x => [(13, .int .i64 x), (12, .int .i64 n)]) (fun x h' => h' = h ∧ ∃ k : Nat, k ≤ n ∧ x = k ∧ l.take k = l'.take k) (fun x => ((n : Int) - x).toNat) 0 (by (repeat' (first | exact trivial | refine ⟨rfl, ?_⟩))) ⟨rfl, 0, by omega, rfl, rfl⟩ ?_
    rintro _ _ ⟨rfl, k, hk, rfl, ht⟩
    conv => whnf
    repeat' ((first | ((with_reducible refine EvDraw.ord (id := 6) (.go 0 (.go 1 (.go 2 (.go 3 (.go 4 (.go 5 (.go 6 (.go 7 (.go 8 .done))))))))) fol ?_ ?_ ?_); kernel_rfl; kernel_rfl) | ((with_reducible refine EvIdx.rd r (by simpa using hl) (by omega) (by omega) ?_); intro bI oI eI hI) | ((with_reducible refine EvIdx.rd r' (by simpa using hl') (by omega) (by omega) ?_); intro bI oI eI hI) | ((with_reducible refine EvLd.row (by assumption) (by omega) ?_)) | (with_reducible first | refine EvSeq.go ?_ | refine EvIf.tt ?_ | refine EvIf.ff ?_) | ((with_reducible refine Hole.mk (kK ?_)); clear kK) | ((with_reducible refine EvIf.mk (fun c => ?_) (fun c => ?_)) <;> (try simp only [cs_] at c) <;> (try (exfalso; first | omega | (revert c; decide)))) | ((with_reducible refine EvNew.sep HS ?_); intro bN hN HS1 hX; replace HS := HS1; clear HS1) | ((with_reducible refine EvIdx.lit ?_ ?_ ?_); (first | omega | decide); (first | omega | decide)) | ((with_reducible first | refine EvNe.mk ?_ ?_ | refine EvGe.mk ?_ ?_); (first | decide | omega)) | ((with_reducible refine EvLd.q HS (by repeat first | exact .h | apply Spot.t) ?_); (conv => whnf); intro hC) | (with_reducible refine EvLdN.q HS (by repeat first | exact .h | apply Spot.t) (fun hC => ?_)) | ((with_reducible refine EvSt.q HS (by repeat first | exact .h | apply Spot.t) ?_); (conv => whnf); intro hN HS1 hU; replace HS := HS1; clear HS1) | ((with_reducible refine EvKeep.cq (A := keepK _ _ (Hole _) _) HS (by repeat first | exact .h | apply Spot.t) ?_); (conv => whnf); (refine ⟨?_, ?_⟩); assumption; intro hC) | ((with_reducible refine EvKeep.nq (A := keepK _ _ (Hole _) _) HS (by repeat first | exact .h | apply Spot.t) ?_ ?_); assumption; intro hC) | ((fail_if_success with_reducible refine EvKeep.hole ?_); (with_reducible refine EvKeep.abs (fun X kK => ?_)))) <;> conv => whnf)
    · refine ⟨?_, rfl⟩
      rw [decide_eq_false (fun e => c (by subst e; rfl))]
    · refine ⟨_, (by (repeat' (first | exact trivial | refine ⟨rfl, ?_⟩))), ⟨rfl, k + 1, by omega, ?_, ?_⟩, ?_⟩
      · show IntKind.i64.wrap _ = _
        rw [i64w _ (by omega) (by omega)]; omega
      · rw [List.take_succ_eq_append_getElem (by omega), List.take_succ_eq_append_getElem (by omega), ht]
        simp only [Int.toNat_natCast] at c
        rw [c]
      · show ((n : Int) - IntKind.i64.wrap _).toNat < _
        rw [i64w _ (by omega) (by omega)]; omega
    · refine ⟨?_, rfl⟩
      rw [List.take_of_length_le (by omega), List.take_of_length_le (by omega)] at ht
      rw [decide_eq_true ht]
theorem nodeEq_c {h : Hp} {x y : Nd} (ox : NdOk h x) (oy : NdOk h y) : HC Try.prog 32 [.agg x.cells.toArray, .agg y.cells.toArray] h fun v h' => v = .bool (decide (x.key = y.key)) ∧ Ext h h' := by
  refine hc_of Try.func32 (rfl : Try.f32.body = some _) Try.ntmps32 Try.results32 Try.call32 rfl ?_; have HS := Sep.nil h; conv => whnf
  repeat' ((first | ((with_reducible refine EvCall.mk (HC.mono (equalI_c (ox.r.ext HS.to_ext) ox.l (oy.r.ext HS.to_ext) oy.l ox.b oy.b) ?_)); (rintro _ _ ⟨rfl, rfl⟩)) | (with_reducible first | refine EvSeq.go ?_ | refine EvIf.tt ?_ | refine EvIf.ff ?_) | ((with_reducible refine Hole.mk (kK ?_)); clear kK) | ((with_reducible refine EvIf.mk (fun c => ?_) (fun c => ?_)) <;> (try simp only [cs_] at c) <;> (try (exfalso; first | omega | (revert c; decide)))) | ((with_reducible refine EvNew.sep HS ?_); intro bN hN HS1 hX; replace HS := HS1; clear HS1) | ((with_reducible refine EvIdx.lit ?_ ?_ ?_); (first | omega | decide); (first | omega | decide)) | ((with_reducible first | refine EvNe.mk ?_ ?_ | refine EvGe.mk ?_ ?_); (first | decide | omega)) | ((with_reducible refine EvLd.q HS (by repeat first | exact .h | apply Spot.t) ?_); (conv => whnf); intro hC) | (with_reducible refine EvLdN.q HS (by repeat first | exact .h | apply Spot.t) (fun hC => ?_)) | ((with_reducible refine EvSt.q HS (by repeat first | exact .h | apply Spot.t) ?_); (conv => whnf); intro hN HS1 hU; replace HS := HS1; clear HS1) | ((with_reducible refine EvKeep.cq (A := keepK _ _ (Hole _) _) HS (by repeat first | exact .h | apply Spot.t) ?_); (conv => whnf); (refine ⟨?_, ?_⟩); assumption; intro hC) | ((with_reducible refine EvKeep.nq (A := keepK _ _ (Hole _) _) HS (by repeat first | exact .h | apply Spot.t) ?_ ?_); assumption; intro hC) | ((fail_if_success with_reducible refine EvKeep.hole ?_); (with_reducible refine EvKeep.abs (fun X kK => ?_)))) <;> conv => whnf)
  all_goals
    refine ⟨congrArg Value.bool ?_, HS.to_ext⟩
    clear HS
    unfold Nd.key
    simp_all
theorem key_take {xs ys : List Nd} {k : Nat} {x y : Nd} (hx : xs[k]? = some x) (hy : ys[k]? = some y) (ht : (xs.take k).map Nd.key = (ys.take k).map Nd.key) (e : x.key = y.key) : (xs.take (k + 1)).map Nd.key = (ys.take (k + 1)).map Nd.key := by
  rw [List.take_add_one, List.take_add_one, hx, hy, List.map_append, List.map_append, ht]
  simp [e]
theorem key_no {xs ys : List Nd} {k : Nat} {x y : Nd} (hx : xs[k]? = some x) (hy : ys[k]? = some y) (e : ¬x.key = y.key) : decide (xs.map Nd.key = ys.map Nd.key) = false := by
  rw [decide_eq_false]
  intro h
  have h1 : (xs.map Nd.key)[k]? = some x.key := by simp [hx]
  have h2 : (ys.map Nd.key)[k]? = some y.key := by simp [hy]
  rw [h, h2] at h1
  exact e (Option.some.inj h1).symm
theorem key_len {xs ys : List Nd} (e : ¬xs.length = ys.length) : decide (xs.map Nd.key = ys.map Nd.key) = false := by
  rw [decide_eq_false]
  intro h
  have := congrArg List.length h
  simp at this
  exact e this
theorem key_all {xs ys : List Nd} {k : Nat} (hx : xs.length ≤ k) (hy : ys.length ≤ k) (ht : (xs.take k).map Nd.key = (ys.take k).map Nd.key) : decide (xs.map Nd.key = ys.map Nd.key) = true := by
  rw [List.take_of_length_le hx, List.take_of_length_le hy] at ht
  exact decide_eq_true ht
theorem equalFunc_c {h : Hp} {A B : Option Addr} {n m ca cb : Nat} {xs ys : List Nd} (ox : NdsOk h A n xs) (oy : NdsOk h B m ys) :
    HC Try.prog 31 [.slice A n ca, .slice B m cb, .func (.func 32) #[] #[]] h fun v h' => v = .bool (decide (xs.map Nd.key = ys.map Nd.key)) ∧ Ext h h' := by
  have hxl := ox.l
  have hyl := oy.l
  have hn := ox.b
  refine hc_of Try.func31 (rfl : Try.f31.body = some _) Try.ntmps31 Try.results31 Try.call31 rfl ?_; have HS := Sep.nil h; conv => whnf
  repeat' ((first | (with_reducible first | refine EvSeq.go ?_ | refine EvIf.tt ?_ | refine EvIf.ff ?_) | ((with_reducible refine Hole.mk (kK ?_)); clear kK) | ((with_reducible refine EvIf.mk (fun c => ?_) (fun c => ?_)) <;> (try simp only [cs_] at c) <;> (try (exfalso; first | omega | (revert c; decide)))) | ((with_reducible refine EvNew.sep HS ?_); intro bN hN HS1 hX; replace HS := HS1; clear HS1) | ((with_reducible refine EvIdx.lit ?_ ?_ ?_); (first | omega | decide); (first | omega | decide)) | ((with_reducible first | refine EvNe.mk ?_ ?_ | refine EvGe.mk ?_ ?_); (first | decide | omega)) | ((with_reducible refine EvLd.q HS (by repeat first | exact .h | apply Spot.t) ?_); (conv => whnf); intro hC) | (with_reducible refine EvLdN.q HS (by repeat first | exact .h | apply Spot.t) (fun hC => ?_)) | ((with_reducible refine EvSt.q HS (by repeat first | exact .h | apply Spot.t) ?_); (conv => whnf); intro hN HS1 hU; replace HS := HS1; clear HS1) | ((with_reducible refine EvKeep.cq (A := keepK _ _ (Hole _) _) HS (by repeat first | exact .h | apply Spot.t) ?_); (conv => whnf); (refine ⟨?_, ?_⟩); assumption; intro hC) | ((with_reducible refine EvKeep.nq (A := keepK _ _ (Hole _) _) HS (by repeat first | exact .h | apply Spot.t) ?_ ?_); assumption; intro hC) | ((fail_if_success with_reducible refine EvKeep.hole ?_); (with_reducible refine EvKeep.abs (fun X kK => ?_)))) <;> conv => whnf)
  · exact ⟨congrArg Value.bool (key_len (by omega)).symm, HS.to_ext⟩
  · clear HS
    refine EvLoop.keep ([6, 7, 8, 9, 17, 18, 19, 20, 21, 22, 23, 24, 25, 26, 27, 28, 29, 30, 31], 10) (α := Int) (fun x => [(17, .int .i64 x), (16, .int .i64 n), (15, .slice A n ca)]) (fun x h' => Ext h h' ∧ ∃ k : Nat, k ≤ n ∧ x = k ∧ (xs.take k).map Nd.key = (ys.take k).map Nd.key) (fun x => ((n : Int) - x).toNat) 0 (by (repeat' (first | exact trivial | refine ⟨rfl, ?_⟩))) ⟨Ext.refl h, 0, by omega, rfl, rfl⟩ ?_
    rintro _ h1 ⟨he, k, hk, rfl, ht⟩
    have HS := Sep.nil h1
    conv => whnf
    repeat' ((first | ((with_reducible refine EvIdx.el Nd.len (by decide) ((ox.r.ext he).ext HS.to_ext) hxl (by omega) (by omega) ?_); intro bI oI x eI hx hI) | ((with_reducible refine EvIdx.el Nd.len (by decide) ((oy.r.ext he).ext HS.to_ext) hyl (by omega) (by omega) ?_); intro bJ oJ y eJ hy hJ) | ((with_reducible refine EvLdN.el hI (Nd.len _) ?_)) | ((with_reducible refine EvLdN.el hJ (Nd.len _) ?_)) | ((refine EvCall.mk (HC.mono (nodeEq_c (x := x) (y := y) ((ox.at_ hx).ext (he.trans HS.to_ext)) ((oy.at_ hy).ext (he.trans HS.to_ext))) ?_)); (rintro _ hN ⟨rfl, hX⟩); replace HS := HS.ext hX) | (with_reducible first | refine EvSeq.go ?_ | refine EvIf.tt ?_ | refine EvIf.ff ?_) | ((with_reducible refine Hole.mk (kK ?_)); clear kK) | ((with_reducible refine EvIf.mk (fun c => ?_) (fun c => ?_)) <;> (try simp only [cs_] at c) <;> (try (exfalso; first | omega | (revert c; decide)))) | ((with_reducible refine EvNew.sep HS ?_); intro bN hN HS1 hX; replace HS := HS1; clear HS1) | ((with_reducible refine EvIdx.lit ?_ ?_ ?_); (first | omega | decide); (first | omega | decide)) | ((with_reducible first | refine EvNe.mk ?_ ?_ | refine EvGe.mk ?_ ?_); (first | decide | omega)) | ((with_reducible refine EvLd.q HS (by repeat first | exact .h | apply Spot.t) ?_); (conv => whnf); intro hC) | (with_reducible refine EvLdN.q HS (by repeat first | exact .h | apply Spot.t) (fun hC => ?_)) | ((with_reducible refine EvSt.q HS (by repeat first | exact .h | apply Spot.t) ?_); (conv => whnf); intro hN HS1 hU; replace HS := HS1; clear HS1) | ((with_reducible refine EvKeep.cq (A := keepK _ _ (Hole _) _) HS (by repeat first | exact .h | apply Spot.t) ?_); (conv => whnf); (refine ⟨?_, ?_⟩); assumption; intro hC) | ((with_reducible refine EvKeep.nq (A := keepK _ _ (Hole _) _) HS (by repeat first | exact .h | apply Spot.t) ?_ ?_); assumption; intro hC) | ((fail_if_success with_reducible refine EvKeep.hole ?_); (with_reducible refine EvKeep.abs (fun X kK => ?_)))) <;> conv => whnf)
    · exact ⟨congrArg Value.bool (key_no (k := k) hx hy c).symm, he.trans HS.to_ext⟩
    · exact ⟨(k : Int) + 1, ⟨congrArg (fun z => some (Value.int .i64 z)) (i64w _ (by omega) (by omega)), (by (repeat' (first | exact trivial | refine ⟨rfl, ?_⟩)))⟩, ⟨he.trans HS.to_ext, k + 1, by omega, by omega, key_take hx hy ht c⟩, by omega⟩
    · exact ⟨congrArg Value.bool (key_all (by omega) (by omega) ht).symm, he⟩
theorem iSameTree_c {h : Hp} {A B : Option Addr} {n m ca cb : Nat} {xs ys : List Nd} (ox : NdsOk h A n xs) (oy : NdsOk h B m ys) :
    HC Try.prog 12 [.agg #[.slice A n ca], .agg #[.slice B m cb]] h fun v h' => v = .bool (decide (xs.map Nd.key = ys.map Nd.key)) ∧ Ext h h' := by
  refine hc_of Try.func12 (rfl : Try.f12.body = some _) Try.ntmps12 Try.results12 Try.call12 rfl ?_; have HS := Sep.nil h; conv => whnf
  repeat' ((first | ((with_reducible refine EvCall.mk (HC.mono (equalFunc_c (ox.ext HS.to_ext) (oy.ext HS.to_ext)) ?_)); (rintro _ hN ⟨rfl, hX⟩); replace HS := HS.ext hX) | (with_reducible first | refine EvSeq.go ?_ | refine EvIf.tt ?_ | refine EvIf.ff ?_) | ((with_reducible refine Hole.mk (kK ?_)); clear kK) | ((with_reducible refine EvIf.mk (fun c => ?_) (fun c => ?_)) <;> (try simp only [cs_] at c) <;> (try (exfalso; first | omega | (revert c; decide)))) | ((with_reducible refine EvNew.sep HS ?_); intro bN hN HS1 hX; replace HS := HS1; clear HS1) | ((with_reducible refine EvIdx.lit ?_ ?_ ?_); (first | omega | decide); (first | omega | decide)) | ((with_reducible first | refine EvNe.mk ?_ ?_ | refine EvGe.mk ?_ ?_); (first | decide | omega)) | ((with_reducible refine EvLd.q HS (by repeat first | exact .h | apply Spot.t) ?_); (conv => whnf); intro hC) | (with_reducible refine EvLdN.q HS (by repeat first | exact .h | apply Spot.t) (fun hC => ?_)) | ((with_reducible refine EvSt.q HS (by repeat first | exact .h | apply Spot.t) ?_); (conv => whnf); intro hN HS1 hU; replace HS := HS1; clear HS1) | ((with_reducible refine EvKeep.cq (A := keepK _ _ (Hole _) _) HS (by repeat first | exact .h | apply Spot.t) ?_); (conv => whnf); (refine ⟨?_, ?_⟩); assumption; intro hC) | ((with_reducible refine EvKeep.nq (A := keepK _ _ (Hole _) _) HS (by repeat first | exact .h | apply Spot.t) ?_ ?_); assumption; intro hC) | ((fail_if_success with_reducible refine EvKeep.hole ?_); (with_reducible refine EvKeep.abs (fun X kK => ?_)))) <;> conv => whnf)
  exact ⟨rfl, HS.to_ext⟩
theorem ints_no {l l' : List Int} {k : Nat} (hk : k < l.length) (hk' : k < l'.length) (e : ¬l[k] = l'[k]) : ¬l = l' := by
  rintro rfl
  exact e rfl
theorem sSameTree_c {h : Hp} {A B : Option Addr} {n m ca cb : Nat} {xs ys : List Nd} (ox : NdsOk h A n xs) (oy : NdsOk h B m ys) :
    HC Try.prog 10 [.agg #[.slice A n ca], .agg #[.slice B m cb]] h fun v h' => v = .bool (decide (xs.map Nd.key = ys.map Nd.key)) ∧ Ext h h' := by
  have hxl := ox.l
  have hyl := oy.l
  have hn := ox.b
  refine hc_of Try.func10 (rfl : Try.f10.body = some _) Try.ntmps10 Try.results10 Try.call10 rfl ?_; have HS := Sep.nil h; conv => whnf
  refine EvNew.sep HS ?_
  intro b1 gb1 HS1 xb1
  replace HS := HS1
  clear HS1
  conv => whnf
  refine EvNew.sep HS ?_
  intro b2 gb2 HS1 xb2
  replace HS := HS1
  clear HS1
  conv => whnf
  repeat' ((first | (with_reducible first | refine EvSeq.go ?_ | refine EvIf.tt ?_ | refine EvIf.ff ?_) | ((with_reducible refine Hole.mk (kK ?_)); clear kK) | ((with_reducible refine EvIf.mk (fun c => ?_) (fun c => ?_)) <;> (try simp only [cs_] at c) <;> (try (exfalso; first | omega | (revert c; decide)))) | ((with_reducible refine EvNew.sep HS ?_); intro bN hN HS1 hX; replace HS := HS1; clear HS1) | ((with_reducible refine EvIdx.lit ?_ ?_ ?_); (first | omega | decide); (first | omega | decide)) | ((with_reducible first | refine EvNe.mk ?_ ?_ | refine EvGe.mk ?_ ?_); (first | decide | omega)) | ((with_reducible refine EvLd.q HS (by repeat first | exact .h | apply Spot.t) ?_); (conv => whnf); intro hC) | (with_reducible refine EvLdN.q HS (by repeat first | exact .h | apply Spot.t) (fun hC => ?_)) | ((with_reducible refine EvSt.q HS (by repeat first | exact .h | apply Spot.t) ?_); (conv => whnf); intro hN HS1 hU; replace HS := HS1; clear HS1) | ((with_reducible refine EvKeep.cq (A := keepK _ _ (Hole _) _) HS (by repeat first | exact .h | apply Spot.t) ?_); (conv => whnf); (refine ⟨?_, ?_⟩); assumption; intro hC) | ((with_reducible refine EvKeep.nq (A := keepK _ _ (Hole _) _) HS (by repeat first | exact .h | apply Spot.t) ?_ ?_); assumption; intro hC) | ((fail_if_success with_reducible refine EvKeep.hole ?_); (with_reducible refine EvKeep.abs (fun X kK => ?_)))) <;> conv => whnf)
  · exact ⟨congrArg Value.bool (key_len (by omega)).symm, HS.to_ext⟩
  · refine EvLoop.keep ([4, 5, 6, 7, 8, 16, 17, 18, 19, 20, 21, 22, 23, 24, 25, 26, 27, 28, 29, 30, 31, 32, 33, 34, 35, 36, 37, 38, 39, 40, 41, 42, 43, 44, 45, 46, 47, 48, 49, 50, 51, 52, 53, 54, 55, 56, 57, 58, 59, 60, 61, 62, 63, 64, 65, 66, 67, 68, 69, 70, 71, 72, 73, 74, 75, 76, 77, 78, 79, 80, 81, 82, 83, 84, 85], 9) (α := Int) (fun x => [(5, .int .i64 x)]) (fun x h' => Sep h h' [Bx b2 [.slice B m cb] 40, Bx b1 [.slice A n ca] 40] ∧ ∃ k : Nat, k ≤ n ∧ x = k ∧ (xs.take k).map Nd.key = (ys.take k).map Nd.key) (fun x => ((n : Int) - x).toNat) 0 (by (repeat' (first | exact trivial | refine ⟨rfl, ?_⟩))) ⟨HS, 0, by omega, rfl, rfl⟩ ?_
    clear HS
    rintro _ h1 ⟨HS, k, hk, rfl, ht⟩
    conv => whnf
    repeat' ((first | ((with_reducible refine EvIdx.el Nd.len (by decide) (ox.r.ext HS.to_ext) hxl (by omega) (by omega) ?_); intro bI oI x eI hx hI) | ((with_reducible refine EvIdx.el Nd.len (by decide) (oy.r.ext HS.to_ext) hyl (by omega) (by omega) ?_); intro bJ oJ y eJ hy hJ) | ((with_reducible refine EvLdN.el hI (Nd.len _) ?_)) | ((with_reducible refine EvLdN.el hJ (Nd.len _) ?_)) | (with_reducible first | refine EvSeq.go ?_ | refine EvIf.tt ?_ | refine EvIf.ff ?_) | ((with_reducible refine Hole.mk (kK ?_)); clear kK) | ((with_reducible refine EvIf.mk (fun c => ?_) (fun c => ?_)) <;> (try simp only [cs_] at c) <;> (try (exfalso; first | omega | (revert c; decide)))) | ((with_reducible refine EvNew.sep HS ?_); intro bN hN HS1 hX; replace HS := HS1; clear HS1) | ((with_reducible refine EvIdx.lit ?_ ?_ ?_); (first | omega | decide); (first | omega | decide)) | ((with_reducible first | refine EvNe.mk ?_ ?_ | refine EvGe.mk ?_ ?_); (first | decide | omega)) | ((with_reducible refine EvLd.q HS (by repeat first | exact .h | apply Spot.t) ?_); (conv => whnf); intro hC) | (with_reducible refine EvLdN.q HS (by repeat first | exact .h | apply Spot.t) (fun hC => ?_)) | ((with_reducible refine EvSt.q HS (by repeat first | exact .h | apply Spot.t) ?_); (conv => whnf); intro hN HS1 hU; replace HS := HS1; clear HS1) | ((with_reducible refine EvKeep.cq (A := keepK _ _ (Hole _) _) HS (by repeat first | exact .h | apply Spot.t) ?_); (conv => whnf); (refine ⟨?_, ?_⟩); assumption; intro hC) | ((with_reducible refine EvKeep.nq (A := keepK _ _ (Hole _) _) HS (by repeat first | exact .h | apply Spot.t) ?_ ?_); assumption; intro hC) | ((fail_if_success with_reducible refine EvKeep.hole ?_); (with_reducible refine EvKeep.abs (fun X kK => ?_)))) <;> conv => whnf)
    case refine_2.refine_1.refine_2.refine_2.refine_2.refine_2.refine_2 =>
      have hko := (ox.at_ hx).ext HS.to_ext
      have hkp := (oy.at_ hy).ext HS.to_ext
      have e1 := hko.l
      have e2 := hkp.l
      have e3 := hko.b
      have hkey : x.kl = y.kl → x.key = y.key := by
        intro e
        unfold Nd.key
        simp_all
      rename Hp => g
      refine EvLoop.keep ([4, 8, 68, 69, 70, 71, 72, 73, 74, 75, 76, 77, 78, 79, 80, 81, 82, 83, 84, 85], 9) (α := Int) (fun x => [(8, .int .i64 x)]) (fun z h' => h' = g ∧ ∃ q : Nat, q ≤ x.kids.n ∧ z = q ∧ x.kl.take q = y.kl.take q) (fun z => ((x.kids.n : Int) - z).toNat) 0 (by (repeat' (first | exact trivial | refine ⟨rfl, ?_⟩))) ⟨rfl, 0, by omega, rfl, rfl⟩ ?_
      rintro _ _ ⟨rfl, q, hq, rfl, hqt⟩
      conv => whnf
      repeat' ((first | ((with_reducible refine EvDraw.ord (id := 13) (.go 0 (.go 1 (.go 2 (.go 3 (.go 4 (.go 5 (.go 6 (.go 7 (.go 8 (.go 9 (.go 10 .done))))))))))) fol ?_ ?_ ?_); kernel_rfl; kernel_rfl) | ((with_reducible refine EvIdx.rd hko.r (by simpa using e1) (by omega) (by omega) ?_); intro bX oX eX hX) | ((with_reducible refine EvIdx.rd hkp.r (by simpa using e2) (by omega) (by omega) ?_); intro bY oY eY hY) | ((with_reducible refine EvLd.row (by assumption) (by omega) ?_)) | (with_reducible first | refine EvSeq.go ?_ | refine EvIf.tt ?_ | refine EvIf.ff ?_) | ((with_reducible refine Hole.mk (kK ?_)); clear kK) | ((with_reducible refine EvIf.mk (fun c => ?_) (fun c => ?_)) <;> (try simp only [cs_] at c) <;> (try (exfalso; first | omega | (revert c; decide)))) | ((with_reducible refine EvNew.sep HS ?_); intro bN hN HS1 hX; replace HS := HS1; clear HS1) | ((with_reducible refine EvIdx.lit ?_ ?_ ?_); (first | omega | decide); (first | omega | decide)) | ((with_reducible first | refine EvNe.mk ?_ ?_ | refine EvGe.mk ?_ ?_); (first | decide | omega)) | ((with_reducible refine EvLd.q HS (by repeat first | exact .h | apply Spot.t) ?_); (conv => whnf); intro hC) | (with_reducible refine EvLdN.q HS (by repeat first | exact .h | apply Spot.t) (fun hC => ?_)) | ((with_reducible refine EvSt.q HS (by repeat first | exact .h | apply Spot.t) ?_); (conv => whnf); intro hN HS1 hU; replace HS := HS1; clear HS1) | ((with_reducible refine EvKeep.cq (A := keepK _ _ (Hole _) _) HS (by repeat first | exact .h | apply Spot.t) ?_); (conv => whnf); (refine ⟨?_, ?_⟩); assumption; intro hC) | ((with_reducible refine EvKeep.nq (A := keepK _ _ (Hole _) _) HS (by repeat first | exact .h | apply Spot.t) ?_ ?_); assumption; intro hC) | ((fail_if_success with_reducible refine EvKeep.hole ?_); (with_reducible refine EvKeep.abs (fun X kK => ?_)))) <;> conv => whnf)
      · exact ⟨congrArg Value.bool (key_no (k := k) hx hy (fun e => ints_no (k := q) (by omega) (by omega) c (congrArg (fun z => z.2.2.2.2) e))).symm, HS.to_ext⟩
      · refine ⟨(q : Int) + 1, ⟨congrArg (fun z => some (Value.int .i64 z)) (i64w _ (by omega) (by omega)), (by (repeat' (first | exact trivial | refine ⟨rfl, ?_⟩)))⟩, ⟨rfl, q + 1, by omega, by omega, ?_⟩, by omega⟩
        rw [List.take_succ_eq_append_getElem (by omega), List.take_succ_eq_append_getElem (by omega), hqt]
        simp only [Int.toNat_natCast] at c
        rw [c]
      · rw [List.take_of_length_le (by omega), List.take_of_length_le (by omega)] at hqt
        exact ⟨(k : Int) + 1, ⟨congrArg (fun z => some (Value.int .i64 z)) (i64w _ (by omega) (by omega)), (by (repeat' (first | exact trivial | refine ⟨rfl, ?_⟩)))⟩, ⟨HS.tail.tail, k + 1, by omega, by omega, key_take hx hy ht (hkey hqt)⟩, by omega⟩
    case refine_2.refine_2 => exact ⟨congrArg Value.bool (key_all (by omega) (by omega) ht).symm, HS.to_ext⟩
    all_goals
      have e1 := (ox.at_ hx).l
      have e2 := (oy.at_ hy).l
      refine ⟨congrArg Value.bool (key_no (k := k) hx hy (fun e => ?_)).symm, HS.to_ext⟩
      clear HS
      unfold Nd.key at e
      simp_all
end Go.Proofs.Ytjggmhpjlnmigaa
