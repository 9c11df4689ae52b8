/- Trees: the law's own functions. -/
import Derived.Test.YtjggmhpjlnmigaaVTree
import Derived.Test.YtjggmhpjlnmigaaVMac
namespace Go.Proofs.Ytjggmhpjlnmigaa
open Go.RowKit
set_option maxRecDepth 20000
set_option linter.unusedSimpArgs false
set_option linter.unusedVariables false
structure NdF (h : Hp) (lo : Nat) (x : Nd) : Prop where
  r : RdF h lo x.kids.a (ints .i64 x.kl)
  l : x.kl.length = x.kids.n
  b : x.kids.n ≤ 1000000000
theorem NdF.ok {h : Hp} {lo : Nat} {x : Nd} (o : NdF h lo x) : NdOk h x := ⟨o.r.rd, o.l, o.b⟩
theorem NdF.ext {h h' : Hp} (e : Ext h h') {lo : Nat} {x : Nd} (o : NdF h lo x) : NdF h' lo x := ⟨o.r.ext e, o.l, o.b⟩
theorem NdF.upd {h h' : Hp} {lo bb : Nat} {o' : Obj} {x : Nd} (o : NdF h lo x) (u : Upd h bb o' h') (hb : bb < lo) : NdF h' lo x := ⟨o.r.upd u hb, o.l, o.b⟩
structure NdsF (h : Hp) (lo : Nat) (A : Option Addr) (n : Nat) (xs : List Nd) : Prop where
  r : RdF h lo A (xs.flatMap Nd.cells)
  l : xs.length = n
  b : n ≤ 1000000000
  o : ∀ x ∈ xs, NdF h lo x
theorem NdsF.ok {h : Hp} {lo : Nat} {A : Option Addr} {n : Nat} {xs : List Nd} (o : NdsF h lo A n xs) : NdsOk h A n xs := ⟨o.r.rd, o.l, o.b, fun x hx => (o.o x hx).ok⟩
theorem NdsF.ext {h h' : Hp} (e : Ext h h') {lo : Nat} {A : Option Addr} {n : Nat} {xs : List Nd} (o : NdsF h lo A n xs) : NdsF h' lo A n xs := ⟨o.r.ext e, o.l, o.b, fun x hx => (o.o x hx).ext e⟩
theorem NdsF.upd {h h' : Hp} {lo bb : Nat} {o' : Obj} {A : Option Addr} {n : Nat} {xs : List Nd} (o : NdsF h lo A n xs) (u : Upd h bb o' h') (hb : bb < lo) : NdsF h' lo A n xs := ⟨o.r.upd u hb, o.l, o.b, fun x hx => (o.o x hx).upd u hb⟩
theorem NdsF.mono {h : Hp} {lo lo' : Nat} {A : Option Addr} {n : Nat} {xs : List Nd} (o : NdsF h lo A n xs) (hl : lo' ≤ lo) : NdsF h lo' A n xs := ⟨o.r.mono hl, o.l, o.b, fun x hx => ⟨(o.o x hx).r.mono hl, (o.o x hx).l, (o.o x hx).b⟩⟩
/-- rows that are read within a part of memory -/
def RdIn (h : Hp) (S : Foot) (A : Option Addr) (cs : List Value) : Prop := ∀ (j : Nat) v, cs[j]? = some v → ∃ b o, A = some ⟨b, o, none⟩ ∧ S b ∧ hcell h b (o + j) = some v
theorem RdIn.rd {h : Hp} {S : Foot} {A : Option Addr} {cs : List Value} (r : RdIn h S A cs) : Rd h A cs := fun j v e => by
  obtain ⟨b, o, e1, _, e2⟩ := r j v e
  exact ⟨b, o, e1, e2⟩
theorem RdIn.loc {h h' : Hp} {S : Foot} {A : Option Addr} {cs : List Value} (r : RdIn h S A cs) (e : ∀ b, S b → h'[b]? = h[b]?) : RdIn h' S A cs := fun j v hj => by
  obtain ⟨b, o, e1, e0, e2⟩ := r j v hj
  exact ⟨b, o, e1, e0, (hcell_of (e b e0) _).trans e2⟩
theorem RdF.in_ {h : Hp} {lo : Nat} {A : Option Addr} {cs : List Value} (r : RdF h lo A cs) : RdIn h (fun b => lo ≤ b ∧ b < h.size) A cs := fun j v hj => by
  obtain ⟨b, o, e1, e0, e2⟩ := r j v hj
  exact ⟨b, o, e1, ⟨e0, hcell_lt e2⟩, e2⟩
/-- nodes and all that they reach, as one piece -/
def NdsP (A : Option Addr) (n : Nat) (xs : List Nd) : Asn :=
  ⟨fun h S => RdIn h S A (xs.flatMap Nd.cells) ∧ xs.length = n ∧ n ≤ 1000000000 ∧ ∀ x ∈ xs, RdIn h S x.kids.a (ints .i64 x.kl) ∧ x.kl.length = x.kids.n ∧ x.kids.n ≤ 1000000000,
   fun ⟨a, b, c, d⟩ e => ⟨a.loc e, b, c, fun x hx => ⟨(d x hx).1.loc e, (d x hx).2⟩⟩⟩
theorem NdsF.sep {h h' : Hp} {A : Option Addr} {n : Nat} {xs : List Nd} (o : NdsF h' h.size A n xs) (x : Ext h h') : Sep h h' [NdsP A n xs] :=
  Sep.one (S := fun b => h.size ≤ b ∧ b < h'.size) ⟨o.r.in_, o.l, o.b, fun x hx => ⟨(o.o x hx).r.in_, (o.o x hx).l, (o.o x hx).b⟩⟩ (fun _ hb => hb) x
theorem Sep.nds {h0 h : Hp} {L : List Asn} (s : Sep h0 h L) (i : Nat) {A : Option Addr} {n : Nat} {xs : List Nd} (hi : L[i]? = some (NdsP A n xs)) : NdsOk h A n xs := by
  obtain ⟨S, ⟨a, b, c, d⟩, _⟩ := s.get (List.mem_of_getElem? hi)
  exact ⟨a.rd, b, c, fun x hx => ⟨(d x hx).1.rd, (d x hx).2.1, (d x hx).2.2⟩⟩
theorem map_at {α β : Type} {f : α → β} {xs ys : List α} {k : Nat} {x y : α} (e : xs.map f = ys.map f) (hx : xs[k]? = some x) (hy : ys[k]? = some y) : f x = f y := by
  have h1 : (xs.map f)[k]? = some (f x) := by simp [hx]
  have h2 : (ys.map f)[k]? = some (f y) := by simp [hy]
  rw [e, h2] at h1
  exact (Option.some.inj h1).symm
theorem toNode_c {h : Hp} {x : Nd} (ox : NdOk h x) : HC Try.prog 45 [.agg x.cells.toArray] h fun v h' => ∃ y : Nd, v = .agg y.cells.toArray ∧ y.full = x.full ∧ NdF h' h.size y ∧ Ext h h' := by
  refine hc_of Try.func45 (rfl : Try.f45.body = some _) Try.ntmps45 Try.results45 Try.call45 rfl ?_; have HS := Sep.nil h; conv => whnf
  repeat' ((first | ((refine EvCall.mk (HC.mono (toIntS_c (ox.r.ext HS.to_ext) ox.l ox.b) ?_)); (rintro _ hN ⟨AN, cN, rfl, HS1⟩); replace HS := HS.join1 HS1; clear HS1) | (with_reducible first | refine EvSeq.go ?_ | refine EvIf.tt ?_ | refine EvIf.ff ?_) | ((with_reducible refine Hole.mk (kK ?_)); clear kK) | ((with_reducible refine EvIf.mk (fun c => ?_) (fun c => ?_)) <;> (try simp only [cs_] at c) <;> (try (exfalso; first | omega | (revert c; decide)))) | ((with_reducible refine EvNew.sep HS ?_); intro bN hN HS1 hX; replace HS := HS1; clear HS1) | ((with_reducible refine EvIdx.lit ?_ ?_ ?_); (first | omega | decide); (first | omega | decide)) | ((with_reducible first | refine EvNe.mk ?_ ?_ | refine EvGe.mk ?_ ?_); (first | decide | omega)) | ((with_reducible refine EvLd.q HS (by repeat first | exact .h | apply Spot.t) ?_); (conv => whnf); intro hC) | (with_reducible refine EvLdN.q HS (by repeat first | exact .h | apply Spot.t) (fun hC => ?_)) | ((with_reducible refine EvSt.q HS (by repeat first | exact .h | apply Spot.t) ?_); (conv => whnf); intro hN HS1 hU; replace HS := HS1; clear HS1) | ((with_reducible refine EvKeep.cq (A := keepK _ _ (Hole _) _) HS (by repeat first | exact .h | apply Spot.t) ?_); (conv => whnf); (refine ⟨?_, ?_⟩); assumption; intro hC) | ((with_reducible refine EvKeep.nq (A := keepK _ _ (Hole _) _) HS (by repeat first | exact .h | apply Spot.t) ?_ ?_); assumption; intro hC) | ((fail_if_success with_reducible refine EvKeep.hole ?_); (with_reducible refine EvKeep.abs (fun X kK => ?_)))) <;> conv => whnf)
  have r := HS.rdf 0 rfl
  exact ⟨⟨x.k, x.m, x.n, x.s, ⟨AN, x.kids.n, cN⟩, x.kl, x.line, x.col⟩, rfl, rfl, ⟨r, ox.l, ox.b⟩, HS.to_ext⟩
theorem full_take {xs : List Nd} {ys : List Nd} {k : Nat} {x y : Nd} (hx : xs[k]? = some x) (ht : ys.map Nd.full = (xs.take k).map Nd.full) (e : y.full = x.full) : (ys ++ [y]).map Nd.full = (xs.take (k + 1)).map Nd.full := by
  rw [List.take_add_one, hx, List.map_append, List.map_append, ht]
  simp [e]
def z7 : List Value := [.int .i64 0, .int .i64 0, .int .i64 0, .string ByteArray.empty, .slice none 0 0, .int .i64 0, .int .i64 0]
theorem mk_drop (k : Nat) : (mkCells z7 (k + 1)).drop 7 = mkCells z7 k := by
  unfold mkCells
  rw [List.replicate_succ, List.flatten_cons]
  rfl
theorem toNodeS_c {h : Hp} {A : Option Addr} {n ca : Nat} {xs : List Nd} (ox : NdsOk h A n xs) :
    HC Try.prog 30 [.slice A n ca] h fun v h' => ∃ B cb ys, v = .slice B n cb ∧ ys.map Nd.full = xs.map Nd.full ∧ NdsF h' h.size B n ys ∧ Ext h h' := by
  have hxl := ox.l
  have hn := ox.b
  refine hc_of Try.func30 (rfl : Try.f30.body = some _) Try.ntmps30 Try.results30 Try.call30 rfl ?_; have HS := Sep.nil h; conv => whnf
  repeat' ((first | (with_reducible first | refine EvSeq.go ?_ | refine EvIf.tt ?_ | refine EvIf.ff ?_) | ((with_reducible refine Hole.mk (kK ?_)); clear kK) | ((with_reducible refine EvIf.mk (fun c => ?_) (fun c => ?_)) <;> (try simp only [cs_] at c) <;> (try (exfalso; first | omega | (revert c; decide)))) | ((with_reducible refine EvNew.sep HS ?_); intro bN hN HS1 hX; replace HS := HS1; clear HS1) | ((with_reducible refine EvIdx.lit ?_ ?_ ?_); (first | omega | decide); (first | omega | decide)) | ((with_reducible first | refine EvNe.mk ?_ ?_ | refine EvGe.mk ?_ ?_); (first | decide | omega)) | ((with_reducible refine EvLd.q HS (by repeat first | exact .h | apply Spot.t) ?_); (conv => whnf); intro hC) | (with_reducible refine EvLdN.q HS (by repeat first | exact .h | apply Spot.t) (fun hC => ?_)) | ((with_reducible refine EvSt.q HS (by repeat first | exact .h | apply Spot.t) ?_); (conv => whnf); intro hN HS1 hU; replace HS := HS1; clear HS1) | ((with_reducible refine EvKeep.cq (A := keepK _ _ (Hole _) _) HS (by repeat first | exact .h | apply Spot.t) ?_); (conv => whnf); (refine ⟨?_, ?_⟩); assumption; intro hC) | ((with_reducible refine EvKeep.nq (A := keepK _ _ (Hole _) _) HS (by repeat first | exact .h | apply Spot.t) ?_ ?_); assumption; intro hC) | ((fail_if_success with_reducible refine EvKeep.hole ?_); (with_reducible refine EvKeep.abs (fun X kK => ?_)))) <;> conv => whnf)
  refine EvMk.mk (by omega) (by omega) (by omega) (by omega) ?_
  conv => whnf
  refine EvNew.sep HS ?_
  intro b0 gb0 HS1 xb0
  replace HS := HS1
  clear HS1
  conv => whnf
  repeat' ((first | (with_reducible first | refine EvSeq.go ?_ | refine EvIf.tt ?_ | refine EvIf.ff ?_) | ((with_reducible refine Hole.mk (kK ?_)); clear kK) | ((with_reducible refine EvIf.mk (fun c => ?_) (fun c => ?_)) <;> (try simp only [cs_] at c) <;> (try (exfalso; first | omega | (revert c; decide)))) | ((with_reducible refine EvNew.sep HS ?_); intro bN hN HS1 hX; replace HS := HS1; clear HS1) | ((with_reducible refine EvIdx.lit ?_ ?_ ?_); (first | omega | decide); (first | omega | decide)) | ((with_reducible first | refine EvNe.mk ?_ ?_ | refine EvGe.mk ?_ ?_); (first | decide | omega)) | ((with_reducible refine EvLd.q HS (by repeat first | exact .h | apply Spot.t) ?_); (conv => whnf); intro hC) | (with_reducible refine EvLdN.q HS (by repeat first | exact .h | apply Spot.t) (fun hC => ?_)) | ((with_reducible refine EvSt.q HS (by repeat first | exact .h | apply Spot.t) ?_); (conv => whnf); intro hN HS1 hU; replace HS := HS1; clear HS1) | ((with_reducible refine EvKeep.cq (A := keepK _ _ (Hole _) _) HS (by repeat first | exact .h | apply Spot.t) ?_); (conv => whnf); (refine ⟨?_, ?_⟩); assumption; intro hC) | ((with_reducible refine EvKeep.nq (A := keepK _ _ (Hole _) _) HS (by repeat first | exact .h | apply Spot.t) ?_ ?_); assumption; intro hC) | ((fail_if_success with_reducible refine EvKeep.hole ?_); (with_reducible refine EvKeep.abs (fun X kK => ?_)))) <;> conv => whnf)
  refine EvLoop.keep ([4, 8, 9, 10, 11, 12, 13, 14, 15, 16, 17, 18, 19, 20, 21], 5) (α := Int) (fun x => [(4, .int .i64 x)]) (fun x h' => ∃ (k : Nat) (ys : List Nd), k ≤ n ∧ x = k ∧ ys.length = k ∧ ys.map Nd.full = (xs.take k).map Nd.full ∧ Sep h h' [Bx b0 (ys.flatMap Nd.cells ++ mkCells z7 (n - k)) 55] ∧ ∀ y ∈ ys, NdF h' (b0 + 1) y) (fun x => ((n : Int) - x).toNat) 0 (by (repeat' (first | exact trivial | refine ⟨rfl, ?_⟩))) ⟨0, [], by omega, rfl, rfl, rfl, HS, fun y hy => by cases hy⟩ ?_
  clear HS
  rintro _ h1 ⟨k, ys, hk, rfl, hyl, ht, HS, hys⟩
  have hb := blk_lt (HS.pt_i 0 rfl)
  conv => whnf
  repeat' ((first | ((with_reducible refine EvIdx.el Nd.len (by decide) (ox.r.ext HS.to_ext) hxl (by omega) (by omega) ?_); intro bI oI x eI hx hI) | ((with_reducible refine EvLdN.el hI (Nd.len _) ?_)) | ((refine EvCall.mk (HC.mono (toNode_c (x := x) ((ox.at_ hx).ext HS.to_ext)) ?_)); (rintro _ hN ⟨y, rfl, ey, fy, hX⟩); replace HS := HS.ext hX) | (with_reducible first | refine EvSeq.go ?_ | refine EvIf.tt ?_ | refine EvIf.ff ?_) | ((with_reducible refine Hole.mk (kK ?_)); clear kK) | ((with_reducible refine EvIf.mk (fun c => ?_) (fun c => ?_)) <;> (try simp only [cs_] at c) <;> (try (exfalso; first | omega | (revert c; decide)))) | ((with_reducible refine EvNew.sep HS ?_); intro bN hN HS1 hX; replace HS := HS1; clear HS1) | ((with_reducible refine EvIdx.lit ?_ ?_ ?_); (first | omega | decide); (first | omega | decide)) | ((with_reducible first | refine EvNe.mk ?_ ?_ | refine EvGe.mk ?_ ?_); (first | decide | omega)) | ((with_reducible refine EvLd.q HS (by repeat first | exact .h | apply Spot.t) ?_); (conv => whnf); intro hC) | (with_reducible refine EvLdN.q HS (by repeat first | exact .h | apply Spot.t) (fun hC => ?_)) | ((with_reducible refine EvSt.q HS (by repeat first | exact .h | apply Spot.t) ?_); (conv => whnf); intro hN HS1 hU; replace HS := HS1; clear HS1) | ((with_reducible refine EvKeep.cq (A := keepK _ _ (Hole _) _) HS (by repeat first | exact .h | apply Spot.t) ?_); (conv => whnf); (refine ⟨?_, ?_⟩); assumption; intro hC) | ((with_reducible refine EvKeep.nq (A := keepK _ _ (Hole _) _) HS (by repeat first | exact .h | apply Spot.t) ?_ ?_); assumption; intro hC) | ((fail_if_success with_reducible refine EvKeep.hole ?_); (with_reducible refine EvKeep.abs (fun X kK => ?_)))) <;> conv => whnf)
  · refine EvSt.ov HS .h (by
      have := rec_len Nd.len ys
      have e2 := mkCells_len z7 (n - k)
      have e3 : y.cells.toArray.toList.length = 7 := rfl
      have e4 : z7.length = 7 := rfl
      rw [List.length_append, e3, e2, this, hyl, e4, Int.toNat_natCast]
      omega) ?_
    intro h2 HS1 hU
    have e1 : ovr (ys.flatMap Nd.cells ++ mkCells z7 (n - k)) (0 + (k : Int).toNat * 7) y.cells.toArray.toList = (ys ++ [y]).flatMap Nd.cells ++ mkCells z7 (n - (k + 1)) := by
      have e0 := ovr_rec Nd.len ys y (mkCells z7 (n - k)) (by rw [mkCells_len]; show 7 ≤ (n - k) * 7; omega)
      rw [hyl, show n - k = (n - (k + 1)) + 1 by omega, mk_drop] at e0
      rw [Nat.zero_add, Int.toNat_natCast, show n - k = (n - (k + 1)) + 1 by omega]
      exact e0
    rw [e1] at HS1
    conv => whnf
    repeat' ((first | (with_reducible first | refine EvSeq.go ?_ | refine EvIf.tt ?_ | refine EvIf.ff ?_) | ((with_reducible refine Hole.mk (kK ?_)); clear kK) | ((with_reducible refine EvIf.mk (fun c => ?_) (fun c => ?_)) <;> (try simp only [cs_] at c) <;> (try (exfalso; first | omega | (revert c; decide)))) | ((with_reducible refine EvNew.sep HS ?_); intro bN hN HS1 hX; replace HS := HS1; clear HS1) | ((with_reducible refine EvIdx.lit ?_ ?_ ?_); (first | omega | decide); (first | omega | decide)) | ((with_reducible first | refine EvNe.mk ?_ ?_ | refine EvGe.mk ?_ ?_); (first | decide | omega)) | ((with_reducible refine EvLd.q HS (by repeat first | exact .h | apply Spot.t) ?_); (conv => whnf); intro hC) | (with_reducible refine EvLdN.q HS (by repeat first | exact .h | apply Spot.t) (fun hC => ?_)) | ((with_reducible refine EvSt.q HS (by repeat first | exact .h | apply Spot.t) ?_); (conv => whnf); intro hN HS1 hU; replace HS := HS1; clear HS1) | ((with_reducible refine EvKeep.cq (A := keepK _ _ (Hole _) _) HS (by repeat first | exact .h | apply Spot.t) ?_); (conv => whnf); (refine ⟨?_, ?_⟩); assumption; intro hC) | ((with_reducible refine EvKeep.nq (A := keepK _ _ (Hole _) _) HS (by repeat first | exact .h | apply Spot.t) ?_ ?_); assumption; intro hC) | ((fail_if_success with_reducible refine EvKeep.hole ?_); (with_reducible refine EvKeep.abs (fun X kK => ?_)))) <;> conv => whnf)
    refine ⟨(k : Int) + 1, ⟨congrArg (fun z => some (Value.int .i64 z)) (i64w _ (by omega) (by omega)), (by (repeat' (first | exact trivial | refine ⟨rfl, ?_⟩)))⟩, ⟨k + 1, ys ++ [y], by omega, by omega, by simp [hyl], full_take hx ht ey, HS1, ?_⟩, by omega⟩
    intro y' hy'
    rcases List.mem_append.mp hy' with hy' | hy'
    · exact ((hys y' hy').ext hX).upd hU (by omega)
    · obtain rfl : y' = y := by simpa using hy'
      exact ⟨(fy.r.mono hb).upd hU (by omega), fy.l, fy.b⟩
  · obtain rfl : k = n := by omega
    rw [Nat.sub_self] at HS
    have hb0 : h.size ≤ b0 := by
      obtain ⟨S, ⟨a, _⟩, hS⟩ := HS.get (List.mem_cons_self)
      exact (hS b0 a).1
    refine ⟨some ⟨b0, 0, none⟩, (ys.length : Int).toNat, ys, by rw [hyl]; rfl, ?_, ⟨?_, hyl, hn, fun y hy => ⟨(hys y hy).r.mono (by omega), (hys y hy).l, (hys y hy).b⟩⟩, HS.to_ext⟩
    · rw [ht, List.take_of_length_le (by omega)]
    · have e1 := HS.pt_i 0 rfl
      intro j v hj
      refine ⟨b0, 0, rfl, hb0, ?_⟩
      rw [Nat.zero_add, hcell_lit e1]
      unfold mkCells
      simpa using hj
theorem toTree_c {h : Hp} {A : Option Addr} {n ca : Nat} {xs : List Nd} (ox : NdsOk h A n xs) :
    HC Try.prog 11 [.agg #[.slice A n ca]] h fun v h' => ∃ B cb ys, v = .agg #[.slice B n cb] ∧ ys.map Nd.full = xs.map Nd.full ∧ Sep h h' [NdsP B n ys] := by
  refine hc_of Try.func11 (rfl : Try.f11.body = some _) Try.ntmps11 Try.results11 Try.call11 rfl ?_; have HS := Sep.nil h; conv => whnf
  repeat' ((first | (have hs := HS.to_ext.size; have hb0 := blk_lt (HS.pt_i 0 rfl); have hb1 := blk_lt (HS.pt_i 1 rfl); (refine EvCall.mk (HC.mono (toNodeS_c (ox.ext HS.to_ext)) ?_)); (rintro _ hN ⟨B, cb, ys, rfl, ey, oy, hX⟩); replace HS := HS.ext hX) | (with_reducible first | refine EvSeq.go ?_ | refine EvIf.tt ?_ | refine EvIf.ff ?_) | ((with_reducible refine Hole.mk (kK ?_)); clear kK) | ((with_reducible refine EvIf.mk (fun c => ?_) (fun c => ?_)) <;> (try simp only [cs_] at c) <;> (try (exfalso; first | omega | (revert c; decide)))) | ((with_reducible refine EvNew.sep HS ?_); intro bN hN HS1 hX; replace HS := HS1; clear HS1) | ((with_reducible refine EvIdx.lit ?_ ?_ ?_); (first | omega | decide); (first | omega | decide)) | ((with_reducible first | refine EvNe.mk ?_ ?_ | refine EvGe.mk ?_ ?_); (first | decide | omega)) | ((with_reducible refine EvLd.q HS (by repeat first | exact .h | apply Spot.t) ?_); (conv => whnf); intro hC) | (with_reducible refine EvLdN.q HS (by repeat first | exact .h | apply Spot.t) (fun hC => ?_)) | ((with_reducible refine EvSt.q HS (by repeat first | exact .h | apply Spot.t) ?_); (conv => whnf); intro hN HS1 hU; replace HS := HS1; clear HS1) | ((with_reducible refine EvKeep.cq (A := keepK _ _ (Hole _) _) HS (by repeat first | exact .h | apply Spot.t) ?_); (conv => whnf); (refine ⟨?_, ?_⟩); assumption; intro hC) | ((with_reducible refine EvKeep.nq (A := keepK _ _ (Hole _) _) HS (by repeat first | exact .h | apply Spot.t) ?_ ?_); assumption; intro hC) | ((fail_if_success with_reducible refine EvKeep.hole ?_); (with_reducible refine EvKeep.abs (fun X kK => ?_)))) <;> conv => whnf)
  exact ⟨B, cb, ys, rfl, ey, (((oy.upd (by assumption) (by omega)).upd (by assumption) (by omega)).mono hs).sep HS.to_ext⟩
theorem eqNode_c {h : Hp} {x y : Nd} (ox : NdOk h x) (oy : NdOk h y) (e : x.full = y.full) : HC Try.prog 46 [.agg x.cells.toArray, .agg y.cells.toArray] h fun v h' => v = .bool true ∧ Ext h h' := by
  unfold Nd.full at e
  simp only [Prod.mk.injEq] at e
  obtain ⟨⟨e1, e2, e3, e4, e5⟩, e6, e7⟩ := e
  refine hc_of Try.func46 (rfl : Try.f46.body = some _) Try.ntmps46 Try.results46 Try.call46 rfl ?_; have HS := Sep.nil h; conv => whnf
  repeat' ((first | ((with_reducible refine EvCall.mk (HC.mono (eqIntS_c (ox.r.ext HS.to_ext) ox.l (oy.r.ext HS.to_ext) oy.l ox.b oy.b) ?_)); (rintro _ _ ⟨rfl, rfl⟩)) | (with_reducible first | refine EvSeq.go ?_ | refine EvIf.tt ?_ | refine EvIf.ff ?_) | ((with_reducible refine Hole.mk (kK ?_)); clear kK) | ((with_reducible refine EvIf.mk (fun c => ?_) (fun c => ?_)) <;> (try simp only [cs_] at c) <;> (try (exfalso; first | omega | (revert c; decide)))) | ((with_reducible refine EvNew.sep HS ?_); intro bN hN HS1 hX; replace HS := HS1; clear HS1) | ((with_reducible refine EvIdx.lit ?_ ?_ ?_); (first | omega | decide); (first | omega | decide)) | ((with_reducible first | refine EvNe.mk ?_ ?_ | refine EvGe.mk ?_ ?_); (first | decide | omega)) | ((with_reducible refine EvLd.q HS (by repeat first | exact .h | apply Spot.t) ?_); (conv => whnf); intro hC) | (with_reducible refine EvLdN.q HS (by repeat first | exact .h | apply Spot.t) (fun hC => ?_)) | ((with_reducible refine EvSt.q HS (by repeat first | exact .h | apply Spot.t) ?_); (conv => whnf); intro hN HS1 hU; replace HS := HS1; clear HS1) | ((with_reducible refine EvKeep.cq (A := keepK _ _ (Hole _) _) HS (by repeat first | exact .h | apply Spot.t) ?_); (conv => whnf); (refine ⟨?_, ?_⟩); assumption; intro hC) | ((with_reducible refine EvKeep.nq (A := keepK _ _ (Hole _) _) HS (by repeat first | exact .h | apply Spot.t) ?_ ?_); assumption; intro hC) | ((fail_if_success with_reducible refine EvKeep.hole ?_); (with_reducible refine EvKeep.abs (fun X kK => ?_)))) <;> conv => whnf)
  all_goals first
    | exact ⟨rfl, HS.to_ext⟩
    | (exfalso; simp_all; done)
theorem eqNodeS_c {h : Hp} {A B : Option Addr} {n m ca cb : Nat} {xs ys : List Nd} (ox : NdsOk h A n xs) (oy : NdsOk h B m ys) (e : xs.map Nd.full = ys.map Nd.full) :
    HC Try.prog 34 [.slice A n ca, .slice B m cb] h fun v h' => v = .bool true ∧ Ext h h' := by
  have hxl := ox.l
  have hyl := oy.l
  have hn := ox.b
  have hnm : n = m := by
    have := congrArg List.length e
    simp at this
    omega
  subst hnm
  refine hc_of Try.func34 (rfl : Try.f34.body = some _) Try.ntmps34 Try.results34 Try.call34 rfl ?_; have HS := Sep.nil h; conv => whnf
  repeat' ((first | (with_reducible first | refine EvSeq.go ?_ | refine EvIf.tt ?_ | refine EvIf.ff ?_) | ((with_reducible refine Hole.mk (kK ?_)); clear kK) | ((with_reducible refine EvIf.mk (fun c => ?_) (fun c => ?_)) <;> (try simp only [cs_] at c) <;> (try (exfalso; first | omega | (revert c; decide)))) | ((with_reducible refine EvNew.sep HS ?_); intro bN hN HS1 hX; replace HS := HS1; clear HS1) | ((with_reducible refine EvIdx.lit ?_ ?_ ?_); (first | omega | decide); (first | omega | decide)) | ((with_reducible first | refine EvNe.mk ?_ ?_ | refine EvGe.mk ?_ ?_); (first | decide | omega)) | ((with_reducible refine EvLd.q HS (by repeat first | exact .h | apply Spot.t) ?_); (conv => whnf); intro hC) | (with_reducible refine EvLdN.q HS (by repeat first | exact .h | apply Spot.t) (fun hC => ?_)) | ((with_reducible refine EvSt.q HS (by repeat first | exact .h | apply Spot.t) ?_); (conv => whnf); intro hN HS1 hU; replace HS := HS1; clear HS1) | ((with_reducible refine EvKeep.cq (A := keepK _ _ (Hole _) _) HS (by repeat first | exact .h | apply Spot.t) ?_); (conv => whnf); (refine ⟨?_, ?_⟩); assumption; intro hC) | ((with_reducible refine EvKeep.nq (A := keepK _ _ (Hole _) _) HS (by repeat first | exact .h | apply Spot.t) ?_ ?_); assumption; intro hC) | ((fail_if_success with_reducible refine EvKeep.hole ?_); (with_reducible refine EvKeep.abs (fun X kK => ?_)))) <;> conv => whnf)
  · clear HS
    refine EvLoop.keep ([4, 5, 11, 12, 13, 14, 15, 16, 17, 18, 19, 20, 21, 22, 23, 24, 25, 26], 6) (α := Int) (fun x => [(5, .int .i64 x)]) (fun x h' => Ext h h' ∧ ∃ k : Nat, k ≤ n ∧ x = k) (fun x => ((n : Int) - x).toNat) 0 (by (repeat' (first | exact trivial | refine ⟨rfl, ?_⟩))) ⟨Ext.refl h, 0, by omega, rfl⟩ ?_
    rintro _ h1 ⟨he, k, hk, rfl⟩
    have HS := Sep.nil h1
    conv => whnf
    repeat' ((first | ((with_reducible refine EvDraw.ord (id := 6) (.go 0 (.go 1 (.go 2 (.go 3 (.go 4 (.go 5 (.go 6 (.go 7 (.alt 8 (.go 9 .done) .stop))))))))) fol ?_ ?_ ?_); kernel_rfl; kernel_rfl) | ((with_reducible refine EvIdx.el Nd.len (by decide) ((ox.r.ext he).ext HS.to_ext) hxl (by omega) (by omega) ?_); intro bI oI x eI hx hI) | ((with_reducible refine EvIdx.el Nd.len (by decide) ((oy.r.ext he).ext HS.to_ext) hyl (by omega) (by omega) ?_); intro bJ oJ y eJ hy hJ) | ((with_reducible refine EvLdN.el hI (Nd.len _) ?_)) | ((with_reducible refine EvLdN.el hJ (Nd.len _) ?_)) | ((refine EvCall.mk (HC.mono (eqNode_c (x := x) (y := y) ((ox.at_ hx).ext (he.trans HS.to_ext)) ((oy.at_ hy).ext (he.trans HS.to_ext)) (map_at e hx hy)) ?_)); (rintro _ hN ⟨rfl, hX⟩); replace HS := HS.ext hX) | (with_reducible first | refine EvSeq.go ?_ | refine EvIf.tt ?_ | refine EvIf.ff ?_) | ((with_reducible refine Hole.mk (kK ?_)); clear kK) | ((with_reducible refine EvIf.mk (fun c => ?_) (fun c => ?_)) <;> (try simp only [cs_] at c) <;> (try (exfalso; first | omega | (revert c; decide)))) | ((with_reducible refine EvNew.sep HS ?_); intro bN hN HS1 hX; replace HS := HS1; clear HS1) | ((with_reducible refine EvIdx.lit ?_ ?_ ?_); (first | omega | decide); (first | omega | decide)) | ((with_reducible first | refine EvNe.mk ?_ ?_ | refine EvGe.mk ?_ ?_); (first | decide | omega)) | ((with_reducible refine EvLd.q HS (by repeat first | exact .h | apply Spot.t) ?_); (conv => whnf); intro hC) | (with_reducible refine EvLdN.q HS (by repeat first | exact .h | apply Spot.t) (fun hC => ?_)) | ((with_reducible refine EvSt.q HS (by repeat first | exact .h | apply Spot.t) ?_); (conv => whnf); intro hN HS1 hU; replace HS := HS1; clear HS1) | ((with_reducible refine EvKeep.cq (A := keepK _ _ (Hole _) _) HS (by repeat first | exact .h | apply Spot.t) ?_); (conv => whnf); (refine ⟨?_, ?_⟩); assumption; intro hC) | ((with_reducible refine EvKeep.nq (A := keepK _ _ (Hole _) _) HS (by repeat first | exact .h | apply Spot.t) ?_ ?_); assumption; intro hC) | ((fail_if_success with_reducible refine EvKeep.hole ?_); (with_reducible refine EvKeep.abs (fun X kK => ?_)))) <;> conv => whnf)
    · exact ⟨(k : Int) + 1, ⟨congrArg (fun z => some (Value.int .i64 z)) (i64w _ (by omega) (by omega)), (by (repeat' (first | exact trivial | refine ⟨rfl, ?_⟩)))⟩, ⟨he.trans HS.to_ext, k + 1, by omega, by omega⟩, by omega⟩
    · exact ⟨rfl, he⟩
theorem eqTree_c {h : Hp} {A B : Option Addr} {n m ca cb : Nat} {xs ys : List Nd} (ox : NdsOk h A n xs) (oy : NdsOk h B m ys) (e : xs.map Nd.full = ys.map Nd.full) :
    HC Try.prog 13 [.agg #[.slice A n ca], .agg #[.slice B m cb]] h fun v h' => v = .bool true ∧ Ext h h' := by
  refine hc_of Try.func13 (rfl : Try.f13.body = some _) Try.ntmps13 Try.results13 Try.call13 rfl ?_; have HS := Sep.nil h; conv => whnf
  repeat' ((first | ((with_reducible refine EvCall.mk (HC.mono (eqNodeS_c (ox.ext HS.to_ext) (oy.ext HS.to_ext) e) ?_)); (rintro _ hN ⟨rfl, hX⟩); replace HS := HS.ext hX) | (with_reducible first | refine EvSeq.go ?_ | refine EvIf.tt ?_ | refine EvIf.ff ?_) | ((with_reducible refine Hole.mk (kK ?_)); clear kK) | ((with_reducible refine EvIf.mk (fun c => ?_) (fun c => ?_)) <;> (try simp only [cs_] at c) <;> (try (exfalso; first | omega | (revert c; decide)))) | ((with_reducible refine EvNew.sep HS ?_); intro bN hN HS1 hX; replace HS := HS1; clear HS1) | ((with_reducible refine EvIdx.lit ?_ ?_ ?_); (first | omega | decide); (first | omega | decide)) | ((with_reducible first | refine EvNe.mk ?_ ?_ | refine EvGe.mk ?_ ?_); (first | decide | omega)) | ((with_reducible refine EvLd.q HS (by repeat first | exact .h | apply Spot.t) ?_); (conv => whnf); intro hC) | (with_reducible refine EvLdN.q HS (by repeat first | exact .h | apply Spot.t) (fun hC => ?_)) | ((with_reducible refine EvSt.q HS (by repeat first | exact .h | apply Spot.t) ?_); (conv => whnf); intro hN HS1 hU; replace HS := HS1; clear HS1) | ((with_reducible refine EvKeep.cq (A := keepK _ _ (Hole _) _) HS (by repeat first | exact .h | apply Spot.t) ?_); (conv => whnf); (refine ⟨?_, ?_⟩); assumption; intro hC) | ((with_reducible refine EvKeep.nq (A := keepK _ _ (Hole _) _) HS (by repeat first | exact .h | apply Spot.t) ?_ ?_); assumption; intro hC) | ((fail_if_success with_reducible refine EvKeep.hole ?_); (with_reducible refine EvKeep.abs (fun X kK => ?_)))) <;> conv => whnf)
  all_goals first
    | exact ⟨rfl, HS.to_ext⟩
    | exact absurd rfl c
/-- as an argument comes, its sizes not yet known to be small -/
structure NdR (h : Hp) (x : Nd) : Prop where
  r : Rd h x.kids.a (ints .i64 x.kl)
  l : x.kl.length = x.kids.n
  b : x.kids.n ≤ 9223372036854775807
  s : x.s.size ≤ 9223372036854775807
structure NdsR (h : Hp) (A : Option Addr) (n : Nat) (xs : List Nd) : Prop where
  r : Rd h A (xs.flatMap Nd.cells)
  l : xs.length = n
  b : n ≤ 9223372036854775807
  o : ∀ x ∈ xs, NdR h x
theorem NdR.ext {h h' : Hp} (e : Ext h h') {x : Nd} (o : NdR h x) : NdR h' x := ⟨o.r.ext e, o.l, o.b, o.s⟩
theorem NdsR.ext {h h' : Hp} (e : Ext h h') {A : Option Addr} {n : Nat} {xs : List Nd} (o : NdsR h A n xs) : NdsR h' A n xs := ⟨o.r.ext e, o.l, o.b, fun x hx => (o.o x hx).ext e⟩
theorem NdsR.at_ {h : Hp} {A : Option Addr} {n : Nat} {xs : List Nd} (o : NdsR h A n xs) {i : Nat} {x : Nd} (e : xs[i]? = some x) : NdR h x := o.o x (List.mem_of_getElem? e)
theorem szNode_c {h : Hp} {x : Nd} (ox : NdR h x) (a : Int) (a0 : 0 ≤ a) (a1 : a ≤ 1048576) : HC Try.prog 44 [.agg x.cells.toArray, .int .i64 a] h fun v h' => (∃ r : Int, v = .int .i64 r ∧ -1 ≤ r ∧ r ≤ a ∧ (0 ≤ r → x.kids.n ≤ 1048576)) ∧ Ext h h' := by
  have hs := ox.s
  have hb := ox.b
  have e : IntKind.i64.wrap (a - x.s.size) = a - x.s.size := i64w _ (by omega) (by omega)
  refine hc_of Try.func44 (rfl : Try.f44.body = some _) Try.ntmps44 Try.results44 Try.call44 rfl ?_; have HS := Sep.nil h; conv => whnf
  repeat' ((first | (with_reducible first | refine EvSeq.go ?_ | refine EvIf.tt ?_ | refine EvIf.ff ?_) | ((with_reducible refine Hole.mk (kK ?_)); clear kK) | ((with_reducible refine EvIf.mk (fun c => ?_) (fun c => ?_)) <;> (try simp only [cs_] at c) <;> (try (exfalso; first | omega | (revert c; decide)))) | ((with_reducible refine EvNew.sep HS ?_); intro bN hN HS1 hX; replace HS := HS1; clear HS1) | ((with_reducible refine EvIdx.lit ?_ ?_ ?_); (first | omega | decide); (first | omega | decide)) | ((with_reducible first | refine EvNe.mk ?_ ?_ | refine EvGe.mk ?_ ?_); (first | decide | omega)) | ((with_reducible refine EvLd.q HS (by repeat first | exact .h | apply Spot.t) ?_); (conv => whnf); intro hC) | (with_reducible refine EvLdN.q HS (by repeat first | exact .h | apply Spot.t) (fun hC => ?_)) | ((with_reducible refine EvSt.q HS (by repeat first | exact .h | apply Spot.t) ?_); (conv => whnf); intro hN HS1 hU; replace HS := HS1; clear HS1) | ((with_reducible refine EvKeep.cq (A := keepK _ _ (Hole _) _) HS (by repeat first | exact .h | apply Spot.t) ?_); (conv => whnf); (refine ⟨?_, ?_⟩); assumption; intro hC) | ((with_reducible refine EvKeep.nq (A := keepK _ _ (Hole _) _) HS (by repeat first | exact .h | apply Spot.t) ?_ ?_); assumption; intro hC) | ((fail_if_success with_reducible refine EvKeep.hole ?_); (with_reducible refine EvKeep.abs (fun X kK => ?_)))) <;> conv => whnf)
  · exact ⟨⟨-1, rfl, by omega, by omega, by omega⟩, HS.to_ext⟩
  · rw [e] at c
    repeat' ((first | ((refine EvCall.mk (HC.mono (szIntS_c _ _ _ _ _ hb (by rw [e]; omega) (by rw [e]; omega)) ?_)); (rintro _ _ ⟨rfl, rfl⟩)) | (with_reducible first | refine EvSeq.go ?_ | refine EvIf.tt ?_ | refine EvIf.ff ?_) | ((with_reducible refine Hole.mk (kK ?_)); clear kK) | ((with_reducible refine EvIf.mk (fun c => ?_) (fun c => ?_)) <;> (try simp only [cs_] at c) <;> (try (exfalso; first | omega | (revert c; decide)))) | ((with_reducible refine EvNew.sep HS ?_); intro bN hN HS1 hX; replace HS := HS1; clear HS1) | ((with_reducible refine EvIdx.lit ?_ ?_ ?_); (first | omega | decide); (first | omega | decide)) | ((with_reducible first | refine EvNe.mk ?_ ?_ | refine EvGe.mk ?_ ?_); (first | decide | omega)) | ((with_reducible refine EvLd.q HS (by repeat first | exact .h | apply Spot.t) ?_); (conv => whnf); intro hC) | (with_reducible refine EvLdN.q HS (by repeat first | exact .h | apply Spot.t) (fun hC => ?_)) | ((with_reducible refine EvSt.q HS (by repeat first | exact .h | apply Spot.t) ?_); (conv => whnf); intro hN HS1 hU; replace HS := HS1; clear HS1) | ((with_reducible refine EvKeep.cq (A := keepK _ _ (Hole _) _) HS (by repeat first | exact .h | apply Spot.t) ?_); (conv => whnf); (refine ⟨?_, ?_⟩); assumption; intro hC) | ((with_reducible refine EvKeep.nq (A := keepK _ _ (Hole _) _) HS (by repeat first | exact .h | apply Spot.t) ?_ ?_); assumption; intro hC) | ((fail_if_success with_reducible refine EvKeep.hole ?_); (with_reducible refine EvKeep.abs (fun X kK => ?_)))) <;> conv => whnf)
    · exact ⟨⟨-1, rfl, by omega, by omega, by omega⟩, HS.to_ext⟩
    · rw [e] at c
      refine ⟨⟨_, rfl, ?_, ?_, ?_⟩, HS.to_ext⟩
      all_goals rw [e]
      all_goals split at c <;> omega
theorem szNodeS_c {h : Hp} {A : Option Addr} {n ca : Nat} {xs : List Nd} (ox : NdsR h A n xs) (a : Int) (a0 : 0 ≤ a) (a1 : a ≤ 1048576) :
    HC Try.prog 29 [.slice A n ca, .int .i64 a] h fun v h' => (∃ r : Int, v = .int .i64 r ∧ -1 ≤ r ∧ r ≤ a ∧ (0 ≤ r → n ≤ 1048576 ∧ ∀ x ∈ xs, x.kids.n ≤ 1048576)) ∧ Ext h h' := by
  have hxl := ox.l
  have hn := ox.b
  have e : IntKind.i64.wrap (a - n) = a - n := i64w _ (by omega) (by omega)
  refine hc_of Try.func29 (rfl : Try.f29.body = some _) Try.ntmps29 Try.results29 Try.call29 rfl ?_; have HS := Sep.nil h; conv => whnf
  repeat' ((first | (with_reducible first | refine EvSeq.go ?_ | refine EvIf.tt ?_ | refine EvIf.ff ?_) | ((with_reducible refine Hole.mk (kK ?_)); clear kK) | ((with_reducible refine EvIf.mk (fun c => ?_) (fun c => ?_)) <;> (try simp only [cs_] at c) <;> (try (exfalso; first | omega | (revert c; decide)))) | ((with_reducible refine EvNew.sep HS ?_); intro bN hN HS1 hX; replace HS := HS1; clear HS1) | ((with_reducible refine EvIdx.lit ?_ ?_ ?_); (first | omega | decide); (first | omega | decide)) | ((with_reducible first | refine EvNe.mk ?_ ?_ | refine EvGe.mk ?_ ?_); (first | decide | omega)) | ((with_reducible refine EvLd.q HS (by repeat first | exact .h | apply Spot.t) ?_); (conv => whnf); intro hC) | (with_reducible refine EvLdN.q HS (by repeat first | exact .h | apply Spot.t) (fun hC => ?_)) | ((with_reducible refine EvSt.q HS (by repeat first | exact .h | apply Spot.t) ?_); (conv => whnf); intro hN HS1 hU; replace HS := HS1; clear HS1) | ((with_reducible refine EvKeep.cq (A := keepK _ _ (Hole _) _) HS (by repeat first | exact .h | apply Spot.t) ?_); (conv => whnf); (refine ⟨?_, ?_⟩); assumption; intro hC) | ((with_reducible refine EvKeep.nq (A := keepK _ _ (Hole _) _) HS (by repeat first | exact .h | apply Spot.t) ?_ ?_); assumption; intro hC) | ((fail_if_success with_reducible refine EvKeep.hole ?_); (with_reducible refine EvKeep.abs (fun X kK => ?_)))) <;> conv => whnf)
  · exact ⟨⟨-1, rfl, by omega, by omega, by omega⟩, HS.to_ext⟩
  · rw [e] at c
    clear HS
    refine EvLoop.keep ([1, 4, 5, 12, 13, 14, 15, 16, 17, 18, 19, 20, 21, 22, 23, 24, 25], 6) (α := Int × Int) (fun x => [(5, .int .i64 x.1), (1, .int .i64 x.2)]) (fun x h' => Ext h h' ∧ ∃ k : Nat, k ≤ n ∧ x.1 = k ∧ 0 ≤ x.2 ∧ x.2 ≤ a ∧ ∀ y ∈ xs.take k, y.kids.n ≤ 1048576) (fun x => ((n : Int) - x.1).toNat) (0, a - n) (by first | exact ⟨rfl, congrArg (fun z => some (Value.int .i64 z)) e, by repeat' (first | exact trivial | refine ⟨rfl, ?_⟩)⟩ | (repeat' (first | exact trivial | refine ⟨rfl, ?_⟩))) ⟨Ext.refl h, 0, by omega, rfl, by dsimp only; omega, by dsimp only; omega, fun y hy => by simp at hy⟩ ?_
    rintro ⟨_, q⟩ h1 ⟨he, k, hk, rfl, q0, q1, ht⟩
    have HS := Sep.nil h1
    dsimp only at q0 q1
    conv => whnf
    repeat' ((first | ((with_reducible refine EvIdx.el Nd.len (by decide) ((ox.r.ext he).ext HS.to_ext) hxl (by omega) (by omega) ?_); intro bI oI x eI hx hI) | ((with_reducible refine EvLdN.el hI (Nd.len _) ?_)) | ((refine EvCall.mk (HC.mono (szNode_c (x := x) ((ox.at_ hx).ext (he.trans HS.to_ext)) q q0 (by omega)) ?_)); (rintro _ hN ⟨⟨r, rfl, r0, r1, r2⟩, hX⟩); replace HS := HS.ext hX) | (with_reducible first | refine EvSeq.go ?_ | refine EvIf.tt ?_ | refine EvIf.ff ?_) | ((with_reducible refine Hole.mk (kK ?_)); clear kK) | ((with_reducible refine EvIf.mk (fun c => ?_) (fun c => ?_)) <;> (try simp only [cs_] at c) <;> (try (exfalso; first | omega | (revert c; decide)))) | ((with_reducible refine EvNew.sep HS ?_); intro bN hN HS1 hX; replace HS := HS1; clear HS1) | ((with_reducible refine EvIdx.lit ?_ ?_ ?_); (first | omega | decide); (first | omega | decide)) | ((with_reducible first | refine EvNe.mk ?_ ?_ | refine EvGe.mk ?_ ?_); (first | decide | omega)) | ((with_reducible refine EvLd.q HS (by repeat first | exact .h | apply Spot.t) ?_); (conv => whnf); intro hC) | (with_reducible refine EvLdN.q HS (by repeat first | exact .h | apply Spot.t) (fun hC => ?_)) | ((with_reducible refine EvSt.q HS (by repeat first | exact .h | apply Spot.t) ?_); (conv => whnf); intro hN HS1 hU; replace HS := HS1; clear HS1) | ((with_reducible refine EvKeep.cq (A := keepK _ _ (Hole _) _) HS (by repeat first | exact .h | apply Spot.t) ?_); (conv => whnf); (refine ⟨?_, ?_⟩); assumption; intro hC) | ((with_reducible refine EvKeep.nq (A := keepK _ _ (Hole _) _) HS (by repeat first | exact .h | apply Spot.t) ?_ ?_); assumption; intro hC) | ((fail_if_success with_reducible refine EvKeep.hole ?_); (with_reducible refine EvKeep.abs (fun X kK => ?_)))) <;> conv => whnf)
    · exact ⟨⟨-1, rfl, by omega, by omega, by omega⟩, he.trans HS.to_ext⟩
    · refine ⟨((k : Int) + 1, r), ⟨congrArg (fun z => some (Value.int .i64 z)) (i64w _ (by dsimp only; omega) (by dsimp only; omega)), (by (repeat' (first | exact trivial | refine ⟨rfl, ?_⟩)))⟩, ⟨he.trans HS.to_ext, k + 1, by omega, by dsimp only; omega, c, by dsimp only; omega, fun y hy => ?_⟩, by dsimp only; omega⟩
      have hx' : xs[k]? = some x := hx
      rw [List.take_add_one, hx'] at hy
      rcases List.mem_append.mp hy with hy | hy
      · exact ht y hy
      · obtain rfl : y = x := by simpa using hy
        exact r2 c
    · rw [List.take_of_length_le (by omega)] at ht
      exact ⟨⟨q, rfl, by omega, by omega, fun _ => ⟨by omega, ht⟩⟩, he⟩
theorem szTree_c {h : Hp} {A : Option Addr} {n ca : Nat} {xs : List Nd} (ox : NdsR h A n xs) (a : Int) (a0 : 0 ≤ a) (a1 : a ≤ 1048576) :
    HC Try.prog 9 [.agg #[.slice A n ca], .int .i64 a] h fun v h' => (∃ r : Int, v = .int .i64 r ∧ -1 ≤ r ∧ r ≤ a ∧ (0 ≤ r → n ≤ 1048576 ∧ ∀ x ∈ xs, x.kids.n ≤ 1048576)) ∧ Ext h h' := by
  refine hc_of Try.func9 (rfl : Try.f9.body = some _) Try.ntmps9 Try.results9 Try.call9 rfl ?_; have HS := Sep.nil h; conv => whnf
  repeat' ((first | ((refine EvCall.mk (HC.mono (szNodeS_c (ox.ext HS.to_ext) a a0 a1) ?_)); (rintro _ hN ⟨⟨r, rfl, r0, r1, r2⟩, hX⟩); replace HS := HS.ext hX) | (with_reducible first | refine EvSeq.go ?_ | refine EvIf.tt ?_ | refine EvIf.ff ?_) | ((with_reducible refine Hole.mk (kK ?_)); clear kK) | ((with_reducible refine EvIf.mk (fun c => ?_) (fun c => ?_)) <;> (try simp only [cs_] at c) <;> (try (exfalso; first | omega | (revert c; decide)))) | ((with_reducible refine EvNew.sep HS ?_); intro bN hN HS1 hX; replace HS := HS1; clear HS1) | ((with_reducible refine EvIdx.lit ?_ ?_ ?_); (first | omega | decide); (first | omega | decide)) | ((with_reducible first | refine EvNe.mk ?_ ?_ | refine EvGe.mk ?_ ?_); (first | decide | omega)) | ((with_reducible refine EvLd.q HS (by repeat first | exact .h | apply Spot.t) ?_); (conv => whnf); intro hC) | (with_reducible refine EvLdN.q HS (by repeat first | exact .h | apply Spot.t) (fun hC => ?_)) | ((with_reducible refine EvSt.q HS (by repeat first | exact .h | apply Spot.t) ?_); (conv => whnf); intro hN HS1 hU; replace HS := HS1; clear HS1) | ((with_reducible refine EvKeep.cq (A := keepK _ _ (Hole _) _) HS (by repeat first | exact .h | apply Spot.t) ?_); (conv => whnf); (refine ⟨?_, ?_⟩); assumption; intro hC) | ((with_reducible refine EvKeep.nq (A := keepK _ _ (Hole _) _) HS (by repeat first | exact .h | apply Spot.t) ?_ ?_); assumption; intro hC) | ((fail_if_success with_reducible refine EvKeep.hole ?_); (with_reducible refine EvKeep.abs (fun X kK => ?_)))) <;> conv => whnf)
  · exact ⟨⟨-1, rfl, by omega, by omega, by omega⟩, HS.to_ext⟩
  · exact ⟨⟨r, rfl, r0, r1, r2⟩, HS.to_ext⟩
theorem NdsR.ok {h : Hp} {A : Option Addr} {n : Nat} {xs : List Nd} (o : NdsR h A n xs) (hn : n ≤ 1048576) (hk : ∀ x ∈ xs, x.kids.n ≤ 1048576) : NdsOk h A n xs := ⟨o.r, o.l, by omega, fun x hx => ⟨(o.o x hx).r, (o.o x hx).l, by have := hk x hx; omega⟩⟩
theorem full_key {xs ys : List Nd} (e : ys.map Nd.full = xs.map Nd.full) : ys.map Nd.key = xs.map Nd.key := by
  have hk : ∀ x : Nd, x.key = (fun z : (Int × Int × Int × ByteArray × List Int) × Int × Int => (z.1.1, z.1.2.1, z.1.2.2.1, z.1.2.2.2.1.toList, z.1.2.2.2.2)) x.full := fun _ => rfl
  have := congrArg (List.map (fun z : (Int × Int × Int × ByteArray × List Int) × Int × Int => (z.1.1, z.1.2.1, z.1.2.2.1, z.1.2.2.2.1.toList, z.1.2.2.2.2))) e
  rw [List.map_map, List.map_map] at this
  exact this
theorem lawTree_c {h : Hp} {A B : Option Addr} {n m ca cb : Nat} {xs ys : List Nd} (ox : NdsR h A n xs) (oy : NdsR h B m ys) :
    HC Try.prog 4 [.agg #[.slice A n ca], .agg #[.slice B m cb]] h fun v h' => v = .bool true ∧ Ext h h' := by
  refine hc_of Try.func4 (rfl : Try.f4.body = some _) Try.ntmps4 Try.results4 Try.call4 rfl ?_; have HS := Sep.nil h; conv => whnf
  repeat' ((first | (with_reducible first | refine EvSeq.go ?_ | refine EvIf.tt ?_ | refine EvIf.ff ?_) | ((with_reducible refine Hole.mk (kK ?_)); clear kK) | ((with_reducible refine EvIf.mk (fun c => ?_) (fun c => ?_)) <;> (try simp only [cs_] at c) <;> (try (exfalso; first | omega | (revert c; decide)))) | ((with_reducible refine EvNew.sep HS ?_); intro bN hN HS1 hX; replace HS := HS1; clear HS1) | ((with_reducible refine EvIdx.lit ?_ ?_ ?_); (first | omega | decide); (first | omega | decide)) | ((with_reducible first | refine EvNe.mk ?_ ?_ | refine EvGe.mk ?_ ?_); (first | decide | omega)) | ((with_reducible refine EvLd.q HS (by repeat first | exact .h | apply Spot.t) ?_); (conv => whnf); intro hC) | (with_reducible refine EvLdN.q HS (by repeat first | exact .h | apply Spot.t) (fun hC => ?_)) | ((with_reducible refine EvSt.q HS (by repeat first | exact .h | apply Spot.t) ?_); (conv => whnf); intro hN HS1 hU; replace HS := HS1; clear HS1) | ((with_reducible refine EvKeep.cq (A := keepK _ _ (Hole _) _) HS (by repeat first | exact .h | apply Spot.t) ?_); (conv => whnf); (refine ⟨?_, ?_⟩); assumption; intro hC) | ((with_reducible refine EvKeep.nq (A := keepK _ _ (Hole _) _) HS (by repeat first | exact .h | apply Spot.t) ?_ ?_); assumption; intro hC) | ((fail_if_success with_reducible refine EvKeep.hole ?_); (with_reducible refine EvKeep.abs (fun X kK => ?_)))) <;> conv => whnf)
  refine EvCall.mk ((szTree_c (ox.ext HS.to_ext) _ (by decide) (by decide)).mono ?_)
  rintro _ hN ⟨⟨r, rfl, r0, r1, r2⟩, hX⟩
  replace HS := HS.ext hX
  conv => whnf
  repeat' ((first | (with_reducible first | refine EvSeq.go ?_ | refine EvIf.tt ?_ | refine EvIf.ff ?_) | ((with_reducible refine Hole.mk (kK ?_)); clear kK) | ((with_reducible refine EvIf.mk (fun c => ?_) (fun c => ?_)) <;> (try simp only [cs_] at c) <;> (try (exfalso; first | omega | (revert c; decide)))) | ((with_reducible refine EvNew.sep HS ?_); intro bN hN HS1 hX; replace HS := HS1; clear HS1) | ((with_reducible refine EvIdx.lit ?_ ?_ ?_); (first | omega | decide); (first | omega | decide)) | ((with_reducible first | refine EvNe.mk ?_ ?_ | refine EvGe.mk ?_ ?_); (first | decide | omega)) | ((with_reducible refine EvLd.q HS (by repeat first | exact .h | apply Spot.t) ?_); (conv => whnf); intro hC) | (with_reducible refine EvLdN.q HS (by repeat first | exact .h | apply Spot.t) (fun hC => ?_)) | ((with_reducible refine EvSt.q HS (by repeat first | exact .h | apply Spot.t) ?_); (conv => whnf); intro hN HS1 hU; replace HS := HS1; clear HS1) | ((with_reducible refine EvKeep.cq (A := keepK _ _ (Hole _) _) HS (by repeat first | exact .h | apply Spot.t) ?_); (conv => whnf); (refine ⟨?_, ?_⟩); assumption; intro hC) | ((with_reducible refine EvKeep.nq (A := keepK _ _ (Hole _) _) HS (by repeat first | exact .h | apply Spot.t) ?_ ?_); assumption; intro hC) | ((fail_if_success with_reducible refine EvKeep.hole ?_); (with_reducible refine EvKeep.abs (fun X kK => ?_)))) <;> conv => whnf)
  · exact ⟨rfl, HS.to_ext⟩
  have bx := r2 (by assumption)
  refine EvCall.mk ((szTree_c (oy.ext HS.to_ext) r (by omega) (by omega)).mono ?_)
  rintro _ hN ⟨⟨q, rfl, q0, q1, q2⟩, hX⟩
  replace HS := HS.ext hX
  conv => whnf
  repeat' ((first | (with_reducible first | refine EvSeq.go ?_ | refine EvIf.tt ?_ | refine EvIf.ff ?_) | ((with_reducible refine Hole.mk (kK ?_)); clear kK) | ((with_reducible refine EvIf.mk (fun c => ?_) (fun c => ?_)) <;> (try simp only [cs_] at c) <;> (try (exfalso; first | omega | (revert c; decide)))) | ((with_reducible refine EvNew.sep HS ?_); intro bN hN HS1 hX; replace HS := HS1; clear HS1) | ((with_reducible refine EvIdx.lit ?_ ?_ ?_); (first | omega | decide); (first | omega | decide)) | ((with_reducible first | refine EvNe.mk ?_ ?_ | refine EvGe.mk ?_ ?_); (first | decide | omega)) | ((with_reducible refine EvLd.q HS (by repeat first | exact .h | apply Spot.t) ?_); (conv => whnf); intro hC) | (with_reducible refine EvLdN.q HS (by repeat first | exact .h | apply Spot.t) (fun hC => ?_)) | ((with_reducible refine EvSt.q HS (by repeat first | exact .h | apply Spot.t) ?_); (conv => whnf); intro hN HS1 hU; replace HS := HS1; clear HS1) | ((with_reducible refine EvKeep.cq (A := keepK _ _ (Hole _) _) HS (by repeat first | exact .h | apply Spot.t) ?_); (conv => whnf); (refine ⟨?_, ?_⟩); assumption; intro hC) | ((with_reducible refine EvKeep.nq (A := keepK _ _ (Hole _) _) HS (by repeat first | exact .h | apply Spot.t) ?_ ?_); assumption; intro hC) | ((fail_if_success with_reducible refine EvKeep.hole ?_); (with_reducible refine EvKeep.abs (fun X kK => ?_)))) <;> conv => whnf)
  · exact ⟨rfl, HS.to_ext⟩
  have hy := q2 (by assumption)
  replace ox := ox.ok bx.1 bx.2
  replace oy := oy.ok hy.1 hy.2
  repeat' ((first | ((with_reducible refine EvDraw.ord (id := 8) (.go 0 (.go 2 (.alt 1 (.alt 3 (.alt 4 (.go 5 .done) .stop) .stop) .stop))) fol ?_ ?_ ?_); kernel_rfl; kernel_rfl) | ((with_reducible refine EvDraw.ord (id := 14) (.go 0 (.go 1 (.alt 2 (.alt 3 (.go 4 .done) .stop) .stop))) fol ?_ ?_ ?_); kernel_rfl; kernel_rfl) | ((with_reducible refine EvDraw.ord (id := 16) (.go 0 (.go 1 (.alt 2 (.alt 3 (.go 4 .done) .stop) .stop))) fol ?_ ?_ ?_); kernel_rfl; kernel_rfl) | ((refine EvCall.mk (HC.mono (toTree_c (ox.ext HS.to_ext)) ?_)); (rintro _ hN ⟨U, cu, us, rfl, ey, HS1⟩); have ek := full_key ey; replace HS := HS.join1 HS1; clear HS1) | ((refine EvCall.mk (HC.mono (toTree_c (oy.ext HS.to_ext)) ?_)); (rintro _ hN ⟨U, cu, us, rfl, ey, HS1⟩); have ek := full_key ey; replace HS := HS.join1 HS1; clear HS1) | ((with_reducible refine EvCall.mk (HC.mono (sSameTree_c (by first | exact HS.nds 0 rfl | exact HS.nds 1 rfl | exact HS.nds 2 rfl | exact HS.nds 3 rfl | exact HS.nds 4 rfl | exact HS.nds 5 rfl | exact HS.nds 6 rfl | exact HS.nds 7 rfl | exact HS.nds 8 rfl | exact HS.nds 9 rfl | exact HS.nds 10 rfl | exact HS.nds 11 rfl | exact HS.nds 12 rfl | exact HS.nds 13 rfl | exact HS.nds 14 rfl | exact HS.nds 15 rfl | exact HS.nds 16 rfl | exact HS.nds 17 rfl | exact HS.nds 18 rfl | exact HS.nds 19 rfl) (by first | exact HS.nds 0 rfl | exact HS.nds 1 rfl | exact HS.nds 2 rfl | exact HS.nds 3 rfl | exact HS.nds 4 rfl | exact HS.nds 5 rfl | exact HS.nds 6 rfl | exact HS.nds 7 rfl | exact HS.nds 8 rfl | exact HS.nds 9 rfl | exact HS.nds 10 rfl | exact HS.nds 11 rfl | exact HS.nds 12 rfl | exact HS.nds 13 rfl | exact HS.nds 14 rfl | exact HS.nds 15 rfl | exact HS.nds 16 rfl | exact HS.nds 17 rfl | exact HS.nds 18 rfl | exact HS.nds 19 rfl)) ?_)); (rintro _ hN ⟨rfl, hX⟩); replace HS := HS.ext hX) | ((with_reducible refine EvCall.mk (HC.mono (iSameTree_c (by first | exact HS.nds 0 rfl | exact HS.nds 1 rfl | exact HS.nds 2 rfl | exact HS.nds 3 rfl | exact HS.nds 4 rfl | exact HS.nds 5 rfl | exact HS.nds 6 rfl | exact HS.nds 7 rfl | exact HS.nds 8 rfl | exact HS.nds 9 rfl | exact HS.nds 10 rfl | exact HS.nds 11 rfl | exact HS.nds 12 rfl | exact HS.nds 13 rfl | exact HS.nds 14 rfl | exact HS.nds 15 rfl | exact HS.nds 16 rfl | exact HS.nds 17 rfl | exact HS.nds 18 rfl | exact HS.nds 19 rfl) (by first | exact HS.nds 0 rfl | exact HS.nds 1 rfl | exact HS.nds 2 rfl | exact HS.nds 3 rfl | exact HS.nds 4 rfl | exact HS.nds 5 rfl | exact HS.nds 6 rfl | exact HS.nds 7 rfl | exact HS.nds 8 rfl | exact HS.nds 9 rfl | exact HS.nds 10 rfl | exact HS.nds 11 rfl | exact HS.nds 12 rfl | exact HS.nds 13 rfl | exact HS.nds 14 rfl | exact HS.nds 15 rfl | exact HS.nds 16 rfl | exact HS.nds 17 rfl | exact HS.nds 18 rfl | exact HS.nds 19 rfl)) ?_)); (rintro _ hN ⟨rfl, hX⟩); replace HS := HS.ext hX) | ((with_reducible refine EvCall.mk (HC.mono (eqTree_c (by first | exact HS.nds 0 rfl | exact HS.nds 1 rfl | exact HS.nds 2 rfl | exact HS.nds 3 rfl | exact HS.nds 4 rfl | exact HS.nds 5 rfl | exact HS.nds 6 rfl | exact HS.nds 7 rfl | exact HS.nds 8 rfl | exact HS.nds 9 rfl | exact HS.nds 10 rfl | exact HS.nds 11 rfl | exact HS.nds 12 rfl | exact HS.nds 13 rfl | exact HS.nds 14 rfl | exact HS.nds 15 rfl | exact HS.nds 16 rfl | exact HS.nds 17 rfl | exact HS.nds 18 rfl | exact HS.nds 19 rfl) (by first | exact HS.nds 0 rfl | exact HS.nds 1 rfl | exact HS.nds 2 rfl | exact HS.nds 3 rfl | exact HS.nds 4 rfl | exact HS.nds 5 rfl | exact HS.nds 6 rfl | exact HS.nds 7 rfl | exact HS.nds 8 rfl | exact HS.nds 9 rfl | exact HS.nds 10 rfl | exact HS.nds 11 rfl | exact HS.nds 12 rfl | exact HS.nds 13 rfl | exact HS.nds 14 rfl | exact HS.nds 15 rfl | exact HS.nds 16 rfl | exact HS.nds 17 rfl | exact HS.nds 18 rfl | exact HS.nds 19 rfl) (by simp only [*])) ?_)); (rintro _ hN ⟨rfl, hX⟩); replace HS := HS.ext hX) | (with_reducible first | refine EvSeq.go ?_ | refine EvIf.tt ?_ | refine EvIf.ff ?_) | ((with_reducible refine Hole.mk (kK ?_)); clear kK) | ((with_reducible refine EvIf.mk (fun c => ?_) (fun c => ?_)) <;> (try simp only [cs_] at c) <;> (try (exfalso; first | omega | (revert c; decide)))) | ((with_reducible refine EvNew.sep HS ?_); intro bN hN HS1 hX; replace HS := HS1; clear HS1) | ((with_reducible refine EvIdx.lit ?_ ?_ ?_); (first | omega | decide); (first | omega | decide)) | ((with_reducible first | refine EvNe.mk ?_ ?_ | refine EvGe.mk ?_ ?_); (first | decide | omega)) | ((with_reducible refine EvLd.q HS (by repeat first | exact .h | apply Spot.t) ?_); (conv => whnf); intro hC) | (with_reducible refine EvLdN.q HS (by repeat first | exact .h | apply Spot.t) (fun hC => ?_)) | ((with_reducible refine EvSt.q HS (by repeat first | exact .h | apply Spot.t) ?_); (conv => whnf); intro hN HS1 hU; replace HS := HS1; clear HS1) | ((with_reducible refine EvKeep.cq (A := keepK _ _ (Hole _) _) HS (by repeat first | exact .h | apply Spot.t) ?_); (conv => whnf); (refine ⟨?_, ?_⟩); assumption; intro hC) | ((with_reducible refine EvKeep.nq (A := keepK _ _ (Hole _) _) HS (by repeat first | exact .h | apply Spot.t) ?_ ?_); assumption; intro hC) | ((fail_if_success with_reducible refine EvKeep.hole ?_); (with_reducible refine EvKeep.abs (fun X kK => ?_)))) <;> conv => whnf)
  all_goals first
    | exact ⟨rfl, HS.to_ext⟩
    | exact absurd rfl c
    | (exfalso; clear HS; simp_all; done)
end Go.Proofs.Ytjggmhpjlnmigaa
