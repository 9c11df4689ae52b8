/- Functions of the code between: rows of steps, each with a row of its own; made, compared, marked. -/
import Derived.Test.YtjggmhpjlnmigaaDoorVRec
import Derived.Test.YtjggmhpjlnmigaaDoorVCom
import Derived.Test.YtjggmhpjlnmigaaDoorVLw
namespace Go.Proofs.YtjggmhpjlnmigaaDoor
open Go.RowKit
set_option maxRecDepth 20000
set_option linter.unusedSimpArgs false
set_option linter.unusedVariables false
/-- a step: its numbers, its text, its row as it lies and as it reads -/
structure Ii where
  op : Int
  d : Int
  a : Int
  b : Int
  n : Int
  s : ByteArray
  h : Hdr
  l : List Int
def Ii.cells (x : Ii) : List Value := [.int .i64 x.op, .int .i64 x.d, .int .i64 x.a, .int .i64 x.b, .int .i64 x.n, .string x.s, .slice x.h.a x.h.n x.h.c]
theorem Ii.len (x : Ii) : x.cells.length = 7 := rfl
def Ii.full (x : Ii) : Int × Int × Int × Int × Int × ByteArray × List Int := (x.op, x.d, x.a, x.b, x.n, x.s, x.l)
structure IiOk (h : Hp) (x : Ii) : Prop where
  r : Rd h x.h.a (ints .i64 x.l)
  l : x.l.length = x.h.n
  b : x.h.n ≤ 1000000000
theorem IiOk.ext {h h' : Hp} (e : Ext h h') {x : Ii} (o : IiOk h x) : IiOk h' x := ⟨o.r.ext e, o.l, o.b⟩
structure IsOk (h : Hp) (A : Option Addr) (n : Nat) (xs : List Ii) : Prop where
  r : Rd h A (xs.flatMap Ii.cells)
  l : xs.length = n
  b : n ≤ 1000000000
  o : ∀ x ∈ xs, IiOk h x
theorem IsOk.ext {h h' : Hp} (e : Ext h h') {A : Option Addr} {n : Nat} {xs : List Ii} (o : IsOk h A n xs) : IsOk h' A n xs := ⟨o.r.ext e, o.l, o.b, fun x hx => (o.o x hx).ext e⟩
theorem IsOk.at_ {h : Hp} {A : Option Addr} {n : Nat} {xs : List Ii} (o : IsOk h A n xs) {i : Nat} {x : Ii} (e : xs[i]? = some x) : IiOk h x := o.o x (List.mem_of_getElem? e)
/-- the row of a step -/
def Ii.P (x : Ii) : Asn := Sl 3 x.h.a x.h.n x.h.c (ints .i64 x.l)
/-- steps that are owned: their cells, then their rows -/
def IsL (b : Nat) (cs : List Value) (xs : List Ii) : List Asn := Bx b cs 67 :: xs.reverse.map Ii.P
theorem map_at {α β : Type} {f : α → β} {xs ys : List α} {k : Nat} {x y : α} (e : xs.map f = ys.map f) (hx : xs[k]? = some x) (hy : ys[k]? = some y) : f x = f y := by
  have h1 : (xs.map f)[k]? = some (f x) := by simp [hx]
  have h2 : (ys.map f)[k]? = some (f y) := by simp [hy]
  rw [e, h2] at h1
  exact (Option.some.inj h1).symm
theorem toIns_c {h : Hp} {x : Ii} (ox : IiOk h x) : HC Tryd.prog 60 [.agg x.cells.toArray] h fun v h' => ∃ y : Ii, v = .agg y.cells.toArray ∧ y.full = x.full ∧ y.h.n ≤ 1000000000 ∧ y.l.length = y.h.n ∧ Sep h h' [y.P] := by
  refine hc_of Tryd.func60 (rfl : Tryd.f60.body = some _) Tryd.ntmps60 Tryd.results60 Tryd.call60 rfl ?_; have HS := Sep.nil h; conv => whnf
  repeat' ((first | ((refine EvCall.mk (HC.mono (toIntS_c (ox.r.ext HS.to_ext) ox.l ox.b) ?_)); (rintro _ hN ⟨AN, cN, rfl, HS1⟩); replace HS := HS.join1 HS1; clear HS1) | ((with_reducible refine EvNew.sep HS ?_); intro bN hN HS1 hX; replace HS := HS1; clear HS1) | ((with_reducible refine EvLd.q HS (by repeat first | exact .h | apply Spot.t) ?_); (conv => whnf); intro hC) | (with_reducible refine EvLdN.q HS (by repeat first | exact .h | apply Spot.t) (fun hC => ?_)) | ((with_reducible refine EvSt.q HS (by repeat first | exact .h | apply Spot.t) ?_); (conv => whnf); intro hN HS1 hU; replace HS := HS1; clear HS1)) <;> conv => whnf)
  refine ⟨⟨x.op, x.d, x.a, x.b, x.n, x.s, ⟨AN, x.h.n, cN⟩, x.l⟩, rfl, rfl, ox.b, ox.l, ?_⟩
  (first | exact ((HS.front 0 rfl) : Sep h _ (Sl _ AN x.h.n cN _ :: _)).take [_]  | exact ((HS.front 1 rfl) : Sep h _ (Sl _ AN x.h.n cN _ :: _)).take [_]  | exact ((HS.front 2 rfl) : Sep h _ (Sl _ AN x.h.n cN _ :: _)).take [_]  | exact ((HS.front 3 rfl) : Sep h _ (Sl _ AN x.h.n cN _ :: _)).take [_]  | exact ((HS.front 4 rfl) : Sep h _ (Sl _ AN x.h.n cN _ :: _)).take [_]  | exact ((HS.front 5 rfl) : Sep h _ (Sl _ AN x.h.n cN _ :: _)).take [_]  | exact ((HS.front 6 rfl) : Sep h _ (Sl _ AN x.h.n cN _ :: _)).take [_]  | exact ((HS.front 7 rfl) : Sep h _ (Sl _ AN x.h.n cN _ :: _)).take [_]  | exact ((HS.front 8 rfl) : Sep h _ (Sl _ AN x.h.n cN _ :: _)).take [_]  | exact ((HS.front 9 rfl) : Sep h _ (Sl _ AN x.h.n cN _ :: _)).take [_]  | exact ((HS.front 10 rfl) : Sep h _ (Sl _ AN x.h.n cN _ :: _)).take [_]  | exact ((HS.front 11 rfl) : Sep h _ (Sl _ AN x.h.n cN _ :: _)).take [_]  | exact ((HS.front 12 rfl) : Sep h _ (Sl _ AN x.h.n cN _ :: _)).take [_]  | exact ((HS.front 13 rfl) : Sep h _ (Sl _ AN x.h.n cN _ :: _)).take [_]  | exact ((HS.front 14 rfl) : Sep h _ (Sl _ AN x.h.n cN _ :: _)).take [_]  | exact ((HS.front 15 rfl) : Sep h _ (Sl _ AN x.h.n cN _ :: _)).take [_]  | exact ((HS.front 16 rfl) : Sep h _ (Sl _ AN x.h.n cN _ :: _)).take [_]  | exact ((HS.front 17 rfl) : Sep h _ (Sl _ AN x.h.n cN _ :: _)).take [_]  | exact ((HS.front 18 rfl) : Sep h _ (Sl _ AN x.h.n cN _ :: _)).take [_]  | exact ((HS.front 19 rfl) : Sep h _ (Sl _ AN x.h.n cN _ :: _)).take [_] )
theorem full_take {xs : List Ii} {ys : List Ii} {k : Nat} {x y : Ii} (hx : xs[k]? = some x) (ht : ys.map Ii.full = (xs.take k).map Ii.full) (e : y.full = x.full) : (ys ++ [y]).map Ii.full = (xs.take (k + 1)).map Ii.full := by
  rw [List.take_add_one, hx, List.map_append, List.map_append, ht]
  simp [e]
def z7 : List Value := [.int .i64 0, .int .i64 0, .int .i64 0, .int .i64 0, .int .i64 0, .string ByteArray.empty, .slice none 0 0]
theorem mk_drop (k : Nat) : (mkCells z7 (k + 1)).drop 7 = mkCells z7 k := by
  unfold mkCells
  rw [List.replicate_succ, List.flatten_cons]
  rfl
/-- steps that are owned, as one piece -/
def IsP (b : Nat) (xs : List Ii) : Asn := All (IsL b (xs.flatMap Ii.cells) xs)
theorem toInsS_c {h : Hp} {A : Option Addr} {n ca : Nat} {xs : List Ii} (ox : IsOk h A n xs) :
    HC Tryd.prog 31 [.slice A n ca] h fun v h' => ∃ b ys, v = .slice (some ⟨b, 0, none⟩) n n ∧ ys.map Ii.full = xs.map Ii.full ∧ ys.length = n ∧ (∀ y ∈ ys, y.h.n ≤ 1000000000 ∧ y.l.length = y.h.n) ∧ Sep h h' [IsP b ys] := by
  have hxl := ox.l
  have hn := ox.b
  refine hc_of Tryd.func31 (rfl : Tryd.f31.body = some _) Tryd.ntmps31 Tryd.results31 Tryd.call31 rfl ?_; have HS := Sep.nil h; conv => whnf
  repeat' (fail <;> conv => whnf)
  refine EvMk.mk (by omega) (by omega) (by omega) (by omega) ?_
  conv => whnf
  refine EvNew.sep HS ?_
  intro b0 gb0 HS1 xb0
  replace HS := HS1
  clear HS1
  conv => whnf
  repeat' ((with_reducible first | refine EvSeq.go ?_ | refine EvIf.tt ?_ | refine EvIf.ff ?_) <;> conv => whnf)
  refine EvLoop.keep ([4, 8, 9, 10, 11, 12, 13, 14, 15, 16, 17, 18, 19, 20, 21], 5) (α := Int) (fun x => [(4, .int .i64 x)]) (fun x h' => ∃ (k : Nat) (ys : List Ii), k ≤ n ∧ x = k ∧ ys.length = k ∧ ys.map Ii.full = (xs.take k).map Ii.full ∧ Sep h h' (IsL b0 (ys.flatMap Ii.cells ++ mkCells z7 (n - k)) ys) ∧ ∀ y ∈ ys, y.h.n ≤ 1000000000 ∧ y.l.length = y.h.n) (fun x => ((n : Int) - x).toNat) 0 (by (repeat' (first | exact trivial | refine ⟨rfl, ?_⟩))) ⟨0, [], by omega, rfl, rfl, rfl, HS, fun y hy => by cases hy⟩ ?_
  clear HS
  rintro _ h1 ⟨k, ys, hk, rfl, hyl, ht, HS, hys⟩
  conv => whnf
  repeat' ((first | ((with_reducible refine EvIdx.el Ii.len (by decide) (ox.r.ext HS.to_ext) hxl (by omega) (by omega) ?_); intro bI oI x eI hx hI) | ((with_reducible refine EvLdN.el hI (Ii.len _) ?_)) | ((refine EvCall.mk (HC.mono (toIns_c (x := x) ((ox.at_ hx).ext HS.to_ext)) ?_)); (rintro _ hN ⟨y, rfl, ey, fy, fl, HS1⟩); replace HS := HS.join1 HS1; clear HS1) | (with_reducible first | refine EvSeq.go ?_ | refine EvIf.tt ?_ | refine EvIf.ff ?_) | ((with_reducible refine EvIf.mk (fun c => ?_) (fun c => ?_)) <;> (try simp only [cs_] at c) <;> (try (exfalso; first | omega | (revert c; decide)))) | ((with_reducible refine EvIdx.lit ?_ ?_ ?_); (first | omega | decide); (first | omega | decide))) <;> conv => whnf)
  · refine EvSt.ov (HS.front 1 rfl) .h (by
      have := rec_len Ii.len ys
      have e2 := mkCells_len z7 (n - k)
      have e3 : y.cells.toArray.toList.length = 7 := rfl
      have e4 : z7.length = 7 := rfl
      rw [List.length_append, e3, e2, this, hyl, e4, Int.toNat_natCast]
      omega) ?_
    intro h2 HS1 hU
    have e1 : ovr (ys.flatMap Ii.cells ++ mkCells z7 (n - k)) (0 + (k : Int).toNat * 7) y.cells.toArray.toList = (ys ++ [y]).flatMap Ii.cells ++ mkCells z7 (n - (k + 1)) := by
      have e0 := ovr_rec Ii.len ys y (mkCells z7 (n - k)) (by rw [mkCells_len]; show 7 ≤ (n - k) * 7; omega)
      rw [hyl, show n - k = (n - (k + 1)) + 1 by omega, mk_drop] at e0
      rw [Nat.zero_add, Int.toNat_natCast, show n - k = (n - (k + 1)) + 1 by omega]
      exact e0
    rw [e1] at HS1
    conv => whnf
    repeat' (fail <;> conv => whnf)
    refine ⟨(k : Int) + 1, ⟨congrArg (fun z => some (Value.int .i64 z)) (i64w _ (by omega) (by omega)), (by (repeat' (first | exact trivial | refine ⟨rfl, ?_⟩)))⟩, ⟨k + 1, ys ++ [y], by omega, by omega, by simp [hyl], full_take hx ht ey, ?_, ?_⟩, by omega⟩
    · unfold IsL
      rw [List.reverse_append]
      exact HS1
    · intro y' hy'
      rcases List.mem_append.mp hy' with hy' | hy'
      · exact hys y' hy'
      · obtain rfl : y' = y := by simpa using hy'
        exact ⟨fy, fl⟩
  · obtain rfl : k = n := by omega
    rw [Nat.sub_self] at HS
    have e0 : ys.flatMap Ii.cells ++ mkCells z7 0 = ys.flatMap Ii.cells := by
      show ys.flatMap Ii.cells ++ [] = _
      rw [List.append_nil]
    rw [e0] at HS
    refine ⟨b0, ys, by simp, ?_, hyl, hys, Sep.fold (L := []) _ (by rw [List.append_nil]; exact HS)⟩
    rw [ht, List.take_of_length_le (by omega)]
theorem Sep.rd_mem {h0 h : Hp} {L : List Asn} (s : Sep h0 h L) {T : TypeId} {A : Option Addr} {n c : Nat} {vs : List Value} (hi : Sl T A n c vs ∈ L) : Rd h A vs := by
  obtain ⟨i, hi⟩ := List.getElem?_of_mem hi
  exact s.rd i hi
/-- owned steps read -/
theorem Sep.isOk {h0 h : Hp} {L : List Asn} (s : Sep h0 h L) (i : Nat) {b n : Nat} {xs : List Ii} (hi : L[i]? = some (IsP b xs)) (hn : xs.length = n) (hb : n ≤ 1000000000) (hx : ∀ y ∈ xs, y.h.n ≤ 1000000000 ∧ y.l.length = y.h.n) : IsOk h (some ⟨b, 0, none⟩) n xs := by
  have s := (s.front i hi).unfold
  refine ⟨Rd.of_blk (s.pt_i 0 rfl), hn, hb, fun x hm => ⟨s.rd_mem (T := 3) (n := x.h.n) (c := x.h.c) ?_, (hx x hm).2, (hx x hm).1⟩⟩
  refine List.mem_cons_of_mem _ (List.mem_append_left _ ?_)
  exact List.mem_map.mpr ⟨x, by simpa using hm, rfl⟩
theorem eqIns_c {h : Hp} {x y : Ii} (ox : IiOk h x) (oy : IiOk h y) (e : x.full = y.full) : HC Tryd.prog 68 [.agg x.cells.toArray, .agg y.cells.toArray] h fun v h' => v = .bool true ∧ Ext h h' := by
  unfold Ii.full at e
  simp only [Prod.mk.injEq] at e
  obtain ⟨e1, e2, e3, e4, e5, e6, e7⟩ := e
  refine hc_of Tryd.func68 (rfl : Tryd.f68.body = some _) Tryd.ntmps68 Tryd.results68 Tryd.call68 rfl ?_; have HS := Sep.nil h; conv => whnf
  repeat' ((first | ((with_reducible refine EvCall.mk (HC.mono (eqIntS_c (ox.r.ext HS.to_ext) ox.l (oy.r.ext HS.to_ext) oy.l ox.b oy.b) ?_)); (rintro _ _ ⟨rfl, rfl⟩)) | (with_reducible first | refine EvSeq.go ?_ | refine EvIf.tt ?_ | refine EvIf.ff ?_) | ((with_reducible refine EvIf.mk (fun c => ?_) (fun c => ?_)) <;> (try simp only [cs_] at c) <;> (try (exfalso; first | omega | (revert c; decide)))) | ((with_reducible refine EvNew.sep HS ?_); intro bN hN HS1 hX; replace HS := HS1; clear HS1) | ((with_reducible refine EvLd.q HS (by repeat first | exact .h | apply Spot.t) ?_); (conv => whnf); intro hC)) <;> conv => whnf)
  all_goals first
    | exact ⟨rfl, HS.to_ext⟩
    | (exfalso; simp_all; done)
theorem eqInsS_c {h : Hp} {A B : Option Addr} {n m ca cb : Nat} {xs ys : List Ii} (ox : IsOk h A n xs) (oy : IsOk h B m ys) (e : xs.map Ii.full = ys.map Ii.full) :
    HC Tryd.prog 36 [.slice A n ca, .slice B m cb] h fun v h' => v = .bool true ∧ Ext h h' := by
  have hxl := ox.l
  have hyl := oy.l
  have hn := ox.b
  have hnm : n = m := by
    have := congrArg List.length e
    simp at this
    omega
  subst hnm
  refine hc_of Tryd.func36 (rfl : Tryd.f36.body = some _) Tryd.ntmps36 Tryd.results36 Tryd.call36 rfl ?_; have HS := Sep.nil h; conv => whnf
  repeat' ((first | (with_reducible first | refine EvSeq.go ?_ | refine EvIf.tt ?_ | refine EvIf.ff ?_) | ((with_reducible refine EvIf.mk (fun c => ?_) (fun c => ?_)) <;> (try simp only [cs_] at c) <;> (try (exfalso; first | omega | (revert c; decide))))) <;> conv => whnf)
  · clear HS
    refine EvLoop.keep ([4, 5, 11, 12, 13, 14, 15, 16, 17, 18, 19, 20, 21, 22, 23, 24, 25, 26], 6) (α := Int) (fun x => [(5, .int .i64 x)]) (fun x h' => Ext h h' ∧ ∃ k : Nat, k ≤ n ∧ x = k) (fun x => ((n : Int) - x).toNat) 0 (by (repeat' (first | exact trivial | refine ⟨rfl, ?_⟩))) ⟨Ext.refl h, 0, by omega, rfl⟩ ?_
    rintro _ h1 ⟨he, k, hk, rfl⟩
    have HS := Sep.nil h1
    conv => whnf
    repeat' ((first | ((with_reducible refine EvDraw.ord (id := 6) (.go 0 (.go 1 (.go 2 (.go 3 (.go 4 (.go 5 (.go 6 (.go 7 (.alt 8 (.go 9 .done) .stop))))))))) fol ?_ ?_ ?_); kernel_rfl; kernel_rfl) | ((with_reducible refine EvIdx.el Ii.len (by decide) ((ox.r.ext he).ext HS.to_ext) hxl (by omega) (by omega) ?_); intro bI oI x eI hx hI) | ((with_reducible refine EvIdx.el Ii.len (by decide) ((oy.r.ext he).ext HS.to_ext) hyl (by omega) (by omega) ?_); intro bJ oJ y eJ hy hJ) | ((with_reducible refine EvLdN.el hI (Ii.len _) ?_)) | ((with_reducible refine EvLdN.el hJ (Ii.len _) ?_)) | ((refine EvCall.mk (HC.mono (eqIns_c (x := x) (y := y) ((ox.at_ hx).ext (he.trans HS.to_ext)) ((oy.at_ hy).ext (he.trans HS.to_ext)) (map_at e hx hy)) ?_)); (rintro _ hN ⟨rfl, hX⟩); replace HS := HS.ext hX) | (with_reducible first | refine EvSeq.go ?_ | refine EvIf.tt ?_ | refine EvIf.ff ?_) | ((with_reducible refine EvIf.mk (fun c => ?_) (fun c => ?_)) <;> (try simp only [cs_] at c) <;> (try (exfalso; first | omega | (revert c; decide))))) <;> conv => whnf)
    · exact ⟨(k : Int) + 1, ⟨congrArg (fun z => some (Value.int .i64 z)) (i64w _ (by omega) (by omega)), (by (repeat' (first | exact trivial | refine ⟨rfl, ?_⟩)))⟩, ⟨he.trans HS.to_ext, k + 1, by omega, by omega⟩, by omega⟩
    · exact ⟨rfl, he⟩
/-- a function -/
structure Fu where
  nm : ByteArray
  pa : Int
  rg : Int
  sh : Hdr
  sl : List Int
  ch : Hdr
  cl : List Ii
abbrev Fu.v (f : Fu) : Value := .agg #[.string f.nm, .int .i64 f.pa, .int .i64 f.rg, f.sh.v, f.ch.v]
def Fu.full (f : Fu) : ByteArray × Int × Int × List Int × List (Int × Int × Int × Int × Int × ByteArray × List Int) := (f.nm, f.pa, f.rg, f.sl, f.cl.map Ii.full)
structure FuOk (h : Hp) (f : Fu) : Prop where
  s : Rd h f.sh.a (ints .i64 f.sl)
  sn : f.sl.length = f.sh.n
  sb : f.sh.n ≤ 1000000000
  c : IsOk h f.ch.a f.ch.n f.cl
theorem FuOk.ext {h h' : Hp} (e : Ext h h') {f : Fu} (o : FuOk h f) : FuOk h' f := ⟨o.s.ext e, o.sn, o.sb, o.c.ext e⟩
/-- a function that is owned -/
def Fu.L (b : Nat) (f : Fu) : List Asn := [IsP b f.cl, Sl 3 f.sh.a f.sh.n f.sh.c (ints .i64 f.sl)]
def FuP (b : Nat) (f : Fu) : Asn := All (Fu.L b f)
theorem toFun_c {h : Hp} {f : Fu} (o : FuOk h f) : HC Tryd.prog 8 [f.v] h fun v h' => ∃ (b : Nat) (g : Fu), v = g.v ∧ g.full = f.full ∧ g.ch = ⟨some ⟨b, 0, none⟩, g.cl.length, g.cl.length⟩ ∧ g.cl.length ≤ 1000000000 ∧ g.sl.length = g.sh.n ∧ g.sh.n ≤ 1000000000 ∧ (∀ y ∈ g.cl, y.h.n ≤ 1000000000 ∧ y.l.length = y.h.n) ∧ Sep h h' [FuP b g] := by
  have hc := o.c.l
  have hcb := o.c.b
  refine hc_of Tryd.func8 (rfl : Tryd.f8.body = some _) Tryd.ntmps8 Tryd.results8 Tryd.call8 rfl ?_; have HS := Sep.nil h; conv => whnf
  repeat' ((first | ((refine EvCall.mk (HC.mono (toIntS_c (o.s.ext HS.to_ext) o.sn o.sb) ?_)); (rintro _ hN ⟨AN, cN, rfl, HS1⟩); replace HS := HS.join1 HS1; clear HS1) | ((refine EvCall.mk (HC.mono (toInsS_c (o.c.ext HS.to_ext)) ?_)); (rintro _ hN ⟨bC, ys, rfl, eF, eL, eB, HS1⟩); replace HS := HS.join1 HS1; clear HS1) | ((with_reducible refine EvNew.sep HS ?_); intro bN hN HS1 hX; replace HS := HS1; clear HS1) | ((with_reducible refine EvLd.q HS (by repeat first | exact .h | apply Spot.t) ?_); (conv => whnf); intro hC) | (with_reducible refine EvLdN.q HS (by repeat first | exact .h | apply Spot.t) (fun hC => ?_)) | ((with_reducible refine EvSt.q HS (by repeat first | exact .h | apply Spot.t) ?_); (conv => whnf); intro hN HS1 hU; replace HS := HS1; clear HS1)) <;> conv => whnf)
  refine ⟨bC, ⟨f.nm, f.pa, f.rg, ⟨AN, f.sh.n, cN⟩, f.sl, ⟨some ⟨bC, 0, none⟩, f.ch.n, f.ch.n⟩, ys⟩, rfl, ?_, ?_, by show ys.length ≤ _; omega, o.sn, o.sb, eB, ?_⟩
  · unfold Fu.full
    rw [eF]
  · show (⟨_, _, _⟩ : Hdr) = ⟨_, ys.length, ys.length⟩
    rw [eL]
  · exact Sep.fold (L := []) [_, _] (by rw [List.append_nil]; exact HS.take [_, _])
end Go.Proofs.YtjggmhpjlnmigaaDoor
