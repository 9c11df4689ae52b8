/- Rows of rows of whole numbers: compared, marked, held. -/
import Derived.Test.YtjggmhpjlnmigaaDoorVIr2
namespace Go.Proofs.YtjggmhpjlnmigaaDoor
open Go.RowKit
set_option maxRecDepth 20000
set_option linter.unusedSimpArgs false
set_option linter.unusedVariables false
structure Rw where
  h : Hdr
  l : List Int
def Rw.P (x : Rw) : Asn := Sl 3 x.h.a x.h.n x.h.c (ints .i64 x.l)
def hds (xs : List Rw) : List Value := xs.map fun x => .slice x.h.a x.h.n x.h.c
def RrL (A : Option Addr) (n c : Nat) (xs : List Rw) : List Asn := Sl 22 A n c (hds xs) :: xs.map Rw.P
def RrP (A : Option Addr) (n c : Nat) (xs : List Rw) : Asn := All (RrL A n c xs)
structure RrOk (h : Hp) (A : Option Addr) (n : Nat) (xs : List Rw) : Prop where
  r : Rd h A (hds xs)
  l : xs.length = n
  o : ∀ x ∈ xs, Rd h x.h.a (ints .i64 x.l) ∧ x.l.length = x.h.n
theorem RrOk.ext {h h' : Hp} (e : Ext h h') {A : Option Addr} {n : Nat} {xs : List Rw} (o : RrOk h A n xs) : RrOk h' A n xs := ⟨o.r.ext e, o.l, fun x hx => ⟨(o.o x hx).1.ext e, (o.o x hx).2⟩⟩
theorem Sep.rrOk {h0 h : Hp} {L : List Asn} (s : Sep h0 h L) (i : Nat) {A : Option Addr} {n c : Nat} {xs : List Rw} (hi : L[i]? = some (RrP A n c xs)) (hx : ∀ x ∈ xs, x.l.length = x.h.n) : RrOk h A n xs := by
  have s := (s.front i hi).unfold
  have hl := (s.len 0 rfl).1
  refine ⟨s.rd 0 rfl, by simpa [hds] using hl, fun x hm => ⟨s.rd_mem (T := 3) (n := x.h.n) (c := x.h.c) ?_, hx x hm⟩⟩
  exact List.mem_cons_of_mem _ (List.mem_append_left _ (List.mem_map.mpr ⟨x, hm, rfl⟩))
theorem EvLd.rowv {h : Hp} {b o : Nat} {i : Int} {vs : List Value} {v : Value} {K : Value → Prop} (hI : hcell h b (o + i.toNat) = vs[i.toNat]?) (e : vs[i.toNat]? = some v) (k : K v) : EvLd h b (o + i.toNat * 1) K :=
  ⟨v, by rw [Nat.mul_one, hI, e], k⟩
theorem hds_at {xs : List Rw} {k : Nat} {x : Rw} (e : xs[k]? = some x) : (hds xs)[((k : Int)).toNat]? = some (.slice x.h.a x.h.n x.h.c) := by
  simp [hds, e]
theorem eqSS_c {h : Hp} {A B : Option Addr} {n m ca cb : Nat} {xs ys : List Rw} (ox : RrOk h A n xs) (oy : RrOk h B m ys) (e : xs.map Rw.l = ys.map Rw.l) (hn : n ≤ 1000000000) (hx : ∀ x ∈ xs, x.l.length ≤ 1000000000) :
    HC Tryd.prog 10 [.slice A n ca, .slice B m cb] h fun v h' => v = .bool true ∧ h' = h := by
  have hxl := ox.l
  have hyl := oy.l
  have hnm : n = m := by
    have := congrArg List.length e
    simp at this
    omega
  subst hnm
  refine hc_of Tryd.func10 (rfl : Tryd.f10.body = some _) Tryd.ntmps10 Tryd.results10 Tryd.call10 rfl ?_; have HS := Sep.nil h; conv => whnf
  repeat' ((first | (with_reducible first | refine EvSeq.go ?_ | refine EvIf.tt ?_ | refine EvIf.ff ?_) | ((with_reducible refine EvIf.mk (fun c => ?_) (fun c => ?_)) <;> (try simp only [cs_] at c) <;> (try (exfalso; first | omega | (revert c; decide))))) <;> conv => whnf)
  refine EvLoop.keep ([4, 5, 11, 12, 13, 14, 15, 16, 17, 18, 19, 20, 21, 22, 23, 24, 25, 26], 6) (α := Nat) (fun k => [(5, .int .i64 k)]) (fun k h' => h' = h ∧ k ≤ n) (fun k => n - k) 0 (by (repeat' (first | exact trivial | refine ⟨rfl, ?_⟩))) ⟨rfl, Nat.zero_le _⟩ ?_
  rintro k _ ⟨rfl, hk⟩
  conv => whnf
  obtain hlt | hge := Nat.lt_or_ge k n
  · obtain ⟨x, hxk⟩ : ∃ x, xs[k]? = some x := ⟨_, List.getElem?_eq_getElem (by omega)⟩
    obtain ⟨y, hyk⟩ : ∃ y, ys[k]? = some y := ⟨_, List.getElem?_eq_getElem (by omega)⟩
    have el := map_at e hxk hyk
    have o1 := ox.o x (List.mem_of_getElem? hxk)
    have o2 := oy.o y (List.mem_of_getElem? hyk)
    have hx1 := hx x (List.mem_of_getElem? hxk)
    have hx2 : y.l.length ≤ 1000000000 := by rw [← el]; exact hx1
    repeat' ((first | ((with_reducible refine EvDraw.ord (id := 6) (.go 0 (.go 1 (.go 2 (.go 3 (.go 4 (.go 5 (.go 6 (.go 7 (.alt 8 (.go 9 .done) .stop))))))))) fol ?_ ?_ ?_); kernel_rfl; kernel_rfl) | ((with_reducible refine EvIdx.rd ox.r (by simpa [hds] using hxl) (by omega) (by omega) ?_); intro bI oI eI hI) | ((with_reducible refine EvLd.rowv (by assumption) (hds_at hxk) ?_)) | ((with_reducible refine EvIdx.rd oy.r (by simpa [hds] using hyl) (by omega) (by omega) ?_); intro bI oI eI hI) | ((with_reducible refine EvLd.rowv (by assumption) (hds_at hyk) ?_)) | ((with_reducible refine EvCall.mk (HC.mono (eqIntS_c o1.1 o1.2 o2.1 o2.2 (by omega) (by omega)) ?_)); (rintro _ _ ⟨rfl, rfl⟩)) | (with_reducible first | refine EvSeq.go ?_ | refine EvIf.tt ?_ | refine EvIf.ff ?_) | ((with_reducible refine EvIf.mk (fun c => ?_) (fun c => ?_)) <;> (try simp only [cs_] at c) <;> (try (exfalso; first | omega | (revert c; decide))))) <;> conv => whnf)
    · exact absurd el c
    · exact ⟨k + 1, ⟨congrArg (fun z => some (Value.int .i64 z)) ((i64w _ (by omega) (by omega)).trans (by omega)), (by (repeat' (first | exact trivial | refine ⟨rfl, ?_⟩)))⟩, ⟨rfl, by omega⟩, by omega⟩
  · repeat' ((first | (with_reducible first | refine EvSeq.go ?_ | refine EvIf.tt ?_ | refine EvIf.ff ?_) | ((with_reducible refine EvIf.mk (fun c => ?_) (fun c => ?_)) <;> (try simp only [cs_] at c) <;> (try (exfalso; first | omega | (revert c; decide))))) <;> conv => whnf)
    exact ⟨rfl, rfl⟩
def wr2 : List Rw → Nat
  | [] => 0
  | x :: r => x.h.n + wr2 r
/-- rows marked, the first k of them -/
def mkr : Int → List Rw → Nat → List Rw
  | _, [], _ => []
  | _, xs, 0 => xs
  | a, x :: r, k + 1 => { x with l := marks .i64 a x.h.n } :: mkr (a + x.h.n) r k
theorem mkr_zero (a : Int) (xs : List Rw) : mkr a xs 0 = xs := by cases xs <;> rfl
theorem mkr_hds : ∀ (k : Nat) (a : Int) (xs : List Rw), hds (mkr a xs k) = hds xs
  | 0, a, xs => by rw [mkr_zero]
  | k + 1, a, [] => rfl
  | k + 1, a, x :: r => by
    show _ :: hds (mkr _ r k) = _ :: hds r
    rw [mkr_hds k _ r]
theorem mkr_at : ∀ (k : Nat) (a : Int) (xs : List Rw), (mkr a xs k)[k]? = xs[k]?
  | 0, a, xs => by rw [mkr_zero]
  | k + 1, a, [] => rfl
  | k + 1, a, x :: r => by
    show (mkr _ r k)[k]? = r[k]?
    exact mkr_at k _ r
theorem mkr_step : ∀ (k : Nat) (a : Int) (xs : List Rw) (x : Rw), xs[k]? = some x → (mkr a xs k).set k { x with l := marks .i64 (a + wr2 (xs.take k)) x.h.n } = mkr a xs (k + 1)
  | 0, a, y :: r, x, h => by
    cases h
    show _ :: r = _ :: mkr _ r 0
    rw [mkr_zero]
    simp [wr2]
  | k + 1, a, y :: r, x, h => by
    have := mkr_step k (a + y.h.n) r x (by simpa using h)
    show _ :: (mkr _ r k).set k _ = _ :: mkr _ r (k + 1)
    rw [← this]
    simp only [List.take_succ_cons, wr2]
    congr 4
    omega
theorem mkr_get : ∀ (m k : Nat) (a : Int) (xs : List Rw) (x : Rw), k < m → xs[k]? = some x → (mkr a xs m)[k]? = some { x with l := marks .i64 (a + wr2 (xs.take k)) x.h.n }
  | m + 1, 0, a, y :: r, x, _, h => by
    cases h
    simp [mkr, wr2]
  | m + 1, k + 1, a, y :: r, x, hk, h => by
    have := mkr_get m k (a + y.h.n) r x (by omega) (by simpa using h)
    show (mkr _ r m)[k]? = _
    rw [this]
    have e : a + y.h.n + (wr2 (r.take k) : Int) = a + ((y.h.n + wr2 (r.take k) : Nat) : Int) := by omega
    simp only [List.take_succ_cons, wr2]
    rw [e]
theorem wr2_step : ∀ {xs : List Rw} {k : Nat} {x : Rw}, xs[k]? = some x → wr2 (xs.take (k + 1)) = wr2 (xs.take k) + x.h.n
  | y :: xs, 0, x, h => by
    cases h
    simp [wr2]
  | y :: xs, k + 1, x, h => by
    have := wr2_step (xs := xs) (k := k) (by simpa using h)
    simp only [List.take_succ_cons, wr2, this]
    omega
theorem wr2_le : ∀ (xs : List Rw) (k : Nat), wr2 (xs.take k) ≤ wr2 xs
  | [], k => by simp
  | y :: xs, 0 => by simp [wr2]
  | y :: xs, k + 1 => by
    have := wr2_le xs k
    simp only [List.take_succ_cons, wr2]
    omega
theorem markSS_c {h0 h : Hp} {L : List Asn} {A : Option Addr} {n ca : Nat} {xs : List Rw} {a : Int} (HS : Sep h0 h (RrP A n ca xs :: L)) (hn : n ≤ 1000000000) (hw : wr2 xs ≤ 100000000000) (hx : ∀ x ∈ xs, x.h.n ≤ 1000000000) (a0 : 0 ≤ a) (a1 : a ≤ 1000000000) :
    HC Tryd.prog 13 [.slice A n ca, .int .i64 a] h fun v h' => v = .int .i64 (a + wr2 xs) ∧ Sep h0 h' (RrP A n ca (mkr a xs n) :: L) := by
  replace HS : Sep h0 h (Sl 22 A n ca (hds xs) :: (xs.map Rw.P ++ L)) := HS.unfold
  have hxl : xs.length = n := by simpa [hds] using (HS.len 0 rfl).1
  refine hc_of Tryd.func13 (rfl : Tryd.f13.body = some _) Tryd.ntmps13 Tryd.results13 Tryd.call13 rfl ?_; conv => whnf
  repeat' ((with_reducible first | refine EvSeq.go ?_ | refine EvIf.tt ?_ | refine EvIf.ff ?_) <;> conv => whnf)
  refine EvLoop.keep ([1, 5, 6, 7, 8, 9, 10, 11, 12, 13, 14, 15, 16, 17], 6) (α := Nat) (fun k => [(5, .int .i64 k), (1, .int .i64 (a + wr2 (xs.take k)))]) (fun k h' => k ≤ n ∧ Sep h0 h' (Sl 22 A n ca (hds xs) :: ((mkr a xs k).map Rw.P ++ L))) (fun k => n - k) 0 ⟨rfl, congrArg (fun z => some (Value.int .i64 z)) (by simp [wr2]), trivial⟩ ⟨Nat.zero_le _, by rw [mkr_zero]; exact HS⟩ ?_
  clear HS
  rintro k h1 ⟨hk, HS⟩
  conv => whnf
  obtain hlt | hge := Nat.lt_or_ge k n
  · obtain ⟨x, hxk⟩ : ∃ x, xs[k]? = some x := ⟨_, List.getElem?_eq_getElem (by omega)⟩
    have hxn := hx x (List.mem_of_getElem? hxk)
    have hw1 := wr2_step hxk
    have hw2 := wr2_le xs (k + 1)
    have hmk : (mkr a xs k)[k]? = some x := (mkr_at k a xs).trans hxk
    have hix : (Sl 22 A n ca (hds xs) :: ((mkr a xs k).map Rw.P ++ L))[k + 1]? = some x.P := by
      rw [List.getElem?_cons_succ, List.getElem?_append_left (by rw [List.length_map]; exact (List.getElem?_eq_some_iff.mp hmk).1), List.getElem?_map, hmk]
      rfl
    repeat' ((first | ((with_reducible refine EvIdx.rd (HS.rd 0 rfl) (by simpa [hds] using hxl) (by omega) (by omega) ?_); intro bI oI eI hI) | ((with_reducible refine EvLd.rowv (by assumption) (hds_at hxk) ?_)) | (with_reducible first | refine EvSeq.go ?_ | refine EvIf.tt ?_ | refine EvIf.ff ?_) | ((with_reducible refine EvIf.mk (fun c => ?_) (fun c => ?_)) <;> (try simp only [cs_] at c) <;> (try (exfalso; first | omega | (revert c; decide))))) <;> conv => whnf)
    refine EvCall.mk ((markIntS_c (HS.front (k + 1) hix) hxn (by omega) (by omega)).mono ?_)
    rintro _ hN ⟨rfl, HS1⟩
    have HS2 := HS1.unfront (by simp; have := (List.getElem?_eq_some_iff.mp hmk).1; omega)
    have eL : (Sl 22 A n ca (hds xs) :: ((mkr a xs k).map Rw.P ++ L)).set (k + 1) (Sl 3 x.h.a x.h.n x.h.c (ints .i64 (marks .i64 (a + wr2 (xs.take k)) x.h.n))) = Sl 22 A n ca (hds xs) :: ((mkr a xs (k + 1)).map Rw.P ++ L) := by
      rw [← mkr_step k a xs x hxk, List.set_cons_succ, List.set_append_left _ _ (by rw [List.length_map]; exact (List.getElem?_eq_some_iff.mp hmk).1), List.map_set]
      rfl
    rw [eL] at HS2
    replace HS := HS2
    clear HS1 HS2 eL
    conv => whnf
    repeat' (fail <;> conv => whnf)
    exact ⟨k + 1, ⟨congrArg (fun z => some (Value.int .i64 z)) ((i64w _ (by omega) (by omega)).trans (by omega)), congrArg (fun z => some (Value.int .i64 z)) (by omega), (by (repeat' (first | exact trivial | refine ⟨rfl, ?_⟩)))⟩, ⟨by omega, HS⟩, by omega⟩
  · repeat' ((first | (with_reducible first | refine EvSeq.go ?_ | refine EvIf.tt ?_ | refine EvIf.ff ?_) | ((with_reducible refine EvIf.mk (fun c => ?_) (fun c => ?_)) <;> (try simp only [cs_] at c) <;> (try (exfalso; first | omega | (revert c; decide))))) <;> conv => whnf)
    obtain rfl : k = n := by omega
    rw [List.take_of_length_le (by omega)]
    refine ⟨rfl, ?_⟩
    have : Sep h0 h1 (RrL A k ca (mkr a xs k) ++ L) := by
      show Sep h0 h1 (Sl _ A k ca (hds (mkr a xs k)) :: ((mkr a xs k).map Rw.P ++ L))
      rw [mkr_hds]
      exact HS
    exact this.fold _
theorem heldSS_c {h : Hp} {A : Option Addr} {n c : Nat} {xs : List Rw} {a : Int} (o : RrOk h A n (mkr a xs n)) (hxl : xs.length = n) (hn : n ≤ 1000000000) (hw : wr2 xs ≤ 100000000000) (hx : ∀ x ∈ xs, x.h.n ≤ 1000000000) (a0 : 0 ≤ a) (a1 : a ≤ 1000000000) :
    HC Tryd.prog 14 [.slice A n c, .int .i64 a] h fun v h' => v = .int .i64 (a + wr2 xs) ∧ h' = h := by
  have hr : Rd h A (hds xs) := by rw [← mkr_hds n a xs]; exact o.r
  refine hc_of Tryd.func14 (rfl : Tryd.f14.body = some _) Tryd.ntmps14 Tryd.results14 Tryd.call14 rfl ?_; have HS := Sep.nil h; conv => whnf
  repeat' ((with_reducible first | refine EvSeq.go ?_ | refine EvIf.tt ?_ | refine EvIf.ff ?_) <;> conv => whnf)
  refine EvLoop.keep ([1, 4, 5, 6, 7, 8, 9, 10, 11, 12, 13, 14, 15, 16, 17, 18, 19], 6) (α := Nat) (fun k => [(5, .int .i64 k), (1, .int .i64 (a + wr2 (xs.take k)))]) (fun k h' => h' = h ∧ k ≤ n) (fun k => n - k) 0 ⟨rfl, congrArg (fun z => some (Value.int .i64 z)) (by simp [wr2]), trivial⟩ ⟨rfl, Nat.zero_le _⟩ ?_
  rintro k _ ⟨rfl, hk⟩
  conv => whnf
  obtain hlt | hge := Nat.lt_or_ge k n
  · obtain ⟨x, hxk⟩ : ∃ x, xs[k]? = some x := ⟨_, List.getElem?_eq_getElem (by omega)⟩
    have hxn := hx x (List.mem_of_getElem? hxk)
    have hw1 := wr2_step hxk
    have hw2 := wr2_le xs (k + 1)
    have o1 := o.o _ (List.mem_of_getElem? (mkr_get n k a xs x hlt hxk))
    repeat' ((first | ((with_reducible refine EvIdx.rd hr (by simpa [hds] using hxl) (by omega) (by omega) ?_); intro bI oI eI hI) | ((with_reducible refine EvLd.rowv (by assumption) (hds_at hxk) ?_)) | ((with_reducible refine EvCall.mk (HC.mono (heldIntS_c o1.1 hxn (by omega) (by omega)) ?_)); (rintro _ _ ⟨rfl, rfl⟩)) | (with_reducible first | refine EvSeq.go ?_ | refine EvIf.tt ?_ | refine EvIf.ff ?_) | ((with_reducible refine EvIf.mk (fun c => ?_) (fun c => ?_)) <;> (try simp only [cs_] at c) <;> (try (exfalso; first | omega | (revert c; decide))))) <;> conv => whnf)
    exact ⟨k + 1, ⟨congrArg (fun z => some (Value.int .i64 z)) ((i64w _ (by omega) (by omega)).trans (by omega)), congrArg (fun z => some (Value.int .i64 z)) (by omega), (by (repeat' (first | exact trivial | refine ⟨rfl, ?_⟩)))⟩, ⟨rfl, by omega⟩, by omega⟩
  · repeat' ((first | (with_reducible first | refine EvSeq.go ?_ | refine EvIf.tt ?_ | refine EvIf.ff ?_) | ((with_reducible refine EvIf.mk (fun c => ?_) (fun c => ?_)) <;> (try simp only [cs_] at c) <;> (try (exfalso; first | omega | (revert c; decide))))) <;> conv => whnf)
    obtain rfl : k = n := by omega
    rw [List.take_of_length_le (by omega)]
    exact ⟨rfl, rfl⟩
end Go.Proofs.YtjggmhpjlnmigaaDoor
