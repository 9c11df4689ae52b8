/- Functions of the code between: as arguments come; their sizes. -/
import Derived.Test.YtjggmhpjlnmigaaDoorVIr2
namespace Go.Proofs.YtjggmhpjlnmigaaDoor
open Go.RowKit
set_option maxRecDepth 20000
set_option linter.unusedSimpArgs false
set_option linter.unusedVariables false
/-- as an argument comes, its sizes not yet known to be small -/
structure IiR (h : Hp) (x : Ii) : Prop where
  r : Rd h x.h.a (ints .i64 x.l)
  l : x.l.length = x.h.n
  b : x.h.n ≤ 9223372036854775807
  s : x.s.size ≤ 9223372036854775807
structure IsR (h : Hp) (A : Option Addr) (n : Nat) (xs : List Ii) : Prop where
  r : Rd h A (xs.flatMap Ii.cells)
  l : xs.length = n
  b : n ≤ 9223372036854775807
  o : ∀ x ∈ xs, IiR h x
theorem IiR.ext {h h' : Hp} (e : Ext h h') {x : Ii} (o : IiR h x) : IiR h' x := ⟨o.r.ext e, o.l, o.b, o.s⟩
theorem IsR.ext {h h' : Hp} (e : Ext h h') {A : Option Addr} {n : Nat} {xs : List Ii} (o : IsR h A n xs) : IsR h' A n xs := ⟨o.r.ext e, o.l, o.b, fun x hx => (o.o x hx).ext e⟩
theorem IsR.at_ {h : Hp} {A : Option Addr} {n : Nat} {xs : List Ii} (o : IsR h A n xs) {i : Nat} {x : Ii} (e : xs[i]? = some x) : IiR h x := o.o x (List.mem_of_getElem? e)
structure FuR (h : Hp) (f : Fu) : Prop where
  s : Rd h f.sh.a (ints .i64 f.sl)
  sn : f.sl.length = f.sh.n
  sb : f.sh.n ≤ 9223372036854775807
  nb : f.nm.size ≤ 9223372036854775807
  c : IsR h f.ch.a f.ch.n f.cl
theorem FuR.ext {h h' : Hp} (e : Ext h h') {f : Fu} (o : FuR h f) : FuR h' f := ⟨o.s.ext e, o.sn, o.sb, o.nb, o.c.ext e⟩
theorem szIns_c {h : Hp} {x : Ii} (ox : IiR h x) (a : Int) (a0 : 0 ≤ a) (a1 : a ≤ 1048576) : HC Tryd.prog 52 [.agg x.cells.toArray, .int .i64 a] h fun v h' => (∃ r : Int, v = .int .i64 r ∧ -1 ≤ r ∧ r ≤ a ∧ (0 ≤ r → x.h.n + r ≤ a)) ∧ Ext h h' := by
  have hs := ox.s
  have hb := ox.b
  have e : IntKind.i64.wrap (a - x.s.size) = a - x.s.size := i64w _ (by omega) (by omega)
  refine hc_of Tryd.func52 (rfl : Tryd.f52.body = some _) Tryd.ntmps52 Tryd.results52 Tryd.call52 rfl ?_; have HS := Sep.nil h; conv => whnf
  repeat' ((first | (with_reducible first | refine EvSeq.go ?_ | refine EvIf.tt ?_ | refine EvIf.ff ?_) | ((with_reducible refine EvIf.mk (fun c => ?_) (fun c => ?_)) <;> (try simp only [cs_] at c) <;> (try (exfalso; first | omega | (revert c; decide)))) | ((with_reducible refine EvNew.sep HS ?_); intro bN hN HS1 hX; replace HS := HS1; clear HS1) | ((with_reducible refine EvLd.q HS (by repeat first | exact .h | apply Spot.t) ?_); (conv => whnf); intro hC)) <;> conv => whnf)
  · exact ⟨⟨-1, rfl, by omega, by omega, by omega⟩, HS.to_ext⟩
  · rw [e] at c
    repeat' ((first | ((refine EvCall.mk (HC.mono (szIntS_c _ _ _ _ _ hb (by rw [e]; omega) (by rw [e]; omega)) ?_)); (rintro _ _ ⟨rfl, rfl⟩)) | (with_reducible first | refine EvSeq.go ?_ | refine EvIf.tt ?_ | refine EvIf.ff ?_) | ((with_reducible refine EvIf.mk (fun c => ?_) (fun c => ?_)) <;> (try simp only [cs_] at c) <;> (try (exfalso; first | omega | (revert c; decide))))) <;> conv => whnf)
    · exact ⟨⟨-1, rfl, by omega, by omega, by omega⟩, HS.to_ext⟩
    · rw [e] at c
      refine ⟨⟨_, rfl, ?_, ?_, ?_⟩, HS.to_ext⟩
      all_goals rw [e]
      all_goals split at c <;> omega
theorem szInsS_c {h : Hp} {A : Option Addr} {n ca : Nat} {xs : List Ii} (ox : IsR h A n xs) (a : Int) (a0 : 0 ≤ a) (a1 : a ≤ 1048576) :
    HC Tryd.prog 26 [.slice A n ca, .int .i64 a] h fun v h' => (∃ r : Int, v = .int .i64 r ∧ -1 ≤ r ∧ r ≤ a ∧ (0 ≤ r → n ≤ 1048576 ∧ wt xs ≤ 8000000 ∧ ∀ x ∈ xs, x.h.n ≤ 1048576)) ∧ Ext h h' := by
  have hxl := ox.l
  have hn := ox.b
  have e : IntKind.i64.wrap (a - n) = a - n := i64w _ (by omega) (by omega)
  refine hc_of Tryd.func26 (rfl : Tryd.f26.body = some _) Tryd.ntmps26 Tryd.results26 Tryd.call26 rfl ?_; have HS := Sep.nil h; conv => whnf
  repeat' ((first | (with_reducible first | refine EvSeq.go ?_ | refine EvIf.tt ?_ | refine EvIf.ff ?_) | ((with_reducible refine EvIf.mk (fun c => ?_) (fun c => ?_)) <;> (try simp only [cs_] at c) <;> (try (exfalso; first | omega | (revert c; decide))))) <;> conv => whnf)
  · exact ⟨⟨-1, rfl, by omega, by omega, by omega⟩, HS.to_ext⟩
  · rw [e] at c
    clear HS
    refine EvLoop.keep ([1, 4, 5, 12, 13, 14, 15, 16, 17, 18, 19, 20, 21, 22, 23, 24, 25], 6) (α := Int × Int) (fun x => [(5, .int .i64 x.1), (1, .int .i64 x.2)]) (fun x h' => Ext h h' ∧ ∃ k : Nat, k ≤ n ∧ x.1 = k ∧ 0 ≤ x.2 ∧ wt (xs.take k) + x.2 ≤ a - n + 6 * k ∧ x.2 ≤ a ∧ ∀ y ∈ xs.take k, y.h.n ≤ 1048576) (fun x => ((n : Int) - x.1).toNat) (0, a - n) (by first | exact ⟨rfl, congrArg (fun z => some (Value.int .i64 z)) e, by repeat' (first | exact trivial | refine ⟨rfl, ?_⟩)⟩ | (repeat' (first | exact trivial | refine ⟨rfl, ?_⟩))) ⟨Ext.refl h, 0, by omega, rfl, by dsimp only; omega, by simp [wt], by dsimp only; omega, fun y hy => by simp at hy⟩ ?_
    rintro ⟨_, q⟩ h1 ⟨he, k, hk, rfl, q0, qw, q1, ht⟩
    have HS := Sep.nil h1
    dsimp only at q0 q1 qw
    conv => whnf
    repeat' ((first | ((with_reducible refine EvIdx.el Ii.len (by decide) ((ox.r.ext he).ext HS.to_ext) hxl (by omega) (by omega) ?_); intro bI oI x eI hx hI) | ((with_reducible refine EvLdN.el hI (Ii.len _) ?_)) | ((refine EvCall.mk (HC.mono (szIns_c (x := x) ((ox.at_ hx).ext (he.trans HS.to_ext)) q q0 (by omega)) ?_)); (rintro _ hN ⟨⟨r, rfl, r0, r1, r2⟩, hX⟩); replace HS := HS.ext hX) | (with_reducible first | refine EvSeq.go ?_ | refine EvIf.tt ?_ | refine EvIf.ff ?_) | ((with_reducible refine EvIf.mk (fun c => ?_) (fun c => ?_)) <;> (try simp only [cs_] at c) <;> (try (exfalso; first | omega | (revert c; decide))))) <;> conv => whnf)
    · exact ⟨⟨-1, rfl, by omega, by omega, by omega⟩, he.trans HS.to_ext⟩
    · have hx' : xs[k]? = some x := hx
      have hw1 := wt_step hx'
      have hr2 := r2 c
      refine ⟨((k : Int) + 1, r), ⟨congrArg (fun z => some (Value.int .i64 z)) (i64w _ (by dsimp only; omega) (by dsimp only; omega)), (by (repeat' (first | exact trivial | refine ⟨rfl, ?_⟩)))⟩, ⟨he.trans HS.to_ext, k + 1, by omega, by dsimp only; omega, c, by dsimp only; omega, by dsimp only; omega, fun y hy => ?_⟩, by dsimp only; omega⟩
      rw [List.take_add_one, hx'] at hy
      rcases List.mem_append.mp hy with hy | hy
      · exact ht y hy
      · obtain rfl : y = x := by simpa using hy
        omega
    · rw [List.take_of_length_le (by omega)] at ht qw
      exact ⟨⟨q, rfl, by omega, by omega, fun _ => ⟨by omega, by omega, ht⟩⟩, he⟩
theorem szFun_c {h : Hp} {f : Fu} (o : FuR h f) (a : Int) (a0 : 0 ≤ a) (a1 : a ≤ 1048576) :
    HC Tryd.prog 6 [f.v, .int .i64 a] h fun v h' => (∃ r : Int, v = .int .i64 r ∧ -1 ≤ r ∧ r ≤ a ∧ (0 ≤ r → f.sh.n ≤ 1048576 ∧ f.ch.n ≤ 1048576 ∧ wt f.cl ≤ 8000000 ∧ ∀ x ∈ f.cl, x.h.n ≤ 1048576)) ∧ Ext h h' := by
  have hs := o.nb
  have hb := o.sb
  have e : IntKind.i64.wrap (a - f.nm.size) = a - f.nm.size := i64w _ (by omega) (by omega)
  refine hc_of Tryd.func6 (rfl : Tryd.f6.body = some _) Tryd.ntmps6 Tryd.results6 Tryd.call6 rfl ?_; have HS := Sep.nil h; conv => whnf
  repeat' ((first | (with_reducible first | refine EvSeq.go ?_ | refine EvIf.tt ?_ | refine EvIf.ff ?_) | ((with_reducible refine EvIf.mk (fun c => ?_) (fun c => ?_)) <;> (try simp only [cs_] at c) <;> (try (exfalso; first | omega | (revert c; decide)))) | ((with_reducible refine EvNew.sep HS ?_); intro bN hN HS1 hX; replace HS := HS1; clear HS1) | ((with_reducible refine EvLd.q HS (by repeat first | exact .h | apply Spot.t) ?_); (conv => whnf); intro hC)) <;> conv => whnf)
  · exact ⟨⟨-1, rfl, by omega, by omega, by omega⟩, HS.to_ext⟩
  · rw [e] at c
    repeat' ((first | ((refine EvCall.mk (HC.mono (szIntS_c _ _ _ _ _ hb (by rw [e]; omega) (by rw [e]; omega)) ?_)); (rintro _ _ ⟨rfl, rfl⟩)) | (with_reducible first | refine EvSeq.go ?_ | refine EvIf.tt ?_ | refine EvIf.ff ?_) | ((with_reducible refine EvIf.mk (fun c => ?_) (fun c => ?_)) <;> (try simp only [cs_] at c) <;> (try (exfalso; first | omega | (revert c; decide)))) | ((with_reducible refine EvLd.q HS (by repeat first | exact .h | apply Spot.t) ?_); (conv => whnf); intro hC)) <;> conv => whnf)
    · exact ⟨⟨-1, rfl, by omega, by omega, by omega⟩, HS.to_ext⟩
    · rw [e] at c
      have h0 : ¬ (a - f.nm.size - f.sh.n < 0) := by split at c <;> omega
      rw [e, if_neg h0] at *
      refine EvCall.mk ((szInsS_c (o.c.ext HS.to_ext) _ (by omega) (by omega)).mono ?_)
      rintro _ hN ⟨⟨r, rfl, r0, r1, r2⟩, hX⟩
      replace HS := HS.ext hX
      conv => whnf
      repeat' ((first | (with_reducible first | refine EvSeq.go ?_ | refine EvIf.tt ?_ | refine EvIf.ff ?_) | ((with_reducible refine EvIf.mk (fun c => ?_) (fun c => ?_)) <;> (try simp only [cs_] at c) <;> (try (exfalso; first | omega | (revert c; decide))))) <;> conv => whnf)
      · exact ⟨⟨-1, rfl, by omega, by omega, by omega⟩, HS.to_ext⟩
      · have := r2 (by omega)
        exact ⟨⟨r, rfl, by omega, by omega, fun _ => ⟨by omega, this.1, this.2.1, this.2.2⟩⟩, HS.to_ext⟩
theorem FuR.ok {h : Hp} {f : Fu} (o : FuR h f) (hs : f.sh.n ≤ 1048576) (hc : f.ch.n ≤ 1048576) (hx : ∀ x ∈ f.cl, x.h.n ≤ 1048576) : FuOk h f :=
  ⟨o.s, o.sn, by omega, o.c.r, o.c.l, by omega, fun x hm => ⟨(o.c.o x hm).r, (o.c.o x hm).l, by have := hx x hm; omega⟩⟩
abbrev shIns : Sh := .cons (.int .i64) (.cons (.int .i64) (.cons (.int .i64) (.cons (.int .i64) (.cons (.int .i64) (.cons .str (.cons (.sl (.int .i64)) .nil))))))
abbrev shFun : Sh := .cons .str (.cons (.int .i64) (.cons (.int .i64) (.cons (.sl (.int .i64)) (.cons (.sl shIns) .nil))))
theorem ins_of {h : Hp} (r : List Value) (_ : r.length = shIns.size) (o : RdS h shIns r) : ∃ x : Ii, r = x.cells ∧ IiR h x := by
  obtain ⟨_, _, rfl, _, ⟨k, rfl, _⟩, _, _, rfl, _, ⟨m, rfl, _⟩, _, _, rfl, _, ⟨n, rfl, _⟩, _, _, rfl, _, ⟨p, rfl, _⟩, _, _, rfl, _, ⟨q, rfl, _⟩, _, _, rfl, _, ⟨s, rfl, hs⟩, _, _, rfl, _, kids, rfl⟩ := o
  have kids' := kids
  obtain ⟨A, c, d, rfl, _⟩ := kids
  obtain ⟨l, r1, r2, r3, r4, _⟩ := RdS.nums kids'
  exact ⟨⟨k, m, n, p, q, s, ⟨A, c, d⟩, l⟩, rfl, r1, r2, Nat.le_trans r3 (Nat.le_trans r4 (by decide)), Nat.le_trans hs (by decide)⟩
theorem fun_of {h : Hp} {v : Value} (r : RdA h shFun v) : ∃ f : Fu, v = f.v ∧ FuR h f := by
  obtain ⟨l, rfl, _, _, rfl, _, ⟨nm, rfl, hnm⟩, _, _, rfl, _, ⟨pa, rfl, _⟩, _, _, rfl, _, ⟨rg, rfl, _⟩, _, _, rfl, _, sl, _, _, rfl, _, ⟨A, n, c, rfl, h1, h2, rows, r1, r2, r3⟩, rfl⟩ := r
  have sl' := sl
  obtain ⟨B, m, d, rfl, _⟩ := sl
  obtain ⟨ll, s1, s2, s3, s4, _⟩ := RdS.nums sl'
  obtain ⟨xs, e1, e2, e3⟩ := RdS.rows (cl := Ii.cells) (Q := IiR h) ins_of rows r3
  rw [e1] at r2
  exact ⟨⟨nm, pa, rg, ⟨B, m, d⟩, ll, ⟨A, n, c⟩, xs⟩, rfl, s1, s2, Nat.le_trans s3 (Nat.le_trans s4 (by decide)), Nat.le_trans hnm (by decide), r2, e2.trans r1, Nat.le_trans h1 (Nat.le_trans h2 (by decide)), e3⟩
end Go.Proofs.YtjggmhpjlnmigaaDoor
