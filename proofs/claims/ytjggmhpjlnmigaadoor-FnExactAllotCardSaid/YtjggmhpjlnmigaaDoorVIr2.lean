/- Functions of the code between: compared, marked. -/
import Derived.Test.YtjggmhpjlnmigaaDoorVIr
namespace Go.Proofs.YtjggmhpjlnmigaaDoor
open Go.RowKit
set_option maxRecDepth 20000
set_option linter.unusedSimpArgs false
set_option linter.unusedVariables false
theorem eqFun_c {h : Hp} {f g : Fu} (of : FuOk h f) (og : FuOk h g) (e : f.full = g.full) : HC Tryd.prog 11 [f.v, g.v] h fun v h' => v = .bool true ∧ Ext h h' := by
  unfold Fu.full at e
  simp only [Prod.mk.injEq] at e
  obtain ⟨e1, e2, e3, e4, e5⟩ := e
  refine hc_of Tryd.func11 (rfl : Tryd.f11.body = some _) Tryd.ntmps11 Tryd.results11 Tryd.call11 rfl ?_; have HS := Sep.nil h; conv => whnf
  repeat' ((first | ((with_reducible refine EvCall.mk (HC.mono (eqIntS_c (of.s.ext HS.to_ext) of.sn (og.s.ext HS.to_ext) og.sn of.sb og.sb) ?_)); (rintro _ _ ⟨rfl, rfl⟩)) | ((with_reducible refine EvCall.mk (HC.mono (eqInsS_c (of.c.ext HS.to_ext) (og.c.ext HS.to_ext) e5) ?_)); (rintro _ hN ⟨rfl, hX⟩); replace HS := HS.ext hX) | (with_reducible first | refine EvSeq.go ?_ | refine EvIf.tt ?_ | refine EvIf.ff ?_) | ((with_reducible refine EvIf.mk (fun c => ?_) (fun c => ?_)) <;> (try simp only [cs_] at c) <;> (try (exfalso; first | omega | (revert c; decide)))) | ((with_reducible refine EvNew.sep HS ?_); intro bN hN HS1 hX; replace HS := HS1; clear HS1) | ((with_reducible refine EvLd.q HS (by repeat first | exact .h | apply Spot.t) ?_); (conv => whnf); intro hC)) <;> conv => whnf)
  all_goals first
    | exact ⟨rfl, HS.to_ext⟩
    | (exfalso; simp_all; done)
theorem EvStr.rd {h : Hp} {A : Option Addr} {n : Nat} {l : List Int} {K : ByteArray → Prop} (r : Rd h A (ints .u8 l)) (hl : l.length = n) (k : K (bstr l)) : EvStr h A n K := by
  refine ⟨l, hl, fun j v hj => ?_, k⟩
  exact r j (.int .u8 v) (by simp [hj])
theorem bstr_size (l : List Int) : (bstr l).size = l.length := by
  show (Array.size _) = _
  simp
theorem markText_c {k : Int} (k0 : 0 ≤ k) (k1 : k ≤ 100000000000) (h : Hp) : HC Tryd.prog 69 [.int .i64 k] h fun v h' => ∃ s : ByteArray, v = .string s ∧ Ext h h' := by
  refine hc_of Tryd.func69 (rfl : Tryd.f69.body = some _) Tryd.ntmps69 Tryd.results69 Tryd.call69 rfl ?_; have HS := Sep.nil h; conv => whnf
  repeat' ((first | (with_reducible first | refine EvSeq.go ?_ | refine EvIf.tt ?_ | refine EvIf.ff ?_) | ((with_reducible refine EvIf.mk (fun c => ?_) (fun c => ?_)) <;> (try simp only [cs_] at c) <;> (try (exfalso; first | omega | (revert c; decide))))) <;> conv => whnf)
  · exact ⟨_, rfl, HS.to_ext⟩
  · refine EvLoop.keep ([0, 3, 6, 7, 8, 9, 10, 11, 12, 13, 14, 15, 16, 17], 4) (α := Int × ByteArray) (fun p => [(0, .int .i64 p.1), (3, .string p.2)]) (fun p h' => 0 ≤ p.1 ∧ p.2.size + p.1 ≤ 100000000000 ∧ Ext h h') (fun p => p.1.toNat) (k, ByteArray.empty) (by (repeat' (first | exact trivial | refine ⟨rfl, ?_⟩))) ⟨k0, by simpa using k1, Ext.refl _⟩ ?_
    clear HS
    rintro ⟨x, s⟩ h1 ⟨x0, x1, he⟩
    dsimp only at x0 x1
    have HS := Sep.nil h1
    conv => whnf
    repeat' ((first | ((with_reducible refine EvStr.rd (l := [_]) (Rd.of_blk (HS.pt_i 0 rfl)) rfl ?_)) | ((with_reducible refine EvLe.mk ?_ ?_); (have e0 : (bstr [IntKind.u8.wrap (IntKind.i64.wrap (48 + x.tmod 10))]).size = 1 := bstr_size _; show (bstr [IntKind.u8.wrap (IntKind.i64.wrap (48 + x.tmod 10))]).size + s.size ≤ _; omega)) | (with_reducible first | refine EvSeq.go ?_ | refine EvIf.tt ?_ | refine EvIf.ff ?_) | ((with_reducible refine EvIf.mk (fun c => ?_) (fun c => ?_)) <;> (try simp only [cs_] at c) <;> (try (exfalso; first | omega | (revert c; decide)))) | ((with_reducible refine EvNew.sep HS ?_); intro bN hN HS1 hX; replace HS := HS1; clear HS1) | ((with_reducible first | refine EvNe.mk ?_ ?_ | refine EvGe.mk ?_ ?_); (first | decide | omega))) <;> conv => whnf)
    · refine ⟨(IntKind.i64.wrap (x.tdiv 10), bstr [IntKind.u8.wrap (IntKind.i64.wrap (48 + x.tmod 10))] ++ s), (by (repeat' (first | exact trivial | refine ⟨rfl, ?_⟩))), ?_, ?_⟩
      · have e0 : (bstr [IntKind.u8.wrap (IntKind.i64.wrap (48 + x.tmod 10))]).size = 1 := bstr_size _
        dsimp only
        rw [ByteArray.size_append, e0, tdiv_pos x0, i64w _ (by omega) (by omega)]
        exact ⟨by omega, by omega, he.trans HS.to_ext⟩
      · dsimp only
        rw [tdiv_pos x0, i64w _ (by omega) (by omega)]
        omega
    · exact ⟨_, rfl, he⟩
theorem sepL_unfront : ∀ {L : List Asn} {h : Hp} {S : Foot} {i : Nat} {X : Asn}, sepL (X :: L.eraseIdx i) h S → i < L.length → sepL (L.set i X) h S
  | B :: L, h, S, 0, X, r, _ => r
  | B :: L, h, S, i + 1, X, r, hi => by
    obtain ⟨S1, S2, a, r, d, s1, s2⟩ := sepL_swap r
    exact ⟨S1, S2, a, sepL_unfront r (by simpa using hi), d, s1, s2⟩
/-- the piece at the front put back to its place -/
theorem Sep.unfront {h0 h : Hp} {L : List Asn} {i : Nat} {X : Asn} (s : Sep h0 h (X :: L.eraseIdx i)) (hi : i < L.length) : Sep h0 h (L.set i X) := by
  obtain ⟨e, S, hS, r⟩ := s
  exact ⟨e, S, hS, sepL_unfront r hi⟩
theorem set_self {L : List Asn} {i : Nat} {X : Asn} (hi : L[i]? = some X) : L.set i X = L := by
  obtain ⟨h1, h2⟩ := List.getElem?_eq_some_iff.mp hi
  rw [← h2]
  exact List.set_getElem_self h1
/-- the row of a step, whatever it holds -/
def Ii.Any (x : Ii) : Asn := ⟨fun h S => ∃ l : List Int, (Sl 3 x.h.a x.h.n x.h.c (ints .i64 l)).at_ h S, fun ⟨l, a⟩ e => ⟨l, Asn.loc _ a e⟩⟩
theorem sepL_any : ∀ {xs : List Ii} {L : List Asn} {h : Hp} {S : Foot}, sepL (xs.map Ii.P ++ L) h S → sepL (xs.map Ii.Any ++ L) h S
  | [], _, _, _, r => r
  | _ :: xs, L, h, S, ⟨S1, S2, a, r, d, s1, s2⟩ => ⟨S1, S2, ⟨_, a⟩, sepL_any r, d, s1, s2⟩
theorem markAny_c {h0 h : Hp} {L : List Asn} {i : Nat} {x : Ii} {a : Int} (HS : Sep h0 h L) (hi : L[i]? = some x.Any) (hn : x.h.n ≤ 1000000000) (a0 : 0 ≤ a) (a1 : a ≤ 1000000000000) : HC Tryd.prog 37 [.slice x.h.a x.h.n x.h.c, .int .i64 a] h fun v h' => v = .int .i64 (a + x.h.n) ∧ Sep h0 h' L := by
  have hlt := (List.getElem?_eq_some_iff.mp hi).1
  obtain ⟨e, S, hS, S1, S2, ⟨l, q⟩, r, d, s1, s2⟩ := HS.front i hi
  refine (markIntS_c (l := l) (L := L.eraseIdx i) ⟨e, S, hS, S1, S2, q, r, d, s1, s2⟩ hn a0 a1).mono fun v h' ⟨ev, t⟩ => ⟨ev, ?_⟩
  have t2 : Sep h0 h' (x.Any :: L.eraseIdx i) := t.weaken fun S a => ⟨_, a⟩
  have t3 := t2.unfront hlt
  rwa [set_self hi] at t3
def wt : List Ii → Nat
  | [] => 0
  | x :: r => x.h.n + 6 + wt r
theorem wt_step : ∀ {xs : List Ii} {k : Nat} {x : Ii}, xs[k]? = some x → wt (xs.take (k + 1)) = wt (xs.take k) + (x.h.n + 6)
  | y :: xs, 0, x, h => by
    cases h
    simp [wt]
  | y :: xs, k + 1, x, h => by
    have := wt_step (xs := xs) (k := k) (by simpa using h)
    simp only [List.take_succ_cons, wt, this]
    omega
theorem wt_le : ∀ (xs : List Ii) (k : Nat), wt (xs.take k) ≤ wt xs
  | [], k => by simp
  | y :: xs, 0 => by simp [wt]
  | y :: xs, k + 1 => by
    have := wt_le xs k
    simp only [List.take_succ_cons, wt]
    omega
theorem ovr_len {l : List Value} {o : Nat} {vs : List Value} (h : o + vs.length ≤ l.length) : (ovr l o vs).length = l.length := by
  unfold ovr
  simp
  omega
theorem ovr_ne {l : List Value} {o j : Nat} {v : Value} (h : o < l.length) (hj : j ≠ o) : (ovr l o [v])[j]? = l[j]? := by
  have e : ovr l o [v] = l.set o v := by
    unfold ovr
    rw [List.set_eq_take_append_cons_drop, if_pos h]
    simp
  rw [e, List.getElem?_set, if_neg (fun e => hj e.symm)]
/-- the heads of the steps' rows stand -/
def Hx (xs : List Ii) (cs : List Value) : Prop := cs.length = xs.length * 7 ∧ ∀ (i : Nat) (x : Ii), xs[i]? = some x → cs[i * 7 + 6]? = some (.slice x.h.a x.h.n x.h.c)
theorem Hx.start (xs : List Ii) : Hx xs (xs.flatMap Ii.cells) := by
  refine ⟨rec_len Ii.len xs, fun i x hx => ?_⟩
  obtain ⟨h1, h2⟩ := List.getElem?_eq_some_iff.mp hx
  refine rec_get Ii.len xs i 6 h1 _ ?_
  rw [h2]
  rfl
theorem Hx.ov {xs : List Ii} {cs : List Value} {i o : Nat} {v : Value} (h : Hx xs cs) (hi : i < xs.length) (o0 : i * 7 ≤ o) (o1 : o < i * 7 + 6) : Hx xs (ovr cs o [v]) := by
  have hl := h.1
  refine ⟨by rw [ovr_len (by show _ + 1 ≤ _; omega), hl], fun j x hx => ?_⟩
  rw [ovr_ne (by omega) (by omega)]
  exact h.2 j x hx
theorem EvSt.hx {h0 h : Hp} {L : List Asn} {b o : Nat} {cs : List Value} {v : Value} {T : TypeId} {xs : List Ii} {K : Hp → Prop} (i : Nat) (s : Sep h0 h (Bx b cs T :: L)) (hX : Hx xs cs) (hi : i < xs.length) (o0 : i * 7 ≤ o) (o1 : o < i * 7 + 6)
    (k : ∀ h' cs', Hx xs cs' → Sep h0 h' (Bx b cs' T :: L) → K h') : EvSt h b o [v] K :=
  EvSt.ov s .h (by have := hX.1; show _ + 1 ≤ _; omega) fun h' t _ => k h' _ (hX.ov hi o0 o1) t
theorem EvLd.hx {h0 h : Hp} {L : List Asn} {b o : Nat} {cs : List Value} {T : TypeId} {xs : List Ii} {x : Ii} {K : Value → Prop} (i : Nat) (s : Sep h0 h (Bx b cs T :: L)) (hX : Hx xs cs) (hi : xs[i]? = some x) (ho : o = i * 7 + 6)
    (k : K (.slice x.h.a x.h.n x.h.c)) : EvLd h b o K := by
  subst ho
  refine EvLd.blk (s.pt_i 0 rfl) ?_ k
  simpa using hX.2 i x hi
set_option maxHeartbeats 2000000 in
theorem markInsS_c {h0 h : Hp} {L : List Asn} {b n c : Nat} {xs : List Ii} {a : Int} (HS : Sep h0 h (Bx b (xs.flatMap Ii.cells) 67 :: (xs.reverse.map Ii.Any ++ L))) (hl : xs.length = n) (hw : wt xs ≤ 1000000000) (a0 : 0 ≤ a) (a1 : a ≤ 1000000000) (hx : ∀ y ∈ xs, y.h.n ≤ 1000000000) :
    HC Tryd.prog 38 [.slice (some ⟨b, 0, none⟩) n c, .int .i64 a] h fun v h' => v = .int .i64 (a + wt xs) ∧ ∃ cs, Sep h0 h' (Bx b cs 67 :: (xs.reverse.map Ii.Any ++ L)) := by
  have hX := Hx.start xs
  have hle : n ≤ 1000000000 := by
    have : xs.length ≤ wt xs := by
      clear hX HS hw hx hl
      induction xs with
      | nil => simp
      | cons x xs ih => simp only [wt, List.length_cons]; omega
    omega
  refine hc_of Tryd.func38 (rfl : Tryd.f38.body = some _) Tryd.ntmps38 Tryd.results38 Tryd.call38 rfl ?_; conv => whnf
  repeat' ((with_reducible first | refine EvSeq.go ?_ | refine EvIf.tt ?_ | refine EvIf.ff ?_) <;> conv => whnf)
  refine EvLoop.keep ([1, 5, 6, 7, 8, 9, 10, 11, 12, 13, 14, 15, 16, 17, 18, 19, 20, 21, 22, 23, 24, 25, 26, 27, 28, 29, 30, 31, 32, 33, 34, 35, 36, 37, 38, 39, 40, 41, 42, 43, 44, 45, 46, 47, 48, 49, 50, 51, 52, 53, 54, 55, 56, 57, 58, 59, 60, 61], 6) (α := Nat) (fun k => [(5, .int .i64 k), (1, .int .i64 (a + wt (xs.take k)))]) (fun k h' => k ≤ n ∧ ∃ cs, Hx xs cs ∧ Sep h0 h' (Bx b cs 67 :: (xs.reverse.map Ii.Any ++ L))) (fun k => n - k) 0 ⟨rfl, congrArg (fun z => some (Value.int .i64 z)) (by simp [wt]), trivial⟩ ⟨Nat.zero_le _, _, hX, HS⟩ ?_
  clear HS hX
  rintro k h1 ⟨hk, cs, hX, HS⟩
  have hwk := wt_le xs k
  have hcl := hX.1
  conv => whnf
  obtain hlt | hge := Nat.lt_or_ge k n
  · obtain ⟨x, hxk⟩ : ∃ x, xs[k]? = some x := ⟨_, List.getElem?_eq_getElem (by omega)⟩
    have hw1 := wt_step hxk
    have hw2 := wt_le xs (k + 1)
    have hxn := hx x (List.mem_of_getElem? hxk)
    have hix : ∀ cs, (Bx b cs 67 :: (xs.reverse.map Ii.Any ++ L))[n - 1 - k + 1]? = some x.Any := by
      intro cs
      rw [List.getElem?_cons_succ, List.getElem?_append_left (by simp; omega), List.getElem?_map, List.getElem?_reverse (by omega)]
      have e : xs.length - 1 - (n - 1 - k) = k := by omega
      rw [e, hxk]
      rfl
    repeat' ((first | ((with_reducible refine EvSt.hx k HS hX (by omega) (by omega) (by omega) ?_); intro hN cN hX1 HS1; replace HS := HS1; clear HS1; replace hX := hX1; clear hX1) | ((with_reducible refine EvLd.hx k HS hX hxk (by omega) ?_)) | ((with_reducible refine EvCall.mk (HC.mono (markText_c (by simp (disch := omega) only [i64w]; omega) (by simp (disch := omega) only [i64w]; omega) _) ?_)); rintro _ hN ⟨sN, rfl, hE⟩; replace HS := HS.ext hE) | (with_reducible first | refine EvSeq.go ?_ | refine EvIf.tt ?_ | refine EvIf.ff ?_) | ((with_reducible refine EvIf.mk (fun c => ?_) (fun c => ?_)) <;> (try simp only [cs_] at c) <;> (try (exfalso; first | omega | (revert c; decide)))) | ((with_reducible refine EvIdx.lit ?_ ?_ ?_); (first | omega | decide); (first | omega | decide))) <;> conv => whnf)
    refine EvCall.mk ((markAny_c HS (hix _) hxn (by simp (disch := omega) only [i64w]; omega) (by simp (disch := omega) only [i64w]; omega)).mono ?_)
    rintro _ hN ⟨rfl, HS1⟩
    replace HS := HS1
    clear HS1
    conv => whnf
    repeat' (fail <;> conv => whnf)
    refine ⟨k + 1, ⟨congrArg (fun z => some (Value.int .i64 z)) ((i64w _ (by omega) (by omega)).trans (by omega)), congrArg (fun z => some (Value.int .i64 z)) ?_, (by (repeat' (first | exact trivial | refine ⟨rfl, ?_⟩)))⟩, ⟨by omega, _, hX, HS⟩, by omega⟩
    simp (disch := omega) only [i64w]
    omega
  · repeat' ((first | (with_reducible first | refine EvSeq.go ?_ | refine EvIf.tt ?_ | refine EvIf.ff ?_) | ((with_reducible refine EvIf.mk (fun c => ?_) (fun c => ?_)) <;> (try simp only [cs_] at c) <;> (try (exfalso; first | omega | (revert c; decide))))) <;> conv => whnf)
    obtain rfl : k = n := by omega
    rw [List.take_of_length_le (by omega)]
    exact ⟨rfl, _, HS⟩
theorem Sep.any {h0 h : Hp} {X : Asn} {xs : List Ii} {L : List Asn} (s : Sep h0 h (X :: (xs.map Ii.P ++ L))) : Sep h0 h (X :: (xs.map Ii.Any ++ L)) := by
  obtain ⟨e, S, hS, S1, S2, a, r, d, s1, s2⟩ := s
  exact ⟨e, S, hS, S1, S2, a, sepL_any r, d, s1, s2⟩
theorem markFun_c {h0 h : Hp} {L : List Asn} {b : Nat} {g : Fu} {a : Int} (HS : Sep h0 h (FuP b g :: L)) (hc : g.ch = ⟨some ⟨b, 0, none⟩, g.cl.length, g.cl.length⟩) (hw : wt g.cl ≤ 1000000000) (hs : g.sh.n ≤ 100000000) (a0 : 0 ≤ a) (a1 : a ≤ 100000000) (hx : ∀ y ∈ g.cl, y.h.n ≤ 1000000000) :
    HC Tryd.prog 12 [g.v, .int .i64 a] h fun v h' => v = .int .i64 (a + g.sh.n + wt g.cl) ∧ Sep h0 h' L := by
  replace HS : Sep h0 h (IsP b g.cl :: Sl 3 g.sh.a g.sh.n g.sh.c (ints .i64 g.sl) :: L) := HS.unfold
  obtain ⟨nm, pa, rg, sh, sl, ch, cl⟩ := g
  dsimp only at hc hw hs hx HS ⊢
  subst hc
  refine hc_of Tryd.func12 (rfl : Tryd.f12.body = some _) Tryd.ntmps12 Tryd.results12 Tryd.call12 rfl ?_; conv => whnf
  repeat' ((first | ((with_reducible refine EvNew.sep HS ?_); intro bN hN HS1 hX; replace HS := HS1; clear HS1) | ((with_reducible refine EvLd.q HS (by repeat first | exact .h | apply Spot.t) ?_); (conv => whnf); intro hC)) <;> conv => whnf)
  refine EvCall.mk ((markIntS_c (HS.front 2 rfl) (by omega) (by omega) (by omega)).mono ?_)
  rintro _ hN ⟨rfl, HS1⟩
  replace HS := HS1
  clear HS1
  dsimp only [List.eraseIdx] at HS
  conv => whnf
  repeat' (((with_reducible refine EvLd.q HS (by repeat first | exact .h | apply Spot.t) ?_); (conv => whnf); intro hC) <;> conv => whnf)
  have HT : Sep h0 hN (Bx b (cl.flatMap Ii.cells) 67 :: (cl.reverse.map Ii.P ++ _)) := (HS.front 2 rfl).unfold
  refine EvCall.mk ((markInsS_c HT.any rfl hw (by omega) (by omega) hx).mono ?_)
  rintro _ hN ⟨rfl, cs, HS1⟩
  have HS2 := (Sep.fold (_ :: cl.reverse.map Ii.Any) HS1).tail
  replace HS := HS2
  clear HS1 HS2 HT
  dsimp only [List.eraseIdx] at HS
  conv => whnf
  repeat' (fail <;> conv => whnf)
  exact ⟨rfl, HS.tail.tail⟩
end Go.Proofs.YtjggmhpjlnmigaaDoor
