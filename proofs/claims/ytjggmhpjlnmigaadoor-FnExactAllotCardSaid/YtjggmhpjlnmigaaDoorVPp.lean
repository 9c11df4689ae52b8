/- Places: rows of records that are owned; compared, marked, held. -/
import Derived.Test.YtjggmhpjlnmigaaDoorVSp
namespace Go.Proofs.YtjggmhpjlnmigaaDoor
open Go.RowKit
set_option maxRecDepth 20000
set_option linter.unusedSimpArgs false
set_option linter.unusedVariables false
structure Pl where
  rg : Int
  sp : Int
def Pl.cells (s : Pl) : List Value := [.int .i64 s.rg, .int .i64 s.sp]
theorem Pl.len (s : Pl) : s.cells.length = 2 := rfl
def PlP (A : Option Addr) (n c : Nat) (xs : List Pl) : Asn := Sz 73 2 A n c (xs.flatMap Pl.cells)
theorem flat_setP {xs : List Pl} {j : Nat} {x y : Pl} (hx : xs[j]? = some x) {pre rest vs : List Value} {f : Nat} (hf : f + vs.length ≤ 2) (hy : y.cells = ovr x.cells f vs) :
    ovr (pre ++ (xs.flatMap Pl.cells ++ rest)) (pre.length + j * 2 + f) vs = pre ++ ((xs.set j y).flatMap Pl.cells ++ rest) := by
  obtain ⟨hlt, he⟩ := List.getElem?_eq_some_iff.mp hx
  have e1 : xs = xs.take j ++ x :: xs.drop (j + 1) := by rw [← he, List.getElem_cons_drop, List.take_append_drop]
  have e2 : xs.set j y = xs.take j ++ y :: xs.drop (j + 1) := List.set_eq_take_append_cons_drop .. |>.trans (if_pos hlt)
  have hP : (pre ++ (xs.take j).flatMap Pl.cells).length = pre.length + j * 2 := by rw [List.length_append, rec_len Pl.len, List.length_take]; omega
  rw [e2]
  conv => lhs; rw [e1]
  simp only [List.flatMap_append, List.flatMap_cons, List.append_assoc]
  rw [← List.append_assoc pre, ← hP, ovr_in (by show f + vs.length ≤ 2; exact hf), hy, List.append_assoc]
theorem Sep.ppl {h0 h : Hp} {L : List Asn} (s : Sep h0 h L) (i : Nat) {A : Option Addr} {n c : Nat} {xs : List Pl} (hi : L[i]? = some (PlP A n c xs)) : xs.length = n ∧ n ≤ c := by
  have := s.lenz i hi
  rw [rec_len Pl.len] at this
  exact ⟨by omega, this.2⟩
theorem Sep.ppr {h0 h : Hp} {L : List Asn} (s : Sep h0 h L) (i : Nat) {A : Option Addr} {n c : Nat} {xs : List Pl} (hi : L[i]? = some (PlP A n c xs)) : Rd h A (xs.flatMap Pl.cells) := s.rdz i hi
/-- a store into an element -/
theorem EvSt.pp {h0 h : Hp} {L : List Asn} {A : Option Addr} {n c b o p j : Nat} {xs : List Pl} {x : Pl} {vs : List Value} {K : Hp → Prop} (s : Sep h0 h L) (i : Nat) (hi : L[i]? = some (PlP A n c xs)) (e : A = some ⟨b, o, none⟩) (hx : xs[j]? = some x)
    (y : Pl) (f : Nat) (hp : p = o + j * 2 + f) (hf : f + vs.length ≤ 2) (hy : y.cells = ovr x.cells f vs) (k : ∀ h', Sep h0 h' (L.set i (PlP A n c (xs.set j y))) → K h') : EvSt h b p vs K := by
  subst hp
  have hl := (s.ppl i hi).1
  have hj := (List.getElem?_eq_some_iff.mp hx).1
  have s1 := s.front i hi
  have back : ∀ h', Sep h0 h' (PlP A n c (xs.set j y) :: L.eraseIdx i) → K h' := fun h' q => k h' (q.unfront (List.getElem?_eq_some_iff.mp hi).1)
  obtain ⟨S, a, _⟩ := s1.get (List.mem_cons_self)
  obtain ⟨h1, h2, h3⟩ := a
  rcases h3 with h3 | ⟨b', pre, rest, e', hS, hb, hc⟩
  · omega
  rw [e] at e'
  cases e'
  have hfl := rec_len Pl.len xs
  refine ⟨_, _, hb, by rw [List.size_toArray, List.length_append, List.length_append, hfl]; omega, fun h' u => back h' ?_⟩
  rw [show (pre ++ (xs.flatMap Pl.cells ++ rest)).toArray.toList = pre ++ (xs.flatMap Pl.cells ++ rest) from rfl, flat_setP hx hf hy] at u
  have hnb : ∀ S', (PlP (some ⟨b, pre.length, none⟩) n c xs).at_ h S' → S' b := by
    rintro S' ⟨_, _, h4 | ⟨b'', pre'', rest'', e'', hS'', _⟩⟩
    · omega
    · simp only [Option.some.injEq, Addr.mk.injEq] at e''; exact e''.1 ▸ hS''
  subst e
  have hfl2 := rec_len Pl.len (xs.set j y)
  rw [List.length_set] at hfl2
  refine s1.turn (fun S' a' => ⟨S', ⟨by omega, h2, .inr ⟨b, pre, rest, rfl, hnb S' a', u.at_, by omega⟩⟩, fun _ hb => .inl hb, fun k _ hk => u.else_ k (fun e => hk (e ▸ hnb S' a'))⟩) (by rw [u.size]; exact Nat.le_refl _)
/-- a span more -/
theorem EvApp.pp {P : Program} {h0 h : Hp} {L : List Asn} {bytes n c cx : Nat} {base A : Option Addr} {xs : List Pl} {x : Pl} {K : Value → Hp → Prop} (s : Sep h0 h L) (i : Nat) (hi : L[i]? = some (PlP base n c xs)) (r : Rd h A x.cells) (hb : (n + 1) * bytes ≤ 140737488355328) (hn : n + 1 ≤ 1000000000)
    (k : ∀ A' c' h' zs, xs ++ [x] = zs → Sep h0 h' (PlP A' (n + 1) c' zs :: L.eraseIdx i) → K (.slice A' (n + 1) c') h') : EvApp P 73 2 bytes base n c (.slice A 1 cx) h K := by
  refine EvApp.sz (m := 1) (s.front i hi) r rfl (fun v hv => ?_) hb hn (fun A' c' h' q => k A' c' h' _ rfl ?_)
  · simp only [Pl.cells, List.mem_cons, List.not_mem_nil, or_false] at hv
    rcases hv with rfl | rfl <;> rfl
  · unfold PlP
    rw [List.flatMap_append]
    simpa using q
theorem Sep.pp0 {h0 h : Hp} {L : List Asn} (s : Sep h0 h L) (A : Option Addr) : Sep h0 h (PlP A 0 0 [] :: L) := s.trivz _ 2 A
theorem eqPl_c {h : Hp} (x : Pl) : HC Tryd.prog 51 [.agg x.cells.toArray, .agg x.cells.toArray] h fun v h' => v = .bool true ∧ Ext h h' := by
  obtain ⟨fr, to⟩ := x
  refine hc_of Tryd.func51 (rfl : Tryd.f51.body = some _) Tryd.ntmps51 Tryd.results51 Tryd.call51 rfl ?_; have HS := Sep.nil h; conv => whnf
  repeat' ((first | (with_reducible first | refine EvSeq.go ?_ | refine EvIf.tt ?_ | refine EvIf.ff ?_) | ((with_reducible refine EvIf.mk (fun c => ?_) (fun c => ?_)) <;> (try simp only [cs_] at c) <;> (try (exfalso; first | omega | (revert c; decide)))) | ((with_reducible refine EvNew.sep HS ?_); intro bN hN HS1 hX; replace HS := HS1; clear HS1) | ((with_reducible refine EvLd.q HS (by repeat first | exact .h | apply Spot.t) ?_); (conv => whnf); intro hC)) <;> conv => whnf)
  all_goals exact ⟨rfl, HS.to_ext⟩
theorem eqPls_c {h : Hp} {A B : Option Addr} {n ca cb : Nat} {xs : List Pl} (ra : Rd h A (xs.flatMap Pl.cells)) (rb : Rd h B (xs.flatMap Pl.cells)) (hl : xs.length = n) (hn : n ≤ 1000000000) :
    HC Tryd.prog 22 [.slice A n ca, .slice B n cb] h fun v h' => v = .bool true ∧ Ext h h' := by
  refine hc_of Tryd.func22 (rfl : Tryd.f22.body = some _) Tryd.ntmps22 Tryd.results22 Tryd.call22 rfl ?_; have HS := Sep.nil h; conv => whnf
  repeat' ((first | (with_reducible first | refine EvSeq.go ?_ | refine EvIf.tt ?_ | refine EvIf.ff ?_) | ((with_reducible refine EvIf.mk (fun c => ?_) (fun c => ?_)) <;> (try simp only [cs_] at c) <;> (try (exfalso; first | omega | (revert c; decide))))) <;> conv => whnf)
  refine EvLoop.keep ([4, 5, 11, 12, 13, 14, 15, 16, 17, 18, 19, 20, 21, 22, 23, 24, 25, 26], 6) (α := Nat) (fun k => [(5, .int .i64 k)]) (fun k h' => k ≤ n ∧ Sep h h' []) (fun k => n - k) 0 (by (repeat' (first | exact trivial | refine ⟨rfl, ?_⟩))) ⟨Nat.zero_le _, HS⟩ ?_
  clear HS
  rintro k h1 ⟨hk, HS⟩
  conv => whnf
  obtain hlt | hge := Nat.lt_or_ge k n
  · obtain ⟨x, hxk⟩ : ∃ x, xs[k]? = some x := ⟨_, List.getElem?_eq_getElem (by omega)⟩
    repeat' ((first | ((with_reducible refine EvDraw.ord (id := 6) (.go 0 (.go 1 (.go 2 (.go 3 (.go 4 (.go 5 (.go 6 (.go 7 (.alt 8 (.go 9 .done) .stop))))))))) fol ?_ ?_ ?_); kernel_rfl; kernel_rfl) | ((with_reducible refine EvIdx.el Pl.len (by decide) (ra.ext HS.to_ext) hl (by omega) (by omega) ?_); intro bI oI z eI hz hI; have hzx : x = z := Option.some.inj (hxk.symm.trans hz); subst hzx) | ((with_reducible refine EvIdx.el Pl.len (by decide) (rb.ext HS.to_ext) hl (by omega) (by omega) ?_); intro bI oI z eI hz hI; have hzx : x = z := Option.some.inj (hxk.symm.trans hz); subst hzx) | ((with_reducible refine EvLdN.el (by assumption) (Pl.len _) ?_)) | ((with_reducible refine EvCall.fn 51 ?_); (refine HC.mono (eqPl_c x) ?_); rintro _ hN ⟨rfl, hX⟩; replace HS := HS.ext hX) | (with_reducible first | refine EvSeq.go ?_ | refine EvIf.tt ?_ | refine EvIf.ff ?_) | ((with_reducible refine EvIf.mk (fun c => ?_) (fun c => ?_)) <;> (try simp only [cs_] at c) <;> (try (exfalso; first | omega | (revert c; decide))))) <;> conv => whnf)
    exact ⟨k + 1, ⟨congrArg (fun z => some (Value.int .i64 z)) ((i64w _ (by omega) (by omega)).trans (by omega)), (by (repeat' (first | exact trivial | refine ⟨rfl, ?_⟩)))⟩, ⟨by omega, HS⟩, by omega⟩
  · repeat' ((first | (with_reducible first | refine EvSeq.go ?_ | refine EvIf.tt ?_ | refine EvIf.ff ?_) | ((with_reducible refine EvIf.mk (fun c => ?_) (fun c => ?_)) <;> (try simp only [cs_] at c) <;> (try (exfalso; first | omega | (revert c; decide))))) <;> conv => whnf)
    exact ⟨rfl, HS.to_ext⟩
/-- what the mark of place i leaves -/
def plm (a : Int) (i : Nat) : Pl := ⟨a + 2 * i, a + 2 * i + 1⟩
def plms (a : Int) (n : Nat) : List Pl := (List.range n).map (plm a)
theorem plms_len (a : Int) (n : Nat) : (plms a n).length = n := by simp [plms]
theorem plms_at {a : Int} {n i : Nat} (h : i < n) : (plms a n)[i]? = some (plm a i) := by simp [plms, h]
theorem plms_set {a : Int} {k : Nat} {xs : List Pl} (hk : k < xs.length) : (plms a k ++ xs.drop k).set k (plm a k) = plms a (k + 1) ++ xs.drop (k + 1) := by
  rw [List.set_append_right _ _ (by rw [plms_len]; exact Nat.le_refl _), plms_len, Nat.sub_self, List.drop_eq_getElem_cons hk, List.set_cons_zero]
  unfold plms
  rw [List.range_succ, List.map_append, List.append_assoc]
  rfl
theorem markPls_c {h0 h : Hp} {L : List Asn} {A : Option Addr} {n ca : Nat} {xs : List Pl} {a : Int} (HS : Sep h0 h (PlP A n ca xs :: L)) (hn : n ≤ 1000000) (a0 : 0 ≤ a) (a1 : a ≤ 1000000000) :
    HC Tryd.prog 23 [.slice A n ca, .int .i64 a] h fun v h' => v = .int .i64 (a + 2 * n) ∧ Sep h0 h' (PlP A n ca (plms a n) :: L) := by
  have hxl := (HS.ppl 0 rfl).1
  refine hc_of Tryd.func23 (rfl : Tryd.f23.body = some _) Tryd.ntmps23 Tryd.results23 Tryd.call23 rfl ?_; conv => whnf
  repeat' ((with_reducible first | refine EvSeq.go ?_ | refine EvIf.tt ?_ | refine EvIf.ff ?_) <;> conv => whnf)
  refine EvLoop.keep ([1, 5, 6, 7, 8, 9, 10, 11, 12, 13, 14, 15, 16, 17, 18, 19, 20, 21, 22, 23, 24, 25], 6) (α := Nat) (fun k => [(5, .int .i64 k), (1, .int .i64 (a + 2 * k))]) (fun k h' => k ≤ n ∧ Sep h0 h' (PlP A n ca (plms a k ++ xs.drop k) :: L)) (fun k => n - k) 0 ⟨rfl, congrArg (fun z => some (Value.int .i64 z)) (by simp), trivial⟩ ⟨Nat.zero_le _, HS⟩ ?_
  clear HS
  rintro k h1 ⟨hk, HS⟩
  conv => whnf
  obtain hlt | hge := Nat.lt_or_ge k n
  · obtain ⟨x, hxk⟩ : ∃ x, (plms a k ++ xs.drop k)[k]? = some x := ⟨_, List.getElem?_eq_getElem (by rw [List.length_append, plms_len, List.length_drop]; omega)⟩
    repeat' ((first | ((with_reducible refine EvIdx.el Pl.len (by decide) (HS.ppr 0 rfl) (HS.ppl 0 rfl).1 (by omega) (by omega) ?_); intro bI oI z eI hz hI) | (with_reducible first | refine EvSeq.go ?_ | refine EvIf.tt ?_ | refine EvIf.ff ?_) | ((with_reducible refine EvIf.mk (fun c => ?_) (fun c => ?_)) <;> (try simp only [cs_] at c) <;> (try (exfalso; first | omega | (revert c; decide))))) <;> conv => whnf)
    refine EvSt.pp HS 0 rfl eI hxk ⟨a + 2 * k, x.sp⟩ 0 (by first | rfl | (rw [Int.toNat_natCast]; rfl)) (by simp) rfl ?_
    intro h2 HS2
    clear HS
    have HS := HS2
    clear HS2
    dsimp only [List.set] at HS
    conv => whnf
    repeat' (((with_reducible refine EvIdx.el Pl.len (by decide) (HS.ppr 0 rfl) (HS.ppl 0 rfl).1 (by omega) (by omega) ?_); intro bI oI z eI hz hI) <;> conv => whnf)
    have hx1 : ((plms a k ++ xs.drop k).set k ⟨a + 2 * k, x.sp⟩)[k]? = some ⟨a + 2 * k, x.sp⟩ := List.getElem?_set_self (List.getElem?_eq_some_iff.mp hxk).1
    have e1 : IntKind.i64.wrap (a + 2 * (k : Int) + 1) = a + 2 * k + 1 := i64w _ (by omega) (by omega)
    rw [e1]
    refine EvSt.pp HS 0 rfl eI hx1 (plm a k) 1 (by first | rfl | (rw [Int.toNat_natCast]; rfl)) (by simp) rfl ?_
    intro h2 HS2
    clear HS
    have HS := HS2
    clear HS2
    dsimp only [List.set] at HS
    rw [List.set_set, plms_set (by omega)] at HS
    conv => whnf
    repeat' (fail <;> conv => whnf)
    refine ⟨k + 1, ⟨congrArg (fun z => some (Value.int .i64 z)) ((i64w _ (by omega) (by omega)).trans (by omega)), congrArg (fun z => some (Value.int .i64 z)) ?_, (by (repeat' (first | exact trivial | refine ⟨rfl, ?_⟩)))⟩, ⟨by omega, HS⟩, by omega⟩
    simp (disch := omega) only [i64w]
    omega
  · repeat' ((first | (with_reducible first | refine EvSeq.go ?_ | refine EvIf.tt ?_ | refine EvIf.ff ?_) | ((with_reducible refine EvIf.mk (fun c => ?_) (fun c => ?_)) <;> (try simp only [cs_] at c) <;> (try (exfalso; first | omega | (revert c; decide))))) <;> conv => whnf)
    obtain rfl : k = n := by omega
    rw [List.drop_eq_nil_of_le (by omega), List.append_nil] at HS
    exact ⟨rfl, HS⟩
theorem heldPls_c {h : Hp} {A : Option Addr} {n c : Nat} {a : Int} (r : Rd h A ((plms a n).flatMap Pl.cells)) (hn : n ≤ 1000000) (a0 : 0 ≤ a) (a1 : a ≤ 1000000000) :
    HC Tryd.prog 24 [.slice A n c, .int .i64 a] h fun v h' => v = .int .i64 (a + 2 * n) ∧ h' = h := by
  refine hc_of Tryd.func24 (rfl : Tryd.f24.body = some _) Tryd.ntmps24 Tryd.results24 Tryd.call24 rfl ?_; have HS := Sep.nil h; conv => whnf
  repeat' ((with_reducible first | refine EvSeq.go ?_ | refine EvIf.tt ?_ | refine EvIf.ff ?_) <;> conv => whnf)
  refine EvLoop.keep ([1, 4, 5, 6, 7, 8, 9, 10, 11, 12, 13, 14, 15, 16, 17, 18, 19, 20, 21, 22, 23, 24, 25, 26, 27, 28, 29], 6) (α := Nat) (fun k => [(5, .int .i64 k), (1, .int .i64 (a + 2 * k))]) (fun k h' => h' = h ∧ k ≤ n) (fun k => n - k) 0 ⟨rfl, congrArg (fun z => some (Value.int .i64 z)) (by simp), trivial⟩ ⟨rfl, Nat.zero_le _⟩ ?_
  rintro k _ ⟨rfl, hk⟩
  conv => whnf
  obtain hlt | hge := Nat.lt_or_ge k n
  · have hxk := plms_at (a := a) hlt
    have e1 : IntKind.i64.wrap (a + 2 * (k : Int) + 1) = a + 2 * k + 1 := i64w _ (by omega) (by omega)
    repeat' ((first | ((with_reducible refine EvIdx.el Pl.len (by decide) r (plms_len a n) (by omega) (by omega) ?_); intro bI oI z eI hz hI; have hzx : plm a k = z := Option.some.inj (hxk.symm.trans hz); subst hzx) | ((with_reducible refine EvLd.el0 hI rfl ?_)) | ((with_reducible refine EvLd.el 1 hI rfl ?_)) | (with_reducible first | refine EvSeq.go ?_ | refine EvIf.tt ?_ | refine EvIf.ff ?_) | ((with_reducible refine EvIf.mk (fun c => ?_) (fun c => ?_)) <;> (try simp only [cs_] at c) <;> (try (exfalso; first | omega | (revert c; decide))))) <;> conv => whnf)
    · exact absurd rfl c
    · exact absurd e1.symm c
    · refine ⟨k + 1, ⟨congrArg (fun z => some (Value.int .i64 z)) ((i64w _ (by omega) (by omega)).trans (by omega)), congrArg (fun z => some (Value.int .i64 z)) ?_, (by (repeat' (first | exact trivial | refine ⟨rfl, ?_⟩)))⟩, ⟨rfl, by omega⟩, by omega⟩
      simp (disch := omega) only [i64w]
      omega
  · repeat' ((first | (with_reducible first | refine EvSeq.go ?_ | refine EvIf.tt ?_ | refine EvIf.ff ?_) | ((with_reducible refine EvIf.mk (fun c => ?_) (fun c => ?_)) <;> (try simp only [cs_] at c) <;> (try (exfalso; first | omega | (revert c; decide))))) <;> conv => whnf)
    obtain rfl : k = n := by omega
    exact ⟨rfl, rfl⟩
end Go.Proofs.YtjggmhpjlnmigaaDoor
