/- Rows (slices) of a call's own, and the laws' small functions over rows. -/
import Derived.Test.YtjggmhpjlnmigaaDoorVCom
import Derived.Test.YtjggmhpjlnmigaaDoorVA
namespace Go.Proofs.YtjggmhpjlnmigaaDoor
open Go.RowKit
set_option maxRecDepth 20000
set_option linter.unusedSimpArgs false
set_option linter.unusedVariables false
theorem Rd.of_none {h : Hp} {vs : List Value} (r : Rd h none vs) : vs = [] := by
  cases vs with
  | nil => rfl
  | cons v l => obtain ⟨_, _, e, _⟩ := r 0 v rfl; cases e
theorem first_run {P : Program} {A : Option Addr} {n c : Nat} {vs : List Value} {h : Hp} (r : Rd h A vs) (hl : vs.length = n) (w : World) (hw : w.heap = h) : (Builtin.firstCells 1 n (.slice A n c)).run P w = .ok vs.toArray w := by
  cases A with
  | none => rw [r.of_none]; rfl
  | some a =>
    show (loadCells a (n * 1)).run P w = _
    rw [Nat.mul_one, ← hl]
    refine run_loadCells_list w a vs (fun j v e => ?_)
    obtain ⟨b, o, e1, e2⟩ := r j v e
    cases e1
    rw [cell_add, hw]
    exact e2
/-- A slice with its room. -/
def Sl (T : TypeId) (A : Option Addr) (n c : Nat) (vs : List Value) : Asn :=
  ⟨fun h S => vs.length = n ∧ n ≤ c ∧ (c = 0 ∨ ∃ b pre rest, A = some ⟨b, pre.length, none⟩ ∧ S b ∧ h[b]? = some (.cells (pre ++ (vs ++ rest)).toArray T (0, 0)) ∧ vs.length + rest.length = c),
   fun a e => ⟨a.1, a.2.1, a.2.2.imp id (fun ⟨b, pre, rest, x, y, z, t⟩ => ⟨b, pre, rest, x, y, (e b y).trans z, t⟩)⟩⟩
theorem Sl.rd {T : TypeId} {A : Option Addr} {n c : Nat} {vs : List Value} {h : Hp} {S : Foot} (a : (Sl T A n c vs).at_ h S) : Rd h A vs := by
  obtain ⟨h1, h2, h3⟩ := a
  intro j v hj
  have hjl := (List.getElem?_eq_some_iff.mp hj).1
  rcases h3 with h3 | ⟨b, pre, rest, e, _, hb, _⟩
  · omega
  · refine ⟨b, pre.length, e, ?_⟩
    rw [hcell_lit hb, List.getElem?_append_right (by omega), Nat.add_sub_cancel_left, List.getElem?_append_left hjl, hj]
theorem Sep.rd {h0 h : Hp} {L : List Asn} (s : Sep h0 h L) (i : Nat) {T : TypeId} {A : Option Addr} {n c : Nat} {vs : List Value} (hi : L[i]? = some (Sl T A n c vs)) : Rd h A vs := by
  obtain ⟨S, a, _⟩ := s.get (List.mem_of_getElem? hi)
  exact Sl.rd a
theorem Sep.len {h0 h : Hp} {L : List Asn} (s : Sep h0 h L) (i : Nat) {T : TypeId} {A : Option Addr} {n c : Nat} {vs : List Value} (hi : L[i]? = some (Sl T A n c vs)) : vs.length = n ∧ n ≤ c := by
  obtain ⟨S, a, _⟩ := s.get (List.mem_of_getElem? hi)
  exact ⟨a.1, a.2.1⟩
/-- a block becomes a row -/
theorem Sep.row {h0 h : Hp} {L : List Asn} {b : Nat} {T : TypeId} {vs rest : List Value} {n c : Nat} (s : Sep h0 h (Pt b (.cells (vs ++ rest).toArray T (0, 0)) :: L)) (hn : vs.length = n) (hc : vs.length + rest.length = c) : Sep h0 h (Sl T (some ⟨b, 0, none⟩) n c vs :: L) :=
  s.weaken fun S a => ⟨hn, by omega, .inr ⟨b, [], rest, rfl, a.1, a.2, hc⟩⟩
/-- a store into a row -/
theorem EvSt.sl {h0 h : Hp} {L : List Asn} {T : TypeId} {A : Option Addr} {n c b o j : Nat} {vs : List Value} {v : Value} {K : Hp → Prop} (s : Sep h0 h (Sl T A n c vs :: L)) (e : A = some ⟨b, o, none⟩) (hj : j < n)
    (k : ∀ h', Sep h0 h' (Sl T A n c (vs.set j v) :: L) → K h') : EvSt h b (o + j) [v] K := by
  obtain ⟨S, a, _⟩ := s.get (List.mem_cons_self)
  obtain ⟨h1, h2, h3⟩ := a
  rcases h3 with h3 | ⟨b', pre, rest, e', hS, hb, hc⟩
  · omega
  rw [e] at e'
  cases e'
  have hov : ovr (pre ++ (vs ++ rest)) (pre.length + j) [v] = pre ++ (vs.set j v ++ rest) := by
    unfold ovr
    have hvs : vs = vs.take j ++ vs[j]'(by omega) :: vs.drop (j + 1) := by rw [List.getElem_cons_drop, List.take_append_drop]
    have hset : vs.set j v = vs.take j ++ v :: vs.drop (j + 1) := List.set_eq_take_append_cons_drop .. |>.trans (if_pos (by omega))
    rw [hset, List.take_append, List.take_of_length_le (by omega), Nat.add_sub_cancel_left, List.take_append_of_le_length (by omega), List.drop_append, List.drop_eq_nil_of_le (by simp; omega), List.nil_append]
    simp only [List.length_singleton]
    rw [show pre.length + j + 1 - pre.length = j + 1 by omega, List.drop_append_of_le_length (by omega)]
    simp
  refine ⟨_, T, hb, by simp; omega, fun h' u => k h' ?_⟩
  rw [show (pre ++ (vs ++ rest)).toArray.toList = pre ++ (vs ++ rest) from rfl, hov] at u
  have hnb : ∀ S', (Sl T (some ⟨b, pre.length, none⟩) n c vs).at_ h S' → S' b := by
    rintro S' ⟨_, _, h4 | ⟨b'', pre'', rest'', e'', hS'', _⟩⟩
    · omega
    · simp only [Option.some.injEq, Addr.mk.injEq] at e''; exact e''.1 ▸ hS''
  subst e
  refine s.turn (fun S' a' => ⟨S', ⟨by simpa using h1, h2, .inr ⟨b, pre, rest, rfl, hnb S' a', u.at_, by simpa using hc⟩⟩, fun _ hb => .inl hb, fun k _ hk => u.else_ k (fun e => hk (e ▸ hnb S' a'))⟩) (by rw [u.size]; exact Nat.le_refl _)
/-- an index into a row that is read -/
theorem EvIdx.rd {h : Hp} {A : Option Addr} {vs : List Value} {i : Int} {n : Nat} {K : Nat → Nat → Prop} (r : Rd h A vs) (hl : vs.length = n) (h0 : 0 ≤ i) (h1 : i < n) (k : ∀ b o, A = some ⟨b, o, none⟩ → hcell h b (o + i.toNat) = vs[i.toNat]? → K b o) : EvIdx A i n K := by
  have hlt : i.toNat < vs.length := by omega
  obtain ⟨b, o, e, hc⟩ := r i.toNat vs[i.toNat] (by rw [List.getElem?_eq_getElem])
  exact ⟨b, o, e, h0, h1, k b o e (by rw [hc, List.getElem?_eq_getElem hlt])⟩
theorem EvLd.row {h : Hp} {b o : Nat} {i : Int} {kd : IntKind} {l : List Int} {K : Value → Prop} (hI : hcell h b (o + i.toNat) = (ints kd l)[i.toNat]?) (hlt : i.toNat < l.length) (k : K (.int kd l[i.toNat])) : EvLd h b (o + i.toNat * 1) K :=
  EvLd.at_ (by rw [Nat.mul_one, hI]; simp [hlt]) k
/-- what a mark leaves: numbers one after the other -/
def marks (k : IntKind) (a : Int) : Nat → List Int
  | 0 => []
  | n + 1 => k.wrap a :: marks k (a + 1) n
theorem marks_len (k : IntKind) (n : Nat) : ∀ a, (marks k a n).length = n := by induction n with
  | zero => exact fun _ => rfl
  | succ n ih => intro a; simp [marks, ih]
theorem marks_get (k : IntKind) (n : Nat) : ∀ (a : Int) (i : Nat) (h : i < (marks k a n).length), (marks k a n)[i] = k.wrap (a + i) := by
  induction n with
  | zero => intro a i h; exact absurd h (by simp [marks])
  | succ n ih =>
    intro a i h
    cases i with
    | zero => simp [marks]
    | succ i =>
      simp only [marks, List.getElem_cons_succ]
      rw [ih]
      congr 1
      omega
theorem Sep.triv {h0 h : Hp} {L : List Asn} (s : Sep h0 h L) (T : TypeId) (A : Option Addr) : Sep h0 h (Sl T A 0 0 [] :: L) := by
  obtain ⟨e, S, hS, r⟩ := s
  exact ⟨e, S, hS, fun _ => False, S, ⟨rfl, Nat.le_refl _, .inl rfl⟩, r, fun _ f => f.elim, fun _ f => f.elim, fun _ hb => hb⟩
/-- an append to an empty row -/
theorem EvApp.sep {P : Program} {h0 h : Hp} {L : List Asn} {elem bytes n c : Nat} {base A : Option Addr} {kd : IntKind} {l : List Int} {K : Value → Hp → Prop} (s : Sep h0 h L) (r : Rd h A (ints kd l)) (hl : l.length = n) (hb : n * bytes ≤ 140737488355328) (hn : n ≤ 1000000000)
    (k : ∀ A' c' h', Sep h0 h' (Sl elem A' n c' (ints kd l) :: L) → Ext h h' → K (.slice A' n c') h') : EvApp P elem 1 bytes base 0 0 (.slice A n c) h K := by
  have hl' : (ints kd l).length = n := by simpa using hl
  refine ⟨[], ints kd l, n, fun w _ => rfl, fun w hw => first_run r hl' w hw, fun w hw => first_run (Rd.nil h base) rfl w hw, ?_, by rw [Nat.zero_add]; exact hb, by omega, fun h1 => .inl ?_, fun h1 c' rest h2 h3 => ?_⟩
  · intro v hv
    obtain ⟨x, _, rfl⟩ := List.mem_map.mp hv
    rfl
  · obtain rfl : n = 0 := by omega
    obtain rfl : l = [] := List.eq_nil_of_length_eq_zero hl
    exact ⟨rfl, k base 0 h (s.triv elem base) (Ext.refl h)⟩
  · rw [Nat.zero_add]
    refine k _ c' _ ((s.push _).row (vs := ints kd l) (rest := rest) hl' ?_) (Ext.push h _)
    rw [hl', h3]
    omega
theorem marks_succ (k : IntKind) (n : Nat) : ∀ a : Int, marks k a (n + 1) = marks k a n ++ [k.wrap (a + n)] := by
  induction n with
  | zero => intro a; simp [marks]
  | succ n ih =>
    intro a
    rw [marks, ih, marks, List.cons_append, show a + 1 + (n : Int) = a + ((n + 1 : Nat) : Int) by omega]
theorem mark_step {k : IntKind} {a : Int} {l : List Int} {i : Nat} (hi : i < l.length) : (marks k a i ++ l.drop i).set i (k.wrap (a + i)) = marks k a (i + 1) ++ l.drop (i + 1) := by
  rw [marks_succ, List.set_append_right _ _ (by rw [marks_len]; omega), marks_len, Nat.sub_self, List.drop_eq_getElem_cons hi, List.set_cons_zero, List.append_assoc]
  rfl
theorem mkCells_one (v : Value) (n : Nat) : mkCells [v] n = List.replicate n v := by
  unfold mkCells
  induction n with
  | zero => rfl
  | succ n ih => rw [List.replicate_succ, List.flatten_cons, ih]; rfl
/-- what is made over a memory stands beside what the caller has -/
theorem HC.join {P : Program} {f : FuncId} {args : List Value} {h0 h : Hp} {L : List Asn} {R : Option Addr → Nat → Value → Prop} {X : Option Addr → Nat → List Asn} (s : Sep h0 h L)
    (c : HC P f args h fun v h' => ∃ A c, R A c v ∧ Sep h h' (X A c)) : HC P f args h fun v h' => ∃ A c, R A c v ∧ Sep h0 h' (X A c ++ L) :=
  c.mono fun v h' ⟨A, c, r, x⟩ => ⟨A, c, r, s.join x⟩

theorem toIntS_c {h : Hp} {A : Option Addr} {n c : Nat} {l : List Int} (r : Rd h A (ints .i64 l)) (hl : l.length = n) (hn : n ≤ 1000000000) : HC Tryd.prog 30 [.slice A n c] h fun v h' => ∃ A' c', v = .slice A' n c' ∧ Sep h h' [Sl 3 A' n c' (ints .i64 l)] := by
  refine hc_of Tryd.func30 (rfl : Tryd.f30.body = some _) Tryd.ntmps30 Tryd.results30 Tryd.call30 rfl ?_; have HS := Sep.nil h; conv => whnf
  repeat' (fail <;> conv => whnf)
  refine EvMk.mk (by omega) (by omega) (by omega) (by omega) ?_
  conv => whnf
  repeat' ((first | (with_reducible first | refine EvSeq.go ?_ | refine EvIf.tt ?_ | refine EvIf.ff ?_) | ((with_reducible refine EvNew.sep HS ?_); intro bN hN HS1 hX; replace HS := HS1; clear HS1)) <;> conv => whnf)
  have e0 : mkCells [.int .i64 0] (n : Int).toNat = ints .i64 (l.take 0 ++ List.replicate (l.length - 0) 0) ++ [] := by rw [mkCells_one]; simp [hl]
  rw [e0] at HS
  have HS := HS.row (n := n) (c := n) (by simp [hl]) (by simp [hl])
  refine EvLoop.keep ([4, 8, 9, 10, 11, 12, 13, 14, 15, 16, 17, 18, 19, 20], 5) (α := Int) (fun x => [(4, .int .i64 x)]) (fun x h' => ∃ k : Nat, k ≤ n ∧ x = k ∧ Sep h h' [Sl 3 (some ⟨bN, 0, none⟩) n n (ints .i64 (l.take k ++ List.replicate (l.length - k) 0))]) (fun x => ((n : Int) - x).toNat) 0 (by (repeat' (first | exact trivial | refine ⟨rfl, ?_⟩))) ⟨0, by omega, rfl, HS⟩ ?_
  clear HS
  rintro _ _ ⟨k, hk, rfl, HS⟩
  conv => whnf
  repeat' ((first | (with_reducible first | refine EvSeq.go ?_ | refine EvIf.tt ?_ | refine EvIf.ff ?_) | ((with_reducible refine EvIf.mk (fun c => ?_) (fun c => ?_)) <;> (try simp only [cs_] at c) <;> (try (exfalso; first | omega | (revert c; decide))))) <;> conv => whnf)
  · refine EvIdx.rd (r.ext HS.to_ext) (by simpa using hl) (by omega) (by omega) ?_
    intro bI oI eI hI
    conv => whnf
    refine EvLd.at_ (v := .int .i64 (l[k]'(by omega))) (by simpa [List.getElem?_eq_getElem (show k < l.length by omega)] using hI) ?_
    conv => whnf
    repeat' (((with_reducible refine EvIdx.lit ?_ ?_ ?_); (first | omega | decide); (first | omega | decide)) <;> conv => whnf)
    refine EvSt.sl HS rfl (by omega) ?_
    intro h' HS
    conv => whnf
    repeat' (fail <;> conv => whnf)
    refine ⟨_, (by (repeat' (first | exact trivial | refine ⟨rfl, ?_⟩))), ⟨k + 1, by omega, ?_, ?_⟩, ?_⟩
    · show IntKind.i64.wrap _ = _
      rw [i64w _ (by omega) (by omega)]; omega
    · have es := set_take l k (by omega) l[k] rfl
      rw [← es]
      simp only [ints, List.map_set] at HS ⊢
      simpa using HS
    · show ((n : Int) - IntKind.i64.wrap _).toNat < _
      rw [i64w _ (by omega) (by omega)]; omega
  · obtain rfl : k = n := by omega
    refine ⟨_, _, rfl, ?_⟩
    simpa [← hl] using HS
theorem eqIntS_c {h : Hp} {A B : Option Addr} {n m c d : Nat} {l l' : List Int} (r : Rd h A (ints .i64 l)) (hl : l.length = n) (r' : Rd h B (ints .i64 l')) (hl' : l'.length = m) (hn : n ≤ 1000000000) (hm : m ≤ 1000000000) : HC Tryd.prog 35 [.slice A n c, .slice B m d] h fun v h' => v = .bool (decide (l = l')) ∧ h' = h := by
  refine hc_of Tryd.func35 (rfl : Tryd.f35.body = some _) Tryd.ntmps35 Tryd.results35 Tryd.call35 rfl ?_; have HS := Sep.nil h; conv => whnf
  repeat' ((first | (with_reducible first | refine EvSeq.go ?_ | refine EvIf.tt ?_ | refine EvIf.ff ?_) | ((with_reducible refine EvIf.mk (fun c => ?_) (fun c => ?_)) <;> (try simp only [cs_] at c) <;> (try (exfalso; first | omega | (revert c; decide))))) <;> conv => whnf)
  · refine ⟨?_, rfl⟩
    rw [decide_eq_false]
    rintro rfl
    omega
  · refine EvLoop.keep ([4, 5, 11, 12, 13, 14, 15, 16, 17, 18, 19, 20, 21, 22, 23, 24, 25], 6) (α := Int) (fun x => [(5, .int .i64 x)]) (fun x h' => h' = h ∧ ∃ k : Nat, k ≤ n ∧ x = k ∧ l.take k = l'.take k) (fun x => ((n : Int) - x).toNat) 0 (by (repeat' (first | exact trivial | refine ⟨rfl, ?_⟩))) ⟨rfl, 0, by omega, rfl, rfl⟩ ?_
    rintro _ _ ⟨rfl, k, hk, rfl, ht⟩
    conv => whnf
    repeat' ((first | ((with_reducible refine EvDraw.ord (id := 6) (.go 0 (.go 1 (.go 2 (.go 3 (.go 4 (.go 5 (.go 6 (.go 7 (.go 8 .done))))))))) fol ?_ ?_ ?_); kernel_rfl; kernel_rfl) | ((with_reducible refine EvIdx.rd r (by simpa using hl) (by omega) (by omega) ?_); intro bI oI eI hI) | ((with_reducible refine EvIdx.rd r' (by simpa using hl') (by omega) (by omega) ?_); intro bI oI eI hI) | ((with_reducible refine EvLd.row (by assumption) (by omega) ?_)) | (with_reducible first | refine EvSeq.go ?_ | refine EvIf.tt ?_ | refine EvIf.ff ?_) | ((with_reducible refine EvIf.mk (fun c => ?_) (fun c => ?_)) <;> (try simp only [cs_] at c) <;> (try (exfalso; first | omega | (revert c; decide))))) <;> conv => whnf)
    · refine ⟨?_, rfl⟩
      rw [decide_eq_false (fun e => c (by subst e; rfl))]
    · refine ⟨_, (by (repeat' (first | exact trivial | refine ⟨rfl, ?_⟩))), ⟨rfl, k + 1, by omega, ?_, ?_⟩, ?_⟩
      · show IntKind.i64.wrap _ = _
        rw [i64w _ (by omega) (by omega)]; omega
      · rw [List.take_succ_eq_append_getElem (by omega), List.take_succ_eq_append_getElem (by omega), ht]
        simp only [Int.toNat_natCast] at c
        rw [c]
      · show ((n : Int) - IntKind.i64.wrap _).toNat < _
        rw [i64w _ (by omega) (by omega)]; omega
    · refine ⟨?_, rfl⟩
      rw [List.take_of_length_le (by omega), List.take_of_length_le (by omega)] at ht
      rw [decide_eq_true ht]
theorem markIntS_c {h0 h : Hp} {L : List Asn} {A : Option Addr} {n c : Nat} {l : List Int} {a : Int} (HS : Sep h0 h (Sl 3 A n c (ints .i64 l) :: L)) (hn : n ≤ 1000000000) (a0 : 0 ≤ a) (a1 : a ≤ 1000000000000) : HC Tryd.prog 37 [.slice A n c, .int .i64 a] h fun v h' => v = .int .i64 (a + n) ∧ Sep h0 h' (Sl 3 A n c (ints .i64 (marks .i64 a n)) :: L) := by
  have hl : l.length = n := by simpa using (HS.len 0 rfl).1
  refine hc_of Tryd.func37 (rfl : Tryd.f37.body = some _) Tryd.ntmps37 Tryd.results37 Tryd.call37 rfl ?_; conv => whnf
  repeat' ((with_reducible first | refine EvSeq.go ?_ | refine EvIf.tt ?_ | refine EvIf.ff ?_) <;> conv => whnf)
  refine EvLoop.keep ([1, 5, 6, 7, 8, 9, 10, 11, 12, 13, 14, 15, 16, 17], 6) (α := Int) (fun x => [(5, .int .i64 x), (1, .int .i64 (a + x))]) (fun x h' => ∃ k : Nat, k ≤ n ∧ x = k ∧ Sep h0 h' (Sl 3 A n c (ints .i64 (marks .i64 a k ++ l.drop k)) :: L)) (fun x => ((n : Int) - x).toNat) 0 ⟨rfl, congrArg (fun z => some (Value.int .i64 z)) (by omega), trivial⟩ ⟨0, by omega, rfl, HS⟩ ?_
  clear HS
  rintro _ _ ⟨k, hk, rfl, HS⟩
  conv => whnf
  repeat' ((first | (with_reducible first | refine EvSeq.go ?_ | refine EvIf.tt ?_ | refine EvIf.ff ?_) | ((with_reducible refine EvIf.mk (fun c => ?_) (fun c => ?_)) <;> (try simp only [cs_] at c) <;> (try (exfalso; first | omega | (revert c; decide))))) <;> conv => whnf)
  · refine EvIdx.rd (HS.rd 0 rfl) (HS.len 0 rfl).1 (by omega) (by omega) ?_
    intro bI oI eI hI
    conv => whnf
    refine EvSt.sl HS eI (by omega) ?_
    intro h' HS
    conv => whnf
    repeat' (fail <;> conv => whnf)
    have es := mark_step (k := .i64) (a := a) (l := l) (i := k) (by omega)
    rw [i64w (a + k) (by omega) (by omega)] at es
    refine ⟨(k : Int) + 1, ⟨congrArg (fun z => some (Value.int .i64 z)) (i64w _ (by omega) (by omega)), congrArg (fun z => some (Value.int .i64 z)) ((i64w (a + (k : Int) + 1) (by omega) (by omega)).trans (by omega)), (by (repeat' (first | exact trivial | refine ⟨rfl, ?_⟩)))⟩, ⟨k + 1, by omega, by omega, ?_⟩, by omega⟩
    rw [← es]
    simp only [ints, List.map_set] at HS ⊢
    simpa using HS
  · obtain rfl : k = n := by omega
    refine ⟨rfl, ?_⟩
    rw [List.drop_of_length_le (by omega), List.append_nil] at HS
    exact HS
theorem heldIntS_c {h : Hp} {A : Option Addr} {n c : Nat} {a : Int} (r : Rd h A (ints .i64 (marks .i64 a n))) (hn : n ≤ 1000000000) (a0 : 0 ≤ a) (a1 : a ≤ 1000000000000) : HC Tryd.prog 39 [.slice A n c, .int .i64 a] h fun v h' => v = .int .i64 (a + n) ∧ h' = h := by
  refine hc_of Tryd.func39 (rfl : Tryd.f39.body = some _) Tryd.ntmps39 Tryd.results39 Tryd.call39 rfl ?_; have HS := Sep.nil h; conv => whnf
  repeat' ((with_reducible first | refine EvSeq.go ?_ | refine EvIf.tt ?_ | refine EvIf.ff ?_) <;> conv => whnf)
  refine EvLoop.keep ([1, 4, 5, 6, 7, 8, 9, 10, 11, 12, 13, 14, 15, 16, 17, 18, 19], 6) (α := Int) (fun x => [(5, .int .i64 x), (1, .int .i64 (a + x))]) (fun x h' => h' = h ∧ ∃ k : Nat, k ≤ n ∧ x = k) (fun x => ((n : Int) - x).toNat) 0 ⟨rfl, congrArg (fun z => some (Value.int .i64 z)) (by omega), trivial⟩ ⟨rfl, 0, by omega, rfl⟩ ?_
  rintro _ _ ⟨rfl, k, hk, rfl⟩
  conv => whnf
  have hm := marks_len .i64 n a
  repeat' ((first | ((with_reducible refine EvIdx.rd r (by simpa using hm) (by omega) (by omega) ?_); intro bI oI eI hI) | ((with_reducible refine EvLd.row (by assumption) (by rw [hm]; omega) ?_)) | (with_reducible first | refine EvSeq.go ?_ | refine EvIf.tt ?_ | refine EvIf.ff ?_) | ((with_reducible refine EvIf.mk (fun c => ?_) (fun c => ?_)) <;> (try simp only [cs_] at c) <;> (try (exfalso; first | omega | (revert c; decide))))) <;> conv => whnf)
  · exact absurd ((marks_get _ _ _ _ _).trans (by rw [Int.toNat_natCast]; exact i64w _ (by omega) (by omega))) c
  · exact ⟨(k : Int) + 1, ⟨congrArg (fun z => some (Value.int .i64 z)) (i64w _ (by omega) (by omega)), congrArg (fun z => some (Value.int .i64 z)) ((i64w (a + (k : Int) + 1) (by omega) (by omega)).trans (by omega)), (by (repeat' (first | exact trivial | refine ⟨rfl, ?_⟩)))⟩, ⟨rfl, k + 1, by omega, by omega⟩, by omega⟩
  · obtain rfl : k = n := by omega
    exact ⟨rfl, rfl⟩
theorem szIntS_c (h : Hp) (A : Option Addr) (n c : Nat) (a : Int) (hn : n ≤ 9223372036854775807) (a0 : 0 ≤ a) (a1 : a ≤ 1000000000000) : HC Tryd.prog 25 [.slice A n c, .int .i64 a] h fun v h' => v = .int .i64 (if a - n < 0 then -1 else a - n) ∧ h' = h := by
  have e : IntKind.i64.wrap (a - n) = a - n := i64w _ (by omega) (by omega)
  refine hc_of Tryd.func25 (rfl : Tryd.f25.body = some _) Tryd.ntmps25 Tryd.results25 Tryd.call25 rfl ?_; have HS := Sep.nil h; conv => whnf
  repeat' ((first | (with_reducible first | refine EvSeq.go ?_ | refine EvIf.tt ?_ | refine EvIf.ff ?_) | ((with_reducible refine EvIf.mk (fun c => ?_) (fun c => ?_)) <;> (try simp only [cs_] at c) <;> (try (exfalso; first | omega | (revert c; decide))))) <;> conv => whnf)
  · rw [e] at c
    exact ⟨by rw [if_pos c], rfl⟩
  · rw [e] at c
    refine ⟨?_, rfl⟩
    rw [if_neg (by omega)]
    exact congrArg _ e
theorem l3Ints_c {h : Hp} {A : Option Addr} {n c : Nat} {l : List Int} (r : Rd h A (ints .i64 l)) (hl : l.length = n) (hn : n ≤ 1000000000) : HC Tryd.prog 79 [.slice A n c] h fun v h' => ∃ A' c', v = .slice A' n c' ∧ Sep h h' [Sl 3 A' n c' (ints .i64 l)] := by
  refine hc_of Tryd.func79 (rfl : Tryd.f79.body = some _) Tryd.ntmps79 Tryd.results79 Tryd.call79 rfl ?_; have HS := Sep.nil h; conv => whnf
  repeat' (((with_reducible refine EvNew.sep HS ?_); intro bN hN HS1 hX; replace HS := HS1; clear HS1) <;> conv => whnf)
  refine EvApp.sep HS (r.ext HS.to_ext) hl (by omega) hn ?_
  intro A' c' h' HS _
  conv => whnf
  exact ⟨_, _, rfl, (HS.front 1 rfl).tail⟩
end Go.Proofs.YtjggmhpjlnmigaaDoor
