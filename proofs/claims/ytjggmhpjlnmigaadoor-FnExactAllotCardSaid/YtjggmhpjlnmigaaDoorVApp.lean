/- Rows of elements of some cells each, and appends to rows that have room or not. -/
import Derived.Test.YtjggmhpjlnmigaaDoorVRow
namespace Go.Proofs.YtjggmhpjlnmigaaDoor
open Go.RowKit
set_option linter.unusedSimpArgs false
set_option linter.unusedVariables false
/-- A slice with its room, of elements of z cells each. -/
def Sz (T : TypeId) (z : Nat) (A : Option Addr) (n c : Nat) (vs : List Value) : Asn :=
  ⟨fun h S => vs.length = n * z ∧ n ≤ c ∧ (c = 0 ∨ ∃ b pre rest, A = some ⟨b, pre.length, none⟩ ∧ S b ∧ h[b]? = some (.cells (pre ++ (vs ++ rest)).toArray T (0, 0)) ∧ vs.length + rest.length = c * z),
   fun a e => ⟨a.1, a.2.1, a.2.2.imp id (fun ⟨b, pre, rest, x, y, z, t⟩ => ⟨b, pre, rest, x, y, (e b y).trans z, t⟩)⟩⟩
theorem Sl_eq (T : TypeId) (A : Option Addr) (n c : Nat) (vs : List Value) : Sl T A n c vs = Sz T 1 A n c vs := by
  unfold Sl Sz
  simp only [Nat.mul_one]
theorem Sz.rd {T : TypeId} {z : Nat} {A : Option Addr} {n c : Nat} {vs : List Value} {h : Hp} {S : Foot} (a : (Sz T z A n c vs).at_ h S) : Rd h A vs := by
  obtain ⟨h1, h2, h3⟩ := a
  intro j v hj
  have hjl := (List.getElem?_eq_some_iff.mp hj).1
  rcases h3 with h3 | ⟨b, pre, rest, e, _, hb, _⟩
  · subst h3
    obtain rfl : n = 0 := by omega
    simp at h1
    subst h1
    simp at hjl
  · refine ⟨b, pre.length, e, ?_⟩
    rw [hcell_lit hb, List.getElem?_append_right (by omega), Nat.add_sub_cancel_left, List.getElem?_append_left hjl, hj]
theorem Sep.rdz {h0 h : Hp} {L : List Asn} (s : Sep h0 h L) (i : Nat) {T : TypeId} {z : Nat} {A : Option Addr} {n c : Nat} {vs : List Value} (hi : L[i]? = some (Sz T z A n c vs)) : Rd h A vs := by
  obtain ⟨S, a, _⟩ := s.get (List.mem_of_getElem? hi)
  exact Sz.rd a
theorem Sep.lenz {h0 h : Hp} {L : List Asn} (s : Sep h0 h L) (i : Nat) {T : TypeId} {z : Nat} {A : Option Addr} {n c : Nat} {vs : List Value} (hi : L[i]? = some (Sz T z A n c vs)) : vs.length = n * z ∧ n ≤ c := by
  obtain ⟨S, a, _⟩ := s.get (List.mem_of_getElem? hi)
  exact ⟨a.1, a.2.1⟩
theorem Sep.rowz {h0 h : Hp} {L : List Asn} {b : Nat} {T : TypeId} {vs rest : List Value} {z n c : Nat} (s : Sep h0 h (Pt b (.cells (vs ++ rest).toArray T (0, 0)) :: L)) (hn : vs.length = n * z) (hnc : n ≤ c) (hc : vs.length + rest.length = c * z) : Sep h0 h (Sz T z (some ⟨b, 0, none⟩) n c vs :: L) :=
  s.weaken fun S a => ⟨hn, hnc, .inr ⟨b, [], rest, rfl, a.1, a.2, hc⟩⟩
theorem Sep.trivz {h0 h : Hp} {L : List Asn} (s : Sep h0 h L) (T : TypeId) (z : Nat) (A : Option Addr) : Sep h0 h (Sz T z A 0 0 [] :: L) := by
  obtain ⟨e, S, hS, r⟩ := s
  exact ⟨e, S, hS, fun _ => False, S, ⟨by simp, Nat.le_refl _, .inl rfl⟩, r, fun _ f => f.elim, fun _ f => f.elim, fun _ hb => hb⟩
theorem first_run_z {P : Program} {z : Nat} {A : Option Addr} {n c : Nat} {vs : List Value} {h : Hp} (r : Rd h A vs) (hl : vs.length = n * z) (w : World) (hw : w.heap = h) : (Builtin.firstCells z n (.slice A n c)).run P w = .ok vs.toArray w := by
  cases A with
  | none => rw [r.of_none]; rfl
  | some a =>
    show (loadCells a (n * z)).run P w = _
    rw [← hl]
    refine run_loadCells_list w a vs (fun j v e => ?_)
    obtain ⟨b, o, e1, e2⟩ := r j v e
    cases e1
    rw [cell_add, hw]
    exact e2
theorem ovr_mid (pre vs rest news : List Value) (hr : news.length ≤ rest.length) : ovr (pre ++ (vs ++ rest)) (pre.length + vs.length) news = pre ++ ((vs ++ news) ++ rest.drop news.length) := by
  unfold ovr
  rw [← List.append_assoc, List.take_append_of_le_length (by simp), List.take_of_length_le (by simp)]
  rw [List.drop_append, List.drop_eq_nil_of_le (by simp), List.nil_append, List.length_append, show pre.length + vs.length + news.length - (pre.length + vs.length) = news.length by omega]
  simp
/-- an append to a row of the call's own -/
theorem EvApp.sz {P : Program} {h0 h : Hp} {L : List Asn} {T : TypeId} {z bytes n c m cx : Nat} {base A : Option Addr} {vs news : List Value} {K : Value → Hp → Prop}
    (s : Sep h0 h (Sz T z base n c vs :: L)) (r : Rd h A news) (hl : news.length = m * z) (hone : ∀ v ∈ news, v.oneCell' = true) (hb : (n + m) * bytes ≤ 140737488355328) (hn : n + m ≤ 1000000000)
    (k : ∀ A' c' h', Sep h0 h' (Sz T z A' (n + m) c' (vs ++ news) :: L) → K (.slice A' (n + m) c') h') : EvApp P T z bytes base n c (.slice A m cx) h K := by
  have q : Rd h base vs := s.rdz 0 rfl
  have ql := (s.lenz 0 rfl).1
  refine ⟨vs, news, m, fun w _ => rfl, fun w hw => first_run_z r hl w hw, fun w hw => first_run_z q ql w hw, hone, hb, by omega, fun h1 => ?_, fun h1 c' rest h2 h3 => ?_⟩
  · cases hnews : news with
    | nil =>
      refine .inl ⟨rfl, k base c h ?_⟩
      subst hnews
      refine s.weaken fun S a => ?_
      obtain ⟨a1, a2, a3⟩ := a
      refine ⟨by rw [List.append_nil, a1]; simp at hl; rw [Nat.add_mul]; omega, h1, ?_⟩
      rcases a3 with a3 | ⟨b, pre, rest, e1, e2, e3, e4⟩
      · exact .inl a3
      · exact .inr ⟨b, pre, rest, e1, e2, by rw [List.append_nil]; exact e3, by rw [List.append_nil]; exact e4⟩
    | cons v0 nr =>
      refine .inr ?_
      rw [← hnews]
      have hpos : 0 < news.length := by rw [hnews]; simp
      obtain ⟨S0, a, _⟩ := s.get (List.mem_cons_self)
      obtain ⟨a1, a2, a3⟩ := a
      rcases a3 with a3 | ⟨b, pre, rest, e, hS, hblk, hc⟩
      · subst a3
        obtain rfl : m = 0 := by omega
        rw [Nat.zero_mul] at hl
        omega
      · have hrest : news.length ≤ rest.length := by
          have : (n + m) * z ≤ c * z := Nat.mul_le_mul_right z h1
          rw [Nat.add_mul] at this
          omega
        refine ⟨b, pre.length, _, T, e, hblk, by simp; omega, fun h' u => k base c h' ?_⟩
        rw [show (pre ++ (vs ++ rest)).toArray.toList = pre ++ (vs ++ rest) from rfl, ← ql, ovr_mid pre vs rest news hrest] at u
        have hnb : ∀ S', (Sz T z base n c vs).at_ h S' → S' b := by
          rintro S' ⟨_, _, h4 | ⟨b'', pre'', rest'', e'', hS'', _⟩⟩
          · subst h4
            obtain rfl : m = 0 := by omega
            rw [Nat.zero_mul] at hl
            omega
          · rw [e] at e''
            simp only [Option.some.injEq, Addr.mk.injEq] at e''
            exact e''.1 ▸ hS''
        refine s.turn (fun S' a' => ⟨S', ⟨by rw [List.length_append, a1, hl, Nat.add_mul], h1, .inr ⟨b, pre, rest.drop news.length, e, hnb S' a', u.at_, by simp; omega⟩⟩, fun _ hb => .inl hb, fun k _ hk => u.else_ k (fun e => hk (e ▸ hnb S' a'))⟩) (by rw [u.size]; exact Nat.le_refl _)
  · refine k _ c' _ ((s.tail.push _).rowz (vs := vs ++ news) (rest := rest) (by rw [List.length_append, ql, hl, Nat.add_mul]) h2 ?_)
    rw [List.length_append, ql, hl, h3]
    have : (n + m) * z ≤ c' * z := Nat.mul_le_mul_right z h2
    rw [Nat.add_mul] at this
    rw [Nat.sub_mul, Nat.add_mul]
    omega
/-- an append to a row of the call's own, anywhere among the pieces -/
theorem EvApp.sli {P : Program} {h0 h : Hp} {L : List Asn} {T : TypeId} {bytes n c m cx : Nat} {base A : Option Addr} {vs news : List Value} {K : Value → Hp → Prop}
    (s : Sep h0 h L) (i : Nat) (hi : L[i]? = some (Sl T base n c vs)) (r : Rd h A news) (hl : news.length = m) (hone : ∀ v ∈ news, v.oneCell' = true) (hb : (n + m) * bytes ≤ 140737488355328) (hn : n + m ≤ 1000000000)
    (k : ∀ A' c' h', Sep h0 h' (Sl T A' (n + m) c' (vs ++ news) :: L.eraseIdx i) → K (.slice A' (n + m) c') h') : EvApp P T 1 bytes base n c (.slice A m cx) h K := by
  have s' := s.front i hi
  rw [Sl_eq] at s'
  refine EvApp.sz s' r (by omega) hone hb hn (fun A' c' h' q => k A' c' h' ?_)
  rw [Sl_eq]
  exact q
/-- a row cut at its front -/
theorem Sl.cut {T : TypeId} {b o : Nat} {n c : Nat} {v : Value} {vs : List Value} {h : Hp} {S : Foot} (a : (Sl T (some ⟨b, o, none⟩) n c (v :: vs)).at_ h S) : (Sl T (some ⟨b, o + 1, none⟩) (n - 1) (c - 1) vs).at_ h S := by
  obtain ⟨h1, h2, h3⟩ := a
  simp only [List.length_cons] at h1
  refine ⟨by omega, by omega, ?_⟩
  rcases h3 with h3 | ⟨b', pre, rest, e, hS, hb, hc⟩
  · omega
  · simp only [Option.some.injEq, Addr.mk.injEq] at e
    obtain ⟨rfl, rfl, _⟩ := e
    simp only [List.length_cons] at hc
    refine .inr ⟨b, pre ++ [v], rest, by simp, hS, by simpa using hb, by omega⟩
end Go.Proofs.YtjggmhpjlnmigaaDoor
