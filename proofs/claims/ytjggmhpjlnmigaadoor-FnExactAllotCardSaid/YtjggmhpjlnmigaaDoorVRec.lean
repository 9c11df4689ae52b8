/- Rows of records: elements of many cells. -/
import Derived.Test.YtjggmhpjlnmigaaDoorVRow
import Derived.Test.YtjggmhpjlnmigaaDoorVApp
import Derived.Test.YtjggmhpjlnmigaaDoorVSh
namespace Go.Proofs.YtjggmhpjlnmigaaDoor
open Go.RowKit
set_option maxRecDepth 20000
set_option linter.unusedSimpArgs false
set_option linter.unusedVariables false
section
variable {R : Type} {cl : R → List Value} {z : Nat}
theorem rec_len (hz : ∀ r, (cl r).length = z) : ∀ (rows : List R), (rows.flatMap cl).length = rows.length * z
  | [] => by simp
  | r :: rs => by rw [List.flatMap_cons, List.length_append, hz, rec_len hz rs, List.length_cons, Nat.succ_mul]; omega
theorem rec_get (hz : ∀ r, (cl r).length = z) : ∀ (rows : List R) (i f : Nat) (hi : i < rows.length) (v : Value), (cl rows[i])[f]? = some v → (rows.flatMap cl)[i * z + f]? = some v
  | r :: rs, 0, f, hi, v, h => by
    have h : (cl r)[f]? = some v := h
    have := (List.getElem?_eq_some_iff.mp h).1
    rw [List.flatMap_cons, Nat.zero_mul, Nat.zero_add, List.getElem?_append_left this]
    exact h
  | r :: rs, i + 1, f, hi, v, h => by
    have e : (i + 1) * z + f = (cl r).length + (i * z + f) := by rw [hz, Nat.succ_mul]; omega
    rw [List.flatMap_cons, e, List.getElem?_append_right (by omega), Nat.add_sub_cancel_left]
    exact rec_get hz rs i f (by simpa using hi) v (by simpa using h)
theorem EvIdx.el {h : Hp} {A : Option Addr} {rows : List R} {i : Int} {n : Nat} {K : Nat → Nat → Prop} (hz : ∀ r, (cl r).length = z) (z0 : 0 < z) (r : Rd h A (rows.flatMap cl)) (hl : rows.length = n) (h0 : 0 ≤ i) (h1 : i < n)
    (k : ∀ b o x, A = some ⟨b, o, none⟩ → rows[i.toNat]? = some x → (∀ (f : Nat) v, (cl x)[f]? = some v → hcell h b (o + i.toNat * z + f) = some v) → K b o) : EvIdx A i n K := by
  have hlt : i.toNat < rows.length := by omega
  have hc0 : ∃ v, (cl rows[i.toNat])[0]? = some v := ⟨_, List.getElem?_eq_getElem (by rw [hz]; exact z0)⟩
  obtain ⟨v0, hv0⟩ := hc0
  obtain ⟨b, o, e, _⟩ := r _ _ (rec_get hz rows i.toNat 0 hlt v0 hv0)
  refine ⟨b, o, e, h0, h1, k b o _ e (List.getElem?_eq_getElem hlt) fun f v hv => ?_⟩
  obtain ⟨b', o', e', hc⟩ := r _ _ (rec_get hz rows i.toNat f hlt v hv)
  rw [e] at e'
  cases e'
  rw [Nat.add_assoc]
  exact hc
end
theorem EvLdN.el {h : Hp} {b o n : Nat} {vs : List Value} {K : List Value → Prop} (hI : ∀ (f : Nat) v, vs[f]? = some v → hcell h b (o + f) = some v) (hl : vs.length = n) (k : K vs) : EvLdN h b o n K := ⟨vs, hl, hI, k⟩
theorem EvLd.el {h : Hp} {b o : Nat} (f : Nat) {vs : List Value} {v : Value} {K : Value → Prop} (hI : ∀ (f : Nat) v, vs[f]? = some v → hcell h b (o + f) = some v) (e : vs[f]? = some v) (k : K v) : EvLd h b (o + f) K := ⟨v, hI f v e, k⟩
theorem EvLd.el0 {h : Hp} {b o : Nat} {vs : List Value} {v : Value} {K : Value → Prop} (hI : ∀ (f : Nat) v, vs[f]? = some v → hcell h b (o + f) = some v) (e : vs[0]? = some v) (k : K v) : EvLd h b o K := ⟨v, hI 0 v e, k⟩
/-- a store into a block, at any place -/
theorem EvSt.ov {h0 h : Hp} {L : List Asn} {F : Asn → List Asn} {b o : Nat} {vs l : List Value} {T : TypeId} {K : Hp → Prop} (s : Sep h0 h L) (p : Spot (Bx b l T) L F) (hle : o + vs.length ≤ l.length)
    (k : ∀ h', Sep h0 h' (F (Bx b (ovr l o vs) T)) → Upd h b (.cells (ovr l o vs).toArray T (0, 0)) h' → K h') : EvSt h b o vs K := by
  obtain ⟨i, hi, e⟩ := p.idx
  refine ⟨l.toArray, T, s.pt_i i hi, by simpa using hle, fun h' u => k h' ?_ ?_⟩
  · rw [← e]; exact s.upd i hi u
  · exact u
theorem ovr_rec {R : Type} {cl : R → List Value} {z : Nat} (hz : ∀ r, (cl r).length = z) (rows : List R) (x : R) (rest : List Value) (hr : z ≤ rest.length) : ovr (rows.flatMap cl ++ rest) (rows.length * z) (cl x) = (rows ++ [x]).flatMap cl ++ rest.drop z := by
  unfold ovr
  have hl := rec_len hz rows
  rw [List.take_append_of_le_length (by omega), List.take_of_length_le (by omega), List.drop_append, List.drop_eq_nil_of_le (by rw [hl]; omega), hl, hz]
  simp
/-- rows that are read at a block's number or above -/
def RdF (h : Hp) (lo : Nat) (A : Option Addr) (cs : List Value) : Prop := ∀ (j : Nat) v, cs[j]? = some v → ∃ b o, A = some ⟨b, o, none⟩ ∧ lo ≤ b ∧ hcell h b (o + j) = some v
theorem RdF.rd {h : Hp} {lo : Nat} {A : Option Addr} {cs : List Value} (r : RdF h lo A cs) : Rd h A cs := fun j v e => by
  obtain ⟨b, o, e1, _, e2⟩ := r j v e
  exact ⟨b, o, e1, e2⟩
theorem RdF.ext {h h' : Hp} (x : Ext h h') {lo : Nat} {A : Option Addr} {cs : List Value} (r : RdF h lo A cs) : RdF h' lo A cs := fun j v e => by
  obtain ⟨b, o, e1, e0, e2⟩ := r j v e
  exact ⟨b, o, e1, e0, x.cell e2⟩
theorem RdF.upd {h h' : Hp} {lo bb : Nat} {x : Obj} {A : Option Addr} {cs : List Value} (r : RdF h lo A cs) (u : Upd h bb x h') (hb : bb < lo) : RdF h' lo A cs := fun j v e => by
  obtain ⟨b, o, e1, e0, e2⟩ := r j v e
  exact ⟨b, o, e1, e0, (hcell_of (u.else_ b (by omega)) _).trans e2⟩
theorem RdF.mono {h : Hp} {lo lo' : Nat} {A : Option Addr} {cs : List Value} (r : RdF h lo A cs) (hl : lo' ≤ lo) : RdF h lo' A cs := fun j v e => by
  obtain ⟨b, o, e1, e0, e2⟩ := r j v e
  exact ⟨b, o, e1, Nat.le_trans hl e0, e2⟩
theorem Sep.rdf {h0 h : Hp} {L : List Asn} (s : Sep h0 h L) (i : Nat) {T : TypeId} {A : Option Addr} {n c : Nat} {vs : List Value} (hi : L[i]? = some (Sl T A n c vs)) : RdF h h0.size A vs := by
  obtain ⟨S, a, hS⟩ := s.get (List.mem_of_getElem? hi)
  obtain ⟨h1, h2, h3⟩ := a
  intro j v hj
  have hjl := (List.getElem?_eq_some_iff.mp hj).1
  rcases h3 with h3 | ⟨b, pre, rest, e, hb, hc, _⟩
  · omega
  · refine ⟨b, pre.length, e, (hS b hb).1, ?_⟩
    rw [hcell_lit hc, List.getElem?_append_right (by omega), Nat.add_sub_cancel_left, List.getElem?_append_left hjl, hj]
theorem mkCells_len' (zs : List Value) (n : Nat) : (mkCells zs n).length = n * zs.length := mkCells_len zs n
theorem RdS.rows {R : Type} {cl : R → List Value} {h : Hp} {e : Sh} {Q : R → Prop} (hr : ∀ r, r.length = e.size → RdS h e r → ∃ x, r = cl x ∧ Q x) : ∀ (rows : List (List Value)), (∀ r ∈ rows, r.length = e.size ∧ RdS h e r) → ∃ xs : List R, rows.flatten = xs.flatMap cl ∧ xs.length = rows.length ∧ ∀ x ∈ xs, Q x
  | [], _ => ⟨[], rfl, rfl, fun x hx => by cases hx⟩
  | r :: rs, hh => by
    obtain ⟨xs, e1, e2, e3⟩ := RdS.rows (Q := Q) hr rs (fun x hx => hh x (by simp [hx]))
    obtain ⟨a, b⟩ := hh r (by simp)
    obtain ⟨x, e4, e5⟩ := hr r a b
    refine ⟨x :: xs, by rw [List.flatten_cons, List.flatMap_cons, e1, e4], by simp [e2], fun y hy => ?_⟩
    rcases List.mem_cons.mp hy with rfl | hy
    · exact e5
    · exact e3 y hy
/-- whole numbers out of a shape -/
theorem RdS.nums {h : Hp} {k : IntKind} {A : Option Addr} {n c : Nat} (r : RdS h (.sl (.int k)) [.slice A n c]) : ∃ l : List Int, Rd h A (ints k l) ∧ l.length = n ∧ n ≤ c ∧ c ≤ maxLen ∧ ∀ x ∈ l, (Lit.int k x).wf = true := by
  obtain ⟨A', n', c', e, h1, h2, rows, r1, r2, r3⟩ := r
  simp only [List.cons.injEq, Value.slice.injEq, and_true] at e
  obtain ⟨rfl, rfl, rfl⟩ := e
  obtain ⟨xs, e1, e2, e3⟩ := RdS.rows (cl := fun x : Int => [Value.int k x]) (Q := fun x => (Lit.int k x).wf = true) (fun r hl hr => by
    obtain ⟨x, rfl, hw⟩ := hr
    exact ⟨x, rfl, hw⟩) rows r3
  refine ⟨xs, ?_, by omega, h1, h2, e3⟩
  rw [e1] at r2
  have : xs.flatMap (fun x : Int => [Value.int k x]) = ints k xs := by
    clear r2 e1 e2 e3
    induction xs with
    | nil => rfl
    | cons x xs ih => rw [List.flatMap_cons, ih]; rfl
  rwa [this] at r2
end Go.Proofs.YtjggmhpjlnmigaaDoor
