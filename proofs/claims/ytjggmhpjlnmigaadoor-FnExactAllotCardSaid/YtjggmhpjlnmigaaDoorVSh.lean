/- What a law's arguments are to the calculus, of any shape that is built of numbers, truths, texts, rows and structs. -/
import Derived.Test.YtjggmhpjlnmigaaDoorVM
import Derived.OpenShut
import Derived.ChangeArms
import Derived.DataReads
import Derived.WideShapes
namespace Go.Proofs.YtjggmhpjlnmigaaDoor
open Go.RowKit Go.WideShapes
set_option linter.unusedVariables false
inductive Sh where
  | int (k : IntKind)
  | bool
  | str
  | sl (e : Sh)
  | nil
  | cons (f r : Sh)
def Sh.size : Sh → Nat
  | .nil => 0
  | .cons f r => f.size + r.size
  | _ => 1
/-- cells that read as a shape -/
def RdS (h : Hp) : Sh → List Value → Prop
  | .int k, cs => ∃ n, cs = [.int k n] ∧ (Lit.int k n).wf = true
  | .bool, cs => ∃ b, cs = [.bool b]
  | .str, cs => ∃ s : ByteArray, cs = [.string s] ∧ s.size ≤ maxLen
  | .sl e, cs => ∃ A n c, cs = [.slice A n c] ∧ n ≤ c ∧ c ≤ maxLen ∧ ∃ rows : List (List Value), rows.length = n ∧ Rd h A rows.flatten ∧ ∀ r ∈ rows, r.length = e.size ∧ RdS h e r
  | .nil, cs => cs = []
  | .cons f r, cs => ∃ a b, cs = a ++ b ∧ a.length = f.size ∧ RdS h f a ∧ RdS h r b
theorem RdS.ext {h h' : Hp} (x : Ext h h') : ∀ {s : Sh} {cs : List Value}, RdS h s cs → RdS h' s cs
  | .int _, _, a => a
  | .bool, _, a => a
  | .str, _, a => a
  | .sl e, _, ⟨A, n, c, e1, e2, e3, rows, r1, r2, r3⟩ => ⟨A, n, c, e1, e2, e3, rows, r1, r2.ext x, fun r hr => ⟨(r3 r hr).1, RdS.ext x (r3 r hr).2⟩⟩
  | .nil, _, a => a
  | .cons f r, _, ⟨a, b, e1, e2, e3, e4⟩ => ⟨a, b, e1, e2, RdS.ext x e3, RdS.ext x e4⟩
/-- a type's shape, by a look -/
def okT (P : Program) : Sh → Sum TypeId (List Field × Nat) → Bool
  | .int k, .inl t => match P.underlying t with
    | some (.int k') => decide (k' = k)
    | _ => false
  | .bool, .inl t => match P.underlying t with
    | some .bool => true
    | _ => false
  | .str, .inl t => match P.underlying t with
    | some .string => true
    | _ => false
  | .sl e, .inl t => match P.underlying t with
    | some (.slice u) => decide (P.cellsOf u = e.size) && decide (e.size ≠ 0) && okT P e (.inl u)
    | _ => false
  | .nil, .inl _ => false
  | .nil, .inr (fs, _) => fs.isEmpty
  | .cons s r, .inl t => match P.underlying t with
    | some (.struct fs) => decide (P.cellsOf t = s.size + r.size) && match fs.toList with
      | f :: fs => decide (f.offset = 0) && decide (P.cellsOf f.type = s.size) && okT P s (.inl f.type) && okT P r (.inr (fs, s.size))
      | [] => false
    | _ => false
  | .cons s r, .inr (f :: fs, o) => decide (f.offset = o) && decide (P.cellsOf f.type = s.size) && okT P s (.inl f.type) && okT P r (.inr (fs, o + s.size))
  | _, _ => false
theorem flat_get {sz : Nat} : ∀ (rows : List (List Value)), (∀ r ∈ rows, r.length = sz) → ∀ (j : Nat) v, rows.flatten[j]? = some v → ∃ (i k : Nat) (r : List Value), rows[i]? = some r ∧ r[k]? = some v ∧ j = i * sz + k
  | [], _, j, v, h => by simp at h
  | r :: rs, hz, j, v, h => by
    have hr := hz r (by simp)
    rw [List.flatten_cons, List.getElem?_append] at h
    split at h
    · exact ⟨0, j, r, rfl, h, by omega⟩
    · obtain ⟨i, k, r', h1, h2, h3⟩ := flat_get rs (fun x hx => hz x (by simp [hx])) _ v h
      refine ⟨i + 1, k, r', by simpa using h1, h2, ?_⟩
      rw [Nat.succ_mul]
      omega
theorem all_some {α β : Type} {f : Nat → Option α} {Q : Nat → α → Prop} (hf : ∀ i x, f i = some x → Q i x) : ∀ (n : Nat), (∀ i, i < n → ∃ x, f i = some x) → ∃ l : List α, l.length = n ∧ ∀ (i : Nat) x, l[i]? = some x → f i = some x
  | 0, _ => ⟨[], rfl, fun i x h => by simp at h⟩
  | n + 1, h => by
    obtain ⟨l, h1, h2⟩ := all_some (β := β) hf n (fun i hi => h i (by omega))
    obtain ⟨x, hx⟩ := h n (by omega)
    refine ⟨l ++ [x], by simp [h1], fun i y hy => ?_⟩
    rw [List.getElem?_append] at hy
    split at hy
    · exact h2 i y hy
    · have : i = n := by
        have := (List.getElem?_eq_some_iff.mp hy).1
        simp at this
        omega
      subst this
      simp [h1] at hy
      rw [← hy]; exact hx
section
variable {H : Type} {enc : TypeId × Value → H} {P : Program} {w : World} {base : Nat} {spare : Nat → Bool} {held : Bool}
theorem rds_of : ∀ (s : Sh), (∀ (t n : Nat) cs y, okT P s (.inl t) = true → DataW.trod enc P w base spare held n t cs = some y → cs.length = s.size ∧ RdS w.heap s cs) ∧
    (∀ (fs : List Field) (o n : Nat) (cs : List Value), okT P s (.inr (fs, o)) = true → cs.length = o + s.size → (∀ f ∈ fs, ∃ y, DataW.trod enc P w base spare held n f.type ((cs.drop f.offset).take (P.cellsOf f.type)) = some y) → RdS w.heap s (cs.drop o)) := by
  intro s
  induction s with
  | int k =>
    refine ⟨fun t n cs y hk h => ?_, fun fs o n cs hk => by cases hk⟩
    simp only [okT] at hk
    split at hk
    · rename_i k' hu
      simp only [decide_eq_true_eq] at hk
      subst hk
      obtain ⟨x, rfl, _, hw⟩ := DataW.trod_int hu h
      exact ⟨rfl, x, rfl, hw⟩
    · cases hk
  | bool =>
    refine ⟨fun t n cs y hk h => ?_, fun fs o n cs hk => by cases hk⟩
    simp only [okT] at hk
    split at hk
    · rename_i hu
      obtain ⟨x, rfl, _⟩ := DataW.trod_bool hu h
      exact ⟨rfl, x, rfl⟩
    · cases hk
  | str =>
    refine ⟨fun t n cs y hk h => ?_, fun fs o n cs hk => by cases hk⟩
    simp only [okT] at hk
    split at hk
    · rename_i hu
      obtain ⟨x, rfl, _, hw⟩ := DataW.trod_string hu h
      exact ⟨rfl, x, rfl, hw⟩
    · cases hk
  | sl e ih =>
    refine ⟨fun t n cs y hk h => ?_, fun fs o n cs hk => by cases hk⟩
    simp only [okT] at hk
    split at hk
    · rename_i u hu
      simp only [Bool.and_eq_true, decide_eq_true_eq] at hk
      obtain ⟨⟨hc, hz⟩, hk⟩ := hk
      rcases DataW.trod_slice hu h with ⟨rfl, _⟩ | ⟨a, len, cap, elems, rest, m, _, rfl, _, hb, hl, hm, hlen, hel, _⟩
      · exact ⟨rfl, none, 0, 0, rfl, Nat.le_refl _, Nat.zero_le _, [], rfl, Rd.nil _ _, fun r hr => by cases hr⟩
      · rw [hc] at hel
        have hex : ∀ i, i < len → ∃ r, w.cells? base (a.add (i * e.size)) e.size = some r ∧ ∃ y, DataW.trod enc P w base spare held m u r = some y := by
          intro i hi
          have := hel i hi
          rw [List.getElem?_eq_getElem (by omega)] at this
          cases hcs : w.cells? base (a.add (i * e.size)) e.size with
          | none => rw [hcs] at this; cases this
          | some r => rw [hcs] at this; exact ⟨r, rfl, _, this⟩
        obtain ⟨rows, r1, r2⟩ := all_some (β := Nat) (f := fun i => w.cells? base (a.add (i * e.size)) e.size) (Q := fun _ _ => True) (fun _ _ _ => trivial) len (fun i hi => ⟨_, (hex i hi).choose_spec.1⟩)
        have r3 : ∀ r ∈ rows, r.length = e.size ∧ RdS w.heap e r := by
          intro r hr
          obtain ⟨i, hi, rfl⟩ := List.mem_iff_getElem.mp hr
          have e1 := r2 i _ (List.getElem?_eq_getElem hi)
          obtain ⟨r', h1, y', h2⟩ := hex i (by omega)
          rw [e1] at h1
          cases h1
          exact ih.1 u m _ y' hk h2
        refine ⟨rfl, some a, len, cap, rfl, hl, hm, rows, r1, ?_, r3⟩
        intro j v hj
        obtain ⟨i, k, r, h1, h2, h3⟩ := flat_get rows (fun r hr => (r3 r hr).1) j v hj
        have e1 := r2 i r h1
        obtain ⟨_, hl', hcell⟩ := World.cells?_some e1
        have hk' : k < e.size := by
          have := (List.getElem?_eq_some_iff.mp h2).1
          omega
        have h0r : 0 < rows.length := by
          have := (List.getElem?_eq_some_iff.mp h1).1
          omega
        obtain ⟨r0, e0⟩ : ∃ r0, rows[0]? = some r0 := ⟨_, List.getElem?_eq_getElem h0r⟩
        obtain ⟨_, hl0, hcell0⟩ := World.cells?_some (r2 0 r0 e0)
        have hc0 := hcell0 0 (by omega)
        rw [List.getElem?_eq_getElem (by omega)] at hc0
        obtain ⟨b, o, sp⟩ := a
        cases sp with
        | some t' =>
          exfalso
          unfold World.cell? Addr.add at hc0
          simp at hc0
          split at hc0 <;> simp at hc0
        | none =>
          refine ⟨b, o, rfl, ?_⟩
          have hc := hcell k hk'
          have ea : ((⟨b, o, none⟩ : Addr).add (i * e.size)).add k = (⟨b, o, none⟩ : Addr).add j := by
            rw [h3]
            unfold Addr.add
            by_cases c1 : i * e.size = 0 <;> by_cases c2 : k = 0 <;> simp [c1, c2] <;> omega
          rw [ea, cell_add, h2] at hc
          exact hc
    · cases hk
  | nil =>
    refine ⟨fun t n cs y hk => (by cases hk), fun fs o n cs hk hl _ => ?_⟩
    simp only [Sh.size, Nat.add_zero] at hl
    show cs.drop o = []
    rw [List.drop_eq_nil_iff]
    omega
  | cons s r ihs ihr =>
    have step : ∀ (f : Field) (fs : List Field) (o n : Nat) (cs : List Value), f.offset = o → P.cellsOf f.type = s.size → okT P s (.inl f.type) = true → okT P r (.inr (fs, o + s.size)) = true → cs.length = o + (s.size + r.size) → (∀ g ∈ f :: fs, ∃ y, DataW.trod enc P w base spare held n g.type ((cs.drop g.offset).take (P.cellsOf g.type)) = some y) → RdS w.heap (.cons s r) (cs.drop o) := by
      intro f fs o n cs ho hc hs hr hl hf
      obtain ⟨y, hy⟩ := hf f (by simp)
      rw [ho, hc] at hy
      have h1 := ihs.1 _ _ _ _ hs hy
      refine ⟨(cs.drop o).take s.size, (cs.drop o).drop s.size, (List.take_append_drop _ _).symm, h1.1, h1.2, ?_⟩
      rw [List.drop_drop]
      exact ihr.2 fs _ n cs hr (by omega) (fun g hg => hf g (by simp [hg]))
    refine ⟨fun t n cs y hk h => ?_, fun fs o n cs hk hl hf => ?_⟩
    · simp only [okT] at hk
      split at hk
      · rename_i fs hu
        simp only [Bool.and_eq_true, decide_eq_true_eq] at hk
        obtain ⟨hct, hk⟩ := hk
        split at hk
        · rename_i f fs' hfs
          simp only [Bool.and_eq_true, decide_eq_true_eq] at hk
          obtain ⟨⟨⟨h0, h1⟩, h2⟩, h3⟩ := hk
          obtain ⟨xs, m, _, _, hl, hxl, hg⟩ := DataW.trod_struct hu h
          refine ⟨by rw [hl, hct]; rfl, ?_⟩
          have := step f fs' 0 m cs h0 h1 h2 (by simpa using h3) (by rw [hl, hct]; simp) ?_
          · simpa using this
          · intro g hg'
            rw [← hfs] at hg'
            obtain ⟨i, hi, rfl⟩ := List.mem_iff_getElem.mp hg'
            have e1 := hg i _ (by rw [← Array.getElem?_toList, List.getElem?_eq_getElem hi])
            rw [List.getElem?_eq_getElem (by rw [hxl]; simpa using hi)] at e1
            exact ⟨_, e1⟩
        · cases hk
      · cases hk
    · cases fs with
      | nil => cases hk
      | cons f fs =>
        simp only [okT, Bool.and_eq_true, decide_eq_true_eq] at hk
        obtain ⟨⟨⟨h0, h1⟩, h2⟩, h3⟩ := hk
        exact step f fs o n cs h0 h1 h2 h3 hl hf
/-- an argument that reads as a shape -/
def RdA (h : Hp) (s : Sh) (v : Value) : Prop :=
  match s with
  | .cons f r => ∃ l : List Value, v = .agg l.toArray ∧ RdS h (.cons f r) l
  | s => RdS h s [v]
theorem rda_of {r : Reach} {b0 : Nat} {s : Sh} {t : TypeId} {v : Value} {d : DataW H} {p : List MemPlace} (hk : okT P s (.inl t) = true) (hv : Value.okWide P w r b0 t v) (h : DataW.Trod enc P w base spare held t v d p) : RdA w.heap s v := by
  obtain ⟨fuel, hf⟩ := h
  have hr := ((rds_of s).1 t fuel _ _ hk hf).2
  cases s with
  | cons f r' =>
    simp only [okT] at hk
    split at hk
    · rename_i fs hu
      obtain ⟨cs, rfl, _⟩ := okWide_struct hu hv
      obtain ⟨l⟩ := cs
      exact ⟨l, rfl, hr⟩
    · cases hk
  | nil => cases hk
  | int k =>
    simp only [okT] at hk
    split at hk
    · rename_i hu
      obtain ⟨n, rfl⟩ := okWide_int hu hv
      exact hr
    · cases hk
  | bool =>
    simp only [okT] at hk
    split at hk
    · rename_i hu
      obtain ⟨n, rfl⟩ := okWide_bool hu hv
      exact hr
    · cases hk
  | str =>
    simp only [okT] at hk
    split at hk
    · rename_i hu
      obtain ⟨n, rfl⟩ := okWide_string hu hv
      exact hr
    · cases hk
  | sl e =>
    simp only [okT] at hk
    split at hk
    · rename_i hu
      obtain ⟨a, n, c, rfl⟩ := okWide_slice hu hv
      exact hr
    · cases hk
end
end Go.Proofs.YtjggmhpjlnmigaaDoor
