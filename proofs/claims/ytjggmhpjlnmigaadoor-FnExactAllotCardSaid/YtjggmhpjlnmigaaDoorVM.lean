/- Memory for walks: what a heap holds, told in pieces that lie apart. -/
import Derived.Test.YtjggmhpjlnmigaaDoorVC
namespace Go.Proofs.YtjggmhpjlnmigaaDoor
open Go.RowKit
set_option linter.unusedVariables false
set_option linter.unusedSimpArgs false

theorem EvIf.tt {A B : Prop} (a : A) : EvIf true A B := ⟨fun _ => a, fun e => by cases e⟩
theorem EvIf.ff {A B : Prop} (b : B) : EvIf false A B := ⟨fun e => (by cases e), fun _ => b⟩
/-- h' has all that h has -/
structure Ext (h h' : Hp) : Prop where
  size : h.size ≤ h'.size
  old : ∀ b, b < h.size → h'[b]? = h[b]?
theorem Ext.refl (h : Hp) : Ext h h := ⟨Nat.le_refl _, fun _ _ => rfl⟩
theorem Ext.trans {a b c : Hp} (x : Ext a b) (y : Ext b c) : Ext a c := ⟨Nat.le_trans x.size y.size, fun k hk => (y.old k (Nat.lt_of_lt_of_le hk x.size)).trans (x.old k hk)⟩
theorem Ext.push (h : Hp) (o : Obj) : Ext h (h.push o) := ⟨by simp, fun b hb => by rw [Array.getElem?_push, if_neg (by omega)]⟩
theorem blk_lt {h : Hp} {b : Nat} {o : Obj} (e : h[b]? = some o) : b < h.size := (Array.getElem?_eq_some_iff.mp e).1
theorem Ext.blk {h h' : Hp} (x : Ext h h') {b : Nat} {o : Obj} (e : h[b]? = some o) : h'[b]? = some o := (x.old b (blk_lt e)).trans e
theorem hcell_lt {h : Hp} {b o : Nat} {v : Value} (e : hcell h b o = some v) : b < h.size := by
  unfold hcell at e
  cases hb : h[b]? with
  | none => simp [hb] at e
  | some x => exact blk_lt hb
theorem hcell_of {h h' : Hp} {b : Nat} (e : h'[b]? = h[b]?) (o : Nat) : hcell h' b o = hcell h b o := by unfold hcell; rw [e]
theorem Ext.cell {h h' : Hp} (x : Ext h h') {b o : Nat} {v : Value} (e : hcell h b o = some v) : hcell h' b o = some v := (hcell_of (x.old b (hcell_lt e)) o).trans e
theorem hcell_blk {h : Hp} {b : Nat} {c : Array Value} {T : TypeId} {z : Nat × Nat} (e : h[b]? = some (.cells c T z)) (o : Nat) : hcell h b o = c[o]? := by simp [hcell, e]
theorem hcell_lit {h : Hp} {b : Nat} {l : List Value} {T : TypeId} {z : Nat × Nat} (e : h[b]? = some (.cells l.toArray T z)) (o : Nat) : hcell h b o = l[o]? := by rw [hcell_blk e]; simp

/-! ### pieces -/
abbrev Foot := Nat → Prop
structure Asn where
  at_ : Hp → Foot → Prop
  loc : ∀ {h h' : Hp} {S : Foot}, at_ h S → (∀ b, S b → h'[b]? = h[b]?) → at_ h' S
/-- a block -/
def Pt (b : Nat) (o : Obj) : Asn := ⟨fun h S => S b ∧ h[b]? = some o, fun a e => ⟨a.1, (e _ a.1).trans a.2⟩⟩
/-- a block of cells of the call's own -/
abbrev Bx (b : Nat) (l : List Value) (T : TypeId) : Asn := Pt b (.cells l.toArray T (0, 0))
def sepL : List Asn → Hp → Foot → Prop
  | [], _, _ => True
  | A :: L, h, S => ∃ S1 S2, A.at_ h S1 ∧ sepL L h S2 ∧ (∀ b, S1 b → ¬ S2 b) ∧ (∀ b, S1 b → S b) ∧ (∀ b, S2 b → S b)
theorem sepL_loc : ∀ {L : List Asn} {h h' : Hp} {S : Foot}, sepL L h S → (∀ b, S b → h'[b]? = h[b]?) → sepL L h' S
  | [], _, _, _, _, _ => trivial
  | A :: L, h, h', S, ⟨S1, S2, a, r, d, s1, s2⟩, e => ⟨S1, S2, A.loc a (fun b hb => e b (s1 b hb)), sepL_loc r (fun b hb => e b (s2 b hb)), d, s1, s2⟩
theorem sepL_sub : ∀ {L : List Asn} {h : Hp} {S S' : Foot}, sepL L h S → (∀ b, S b → S' b) → sepL L h S'
  | [], _, _, _, _, _ => trivial
  | A :: L, h, S, S', ⟨S1, S2, a, r, d, s1, s2⟩, e => ⟨S1, S2, a, r, d, fun b hb => e b (s1 b hb), fun b hb => e b (s2 b hb)⟩
/-- h comes of h0: what h0 had is as it was, and above it lie the pieces of L, apart -/
def Sep (h0 h : Hp) (L : List Asn) : Prop := Ext h0 h ∧ ∃ S : Foot, (∀ b, S b → h0.size ≤ b ∧ b < h.size) ∧ sepL L h S
theorem Sep.nil (h : Hp) : Sep h h [] := ⟨Ext.refl h, fun _ => False, fun _ f => f.elim, trivial⟩
theorem Sep.of_ext {h h' : Hp} (x : Ext h h') : Sep h h' [] := ⟨x, fun _ => False, fun _ f => f.elim, trivial⟩
theorem Sep.ext {h0 h h' : Hp} {L : List Asn} (s : Sep h0 h L) (x : Ext h h') : Sep h0 h' L := by
  obtain ⟨e, S, hS, r⟩ := s
  exact ⟨e.trans x, S, fun b hb => ⟨(hS b hb).1, Nat.lt_of_lt_of_le (hS b hb).2 x.size⟩, sepL_loc r (fun b hb => x.old b (hS b hb).2)⟩
theorem Sep.join {h0 h h' : Hp} {L M : List Asn} (s : Sep h0 h L) (t : Sep h h' M) : Sep h0 h' (M ++ L) := by
  obtain ⟨e, S, hS, r⟩ := s
  obtain ⟨x, S', hS', r'⟩ := t
  have r := sepL_loc r (fun b hb => x.old b (hS b hb).2)
  have key : ∀ {M : List Asn} {T : Foot}, sepL M h' T → (∀ b, T b → h.size ≤ b) → sepL (M ++ L) h' (fun b => T b ∨ S b) := by
    intro M
    induction M with
    | nil => exact fun _ _ => sepL_sub r (fun b hb => .inr hb)
    | cons A M ih =>
      intro T ⟨S1, S2, a, q, d, s1, s2⟩ hT
      refine ⟨S1, fun b => S2 b ∨ S b, a, ih q (fun b hb => hT b (s2 b hb)), ?_, fun b hb => .inl (s1 b hb), ?_⟩
      · rintro b hb (h2 | h2)
        · exact d b hb h2
        · have h3 := hT b (s1 b hb)
          have h4 := (hS b h2).2
          omega
      · rintro b (h2 | h2)
        · exact .inl (s2 b h2)
        · exact .inr h2
  refine ⟨e.trans x, fun b => S' b ∨ S b, ?_, key r' (fun b hb => (hS' b hb).1)⟩
  have h1 := e.size
  have h2 := x.size
  rintro b (hb | hb)
  · exact ⟨Nat.le_trans h1 (hS' b hb).1, (hS' b hb).2⟩
  · exact ⟨(hS b hb).1, Nat.lt_of_lt_of_le (hS b hb).2 h2⟩
theorem Sep.one {h h' : Hp} {A : Asn} {S : Foot} (a : A.at_ h' S) (hS : ∀ b, S b → h.size ≤ b ∧ b < h'.size) (x : Ext h h') : Sep h h' [A] :=
  ⟨x, S, hS, S, fun _ => False, a, trivial, fun _ _ f => f, fun _ hb => hb, fun _ f => f.elim⟩
theorem Sep.push {h0 h : Hp} {L : List Asn} (s : Sep h0 h L) (o : Obj) : Sep h0 (h.push o) (Pt h.size o :: L) :=
  s.join (Sep.one (A := Pt h.size o) (S := fun b => b = h.size) ⟨rfl, by simp⟩ (fun b hb => by subst hb; simp) (Ext.push h o))
theorem sepL_get : ∀ {L : List Asn} {h : Hp} {S : Foot} {A : Asn}, sepL L h S → A ∈ L → ∃ T, A.at_ h T ∧ ∀ b, T b → S b
  | B :: L, h, S, A, ⟨S1, S2, a, r, d, s1, s2⟩, hm => by
    rcases List.mem_cons.mp hm with rfl | hm
    · exact ⟨S1, a, s1⟩
    · obtain ⟨T, t1, t2⟩ := sepL_get r hm
      exact ⟨T, t1, fun b hb => s2 b (t2 b hb)⟩
theorem Sep.get {h0 h : Hp} {L : List Asn} (s : Sep h0 h L) {A : Asn} (hm : A ∈ L) : ∃ T, A.at_ h T ∧ ∀ b, T b → h0.size ≤ b ∧ b < h.size := by
  obtain ⟨e, S, hS, r⟩ := s
  obtain ⟨T, t1, t2⟩ := sepL_get r hm
  exact ⟨T, t1, fun b hb => hS b (t2 b hb)⟩
theorem Sep.pt {h0 h : Hp} {L : List Asn} (s : Sep h0 h L) {b : Nat} {o : Obj} (hm : Pt b o ∈ L) : h[b]? = some o := by
  obtain ⟨T, t1, _⟩ := s.get hm
  exact t1.2
theorem Sep.pt_i {h0 h : Hp} {L : List Asn} (s : Sep h0 h L) (i : Nat) {b : Nat} {o : Obj} (hm : L[i]? = some (Pt b o)) : h[b]? = some o := s.pt (List.mem_of_getElem? hm)
theorem Sep.cell {h0 h : Hp} {L : List Asn} (s : Sep h0 h L) (i : Nat) {b : Nat} {l : List Value} {T : TypeId} (hm : L[i]? = some (Bx b l T)) {o : Nat} {v : Value} (hv : l[o]? = some v) : hcell h b o = some v := by
  rw [hcell_lit (s.pt_i i hm), hv]
theorem sepL_upd : ∀ {L : List Asn} {h h' : Hp} {S : Foot} {i b : Nat} {o o' : Obj}, sepL L h S → L[i]? = some (Pt b o) → Upd h b o' h' → sepL (L.set i (Pt b o')) h' S ∧ S b
  | A :: L, h, h', S, 0, b, o, o', ⟨S1, S2, a, r, d, s1, s2⟩, hi, u => by
    simp only [List.getElem?_cons_zero, Option.some.injEq] at hi
    subst hi
    refine ⟨⟨S1, S2, ⟨a.1, u.at_⟩, sepL_loc r (fun k hk => u.else_ k (fun e => d b a.1 (e ▸ hk))), d, s1, s2⟩, s1 b a.1⟩
  | A :: L, h, h', S, i + 1, b, o, o', ⟨S1, S2, a, r, d, s1, s2⟩, hi, u => by
    simp only [List.getElem?_cons_succ] at hi
    obtain ⟨q, hb⟩ := sepL_upd r hi u
    exact ⟨⟨S1, S2, A.loc a (fun k hk => u.else_ k (fun e => d k hk (e ▸ hb))), q, d, s1, s2⟩, s2 b hb⟩
/-- a store into a block of the call's own -/
theorem Sep.upd {h0 h h' : Hp} {L : List Asn} (s : Sep h0 h L) (i : Nat) {b : Nat} {o o' : Obj} (hi : L[i]? = some (Pt b o)) (u : Upd h b o' h') : Sep h0 h' (L.set i (Pt b o')) := by
  obtain ⟨e, S, hS, r⟩ := s
  obtain ⟨q, hb⟩ := sepL_upd r hi u
  have hb0 := (hS b hb).1
  refine ⟨⟨by rw [u.size]; exact e.size, fun k hk => (u.else_ k (by omega)).trans (e.old k hk)⟩, S, fun k hk => by rw [u.size]; exact hS k hk, q⟩
theorem sepL_swap {A B : Asn} {L : List Asn} {h : Hp} {S : Foot} (r : sepL (A :: B :: L) h S) : sepL (B :: A :: L) h S := by
  obtain ⟨S1, S2, a, ⟨T1, T2, b, q, d', t1, t2⟩, d, s1, s2⟩ := r
  refine ⟨T1, fun k => S1 k ∨ T2 k, b, ⟨S1, T2, a, q, fun k hk e => d k hk (t2 k e), fun k hk => .inl hk, fun k hk => .inr hk⟩, ?_, fun k hk => s2 k (t1 k hk), ?_⟩
  · rintro k hk (e | e)
    · exact d k e (t1 k hk)
    · exact d' k hk e
  · rintro k (e | e)
    · exact s1 k e
    · exact s2 k (t2 k e)
theorem sepL_front : ∀ {L : List Asn} {h : Hp} {S : Foot} {i : Nat} {A : Asn}, sepL L h S → L[i]? = some A → sepL (A :: L.eraseIdx i) h S
  | B :: L, h, S, 0, A, r, hi => by
    simp only [List.getElem?_cons_zero, Option.some.injEq] at hi
    subst hi
    exact r
  | B :: L, h, S, i + 1, A, ⟨S1, S2, a, r, d, s1, s2⟩, hi => by
    simp only [List.getElem?_cons_succ] at hi
    exact sepL_swap ⟨S1, S2, a, sepL_front r hi, d, s1, s2⟩
/-- the i-th piece taken to the front -/
theorem Sep.front {h0 h : Hp} {L : List Asn} (s : Sep h0 h L) (i : Nat) {A : Asn} (hi : L[i]? = some A) : Sep h0 h (A :: L.eraseIdx i) := by
  obtain ⟨e, S, hS, r⟩ := s
  exact ⟨e, S, hS, sepL_front r hi⟩
theorem Sep.tail {h0 h : Hp} {L : List Asn} {A : Asn} (s : Sep h0 h (A :: L)) : Sep h0 h L := by
  obtain ⟨e, S, hS, S1, S2, _, r, _, _, s2⟩ := s
  exact ⟨e, S2, fun b hb => hS b (s2 b hb), r⟩
/-- the piece at the front turned -/
theorem Sep.turn {h0 h h' : Hp} {L : List Asn} {A B : Asn} (s : Sep h0 h (A :: L))
    (t : ∀ S, A.at_ h S → ∃ S', B.at_ h' S' ∧ (∀ b, S' b → S b ∨ (h.size ≤ b ∧ b < h'.size)) ∧ (∀ b, b < h.size → ¬ S b → h'[b]? = h[b]?)) (hs : h.size ≤ h'.size) : Sep h0 h' (B :: L) := by
  obtain ⟨e, S, hS, S1, S2, a, r, d, s1, s2⟩ := s
  obtain ⟨S', b', c1, c2⟩ := t S1 a
  have e0 := e.size
  refine ⟨⟨by omega, fun k hk => (c2 k (by omega) (fun f => by have := (hS k (s1 k f)).1; omega)).trans (e.old k hk)⟩, fun k => S' k ∨ S2 k, ?_, S', S2, b', sepL_loc r (fun k hk => c2 k (hS k (s2 k hk)).2 (fun f => d k f hk)), ?_, fun k hk => .inl hk, fun k hk => .inr hk⟩
  · rintro k (hk | hk)
    · rcases c1 k hk with h1 | h1
      · exact ⟨(hS k (s1 k h1)).1, Nat.lt_of_lt_of_le (hS k (s1 k h1)).2 hs⟩
      · omega
    · exact ⟨(hS k (s2 k hk)).1, Nat.lt_of_lt_of_le (hS k (s2 k hk)).2 hs⟩
  · intro k hk h2
    rcases c1 k hk with h1 | h1
    · exact d k h1 h2
    · have := (hS k (s2 k h2)).2; omega
theorem Sep.weaken {h0 h : Hp} {L : List Asn} {A B : Asn} (s : Sep h0 h (A :: L)) (t : ∀ S, A.at_ h S → B.at_ h S) : Sep h0 h (B :: L) :=
  s.turn (fun S a => ⟨S, t S a, fun _ hb => .inl hb, fun _ _ _ => rfl⟩) (Nat.le_refl _)
theorem Sep.to_ext {h0 h : Hp} {L : List Asn} (s : Sep h0 h L) : Ext h0 h := s.1

/-! ### events at the call's own blocks -/
theorem EvNew.sep {h0 h : Hp} {L : List Asn} {o : Obj} {K : Nat → Hp → Prop} (s : Sep h0 h L) (k : ∀ b h', Sep h0 h' (Pt b o :: L) → Ext h h' → K b h') : EvNew h o K := ⟨k _ _ (s.push o) (Ext.push h o)⟩
theorem EvIdx.lit {b o : Nat} {i : Int} {n : Nat} {K : Nat → Nat → Prop} (h0 : 0 ≤ i) (h1 : i < n) (k : K b o) : EvIdx (some ⟨b, o, none⟩) i n K := ⟨b, o, rfl, h0, h1, k⟩
theorem EvLd.at_ {h : Hp} {b o : Nat} {K : Value → Prop} {v : Value} (hc : hcell h b o = some v) (k : K v) : EvLd h b o K := ⟨v, hc, k⟩
theorem EvLd.blk {h : Hp} {b o : Nat} {K : Value → Prop} {l : List Value} {T : TypeId} {z : Nat × Nat} {v : Value} (e : h[b]? = some (.cells l.toArray T z)) (hv : l[o]? = some v) (k : K v) : EvLd h b o K := ⟨v, by rw [hcell_lit e, hv], k⟩
theorem EvLdN.blk {h : Hp} {b o n : Nat} {K : List Value → Prop} {l : List Value} {T : TypeId} {z : Nat × Nat} (e : h[b]? = some (.cells l.toArray T z)) (k : dropK o l fun r => takeK n r K) : EvLdN h b o n K := by
  obtain ⟨h1, k⟩ := dropK_ok k
  obtain ⟨h2, k⟩ := takeK_ok k
  refine ⟨_, by simp at h2 ⊢; omega, fun j v hj => ?_, k⟩
  rw [hcell_lit e]
  have hlt : j < n := by
    have := (List.getElem?_eq_some_iff.mp hj).1
    simp at this
    omega
  rw [List.getElem?_take_of_lt hlt, List.getElem?_drop] at hj
  exact hj
theorem EvSt.blk {h0 h : Hp} {L : List Asn} {b o i : Nat} {vs l : List Value} {T : TypeId} {K : Hp → Prop} (s : Sep h0 h L) (hi : L[i]? = some (Bx b l T))
    (k : putK l o vs fun l' => ∀ h', Sep h0 h' (L.set i (Bx b l' T)) → Upd h b (.cells l'.toArray T (0, 0)) h' → K h') : EvSt h b o vs K := by
  obtain ⟨h1, k⟩ := putK_ok k
  refine ⟨l.toArray, T, s.pt_i i hi, by simpa using h1, fun h' u => k h' ?_ ?_⟩
  · exact s.upd i hi u
  · exact u
theorem EvKeep.one {h h' : Hp} {b o : Nat} {A : Prop} {v : Value} (h1 : hcell h b o = some v) (h2 : hcell h' b o = some v) (a : A) : EvKeep h h' b o 1 A :=
  ⟨fun j hj => by obtain rfl : j = 0 := by omega
                  simp only [Nat.add_zero]; rw [h1, h2], a⟩
theorem EvKeep.ext {h h' : Hp} {b o n : Nat} {A : Prop} (x : Ext h h') (hb : b < h.size) (a : A) : EvKeep h h' b o n A := ⟨fun j _ => hcell_of (x.old b hb) _, a⟩
theorem EvKeep.upd {h h' : Hp} {b b' o n : Nat} {x : Obj} {A : Prop} (u : Upd h b' x h') (hb : b ≠ b') (a : A) : EvKeep h h' b o n A := ⟨fun j _ => hcell_of (u.else_ b hb) _, a⟩
theorem EvLd.nth {h : Hp} {b o : Nat} {K : Value → Prop} {l : List Value} {T : TypeId} {z : Nat × Nat} (e : h[b]? = some (.cells l.toArray T z)) (k : nthK o l fun v => hcell h b o = some v → K v) : EvLd h b o K := by
  obtain ⟨v, hv, k⟩ := nthK_ok k
  exact EvLd.blk e hv (k (by rw [hcell_lit e, hv]))
theorem EvKeep.nth {h h' : Hp} {b o : Nat} {A : Prop} {l : List Value} {T : TypeId} {z : Nat × Nat} (e : h'[b]? = some (.cells l.toArray T z)) (k : nthK o l fun v => hcell h b o = some v ∧ (hcell h' b o = some v → A)) : EvKeep h h' b o 1 A := by
  obtain ⟨v, hv, k⟩ := nthK_ok k
  have h2 : hcell h' b o = some v := by rw [hcell_lit e, hv]
  exact EvKeep.one k.1 h2 (k.2 h2)
/-- a piece among pieces, and the pieces with another in its place -/
inductive Spot (A : Asn) : List Asn → (Asn → List Asn) → Prop
  | h {L : List Asn} : Spot A (A :: L) (fun X => X :: L)
  | t {B : Asn} {L : List Asn} {F : Asn → List Asn} (r : Spot A L F) : Spot A (B :: L) (fun X => B :: F X)
theorem Spot.idx {A : Asn} {L : List Asn} {F : Asn → List Asn} (p : Spot A L F) : ∃ i, L[i]? = some A ∧ ∀ X, L.set i X = F X := by
  induction p with
  | h => exact ⟨0, rfl, fun _ => rfl⟩
  | t r ih =>
    obtain ⟨i, a, b⟩ := ih
    exact ⟨i + 1, by simpa using a, fun X => by rw [List.set_cons_succ, b]⟩
theorem EvLd.q {h0 h : Hp} {L : List Asn} {F : Asn → List Asn} {b o : Nat} {l : List Value} {T : TypeId} {K : Value → Prop} (s : Sep h0 h L) (p : Spot (Bx b l T) L F) (k : nthK o l fun v => hcell h b o = some v → K v) : EvLd h b o K := by
  obtain ⟨i, hi, _⟩ := p.idx
  exact EvLd.nth (s.pt_i i hi) k
theorem EvLdN.q {h0 h : Hp} {L : List Asn} {F : Asn → List Asn} {b o n : Nat} {l : List Value} {T : TypeId} {K : List Value → Prop} (s : Sep h0 h L) (p : Spot (Bx b l T) L F) (k : h[b]? = some (.cells l.toArray T (0, 0)) → dropK o l fun r => takeK n r K) : EvLdN h b o n K := by
  obtain ⟨i, hi, _⟩ := p.idx
  exact EvLdN.blk (s.pt_i i hi) (k (s.pt_i i hi))
theorem EvSt.q {h0 h : Hp} {L : List Asn} {F : Asn → List Asn} {b o : Nat} {vs l : List Value} {T : TypeId} {K : Hp → Prop} (s : Sep h0 h L) (p : Spot (Bx b l T) L F) (k : putK l o vs fun l' => ∀ h', Sep h0 h' (F (Bx b l' T)) → Upd h b (.cells l'.toArray T (0, 0)) h' → K h') : EvSt h b o vs K := by
  obtain ⟨i, hi, e⟩ := p.idx
  obtain ⟨h1, k⟩ := putK_ok k
  refine ⟨l.toArray, T, s.pt_i i hi, by simpa using h1, fun h' u => k h' ?_ ?_⟩
  · rw [← e]; exact s.upd i hi u
  · exact u
theorem EvKeep.cq {h0 h h' : Hp} {L : List Asn} {F : Asn → List Asn} {b o : Nat} {l : List Value} {T : TypeId} {A : Prop} (s : Sep h0 h' L) (p : Spot (Bx b l T) L F) (k : nthK o l fun v => hcell h b o = some v ∧ (hcell h' b o = some v → A)) : EvKeep h h' b o 1 A := by
  obtain ⟨i, hi, _⟩ := p.idx
  exact EvKeep.nth (s.pt_i i hi) k
theorem EvKeep.nq {h0 h h' : Hp} {L : List Asn} {F : Asn → List Asn} {b o n : Nat} {l : List Value} {T : TypeId} {A : Prop} (s : Sep h0 h' L) (p : Spot (Bx b l T) L F) (h1 : h[b]? = some (.cells l.toArray T (0, 0))) (a : h'[b]? = some (.cells l.toArray T (0, 0)) → A) : EvKeep h h' b o n A := by
  obtain ⟨i, hi, _⟩ := p.idx
  exact ⟨fun j _ => hcell_of ((s.pt_i i hi).trans h1.symm) _, a (s.pt_i i hi)⟩
/-- a test's answer, read -/
theorem cs_ : (∀ (p : Prop) [Decidable p], (decide p = true) = p) ∧ (∀ (p : Prop) [Decidable p], (decide p = false) = ¬p) ∧ (∀ a b : Int, (a == b) = true ↔ a = b) ∧ (∀ a b : Int, (a == b) = false ↔ a ≠ b) ∧ (∀ a b : Int, (a != b) = true ↔ a ≠ b) ∧ (∀ a b : Int, (a != b) = false ↔ a = b)
    ∧ (∀ a b : List UInt8, (a == b) = true ↔ a = b) ∧ (∀ a b : List UInt8, (a == b) = false ↔ a ≠ b) ∧ (∀ a b : Bool, (a == b) = true ↔ a = b) ∧ (∀ a b : Bool, (a == b) = false ↔ a ≠ b) ∧ (∀ a b : Bool, (a != b) = true ↔ a ≠ b) ∧ (∀ a b : Bool, (a != b) = false ↔ a = b)
    ∧ (∀ b : Bool, ((!b) = true) = (b = false)) ∧ (∀ b : Bool, ((!b) = false) = (b = true)) ∧ (∀ a b : Int, ¬a < b ↔ b ≤ a) ∧ (∀ a b : Int, ¬a ≤ b ↔ b < a) ∧ (∀ a b : Int, a ≥ b ↔ b ≤ a) ∧ (∀ a b : Int, a > b ↔ b < a) ∧ (∀ (A : Type) (a b : A), (a ≠ b) = ¬(a = b)) := by
  refine ⟨?_, ?_, ?_, ?_, ?_, ?_, ?_, ?_, ?_, ?_, ?_, ?_, ?_, ?_, ?_, ?_, ?_, ?_, ?_⟩ <;> intros <;> simp <;> omega
/-! ### loops: what the loop does not turn stays in the frame -/
def keepF (mods : List Nat) (lim : Nat) : List Nat → Fr → Fr
  | _, [] => []
  | seen, (t, v) :: r => match Nat.blt t lim && !memN t mods && !memN t seen with
    | true => (t, v) :: keepF mods lim (t :: seen) r
    | false => keepF mods lim seen r
theorem keepF_ok {f : Fr} {mods : List Nat} {lim : Nat} : ∀ {g : Fr} {seen : List Nat}, (∀ t v, t ∉ seen → t ∉ mods → t < lim → g.get t = some v → f.get t = some v) → SubK f (keepF mods lim seen g)
  | [], _, _ => trivial
  | (t, v) :: r, seen, hh => by
    simp only [keepF]
    cases hb : Nat.blt t lim && !memN t mods && !memN t seen with
    | true =>
      simp only [Bool.and_eq_true, Bool.not_eq_true'] at hb
      obtain ⟨⟨h1, h2⟩, h3⟩ := hb
      have h2 : t ∉ mods := fun e => by rw [memN_ok.mpr e] at h2; cases h2
      have h3 : t ∉ seen := fun e => by rw [memN_ok.mpr e] at h3; cases h3
      have h1 : t < lim := Nat.le_of_ble_eq_true h1
      refine ⟨hh t v h3 h2 h1 (by rw [Fr.get_cons, if_pos rfl]), keepF_ok (fun t' v' a b c d => ?_)⟩
      simp only [List.mem_cons, not_or] at a
      exact hh t' v' a.2 b c (by rw [Fr.get_cons, if_neg (fun e => a.1 e.symm)]; exact d)
    | false =>
      refine keepF_ok (fun t' v' a b c d => hh t' v' a b c ?_)
      rw [Fr.get_cons, if_neg]
      · exact d
      · intro e
        subst e
        simp only [Bool.and_eq_false_iff, Bool.not_eq_false'] at hb
        rcases hb with (h1 | h1) | h1
        · have : Nat.blt t lim = true := Nat.ble_eq_true_of_le c
          rw [this] at h1
          cases h1
        · exact b (memN_ok.mp h1)
        · exact a (memN_ok.mp h1)
theorem SubK.app {f : Fr} : ∀ {g k : Fr}, SubK f g → SubK f k → SubK f (g ++ k)
  | [], _, _, b => b
  | (_, _) :: _, _, a, b => ⟨a.1, SubK.app a.2 b⟩
theorem EvLoop.keep {P : Program} {n : Nat} {c : Code} {K : Exit → Fr → Hp → Prop} {f : Fr} {h : Hp} (ml : List Nat × Nat) {α : Type} (G : α → Fr) (I : α → Hp → Prop) (μ : α → Nat) (x0 : α) (hF : SubK f (G x0)) (h0 : I x0 h)
    (round : ∀ x h, I x h → VC P n c (fun e f' h' => match e with | .normal => ∃ x', SubK f' (G x' ++ keepF ml.1 ml.2 [] f) ∧ I x' h' ∧ μ x' < μ x | e => K e f' h') (G x ++ keepF ml.1 ml.2 [] f) h) : EvLoop P n c K f h :=
  EvLoop.rule (fun x => G x ++ keepF ml.1 ml.2 [] f) I μ x0 (hF.app (keepF_ok fun _ _ _ _ _ e => e)) h0 round
theorem EvLoop.keepcut {P : Program} {n : Nat} {c : Code} {K : Exit → Fr → Hp → Prop} {f : Fr} {h : Hp} (id : Nat) (ml : List Nat × Nat) {α β : Type} (G : α → Fr) (I : α → Hp → Prop) (μ : α → Nat) (L : β → Fr) (J : β → Hp → Prop) (x0 : α) (hF : SubK f (G x0)) (h0 : I x0 h)
    (round : ∀ x h, I x h → VC P n c (fun e f' h' => match e with
      | .normal => ∃ x', SubK f' (G x' ++ keepF ml.1 ml.2 [] f) ∧ I x' h' ∧ μ x' < μ x
      | .exit i => match Nat.beq i id with
        | true => ∃ y, SubK f' (L y ++ keepF ml.1 ml.2 [] f) ∧ J y h'
        | false => K (.exit i) f' h'
      | e => K e f' h') (G x ++ keepF ml.1 ml.2 [] f) h)
    (rest : ∀ y h, J y h → K (.exit id) (L y ++ keepF ml.1 ml.2 [] f) h) : EvLoop P n c K f h :=
  EvLoop.cut id (fun x => G x ++ keepF ml.1 ml.2 [] f) I μ (fun y => L y ++ keepF ml.1 ml.2 [] f) J x0 (hF.app (keepF_ok fun _ _ _ _ _ e => e)) h0 round rest
theorem EvSeq.keepcut {P : Program} {n : Nat} {x y : Code} {K : Exit → Fr → Hp → Prop} {f : Fr} {h : Hp} (ml : List Nat × Nat) {α : Type} (G : α → Fr) (I : α → Hp → Prop)
    (h1 : VC P n x (fun e f' h' => match e with | .normal => ∃ x, SubK f' (G x ++ keepF ml.1 ml.2 [] f) ∧ I x h' | e => K e f' h') f h)
    (h2 : ∀ x h, I x h → VC P n y K (G x ++ keepF ml.1 ml.2 [] f) h) : EvSeq P n x y K f h :=
  EvSeq.cut (fun x => G x ++ keepF ml.1 ml.2 [] f) I h1 h2
/-! ### rows that are read -/
def Rd (h : Hp) (a : Option Addr) (cs : List Value) : Prop := ∀ (j : Nat) v, cs[j]? = some v → ∃ b o, a = some ⟨b, o, none⟩ ∧ hcell h b (o + j) = some v
theorem Rd.ext {h h' : Hp} (x : Ext h h') {a : Option Addr} {cs : List Value} (r : Rd h a cs) : Rd h' a cs := fun j v e => by
  obtain ⟨b, o, e1, e2⟩ := r j v e
  exact ⟨b, o, e1, x.cell e2⟩
abbrev ints (k : IntKind) (l : List Int) : List Value := l.map (.int k)
theorem Rd.int {h : Hp} {a : Option Addr} {k : IntKind} {l : List Int} (hr : Rd h a (ints k l)) (i : Nat) (hi : i < l.length) : ∃ b o, a = some ⟨b, o, none⟩ ∧ hcell h b (o + i) = some (.int k l[i]) := by
  refine hr i _ ?_
  simp [hi]
theorem Rd.nil (h : Hp) (a : Option Addr) : Rd h a [] := fun j v e => by simp at e
theorem i64w (x : Int) (h0 : -9223372036854775808 ≤ x) (h1 : x ≤ 9223372036854775807) : IntKind.i64.wrap x = x := IntWalk.i64_in _ (by omega)
end Go.Proofs.YtjggmhpjlnmigaaDoor
