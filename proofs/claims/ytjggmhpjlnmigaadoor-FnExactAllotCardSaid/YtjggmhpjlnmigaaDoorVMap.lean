/- Maps from whole numbers, as one piece each. -/
import Derived.Test.YtjggmhpjlnmigaaDoorVIr2
namespace Go.Proofs.YtjggmhpjlnmigaaDoor
open Go.RowKit
set_option linter.unusedSimpArgs false
set_option linter.unusedVariables false
structure MapI (es : Array MapEntry) (c : Nat) (g : Int → Option Value) : Prop where
  st : MapKept.Stamped es c
  ky : ∀ x ∈ es.toList, ∃ k : Int, x.key = .int .i64 k ∧ g k = some x.val
  of : ∀ (k : Int) v, g k = some v → ∃ x ∈ es.toList, x.key = .int .i64 k
def MapP (r : Nat) (g : Int → Option Value) : Asn := ⟨fun h S => S r ∧ ∃ es c, h[r]? = some (.map es c) ∧ MapI es c g, fun ⟨a, es, c, e1, m⟩ e => ⟨a, es, c, (e _ a).trans e1, m⟩⟩
theorem MapI.empty : MapI #[] 0 (fun _ => none) := ⟨MapKept.stamped_empty 0, fun x hx => by simp at hx, fun k v h => by cases h⟩
theorem Sep.mapNew {h0 h : Hp} {L : List Asn} {r : Nat} (s : Sep h0 h (Pt r (.map #[] 0) :: L)) : Sep h0 h (MapP r (fun _ => none) :: L) := s.weaken fun S a => ⟨a.1, _, _, a.2, MapI.empty⟩
theorem EvLook.mp {P : Program} {h0 h : Hp} {L : List Asn} {F : Asn → List Asn} {kt : TypeId} {z : Value} {r : Nat} {key : Int} {g : Int → Option Value} {K : Value → Bool → Prop} (s : Sep h0 h L) (p : Spot (MapP r g) L F) (ht : P.underlying kt = some (.int .i64))
    (k0 : g key = none → K z false) (k1 : ∀ v, g key = some v → K v true) : EvLook P kt z h r (.int .i64 key) K := by
  obtain ⟨i, hi, _⟩ := p.idx
  obtain ⟨T, ⟨_, es, c, e1, m⟩, _⟩ := s.get (List.mem_of_getElem? hi)
  refine ⟨es, c, .int .i64, e1, ht, rfl, fun x hx => ?_, fun hn => ?_, fun x hx hk => ?_⟩
  · obtain ⟨k, hk, _⟩ := m.ky x hx
    rw [hk]
    rfl
  · refine k0 ?_
    cases hg : g key with
    | none => rfl
    | some v =>
      obtain ⟨x, hx, hk⟩ := m.of key v hg
      exact absurd hk (hn x hx)
  · refine k1 x.val ?_
    obtain ⟨k, hk', hg⟩ := m.ky x hx
    rw [hk] at hk'
    cases hk'
    exact hg
theorem MapI.put {es : Array MapEntry} {c : Nat} {g : Int → Option Value} (m : MapI es c g) (key : Int) (v : Value) : 
    ((∀ x ∈ es.toList, x.key ≠ .int .i64 key) → MapI (es.push { key := .int .i64 key, val := v, born := c }) (c + 1) (fun q => if q = key then some v else g q)) ∧
    ∀ (j : Nat) e, es[j]? = some e → e.key = .int .i64 key → MapI (es.modify j fun e => { e with key := .int .i64 key, val := v }) c (fun q => if q = key then some v else g q) := by
  constructor
  · intro hn
    refine ⟨MapKept.stamped_push m.st hn, fun x hx => ?_, fun k w hk => ?_⟩
    · simp only [Array.toList_push, List.mem_append, List.mem_singleton] at hx
      rcases hx with hx | rfl
      · obtain ⟨k, e1, e2⟩ := m.ky x hx
        refine ⟨k, e1, ?_⟩
        have : k ≠ key := fun e => hn x hx (by rw [e1, e])
        simp only [this, if_false]
        exact e2
      · exact ⟨key, rfl, by simp⟩
    · by_cases e : k = key
      · exact ⟨_, by simp only [Array.toList_push, List.mem_append, List.mem_singleton]; exact .inr rfl, by rw [e]⟩
      · simp only [e, if_false] at hk
        obtain ⟨x, hx, hk⟩ := m.of k w hk
        exact ⟨x, by simp only [Array.toList_push, List.mem_append]; exact .inl hx, hk⟩
  · intro j e hj hk
    have hkeys : (es.modify j fun e => { e with key := .int .i64 key, val := v }).toList.map (·.key) = es.toList.map (·.key) := MapKept.modify_keys j _ (fun e' he' => by rw [hj] at he'; cases he'; exact hk.symm)
    have hget : ∀ i, (es.modify j fun e => { e with key := .int .i64 key, val := v })[i]? = if j = i then es[i]?.map (fun e => { e with key := .int .i64 key, val := v }) else es[i]? := fun i => by
      rw [Array.getElem?_modify]
    refine ⟨?_, fun x hx => ?_, fun k w hk' => ?_⟩
    · exact MapKept.stamped_modify m.st j _ (fun _ _ => rfl) (fun e' _ he' => by rw [hj] at he'; cases he'; exact hk.symm)
    · obtain ⟨i, hi⟩ := List.getElem?_of_mem hx
      rw [Array.getElem?_toList, hget] at hi
      split at hi
      · rename_i eji
        subst eji
        rw [hj] at hi
        cases hi
        exact ⟨key, rfl, by simp⟩
      · rename_i hne
        have hx' : x ∈ es.toList := by rw [← Array.getElem?_toList] at hi; exact List.mem_of_getElem? hi
        obtain ⟨k, e1, e2⟩ := m.ky x hx'
        refine ⟨k, e1, ?_⟩
        have : k ≠ key := by
          intro ek
          subst ek
          have hp := ((MapKept.stamped_iff es c).mp m.st).2.2
          rw [List.pairwise_iff_getElem] at hp
          have hj' : es.toList[j]? = some e := by rw [Array.getElem?_toList]; exact hj
          have hi' : es.toList[i]? = some x := by rw [Array.getElem?_toList]; exact hi
          obtain ⟨a1, a2⟩ := List.getElem?_eq_some_iff.mp hj'
          obtain ⟨b1, b2⟩ := List.getElem?_eq_some_iff.mp hi'
          rcases Nat.lt_or_gt_of_ne hne with hl | hl
          · exact hp j i a1 b1 hl (by rw [a2, b2, hk, e1])
          · exact hp i j b1 a1 hl (by rw [a2, b2, hk, e1])
        simp only [this, if_false]
        exact e2
    · have : (.int .i64 k : Value) ∈ es.toList.map (·.key) := by
        by_cases ek : k = key
        · subst ek
          rw [← hk]
          exact List.mem_map.mpr ⟨e, by rw [← Array.getElem?_toList] at hj; exact List.mem_of_getElem? hj, rfl⟩
        · simp only [ek, if_false] at hk'
          obtain ⟨x, hx, hxk⟩ := m.of k w hk'
          exact List.mem_map.mpr ⟨x, hx, hxk⟩
      rw [← hkeys] at this
      obtain ⟨x, hx, hxk⟩ := List.mem_map.mp this
      exact ⟨x, hx, hxk⟩
/-- a piece of one block turned -/
theorem Sep.turn1 {h0 h h' : Hp} {L : List Asn} {F : Asn → List Asn} {A B : Asn} {r : Nat} {o : Obj} (s : Sep h0 h L) (p : Spot A L F) (hA : ∀ S, A.at_ h S → S r) (u : Upd h r o h') (hB : ∀ S, A.at_ h S → B.at_ h' S) : Sep h0 h' (F B) := by
  obtain ⟨i, hi, e⟩ := p.idx
  rw [← e]
  refine Sep.unfront (Sep.turn (s.front i hi) (fun S a => ⟨S, hB S a, fun b hb => .inl hb, fun b _ hb => u.else_ b (fun e => hb (e ▸ hA S a))⟩) (by rw [u.size]; exact Nat.le_refl _)) (List.getElem?_eq_some_iff.mp hi).1
theorem EvPut.mp {P : Program} {h0 h : Hp} {L : List Asn} {F : Asn → List Asn} {kt : TypeId} {r : Nat} {key : Int} {v : Value} {g : Int → Option Value} {K : Hp → Prop} (s : Sep h0 h L) (p : Spot (MapP r g) L F) (ht : P.underlying kt = some (.int .i64))
    (k : ∀ h', Sep h0 h' (F (MapP r (fun q => if q = key then some v else g q))) → K h') : EvPut P kt h r (.int .i64 key) v K := by
  obtain ⟨i, hi, _⟩ := p.idx
  obtain ⟨T, ⟨_, es, c, e1, m⟩, _⟩ := s.get (List.mem_of_getElem? hi)
  have mp := m.put key v
  refine ⟨es, c, .int .i64, e1, ht, rfl, fun x hx => ?_, fun hn h' u => k h' ?_, fun j e hj hk h' u => k h' ?_⟩
  · obtain ⟨k, hk, _⟩ := m.ky x hx
    rw [hk]
    rfl
  · exact s.turn1 p (fun S a => a.1) u (fun S a => ⟨a.1, _, _, u.at_, mp.1 hn⟩)
  · exact s.turn1 p (fun S a => a.1) u (fun S a => ⟨a.1, _, _, u.at_, mp.2 j e hj hk⟩)
end Go.Proofs.YtjggmhpjlnmigaaDoor
