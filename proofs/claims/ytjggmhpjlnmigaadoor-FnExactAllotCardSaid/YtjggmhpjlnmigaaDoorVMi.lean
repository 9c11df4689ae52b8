/- Maps from whole numbers: a round through their entries, with some struck out. -/
import Derived.Test.YtjggmhpjlnmigaaDoorVMap
namespace Go.Proofs.YtjggmhpjlnmigaaDoor
open Go.RowKit
set_option linter.unusedSimpArgs false
set_option linter.unusedVariables false
structure ItI (h : Hp) (rm rit : Nat) (g : Int → Option Value) (N : Nat) (ok : Int → Prop) (es : Array MapEntry) (c : Nat) (seen : Array Nat) : Prop where
  m : h[rm]? = some (.map es c)
  i : h[rit]? = some (.mapIter (some rm) c seen c)
  g : MapI es c g
  n : (leftE es seen).size ≤ N
  k : ∀ x ∈ es.toList, x.born ∈ seen → ∀ q, x.key = .int .i64 q → ok q
theorem ItI.loc {h h' : Hp} {rm rit : Nat} {g : Int → Option Value} {N : Nat} {ok : Int → Prop} {es : Array MapEntry} {c : Nat} {seen : Array Nat} (a : ItI h rm rit g N ok es c seen) (e1 : h'[rm]? = h[rm]?) (e2 : h'[rit]? = h[rit]?) : ItI h' rm rit g N ok es c seen :=
  ⟨e1.trans a.m, e2.trans a.i, a.g, a.n, a.k⟩
/-- a map and a round through it; what has been seen and is still there is 'ok' -/
def MapIt (rm rit : Nat) (g : Int → Option Value) (N : Nat) (ok : Int → Prop) : Asn := ⟨fun h S => S rm ∧ S rit ∧ ∃ es c seen, ItI h rm rit g N ok es c seen, fun ⟨a, b, es, c, seen, x⟩ e => ⟨a, b, es, c, seen, x.loc (e _ a) (e _ b)⟩⟩
/-- the round stands at the entry of key q -/
def MapEn (rm rit : Nat) (g : Int → Option Value) (N : Nat) (ok : Int → Prop) (q : Int) (v : Value) : Asn := ⟨fun h S => S rm ∧ S rit ∧ ∃ es c seen, ∃ e : MapEntry, ItI h rm rit g N (fun p => p = q ∨ ok p) es c (Array.push seen e.born) ∧ e ∈ es.toList ∧ e.key = .int .i64 q ∧ e.val = v,
  fun ⟨a, b, es, c, seen, x, r, t⟩ e => ⟨a, b, es, c, seen, x, r.loc (e _ a) (e _ b), t⟩⟩
theorem Sep.fuse {h0 h : Hp} {L : List Asn} {A B C : Asn} (s : Sep h0 h (A :: B :: L)) (t : ∀ S T, A.at_ h S → B.at_ h T → C.at_ h (fun b => S b ∨ T b)) : Sep h0 h (C :: L) := by
  obtain ⟨e, S, hS, S1, S2, a, ⟨T1, T2, b, r, d2, t1, t2⟩, d, s1, s2⟩ := s
  refine ⟨e, S, hS, fun k => S1 k ∨ T1 k, T2, t _ _ a b, r, ?_, ?_, fun k hk => s2 k (t2 k hk)⟩
  · rintro k (hk | hk)
    · exact fun h => d k hk (t2 k h)
    · exact d2 k hk
  · rintro k (hk | hk)
    · exact s1 k hk
    · exact s2 k (t1 k hk)
theorem Sep.weakenq {h0 h : Hp} {L : List Asn} {F : Asn → List Asn} {A B : Asn} (s : Sep h0 h L) (p : Spot A L F) (t : ∀ S, A.at_ h S → B.at_ h S) : Sep h0 h (F B) := by
  obtain ⟨i, hi, e⟩ := p.idx
  rw [← e]
  exact Sep.unfront ((s.front i hi).weaken t) (List.getElem?_eq_some_iff.mp hi).1
theorem EvRange.mp {h0 h : Hp} {L : List Asn} {m : Nat} {g : Int → Option Value} {K : Nat → Hp → Prop} (ok : Int → Prop) (s : Sep h0 h L) (i : Nat) (hi : L[i]? = some (MapP m g))
    (k : ∀ b h' N, Sep h0 h' (MapIt m b g N ok :: L.eraseIdx i) → K b h') : EvRange h m K := by
  have s1 := s.front i hi
  obtain ⟨T, ⟨_, es, c, e1, mi⟩, _⟩ := s1.get List.mem_cons_self
  refine ⟨es, c, e1, EvNew.sep s1 fun b h' s2 x => k b h' (leftE es #[]).size (s2.fuse fun S T a t => ?_)⟩
  obtain ⟨tm, es', c', e2, mi'⟩ := t
  have e3 : h'[m]? = some (.map es c) := x.blk e1
  rw [e3] at e2
  cases e2
  exact ⟨.inr tm, .inl a.1, es, c, #[], e3, a.2, mi', Nat.le_refl _, fun y _ hy => by simp at hy⟩
theorem flt_size {α : Type} (p : α → Bool) (xs : Array α) : (xs.filter p).size = (xs.toList.filter p).length := by
  rw [← Array.toList_filter]
  exact Array.length_toList.symm
theorem leftE_push {es : Array MapEntry} {seen : Array Nat} {e : MapEntry} (he : e ∈ (leftE es seen).toList) : (leftE es (seen.push e.born)).size < (leftE es seen).size := by
  have e1 : leftE es (seen.push e.born) = (leftE es seen).filter (fun x => !(x.born == e.born)) := by
    unfold leftE
    rw [Array.filter_filter]
    congr 1
    funext x
    simp only [Array.contains_push, Bool.not_or]
    rw [Bool.and_comm]
  rw [e1, flt_size, ← Array.length_toList]
  refine List.length_filter_lt_length_iff_exists.mpr ⟨e, he, by simp⟩
theorem MapI.uniq {es : Array MapEntry} {c : Nat} {g : Int → Option Value} (m : MapI es c g) {x y : MapEntry} (hx : x ∈ es.toList) (hy : y ∈ es.toList) (hk : x.key = y.key ∨ x.born = y.born) : x = y := by
  obtain ⟨_, h2, h3⟩ := (MapKept.stamped_iff es c).mp m.st
  obtain ⟨i, hi⟩ := List.getElem?_of_mem hx
  obtain ⟨j, hj⟩ := List.getElem?_of_mem hy
  obtain ⟨a1, a2⟩ := List.getElem?_eq_some_iff.mp hi
  obtain ⟨b1, b2⟩ := List.getElem?_eq_some_iff.mp hj
  rw [List.pairwise_iff_getElem] at h3
  have h2 := List.pairwise_iff_getElem.mp h2
  rcases Nat.lt_trichotomy i j with h | h | h
  · rcases hk with hk | hk
    · exact absurd (by rw [a2, b2]; exact hk) (h3 i j a1 b1 h)
    · exact absurd (by rw [List.getElem_map, List.getElem_map, a2, b2]; exact hk) (h2 i j (by simpa using a1) (by simpa using b1) h)
  · subst h
    rw [← a2, ← b2]
  · rcases hk with hk | hk
    · exact absurd (by rw [a2, b2]; exact hk.symm) (h3 j i b1 a1 h)
    · exact absurd (by rw [List.getElem_map, List.getElem_map, a2, b2]; exact hk.symm) (h2 j i (by simpa using b1) (by simpa using a1) h)
theorem rm_ne {h : Hp} {rm rit : Nat} {es : Array MapEntry} {c s l : Nat} {o : Option Nat} {seen : Array Nat} (a : h[rm]? = some (.map es c)) (b : h[rit]? = some (.mapIter o s seen l)) : rm ≠ rit := by
  intro e
  subst e
  rw [a] at b
  cases b
theorem EvNext.mp {h0 h : Hp} {L : List Asn} {F : Asn → List Asn} {rm rit N : Nat} {g : Int → Option Value} {ok : Int → Prop} {K : Value → Hp → Prop} (s : Sep h0 h L) (p : Spot (MapIt rm rit g N ok) L F)
    (k0 : (∀ q v, g q = some v → ok q) → K (.tuple #[.bool false]) h) (k1 : ∀ N' q v h', N' < N → g q = some v → Sep h0 h' (F (MapEn rm rit g N' ok q v)) → K (.tuple #[.bool true, .int .i64 q, v]) h') : EvNext h rit K := by
  obtain ⟨i, hi, _⟩ := p.idx
  obtain ⟨T, ⟨_, _, es, c, seen, a⟩, _⟩ := s.get (List.mem_of_getElem? hi)
  have st := (MapKept.stamped_iff es c).mp a.g.st
  refine ⟨rm, c, seen, c, es, c, a.i, a.m, st.1, Nat.le_refl _, fun hz => k0 fun q v hv => ?_, fun e he h' u => ?_⟩
  · obtain ⟨x, hx, hk⟩ := a.g.of q v hv
    refine a.k x hx ?_ q hk
    have hz2 : leftE es seen = #[] := Array.size_eq_zero_iff.mp hz
    have : x ∉ leftE es seen := by rw [hz2]; simp
    unfold leftE at this
    rw [Array.mem_filter] at this
    have hx2 : x ∈ es := Array.mem_toList_iff.mp hx
    simp only [not_and, Bool.not_eq_true', Bool.not_eq_false] at this
    simpa using this hx2
  · have hees : e ∈ es.toList := by
      unfold leftE at he
      rw [Array.toList_filter] at he
      exact (List.mem_filter.mp he).1
    obtain ⟨q, hq, hg⟩ := a.g.ky e hees
    rw [hq]
    refine k1 (leftE es (seen.push e.born)).size q e.val h' (Nat.lt_of_lt_of_le (leftE_push he) a.n) hg ?_
    refine s.turn1 p (fun S b => b.2.1) u fun S b => ⟨b.1, b.2.1, es, c, seen, e, ⟨(u.else_ rm (rm_ne a.m a.i)).trans a.m, u.at_, a.g, Nat.le_refl _, fun x hx hb r hr => ?_⟩, hees, hq, rfl⟩
    rcases Array.mem_push.mp hb with hb | hb
    · exact .inr (a.k x hx hb r hr)
    · obtain rfl := a.g.uniq hx hees (.inr hb)
      rw [hq] at hr
      cases hr
      exact .inl rfl
theorem EvEnt.mp {h0 h : Hp} {L : List Asn} {F : Asn → List Asn} {rm rit N : Nat} {g : Int → Option Value} {ok : Int → Prop} {q : Int} {v : Value} {K : Value → Prop} (s : Sep h0 h L) (p : Spot (MapEn rm rit g N ok q v) L F)
    (k : K (.tuple #[.int .i64 q, v])) : EvEnt h rit K := by
  obtain ⟨i, hi, _⟩ := p.idx
  obtain ⟨T, ⟨_, _, es, c, seen, e, a, he, hk, hv⟩, _⟩ := s.get (List.mem_of_getElem? hi)
  refine ⟨rm, c, seen, c, es, e, a.i, a.m, he, ((MapKept.stamped_iff es c).mp a.g.st).2.1, ?_⟩
  rw [hk, hv]
  exact k
/-- the entry stays -/
theorem Sep.enStay {h0 h : Hp} {L : List Asn} {F : Asn → List Asn} {rm rit N : Nat} {g : Int → Option Value} {ok : Int → Prop} {q : Int} {v : Value} (s : Sep h0 h L) (p : Spot (MapEn rm rit g N ok q v) L F) (hq : ok q) : Sep h0 h (F (MapIt rm rit g N ok)) :=
  s.weakenq p fun S ⟨a, b, es, c, seen, e, r, _⟩ => ⟨a, b, es, c, seen.push e.born, r.m, r.i, r.g, r.n, fun x hx hb z hz => (r.k x hx hb z hz).elim (fun h => h ▸ hq) id⟩
/-- the round is over -/
theorem Sep.itOver {h0 h : Hp} {L : List Asn} {F : Asn → List Asn} {rm rit N : Nat} {g : Int → Option Value} {ok : Int → Prop} (s : Sep h0 h L) (p : Spot (MapIt rm rit g N ok) L F) : Sep h0 h (F (MapP rm g)) :=
  s.weakenq p fun S ⟨a, b, es, c, seen, r⟩ => ⟨a, es, c, r.m, r.g⟩
theorem EvDel.mp {P : Program} {h0 h : Hp} {L : List Asn} {F : Asn → List Asn} {kt : TypeId} {rm rit N : Nat} {g : Int → Option Value} {ok : Int → Prop} {q : Int} {v : Value} {K : Hp → Prop} (s : Sep h0 h L) (p : Spot (MapEn rm rit g N ok q v) L F) (ht : P.underlying kt = some (.int .i64))
    (k : ∀ h', Sep h0 h' (F (MapIt rm rit (fun z => if z = q then none else g z) N ok)) → K h') : EvDel P kt h rm (.int .i64 q) K := by
  obtain ⟨i, hi, _⟩ := p.idx
  obtain ⟨T, ⟨_, _, es, c, seen, e, a, he, hk, hv⟩, _⟩ := s.get (List.mem_of_getElem? hi)
  refine ⟨es, c, .int .i64, a.m, ht, rfl, fun x hx => ?_, fun hn => absurd hk (hn e he), fun j e' hj hk' h' u => k h' ?_⟩
  · obtain ⟨r, hr, _⟩ := a.g.ky x hx
    rw [hr]
    rfl
  · have hj' : es.toList[j]? = some e' := by rw [Array.getElem?_toList]; exact hj
    have hee : e' = e := a.g.uniq (List.mem_of_getElem? hj') he (.inl (hk'.trans hk.symm))
    have hlt : j < es.size := (Array.getElem?_eq_some_iff.mp hj).1
    have hl : (es.eraseIdxIfInBounds j).toList = es.toList.eraseIdx j := by simp [Array.toList_eraseIdxIfInBounds]
    have hmem : ∀ x, x ∈ (es.eraseIdxIfInBounds j).toList → x ∈ es.toList ∧ x.key ≠ .int .i64 q := fun x hx => by
      rw [hl] at hx
      obtain ⟨t, ht, hxt⟩ := List.mem_eraseIdx_iff_getElem?.mp hx
      refine ⟨List.mem_of_getElem? hxt, fun hxk => ?_⟩
      have hst := ((MapKept.stamped_iff es c).mp a.g.st).2.2
      rw [List.pairwise_iff_getElem] at hst
      obtain ⟨a1, a2⟩ := List.getElem?_eq_some_iff.mp hxt
      obtain ⟨b1, b2⟩ := List.getElem?_eq_some_iff.mp hj'
      rcases Nat.lt_or_gt_of_ne ht with h1 | h1
      · exact hst t j a1 b1 h1 (by rw [a2, b2, hxk, hk'])
      · exact hst j t b1 a1 h1 (by rw [a2, b2, hxk, hk'])
    refine s.turn1 p (fun S b => b.1) u fun S b => ⟨b.1, b.2.1, es.eraseIdxIfInBounds j, c, seen.push e.born, u.at_, (u.else_ rit (Ne.symm (rm_ne a.m a.i))).trans a.i, ⟨MapKept.stamped_erase a.g.st j, fun x hx => ?_, fun z w hz => ?_⟩, ?_, fun x hx hb z hz => ?_⟩
    · obtain ⟨h1, h2⟩ := hmem x hx
      obtain ⟨r, hr, hg⟩ := a.g.ky x h1
      refine ⟨r, hr, ?_⟩
      have : r ≠ q := fun e => h2 (by rw [hr, e])
      simp only [this, if_false]
      exact hg
    · have hzq : z ≠ q := fun e => by simp [e] at hz
      simp only [hzq, if_false] at hz
      obtain ⟨x, hx, hxk⟩ := a.g.of z w hz
      refine ⟨x, ?_, hxk⟩
      rw [hl]
      obtain ⟨t, ht⟩ := List.getElem?_of_mem hx
      refine List.mem_eraseIdx_iff_getElem?.mpr ⟨t, fun e => ?_, ht⟩
      rw [e, hj'] at ht
      cases ht
      rw [hxk] at hk'
      cases hk'
      exact hzq rfl
    · refine Nat.le_trans ?_ a.n
      unfold leftE
      rw [flt_size, flt_size, hl]
      exact ((List.eraseIdx_sublist es.toList j).filter _).length_le
    · obtain ⟨h1, h2⟩ := hmem x hx
      rcases a.k x h1 hb z hz with h3 | h3
      · exact absurd (by rw [hz, h3]) h2
      · exact h3
end Go.Proofs.YtjggmhpjlnmigaaDoor
