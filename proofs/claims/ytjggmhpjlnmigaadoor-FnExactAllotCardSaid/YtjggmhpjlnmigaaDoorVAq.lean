/- Places: the program's. -/
import Derived.Test.YtjggmhpjlnmigaaDoorVAp
import Derived.Test.YtjggmhpjlnmigaaDoorVMi
import Derived.Test.YtjggmhpjlnmigaaDoorVAl3
import Derived.Test.YtjggmhpjlnmigaaDoorVSj
namespace Go.Proofs.YtjggmhpjlnmigaaDoor
open Go.RowKit
set_option maxRecDepth 20000
set_option linter.unusedSimpArgs false
set_option linter.unusedVariables false
/-- the table of machine registers, as laid -/
structure GA (h : Hp) : Prop where
  out : ∃ A c, hcell h 0 0 = some (.slice A 16 c) ∧ 16 ≤ c ∧ Rd h A (ints .i64 (usb false))
theorem GA.ext {h h' : Hp} (e : Ext h h') (g : GA h) : GA h' := by
  obtain ⟨A, c, h1, hc, h2⟩ := g.out
  exact ⟨A, c, e.cell h1, hc, h2.ext e⟩
structure GR (h : Hp) : Prop where
  q : GQ h
  a : GA h
theorem GR.ext {h h' : Hp} (e : Ext h h') (g : GR h) : GR h' := ⟨g.q.ext e, g.a.ext e⟩
/-- what the holder says -/
structure HI (xs : List Sp) (ps : List Pl) (fr : Int) (g : Int → Option Value) : Prop where
  back : ∀ m v, g m = some v → ∃ q : Nat, v = .int .i64 q ∧ q < xs.length ∧ rgI ps q = m ∧ 0 < m
  forth : ∀ q : Nat, q < xs.length → 0 < rgI ps q → fr ≤ toI xs q → g (rgI ps q) = some (.int .i64 q)
theorem HI.up {xs : List Sp} {ps : List Pl} {fr fr' : Int} {g : Int → Option Value} (a : HI xs ps fr g) (h : fr ≤ fr') : HI xs ps fr' g := ⟨a.back, fun q h1 h2 h3 => a.forth q h1 h2 (by omega)⟩
theorem HI.del {xs : List Sp} {ps : List Pl} {fr m : Int} {q : Nat} {g : Int → Option Value} (a : HI xs ps fr g) (h : g m = some (.int .i64 q)) (ht : toI xs q < fr) : HI xs ps fr (fun z => if z = m then none else g z) := by
  refine ⟨fun z v hz => ?_, fun r h1 h2 h3 => ?_⟩
  · by_cases e : z = m
    · simp [e] at hz
    · simp only [e, if_false] at hz
      exact a.back z v hz
  · have hr := a.forth r h1 h2 h3
    have : rgI ps r ≠ m := fun e => by
      rw [e, h] at hr
      cases hr
      omega
    simp only [this, if_false]
    exact hr
theorem spans_ok {f : Fu} (g : Good f) : OkS ((List.range f.rg.toNat).map (span f)) := by
  have hrg := g.rg
  have hlen := g.len
  have key : ∀ r, -1 ≤ frm f r ∧ frm f r ≤ 8000 ∧ (frm f r ≤ (spg f.cl r f.cl.length).2 ↔ 0 ≤ (spg f.cl r f.cl.length).2) := fun r => by
    have h := spg_bd f.cl r f.cl.length
    unfold frm
    split
    · rename_i hc
      have h0 : 0 ≤ (spg f.cl r 1).2 := by
        have := spg_on (cl := f.cl) (r := r) (i := 0) (.inl hc.2)
        rw [this]
        show (0 : Int) ≤ ((0 : Nat) : Int)
        omega
      have mono : ∀ i, 0 ≤ (spg f.cl r (i + 1)).2 := fun i => by
        induction i with
        | zero => exact h0
        | succ i ih =>
          by_cases hon : onR f.cl (i + 1) r
          · rw [spg_on hon]
            show (0 : Int) ≤ ((i + 1 : Nat) : Int)
            omega
          · rw [spg_off hon]
            exact ih
      have h1 := mono (f.cl.length - 1)
      rw [show f.cl.length - 1 + 1 = f.cl.length by omega] at h1
      omega
    · refine ⟨by omega, ?_, ?_⟩
      · by_cases hz : 0 ≤ (spg f.cl r f.cl.length).2
        · have := h.2.2.2.1 hz
          omega
        · have := h.2.2.2.2 (by omega)
          omega
      · constructor
        · intro h5
          omega
        · intro h5
          exact h.2.2.2.1 h5
  have get : ∀ r, r < f.rg.toNat → ((List.range f.rg.toNat).map (span f))[r]? = some (span f r) := fun r hr => by simp [hr]
  have k0 : ∀ r, r < f.rg.toNat → keyOf ((List.range f.rg.toNat).map (span f)) r = frm f r := fun r hr => by unfold keyOf; rw [get r hr]; rfl
  have k1 : ∀ r, ¬ r < f.rg.toNat → keyOf ((List.range f.rg.toNat).map (span f)) r = 0 := fun r hr => by unfold keyOf; rw [List.getElem?_eq_none (by simp; omega)]; rfl
  refine ⟨fun r => ?_, fun r => ?_, fun r hr => ?_⟩
  · by_cases h : r < f.rg.toNat
    · rw [k0 r h]
      exact (key r).1
    · rw [k1 r h]
      decide
  · by_cases h : r < f.rg.toNat
    · rw [k0 r h]
      have := (key r).2.1
      omega
    · rw [k1 r h]
      decide
  · rw [List.length_map, List.length_range] at hr
    rw [k0 r hr]
    unfold toI
    rw [get r hr]
    exact (key r).2.2
/-- the greatest of a set, by its end and number -/
def FarI (xs : List Sp) (p : Int → Prop) (w : Int) : Prop := (w = -1 ∧ ∀ q, ¬ p q) ∨ (p w ∧ 0 ≤ w ∧ ∀ q, p q → toI xs q.toNat < toI xs w.toNat ∨ (toI xs q.toNat = toI xs w.toNat ∧ q ≤ w))
theorem FarI.uniq {xs : List Sp} {p p' : Int → Prop} {w w' : Int} (a : FarI xs p w) (b : FarI xs p' w') (h : ∀ q, p q ↔ p' q) : w = w' := by
  rcases a with ⟨a1, a2⟩ | ⟨a1, a2, a3⟩
  · rcases b with ⟨b1, b2⟩ | ⟨b1, _, _⟩
    · omega
    · exact absurd ((h _).mpr b1) (a2 _)
  · rcases b with ⟨_, b2⟩ | ⟨b1, b2, b3⟩
    · exact absurd ((h _).mp a1) (b2 _)
    · have h1 := a3 w' ((h _).mpr b1)
      have h2 := b3 w ((h _).mp a1)
      omega
theorem FarI.more {xs : List Sp} {p p' : Int → Prop} {w q : Int} (a : FarI xs p w) (h : ∀ z, p' z ↔ p z ∨ z = q) (hq : 0 ≤ q) {w' : Int} (hw : (w < 0 ∨ toI xs w.toNat < toI xs q.toNat ∨ (toI xs q.toNat = toI xs w.toNat ∧ w < q)) ∧ w' = q ∨ (¬ (w < 0 ∨ toI xs w.toNat < toI xs q.toNat ∨ (toI xs q.toNat = toI xs w.toNat ∧ w < q))) ∧ w' = w) : FarI xs p' w' := by
  rcases hw with ⟨h1, rfl⟩ | ⟨h1, rfl⟩
  · refine .inr ⟨(h w').mpr (.inr rfl), hq, fun z hz => ?_⟩
    rcases (h z).mp hz with hz | rfl
    · rcases a with ⟨_, a2⟩ | ⟨_, a2, a3⟩
      · exact absurd hz (a2 z)
      · have := a3 z hz
        omega
    · omega
  · rcases a with ⟨a1, _⟩ | ⟨a1, a2, a3⟩
    · omega
    · refine .inr ⟨(h _).mpr (.inl a1), a2, fun z hz => ?_⟩
      rcases (h z).mp hz with hz | rfl
      · exact a3 z hz
      · omega
theorem far_far {xs : List Sp} {ps : List Pl} {us : List Int} : ∀ (l pre : List Int) (w : Int), FarI xs (fun q => q ∈ pre ∧ rgI ps q ∈ us) w → (pre ++ l).Pairwise (· < ·) → (∀ q ∈ l, 0 ≤ q) → FarI xs (fun q => q ∈ pre ++ l ∧ rgI ps q ∈ us) (l.foldl (farS xs ps us) w)
  | [], pre, w, a, _, _ => by simpa using a
  | q :: l, pre, w, a, hp, h0 => by
    have e : pre ++ q :: l = (pre ++ [q]) ++ l := by simp
    rw [e, List.foldl_cons]
    refine far_far l (pre ++ [q]) _ ?_ (by rw [← e]; exact hp) (fun z hz => h0 z (List.mem_cons_of_mem _ hz))
    have hlt : ∀ z ∈ pre, z < q := fun z hz => (List.pairwise_append.mp hp).2.2 z hz q List.mem_cons_self
    unfold farS
    by_cases hu : rgI ps q ∈ us
    · refine a.more (q := q) (fun z => ?_) (h0 q List.mem_cons_self) ?_
      · simp only [List.mem_append, List.mem_singleton]
        constructor
        · rintro ⟨h1 | h1, h2⟩
          · exact .inl ⟨h1, h2⟩
          · exact .inr h1
        · rintro (⟨h1, h2⟩ | rfl)
          · exact ⟨.inl h1, h2⟩
          · exact ⟨.inr rfl, hu⟩
      · rcases a with ⟨a1, _⟩ | ⟨a1, _, _⟩
        · rw [if_pos ⟨hu, .inl (by omega)⟩]
          exact .inl ⟨.inl (by omega), rfl⟩
        · have hwq := hlt w a1.1
          by_cases hc : w < 0 ∨ toI xs w.toNat ≤ toI xs q.toNat
          · rw [if_pos ⟨hu, hc⟩]
            exact .inl ⟨by omega, rfl⟩
          · rw [if_neg (fun h => hc h.2)]
            exact .inr ⟨by omega, rfl⟩
    · rw [if_neg (fun h => hu h.1)]
      have hpp : ∀ z, (z ∈ pre ++ [q] ∧ rgI ps z ∈ us) ↔ (z ∈ pre ∧ rgI ps z ∈ us) := fun z => by
        simp only [List.mem_append, List.mem_singleton]
        constructor
        · rintro ⟨h1 | rfl, h2⟩
          · exact ⟨h1, h2⟩
          · exact absurd h2 hu
        · rintro ⟨h1, h2⟩
          exact ⟨.inl h1, h2⟩
      rcases a with ⟨a1, a2⟩ | ⟨a1, a2, a3⟩
      · exact .inl ⟨a1, fun z hz => a2 z ((hpp z).mp hz)⟩
      · exact .inr ⟨(hpp _).mpr a1, a2, fun z hz => a3 z ((hpp z).mp hz)⟩
theorem farF_far {xs : List Sp} {ps : List Pl} {us hd : List Int} (hp : hd.Pairwise (· < ·)) (h0 : ∀ q ∈ hd, 0 ≤ q) : FarI xs (fun q => q ∈ hd ∧ rgI ps q ∈ us) (farF xs ps us hd) :=
  far_far hd [] (-1) (.inl ⟨rfl, fun q h => by cases h.1⟩) hp h0
/-- what the holder says when those are gone whose end is past -/
structure HE (xs : List Sp) (ps : List Pl) (fr : Int) (g : Int → Option Value) : Prop where
  i : HI xs ps fr g
  e : ∀ m (q : Nat), g m = some (.int .i64 q) → fr ≤ toI xs q
theorem HE.mem {xs : List Sp} {ps : List Pl} {r : Nat} {g : Int → Option Value} (a : HE xs ps (keyOf xs r) g) (m : Int) : (∃ v, g m = some v) ↔ (0 < m ∧ m ∈ (hdR xs ps r).map (rgI ps)) := by
  constructor
  · rintro ⟨v, hv⟩
    obtain ⟨q, rfl, h1, h2, h3⟩ := a.i.back m v hv
    have h4 := a.e m q hv
    refine ⟨h3, List.mem_map.mpr ⟨q, mem_mkd.mpr ⟨q, rfl, h1, ?_⟩, h2⟩⟩
    unfold hld
    rw [decide_eq_true_eq]
    have h2' : (ps[q]?.map Pl.rg).getD 0 = m := h2
    rw [h2']
    exact ⟨h3, h4⟩
  · rintro ⟨h3, hm⟩
    obtain ⟨q, hq, rfl⟩ := List.mem_map.mp hm
    obtain ⟨j, rfl, h1, h2, h4⟩ := hdR_mem hq
    exact ⟨_, a.i.forth j h1 h2 h4⟩
theorem HE.fre_some {xs : List Sp} {ps : List Pl} {r j : Nat} {u : Int} {g : Int → Option Value} (a : HE xs ps (keyOf xs r) g) (h0 : ∀ m ∈ (usb (crI xs r)).take j, ∃ v, g m = some v) (hj : (usb (crI xs r))[j]? = some u) (hu : g u = none) : fre xs ps r = some u := by
  unfold fre
  refine find_at (fun m hm => ?_) hj ?_
  · have := (a.mem m).mp (h0 m hm)
    simpa using this.2
  · have : ¬ u ∈ (hdR xs ps r).map (rgI ps) := fun hm => by
      obtain ⟨v, hv⟩ := (a.mem u).mpr ⟨(usb_pos (List.mem_of_getElem? hj)).1, hm⟩
      rw [hu] at hv
      cases hv
    simpa using this
theorem HE.fre_none {xs : List Sp} {ps : List Pl} {r : Nat} {g : Int → Option Value} (a : HE xs ps (keyOf xs r) g) (h0 : ∀ m ∈ usb (crI xs r), ∃ v, g m = some v) : fre xs ps r = none := by
  unfold fre
  rw [List.find?_eq_none]
  intro m hm
  have := (a.mem m).mp (h0 m hm)
  simpa using this.2
theorem HE.far {xs : List Sp} {ps : List Pl} {r : Nat} {w : Int} (hw : FarI xs (fun z => ∃ i : Nat, z = i ∧ i < xs.length ∧ rgI ps i ∈ usb (crI xs r) ∧ keyOf xs r ≤ toI xs i) w) : farF xs ps (usb (crI xs r)) (hdR xs ps r) = w := by
  refine (farF_far (mkd_asc _ _) (fun q hq => ?_)).uniq hw (fun q => ?_)
  · obtain ⟨j, rfl, _⟩ := mem_mkd.mp hq
    omega
  · constructor
    · rintro ⟨h1, h2⟩
      obtain ⟨j, rfl, h3, _, h4⟩ := hdR_mem h1
      exact ⟨j, rfl, h3, h2, h4⟩
    · rintro ⟨i, rfl, h1, h2, h3⟩
      refine ⟨mem_mkd.mpr ⟨i, rfl, h1, ?_⟩, h2⟩
      unfold hld
      rw [decide_eq_true_eq]
      exact ⟨(usb_pos h2).1, h3⟩
theorem rgI_set {ps : List Pl} {r : Nat} {y : Pl} (q : Nat) (hr : r < ps.length) : rgI (ps.set r y) q = if q = r then y.rg else rgI ps q := by
  unfold rgI
  rw [Int.toNat_natCast]
  split
  · rename_i e
    subst e
    rw [List.getElem?_set_self hr]
    rfl
  · rename_i e
    rw [List.getElem?_set_ne (Ne.symm e)]
theorem HE.take {xs : List Sp} {ps : List Pl} {r : Nat} {u : Int} {fr : Int} {g : Int → Option Value} (a : HE xs ps fr g) (hr : r < xs.length) (hl : ps.length = xs.length) (h0 : rgI ps r = 0) (hu : 0 < u) (hn : g u = none) :
    HI xs (ps.set r ⟨u, -1⟩) fr (fun z => if z = u then some (.int .i64 r) else g z) := by
  refine ⟨fun m v hm => ?_, fun q h1 h2 h3 => ?_⟩
  · by_cases e : m = u
    · simp only [e, if_true, Option.some.injEq] at hm
      exact ⟨r, hm.symm, hr, by rw [rgI_set r (by omega), if_pos rfl]; exact e.symm, by omega⟩
    · simp only [e, if_false] at hm
      obtain ⟨q, e1, e2, e3, e4⟩ := a.i.back m v hm
      refine ⟨q, e1, e2, ?_, e4⟩
      rw [rgI_set q (by omega), if_neg (fun h => by subst h; omega)]
      exact e3
  · rw [rgI_set q (by omega)] at h2 ⊢
    by_cases e : q = r
    · subst e
      simp
    · rw [if_neg e] at h2 ⊢
      have hg := a.i.forth q h1 h2 h3
      rw [if_neg (fun h => by rw [h, hn] at hg; cases hg)]
      exact hg
theorem HE.swap {xs : List Sp} {ps : List Pl} {r w s : Nat} {fr : Int} {g : Int → Option Value} (a : HE xs ps fr g) (hr : r < xs.length) (hw : w < xs.length) (hl : ps.length = xs.length) (h0 : rgI ps r = 0) (hu : 0 < rgI ps w) (hn : fr ≤ toI xs w) :
    HI xs ((ps.set w ⟨0, s⟩).set r ⟨rgI ps w, -1⟩) fr (fun z => if z = rgI ps w then some (.int .i64 r) else g z) := by
  have hg2 := a.i.forth w hw hu hn
  refine ⟨fun m v hm => ?_, fun q h1 h2 h3 => ?_⟩
  · by_cases e : m = rgI ps w
    · simp only [e, if_true, Option.some.injEq] at hm
      exact ⟨r, hm.symm, hr, by rw [rgI_set r (by rw [List.length_set]; omega), if_pos rfl]; exact e.symm, by omega⟩
    · simp only [e, if_false] at hm
      obtain ⟨q, e1, e2, e3, e4⟩ := a.i.back m v hm
      refine ⟨q, e1, e2, ?_, e4⟩
      rw [rgI_set q (by rw [List.length_set]; omega), if_neg (fun h => by subst h; omega), rgI_set q (by omega), if_neg (fun h => by subst h; exact e e3.symm)]
      exact e3
  · rw [rgI_set q (by rw [List.length_set]; omega)] at h2 ⊢
    by_cases e : q = r
    · subst e
      simp
    · rw [if_neg e] at h2 ⊢
      rw [rgI_set q (by omega)] at h2 ⊢
      by_cases e2 : q = w
      · rw [if_pos e2] at h2
        exact absurd h2 (Int.lt_irrefl 0)
      · rw [if_neg e2] at h2 ⊢
        have hg := a.i.forth q h1 h2 h3
        rw [if_neg (fun h => by rw [h, hg2] at hg; cases hg; exact e2 rfl)]
        exact hg
theorem HE.spill {xs : List Sp} {ps : List Pl} {r s : Nat} {fr : Int} {g : Int → Option Value} (a : HE xs ps fr g) (hr : r < xs.length) (hl : ps.length = xs.length) (h0 : rgI ps r = 0) :
    HI xs (ps.set r ⟨0, s⟩) fr g := by
  refine ⟨fun m v hm => ?_, fun q h1 h2 h3 => ?_⟩
  · obtain ⟨q, e1, e2, e3, e4⟩ := a.i.back m v hm
    refine ⟨q, e1, e2, ?_, e4⟩
    rw [rgI_set q (by omega), if_neg (fun h => by subst h; omega)]
    exact e3
  · rw [rgI_set q (by omega)] at h2 ⊢
    by_cases e : q = r
    · rw [if_pos e] at h2
      exact absurd h2 (Int.lt_irrefl 0)
    · rw [if_neg e] at h2 ⊢
      exact a.i.forth q h1 h2 h3
theorem Rd.dropr {h : Hp} {b o k : Nat} {cs : List Value} (r : Rd h (some ⟨b, o, none⟩) cs) : Rd h (some ⟨b, o + k, none⟩) (cs.drop k) := fun j v hj => by
  rw [List.getElem?_drop] at hj
  obtain ⟨b', o', e, hc⟩ := r _ v hj
  cases e
  exact ⟨b, o + k, rfl, by rw [Nat.add_assoc]; exact hc⟩
theorem ord_mono {xs : List Sp} {od : List Int} (o : IsOrd xs od) {k j : Nat} {r q : Int} (hk : od[k]? = some r) (hj : od[j]? = some q) (h : k < j) : keyOf xs r.toNat ≤ keyOf xs q.toNat := by
  obtain ⟨g1, g2⟩ := List.getElem?_eq_some_iff.mp hk
  obtain ⟨g3, g4⟩ := List.getElem?_eq_some_iff.mp hj
  have := List.pairwise_iff_getElem.mp o.srt k j g1 g3 h
  rw [g2, g4] at this
  unfold Lt ky at this
  omega
end Go.Proofs.YtjggmhpjlnmigaaDoor
