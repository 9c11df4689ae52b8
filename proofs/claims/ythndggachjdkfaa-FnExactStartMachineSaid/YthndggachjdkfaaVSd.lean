/- Regions that draw their order, by states: what has been carried out tells the state, in whatever order it came. -/
import Derived.Test.YthndggachjdkfaaVCom
namespace Go.Proofs.Ythndggachjdkfaa
open Go.RowKit
set_option maxRecDepth 20000
set_option linter.unusedSimpArgs false
set_option linter.unusedVariables false
section
variable {P : Program} {n : Nat} {ops : Array Oper}
/-- in the midst of a region: g is done, f the frame; whatever comes up next, K holds behind the region -/
structure SD (P : Program) (n : Nat) (ops : Array Oper) (K : Fr → Hp → Prop) (g : List Nat) (Γ : List (Nat × Nat × Nat × Nat)) (f : Fr) (h : Hp) : Prop where
  out : ∀ {Q : Exit → Act → World → Prop} {d0 : List Deferred} {w0 : World}, (∀ a' w', Nx n K d0 w0 a' w' → Q .normal a' w') → ∀ (fuel : Nat) (u : List Nat) (L : Array Bool) (a : Act) (w : World),
    u.length = fuel → u.Nodup → (∀ i, i ∈ u ↔ i < ops.size ∧ L.getD i false = false) → Mid P n ops L g f h Γ a → w.heap = h → Same w0 w → a.defers = d0 → wpAny P .any ops Q fuel L a w
theorem SD.ord {K : Fr → Hp → Prop} {g : List Nat} {Γ : List (Nat × Nat × Nat × Nat)} {f : Fr} {h : Hp} (r : Ord) (hp : pairsB ops.toList = true) (ho : ordB ops.toList r true g = true) (hv : VD P n ops.toList r Γ K f h) : SD P n ops K g Γ f h :=
  ⟨fun hQ fuel u L a w h1 h2 h3 m hw hs hd => vd_ok hp _ _ hQ fuel u L h1 h2 h3 r g f h Γ a w ho m hv hw hs hd⟩
theorem EvDraw.sd {id : Nat} {K : Fr → Hp → Prop} {f : Fr} {h : Hp} (hm : P.follows .mixedOrders = true) (s : SD P n ops K [] [] f h) : EvDraw P n id ops K f h := by
  refine ⟨fun a w ha hw => wp_region_any hm ?_⟩
  refine s.out (d0 := a.defers) (w0 := w) (fun a' w' ⟨f', h1, h2, h3, h4⟩ => ⟨f', trivial, h1, h2, h3, h4⟩) ops.size (List.range ops.size) _ a _ (by simp) List.nodup_range (fun i => ?_) ?_ hw ⟨rfl, rfl, rfl⟩ rfl
  · rw [List.mem_range]
    constructor
    · exact fun hlt => ⟨hlt, by simp [Array.getD, hlt]⟩
    · exact fun h => h.1
  · have hf : ∀ i, (Array.replicate ops.size false).getD i false = false := fun i => by simp [Array.getD]
    refine ⟨by simp, fun i hi => ?_, fun i o _ hi => ?_, trivial, ha.1, fun t v hv _ => ha.2 t v hv, fun i hi => by simp at hi⟩
    · rw [hf] at hi; cases hi
    · rw [hf] at hi; cases hi
def VG (P : Program) (n : Nat) (ops : Array Oper) (K : Fr → Hp → Prop) : List Nat → List Nat → List (Nat × Nat × Nat × Nat) → Fr → Hp → Prop
  | [], g, Γ, f, h => SD P n ops K g Γ f h
  | i :: r, g, Γ, f, h => match ops.toList[i]? with
    | some o => match defB f o.op.operands.toList with
      | true => match loadAt? P o f with
        | some (b, off, c) => VStep P n ops.toList o (VG P n ops K r (i :: g) ((i, b, off, c) :: Γ)) f h
        | none => VStep P n ops.toList o (VG P n ops K r (i :: g) Γ) f h
      | false => False
    | none => False
def gosB (ops : List Oper) : List Nat → List Nat → Bool
  | [], _ => true
  | i :: r, g => openB ops g i && (smallAt ops i && gosB ops r (i :: g))
theorem SD.gos {K : Fr → Hp → Prop} : ∀ (is : List Nat) {g : List Nat} {Γ : List (Nat × Nat × Nat × Nat)} {f : Fr} {h : Hp}, gosB ops.toList is g = true → VG P n ops K is g Γ f h → SD P n ops K g Γ f h
  | [], _, _, _, _, _, hv => hv
  | k :: r, g, Γ, f, h, ho, hv => by
    simp only [gosB, Bool.and_eq_true] at ho
    obtain ⟨h1, h2, h3⟩ := ho
    obtain ⟨ok, e1, e2, e3⟩ := openB_ok.mp h1
    obtain ⟨o', d, e1', s1, s2, s3, s4⟩ := smallAt_ok h2
    rw [e1] at e1'
    cases e1'
    have e1l : ops.toList[k]? = some ok := by simpa using e1
    simp only [VG, e1l] at hv
    split at hv
    · rename_i hdef
      have key : ∀ (Γ' : List (Nat × Nat × Nat × Nat)), VStep P n ops.toList ok (VG P n ops K r (k :: g) Γ') f h → (∀ x ∈ Γ', x ∈ Γ ∨ x.1 = k) → (∀ x ∈ Γ, x ∈ Γ') →
          (∀ b off c, loadAt? P ok f = some (b, off, c) → (k, b, off, c) ∈ Γ') → SD P n ops K g Γ f h := by
        intro Γ' hv q1 q2 q3
        obtain ⟨f1, v, he, hc, hgv⟩ := smallstep s1 hv hdef
        obtain ⟨hc, hdn⟩ := putF_frame hc
        rw [s2] at hc
        refine ⟨fun hQ fuel u L a w g1 g2 g3 m hw hs hd => ?_⟩
        have m' := m.ghost e2 h2 e1 e3 s2 (hdn d s2) he q1 q2 (v := v) (fun a w hl hok => hgv a w hl (fun b off c hb => hok (k, b, off, c) (q3 b off c hb) rfl))
        exact (SD.gos r h3 hc).out hQ fuel u L a w g1 g2 g3 m' hw hs hd
      split at hv
      · rename_i b off c hb
        exact key _ hv (fun x hx => by rcases List.mem_cons.mp hx with rfl | hx; exact .inr rfl; exact .inl hx) (fun x hx => List.mem_cons_of_mem _ hx)
          (fun b' off' c' hb' => by rw [hb] at hb'; cases hb'; exact List.mem_cons_self ..)
      · rename_i hb
        exact key _ hv (fun x hx => .inl hx) (fun x hx => hx) (fun b' off' c' hb' => by rw [hb] at hb'; cases hb')
    · exact hv.elim
/-- each great operation that may come next -/
def VA (P : Program) (n : Nat) (ops : Array Oper) (C : Nat → List (Nat × Nat × Nat × Nat) → Fr → Hp → Prop) (Γ : List (Nat × Nat × Nat × Nat)) (f : Fr) (h : Hp) : List Nat → Prop
  | [] => True
  | i :: r => (match ops.toList[i]? with
    | some o => VStep P n ops.toList o (fun f' h' => keepK h h' (C i (dropG (dirs o) Γ) f' h') (dropG (dirs o) Γ)) f h
    | none => False) ∧ VA P n ops C Γ f h r
theorem VA.at_ {C : Nat → List (Nat × Nat × Nat × Nat) → Fr → Hp → Prop} {Γ : List (Nat × Nat × Nat × Nat)} {f : Fr} {h : Hp} : ∀ {is : List Nat}, VA P n ops C Γ f h is → ∀ i ∈ is, ∃ o, ops[i]? = some o ∧ VStep P n ops.toList o (fun f' h' => keepK h h' (C i (dropG (dirs o) Γ) f' h') (dropG (dirs o) Γ)) f h
  | [], _, i, hi => by simp at hi
  | j :: r, ⟨h1, h2⟩, i, hi => by
    rcases List.mem_cons.mp hi with rfl | hi
    · split at h1
      · rename_i o ho
        exact ⟨o, by simpa using ho, h1⟩
      · exact h1.elim
    · exact VA.at_ h2 i hi
def altB (ops : List Oper) (g is : List Nat) : Bool :=
  !is.isEmpty && ((is.all fun i => openB ops g i) && (List.range ops.length).all fun k => !openB ops g k || is.contains k)
theorem SD.alt {K : Fr → Hp → Prop} {g : List Nat} {Γ : List (Nat × Nat × Nat × Nat)} {f : Fr} {h : Hp} (hp : pairsB ops.toList = true) (is : List Nat) (hb : altB ops.toList g is = true)
    {C : Nat → List (Nat × Nat × Nat × Nat) → Fr → Hp → Prop} (hv : VA P n ops C Γ f h is) (hC : ∀ i ∈ is, ∀ Γ' f' h', C i Γ' f' h' → SD P n ops K (i :: g) Γ' f' h') : SD P n ops K g Γ f h := by
  simp only [altB, Bool.and_eq_true, List.all_eq_true] at hb
  obtain ⟨b1, b2, b3⟩ := hb
  have nope : ∀ (L : Array Bool) (a : Act), Mid P n ops L g f h Γ a → Region.ready .any ops L = [] → False := by
    intro L a m hr
    have hall := gok_all m.size hr m.gok
    cases is with
    | nil => simp at b1
    | cons k r =>
      obtain ⟨o, h1, h2, h3⟩ := openB_ok.mp (b2 k (List.mem_cons_self ..))
      have hlt : k < L.size := by rw [m.size]; exact (Array.getElem?_eq_some_iff.mp h1).1
      have hLk : L.getD k false = false := by
        cases hb : L.getD k false with
        | false => rfl
        | true => exact absurd (m.sub k hb) h2
      have : k ∈ Region.ready .any ops L := ready_iff.mpr ⟨by simpa [Array.getD, hlt] using hLk, o, h1, fun e he => hall e (h3 e he)⟩
      rw [hr] at this
      simp at this
  have rdy : ∀ (L : Array Bool) (u : List Nat), L.size = ops.size → (∀ i, i ∈ u ↔ i < ops.size ∧ L.getD i false = false) → ∀ i ∈ Region.ready .any ops L, i ∈ u := by
    intro L u hsz hu i hi
    obtain ⟨h1, o, h2, _⟩ := ready_iff.mp hi
    have hlt : i < ops.size := (Array.getElem?_eq_some_iff.mp h2).1
    exact (hu i).mpr ⟨hlt, by simpa [Array.getD, show i < L.size by rw [hsz]; exact hlt] using h1⟩
  refine ⟨fun hQ fuel => ?_⟩
  induction fuel with
  | zero =>
    intro u L a w hlen _ hu m hw hs hd
    have hu0 : u = [] := List.length_eq_zero_iff.mp hlen
    have hr : Region.ready .any ops L = [] := by
      cases hc : Region.ready .any ops L with
      | nil => rfl
      | cons x xs =>
        have := rdy L u m.size hu x (by rw [hc]; simp)
        rw [hu0] at this
        simp at this
    exact (nope L a m hr).elim
  | succ fuel ih =>
    intro u L a w hlen hnd hu m hw hs hd
    refine ⟨fun hr => (nope L a m hr).elim, fun i hi => ?_⟩
    obtain ⟨hLi, o, hoi, hdir⟩ := ready_iff.mp hi
    have hiu := rdy L u m.size hu i hi
    have hlt : i < L.size := by rw [m.size]; exact (Array.getElem?_eq_some_iff.mp hoi).1
    have hlen' : (u.erase i).length = fuel := by rw [List.length_erase_of_mem hiu, hlen]; rfl
    have hnd' : (u.erase i).Nodup := hnd.erase i
    have hu' : ∀ k, k ∈ u.erase i ↔ k < ops.size ∧ (L.setIfInBounds i true).getD k false = false := by
      intro k
      rw [hnd.mem_erase_iff, hu k]
      by_cases e : i = k
      · subst e
        rw [getD_set_self hlt]
        simp
      · rw [getD_set_ne false e]
        constructor
        · exact fun ⟨_, h⟩ => h
        · exact fun h => ⟨Ne.symm e, h⟩
    by_cases hig : i ∈ g
    · exact m.take hig hi hw (fun a' hd' m' => ih (u.erase i) _ a' w hlen' hnd' hu' m' hw hs (hd'.trans hd))
    · have hopen : openB ops.toList g i = true := openB_ok.mpr ⟨o, hoi, hig, fun e he => m.sub e (hdir e he)⟩
      have hheads : i ∈ is := by
        have := b3 i (by simpa using (Array.getElem?_eq_some_iff.mp hoi).1)
        simpa [hopen] using this
      obtain ⟨o2, q1, q3⟩ := VA.at_ hv i hheads
      rw [hoi] at q1
      cases q1
      refine vstepv_ok hoi q3 (m.look hoi hdir) hw (fun f1 v w' he hs' hc => ?_)
      obtain ⟨hc, hdn⟩ := putF_frame hc
      obtain ⟨hc, hk⟩ := keepK_ok hc
      have mm := m.both hp hig hoi hdir he rfl hdn hk (v := v)
      exact (hC i hheads _ _ _ hc).out hQ fuel (u.erase i) _ _ w' hlen' hnd' hu' mm rfl (hs.trans hs') ((put_def _ _ _).trans hd)
def gokB (ops : List Oper) : List Nat → Bool
  | [] => true
  | i :: r => (match ops[i]? with
    | some o => (dirs o).all fun e => memN e r
    | none => false) && (!memN i r && gokB ops r)
theorem memN_iff {i : Nat} : ∀ {r : List Nat}, memN i r = true ↔ i ∈ r
  | [] => by simp [memN]
  | j :: r => by
    have ih := memN_iff (i := i) (r := r)
    unfold memN
    split
    · rename_i e
      have e : j = i := Nat.eq_of_beq_eq_true e
      simp [e]
    · rename_i e
      have e : j ≠ i := Nat.ne_of_beq_eq_false e
      rw [ih, List.mem_cons]
      exact ⟨.inr, fun h => h.resolve_left (Ne.symm e)⟩
theorem gokB_ok : ∀ {g : List Nat}, gokB ops.toList g = true → GOk ops g
  | [], _ => trivial
  | i :: r, h => by
    simp only [gokB, Bool.and_eq_true] at h
    obtain ⟨h1, h2, h3⟩ := h
    refine ⟨?_, ?_, gokB_ok h3⟩
    · split at h1
      · rename_i o ho
        rw [List.all_eq_true] at h1
        exact ⟨o, by simpa using ho, fun e he => memN_iff.mp (h1 e he)⟩
      · cases h1
    · intro hi
      rw [memN_iff.mpr hi] at h2
      cases h2
def sameB (g g' : List Nat) : Bool := (g.all fun i => memN i g') && g'.all fun i => memN i g
theorem sameB_ok {g g' : List Nat} (h : sameB g g' = true) : ∀ i, i ∈ g ↔ i ∈ g' := by
  simp only [sameB, Bool.and_eq_true, List.all_eq_true] at h
  exact fun i => ⟨fun hi => memN_iff.mp (h.1 i hi), fun hi => memN_iff.mp (h.2 i hi)⟩
theorem get_app {f : Fr} : ∀ (g : Fr) (t : Nat), Fr.get (g ++ f) t = match Fr.get g t with | some v => some v | none => Fr.get f t
  | [], t => rfl
  | (d, v) :: r, t => by
    rw [List.cons_append, Fr.get_cons, Fr.get_cons]
    by_cases e : d = t
    · rw [if_pos e, if_pos e]
    · rw [if_neg e, if_neg e]; exact get_app r t
theorem get_same {a b f : Fr} (h1 : SubK a b) (h2 : SubK b a) (t : Nat) : Fr.get (a ++ f) t = Fr.get (b ++ f) t := by
  rw [get_app, get_app]
  have e : Fr.get a t = Fr.get b t := by
    cases hb : Fr.get b t with
    | some v => exact h1.get t v hb
    | none =>
      cases ha : Fr.get a t with
      | none => rfl
      | some v => have := h2.get t v ha; rw [hb] at this; cases this
  rw [e]
/-- the order in which it came, and in which the frame was filled, is nothing -/
theorem SD.canon {K : Fr → Hp → Prop} {g g' : List Nat} {Γ : List (Nat × Nat × Nat × Nat)} {f f' : Fr} {h : Hp} (hg : sameB g g' = true) (hk : gokB ops.toList g' = true) (hE : ∀ t, f.get t = f'.get t)
    (s : SD P n ops K g' Γ f' h) : SD P n ops K g Γ f h := by
  have e := sameB_ok hg
  refine ⟨fun hQ fuel u L a w q1 q2 q3 m hw hs hd => s.out hQ fuel u L a w q1 q2 q3 ?_ hw hs hd⟩
  refine ⟨m.size, fun i hi => (e i).mp (m.sub i hi), m.down, gokB_ok hk, m.asz, fun t v ht hc => m.agr t v ((hE t).trans ht) (fun i o hi => hc i o ((e i).mp hi)), fun i hi hL => ?_⟩
  obtain ⟨a1, o, a2, v, a3, a4⟩ := m.pend i ((e i).mpr hi) hL
  exact ⟨a1, o, a2, v, fun d hd => ⟨(a3 d hd).1, (hE d).symm.trans (a3 d hd).2⟩, fun a w hl hok => a4 a w (fun t ht u hu => hl t ht u ((hE t).symm.trans hu)) hok⟩
/-- the states of a region: what is done (G), what is known of it (E, I), what may come next -/
theorem SD.run {K : Fr → Hp → Prop} {g0 : List Nat} {Γ0 : List (Nat × Nat × Nat × Nat)} {f0 : Fr} {h0 : Hp} {ι X : Type} (s0 : ι) (x0 : X) (G : ι → List Nat) (D : ι → Nat → Bool) (E : ι → X → Fr) (I : ι → X → Hp → Prop)
    (heads : ι → List Nat) (next : ι → Nat → ι) (μ : ι → Nat) (fin : ι → Bool) (hp : pairsB ops.toList = true)
    (start : G s0 = [] ∧ E s0 x0 = [] ∧ (Γ0.filter fun x => D s0 x.1) = Γ0) (i0 : I s0 x0 h0)
    (chk : ∀ s, (fin s || (altB ops.toList (G s ++ g0) (heads s) && (heads s).all fun i => decide (μ (next s i) < μ s) && (sameB (i :: (G s ++ g0)) (G (next s i) ++ g0) && gokB ops.toList (G (next s i) ++ g0)))) = true)
    (step : ∀ s x h, fin s = false → I s x h → VA P n ops (fun i Γ' f' h' => ∃ x', f' = f'.take ((E s x).length + 1) ++ f0 ∧ SubK (f'.take ((E s x).length + 1)) (E (next s i) x') ∧ SubK (E (next s i) x') (f'.take ((E s x).length + 1)) ∧ Γ' = (Γ0.filter fun x => D (next s i) x.1) ∧ I (next s i) x' h')
      (Γ0.filter fun x => D s x.1) (E s x ++ f0) h (heads s))
    (last : ∀ s x h, fin s = true → I s x h → SD P n ops K (G s ++ g0) (Γ0.filter fun x => D s x.1) (E s x ++ f0) h) : SD P n ops K g0 Γ0 f0 h0 := by
  have all : ∀ k s x h, μ s < k → I s x h → SD P n ops K (G s ++ g0) (Γ0.filter fun x => D s x.1) (E s x ++ f0) h := by
    intro k
    induction k with
    | zero => intro s x h hk; omega
    | succ k ih =>
      intro s x h hk hi
      cases hf : fin s with
      | true => exact last s x h hf hi
      | false =>
        have c := chk s
        simp only [hf, Bool.false_or, Bool.and_eq_true, List.all_eq_true, decide_eq_true_eq] at c
        refine SD.alt hp (heads s) c.1 (step s x h hf hi) (fun i him Γ' f' h' hc => ?_)
        obtain ⟨x', q0, q1, q2, q3, q4⟩ := hc
        have ci := c.2 i him
        rw [q3]
        exact SD.canon ci.2.1 ci.2.2 (fun t => by rw [q0]; exact get_same q1 q2 t) (ih _ x' h' (by omega) q4)
  have := all (μ s0 + 1) s0 x0 h0 (by omega) i0
  rw [start.1, start.2.1, start.2.2] at this
  exact this
theorem EvKeep.two {h h' : Hp} {b o c : Nat} {l : List Value} {T : TypeId} {A : Prop} (s : h[b]? = some (.cells l.toArray T (0, 0))) (s' : h'[b]? = some (.cells l.toArray T (0, 0))) (a : A) : EvKeep h h' b o c A :=
  ⟨fun j _ => hcell_of (s'.trans s.symm) _, a⟩
theorem SD.runS {K : Fr → Hp → Prop} {g0 : List Nat} {Γ0 : List (Nat × Nat × Nat × Nat)} {f0 : Fr} {hh h0 : Hp} {L0 : List Asn} (HS : Sep hh h0 L0) {ι X : Type} (s0 : ι) (x0 : X) (G : ι → List Nat) (D : ι → Nat → Bool) (E : ι → X → Fr) (J : ι → X → List Asn)
    (heads : ι → List Nat) (next : ι → Nat → ι) (μ : ι → Nat) (fin : ι → Bool) (hp : pairsB ops.toList = true)
    (start : G s0 = [] ∧ E s0 x0 = [] ∧ (Γ0.filter fun x => D s0 x.1) = Γ0) (start2 : J s0 x0 = [])
    (chk : ∀ s, (fin s || (altB ops.toList (G s ++ g0) (heads s) && (heads s).all fun i => decide (μ (next s i) < μ s) && (sameB (i :: (G s ++ g0)) (G (next s i) ++ g0) && gokB ops.toList (G (next s i) ++ g0)))) = true)
    (step : ∀ s x h, fin s = false → Sep hh h (J s x ++ L0) → VA P n ops (fun i Γ' f' h' => ∃ x', f' = f'.take ((E s x).length + 1) ++ f0 ∧ SubK (f'.take ((E s x).length + 1)) (E (next s i) x') ∧ SubK (E (next s i) x') (f'.take ((E s x).length + 1)) ∧ Γ' = (Γ0.filter fun x => D (next s i) x.1) ∧ Sep hh h' (J (next s i) x' ++ L0))
      (Γ0.filter fun x => D s x.1) (E s x ++ f0) h (heads s))
    (last : ∀ s x h, fin s = true → Sep hh h (J s x ++ L0) → SD P n ops K (G s ++ g0) (Γ0.filter fun x => D s x.1) (E s x ++ f0) h) : SD P n ops K g0 Γ0 f0 h0 :=
  SD.run s0 x0 G D E (fun s x h => Sep hh h (J s x ++ L0)) heads next μ fin hp start (by rw [start2]; exact HS) chk step last
end
end Go.Proofs.Ythndggachjdkfaa
