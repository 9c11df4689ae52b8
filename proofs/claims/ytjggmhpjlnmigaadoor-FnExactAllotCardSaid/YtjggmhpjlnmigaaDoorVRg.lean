/- A range over a function: the walk of a function that holds one at its outermost level. -/
import Derived.Test.YtjggmhpjlnmigaaDoorVIr
import Derived.RangeFuncIn
import Derived.RangeFuncRecord
import Derived.RangeFuncLeaves
namespace Go.Proofs.YtjggmhpjlnmigaaDoor
open Go.RowKit
set_option linter.unusedVariables false
set_option linter.unusedSimpArgs false
section
variable {P : Program} {n : Nat}
/-- a mark among the deferred calls -/
def dmk (D : Nat) : Deferred := { target := .collected D, args := #[] }
def PstD (n : Nat) (K : Exit → Fr → Hp → List Nat → Prop) (w : World) : Exit → Act → World → Prop :=
  fun e a' w' => ∃ f' Ds, Exit.fine e ∧ Ag n f' a' ∧ a'.defers = Ds.map dmk ∧ Same w w' ∧ K e f' w'.heap Ds
/-- what a piece of code at the outermost level does, the marks told -/
structure SVD (P : Program) (n : Nat) (c : Code) (K : Exit → Fr → Hp → List Nat → Prop) (f : Fr) (h : Hp) (Ds : List Nat) : Prop where
  out : ∀ (fd : Nat) (a : Act) (w : World), Ag n f a → w.heap = h → a.defers = Ds.map dmk → c.wpIn (FR none) fd P (PstD n K w) a w
theorem SVD.of {c : Code} {K : Exit → Fr → Hp → List Nat → Prop} {f : Fr} {h : Hp} {Ds : List Nat} (v : VC P n c (fun e f h => K e f h Ds) f h) : SVD P n c K f h Ds :=
  ⟨fun fd a w ha hw hd => wpIn_mono (vc_ok v none fd a w ha hw) fun _ _ _ ⟨f', a1, a2, a3, a4, a5⟩ => ⟨f', Ds, a1, a2, a3.trans hd, a4, a5⟩⟩
theorem SVD.mono {c : Code} {K K' : Exit → Fr → Hp → List Nat → Prop} {f : Fr} {h : Hp} {Ds : List Nat} (s : SVD P n c K f h Ds) (hk : ∀ e f h Ds, K e f h Ds → K' e f h Ds) : SVD P n c K' f h Ds :=
  ⟨fun fd a w ha hw hd => wpIn_mono (s.out fd a w ha hw hd) fun _ _ _ ⟨f', D', a1, a2, a3, a4, a5⟩ => ⟨f', D', a1, a2, a3, a4, hk _ _ _ _ a5⟩⟩
theorem SVD.seq {x y : Code} {K : Exit → Fr → Hp → List Nat → Prop} {f : Fr} {h : Hp} {Ds : List Nat} (s : SVD P n x (fun e f h Ds => match e with | .normal => SVD P n y K f h Ds | e => K e f h Ds) f h Ds) : SVD P n (.seq x y) K f h Ds := by
  refine ⟨fun fd a w ha hw hd => ?_⟩
  refine wpIn_seq (wpIn_mono (s.out fd a w ha hw hd) ?_)
  rintro e a' w' ⟨f', D', fine, ha', hd', hs, hk⟩
  cases e with
  | normal =>
    refine wpIn_mono (hk.out fd a' w' ha' rfl hd') ?_
    rintro e2 a2 w2 ⟨f2, D2, q1, q2, q3, q4, q5⟩
    exact ⟨f2, D2, q1, q2, q3, hs.trans q4, q5⟩
  | exit id => exact ⟨f', D', fine, ha', hd', hs, hk⟩
  | ret => exact ⟨f', D', fine, ha', hd', hs, hk⟩
  | goto l => exact fine.elim
  | panic ch => exact fine.elim
  | outgrown => exact fine.elim
theorem SVD.block {id : Nat} {c : Code} {K : Exit → Fr → Hp → List Nat → Prop} {f : Fr} {h : Hp} {Ds : List Nat}
    (s : SVD P n c (fun e f h Ds => match e with | .exit i => (match Nat.beq i id with | true => K .normal f h Ds | false => K (.exit i) f h Ds) | e => K e f h Ds) f h Ds) : SVD P n (.block id c) K f h Ds := by
  refine ⟨fun fd a w ha hw hd => ?_⟩
  refine wpIn_block (wpIn_mono (s.out fd a w ha hw hd) ?_)
  rintro e a' w' ⟨f', D', fine, ha', hd', hs, hk⟩
  cases e with
  | exit i =>
    simp only [Exit.inBlock]
    by_cases e : i = id
    · subst e
      simp only [Nat.beq_refl] at hk
      rw [if_pos rfl]
      exact ⟨f', D', trivial, ha', hd', hs, hk⟩
    · rw [if_neg e]
      have : Nat.beq i id = false := by
        cases hb : Nat.beq i id with
        | false => rfl
        | true => exact absurd (Nat.eq_of_beq_eq_true hb) e
      simp only [this] at hk
      exact ⟨f', D', trivial, ha', hd', hs, hk⟩
  | normal => exact ⟨f', D', fine, ha', hd', hs, hk⟩
  | ret => exact ⟨f', D', fine, ha', hd', hs, hk⟩
  | goto l => exact fine.elim
  | panic ch => exact fine.elim
  | outgrown => exact fine.elim
/-- a loop -/
theorem SVD.loop {c : Code} {K : Exit → Fr → Hp → List Nat → Prop} {f : Fr} {h : Hp} {Ds : List Nat} {α : Type} (F : α → Fr) (I : α → Hp → List Nat → Prop) (μ : α → Nat) (x0 : α) (hF : SubK f (F x0)) (h0 : I x0 h Ds)
    (round : ∀ x h Ds, I x h Ds → SVD P n c (fun e f' h' Ds' => match e with | .normal => ∃ x', SubK f' (F x') ∧ I x' h' Ds' ∧ μ x' < μ x | e => K e f' h' Ds') (F x) h Ds) : SVD P n (.loop c) K f h Ds := by
  refine ⟨fun fd a w ha hw hd => ?_⟩
  obtain ⟨J, hJ⟩ : ∃ J : Nat → Act → World → Prop, J = fun m a' w' => ∃ x Ds', μ x = m ∧ Ag n (F x) a' ∧ I x w'.heap Ds' ∧ a'.defers = Ds'.map dmk := ⟨_, rfl⟩
  have key : ∀ m a' w', J m a' w' → ∃ x Ds', μ x = m ∧ Ag n (F x) a' ∧ I x w'.heap Ds' ∧ a'.defers = Ds'.map dmk := fun m a' w' hj => by rw [hJ] at hj; exact hj
  have least : ∀ (a' : Act) (w' : World), (∃ m, J m a' w') → ∃ m, J m a' w' ∧ ∀ k, J k a' w' → m ≤ k := by
    intro a' w' ⟨m, hx⟩
    induction m using Nat.strongRecOn with
    | _ m ih =>
      by_cases hc : ∃ y, J y a' w' ∧ y < m
      · obtain ⟨y, h1, h2⟩ := hc
        exact ih y h2 h1
      · exact ⟨m, hx, fun k h1 => Nat.le_of_not_lt fun h3 => hc ⟨k, h1, h3⟩⟩
  have eps := fun (a' : Act) (w' : World) (hex : ∃ m, J m a' w') => Classical.epsilon_spec (p := fun m => J m a' w' ∧ ∀ k, J k a' w' → m ≤ k) (least a' w' hex)
  refine wpIn_loop (fun a' w' => (∃ m, J m a' w') ∧ Same w w') (fun a' w' => Classical.epsilon fun m => J m a' w' ∧ ∀ k, J k a' w' → m ≤ k) ?_ ?_
  · exact ⟨⟨μ x0, by rw [hJ]; exact ⟨x0, Ds, rfl, hF.ag ha, by rw [hw]; exact h0, hd⟩⟩, Same.refl w⟩
  · rintro a1 w1 ⟨hex, hs1⟩
    have q := eps a1 w1 hex
    obtain ⟨x, D1, em, ag1, i1, d1⟩ := key _ _ _ q.1
    refine wpIn_mono ((round x w1.heap D1 i1).out fd a1 w1 ag1 rfl d1) ?_
    rintro e a2 w2 ⟨f2, D3, fine, p1, p2, p3, p4⟩
    cases e with
    | normal =>
      obtain ⟨x', s1, s2, s3⟩ := p4
      have j2 : J (μ x') a2 w2 := by rw [hJ]; exact ⟨x', D3, rfl, s1.ag p1, s2, p2⟩
      refine ⟨⟨⟨_, j2⟩, hs1.trans p3⟩, ?_⟩
      have q2 := (eps a2 w2 ⟨_, j2⟩).2 _ j2
      have em' : μ x = Classical.epsilon fun m => J m a1 w1 ∧ ∀ k, J k a1 w1 → m ≤ k := em
      show (Classical.epsilon _) < (Classical.epsilon _)
      rw [← em']
      exact Nat.lt_of_le_of_lt q2 s3
    | exit id => exact ⟨f2, D3, fine, p1, p2, hs1.trans p3, p4⟩
    | ret => exact ⟨f2, D3, fine, p1, p2, hs1.trans p3, p4⟩
    | goto l => exact fine.elim
    | panic ch => exact fine.elim
    | outgrown => exact fine.elim
theorem SVD.keep {c : Code} {K : Exit → Fr → Hp → List Nat → Prop} {f : Fr} {h : Hp} {Ds : List Nat} (ml : List Nat × Nat) {α : Type} (G : α → Fr) (I : α → Hp → List Nat → Prop) (μ : α → Nat) (x0 : α) (hF : SubK f (G x0)) (h0 : I x0 h Ds)
    (round : ∀ x h Ds, I x h Ds → SVD P n c (fun e f' h' Ds' => match e with | .normal => ∃ x', SubK f' (G x' ++ keepF ml.1 ml.2 [] f) ∧ I x' h' Ds' ∧ μ x' < μ x | e => K e f' h' Ds') (G x ++ keepF ml.1 ml.2 [] f) h Ds) : SVD P n (.loop c) K f h Ds :=
  SVD.loop (fun x => G x ++ keepF ml.1 ml.2 [] f) I μ x0 (hF.app (keepF_ok fun _ _ _ _ _ e => e)) h0 round
/-- a call of yield goes through one round -/
def YC (P : Program) (l : Nat) (args : List Value) (h : Hp) (R : Hp → Prop) : Prop :=
  ∀ w : World, w.heap = h → ∃ fn tmps assign body, (invoke (.fn (.yield l) #[]) args.toArray).run P w = .ok (.round l fn tmps assign body) w ∧
    ∀ ro fd, RoundIn (FR ro) fd P l fn tmps assign body w fun e w' => ∃ v, e = .returned v ∧ Same w w' ∧ v = .bool true ∧ R w'.heap
theorem EvYield.yc {l : Nat} {args : List Value} {h : Hp} {K : Value → Hp → Prop} {R : Hp → Prop} (y : YC P l args h R) (k : ∀ h', R h' → K (.bool true) h') : EvYield P l args h K :=
  ⟨fun w hw => by
    obtain ⟨fn, tmps, assign, body, e1, hr⟩ := y w hw
    exact ⟨fn, tmps, assign, body, e1, fun ro fd => (hr ro fd).mono fun e w' ⟨v, he, hs, hv, hq⟩ => ⟨v, he, hs, by subst hv; exact k _ hq⟩⟩⟩
theorem Same.putObj (w : World) (r : Nat) (o : Obj) : Same w (w.putObj r o) := ⟨rfl, rfl, rfl⟩
theorem putObj_upd (w : World) {r : Nat} (o : Obj) (h : r < w.heap.size) : Upd w.heap r o (w.putObj r o).heap :=
  ⟨by simp [World.putObj], World.putObj_heap_same h, fun k hk => World.putObj_heap_other hk⟩
def putPs : List (Nat × Value) → Fr → Fr
  | [], f => f
  | (p, v) :: r, f => putPs r ((p, v) :: f)
theorem Ag.putPs : ∀ (l : List (Nat × Value)) {f : Fr} {a : Array Value}, (∀ p ∈ l, p.1 < n) → Ag n f { tmps := a, defers := [] } → Ag n (putPs l f) { tmps := l.foldl (fun t (p, v) => t.setIfInBounds p v) a, defers := [] }
  | [], _, _, _, h => h
  | (p, v) :: r, f, a, hp, h => by
    refine Ag.putPs r (fun q hq => hp q (List.mem_cons_of_mem _ hq)) ?_
    have := h.put (hp (p, v) (List.mem_cons_self ..)) v
    exact ⟨by have := h.1; simpa using this, this.2⟩
/-- one round: the assignments, the body -/
theorem round_ok {l : Nat} {r : Loop} {args : List Value} {h0 h : Hp} {M L : List Asn} {R : Hp → Prop} {f : Fr} {fnn : FuncId} {at_ : Array Value} {ps : Array Tmp} {assign body : Code} {D : Nat}
    (hr : r = { state := .ready, pending := none, fn := fnn, tmps := at_, params := ps, assign, body, defers := D })
    (ha : Ag n f { tmps := at_, defers := [] }) (hps : ∀ p ∈ ps.toList, p < n) (hlen : args.length = ps.size) (HS : Sep h0 h (Pt l (.loop r) :: (L ++ M)))
    (v : VC P n assign (fun e f' h' => match e with
      | .normal => ∃ L', Sep h0 h' (L' ++ Pt l (.loop r) :: M) ∧ ∀ h2, Sep h0 h2 (L' ++ Pt l (.loop { r with state := .busy }) :: M) → VC P n body (fun e f' h' => match e with
        | .normal => ∃ L2, Sep h0 h' (L2 ++ Pt l (.loop { r with state := .busy }) :: M) ∧ ∀ h3, Sep h0 h3 (Pt l (.loop r) :: (L2 ++ M)) → R h3
        | _ => False) f' h2
      | _ => False) (putPs (ps.toList.zip args) f) h) : YC P l args h R := by
  intro w hw
  have hl : w.heap[l]? = some (.loop r) := by rw [hw]; exact HS.pt_i 0 rfl
  have hy := run_yield (P := P) (args := args.toArray) hl (by simp [hr, hlen])
  rw [hr] at hy
  refine ⟨fnn, (ps.zip args.toArray).foldl (fun tmps (x : Nat × Value) => tmps.setIfInBounds x.1 x.2) at_, assign, body, ?_, fun ro fd => ?_⟩
  · exact hy
  · refine roundIn_of_wpIn trivial ?_
    have hag := Ag.putPs (n := n) (ps.toList.zip args) (f := f) (a := at_) (fun p hp => hps p.1 (List.of_mem_zip hp).1) ha
    have ez : (ps.zip args.toArray).foldl (fun tmps (x : Nat × Value) => tmps.setIfInBounds x.1 x.2) at_ = (ps.toList.zip args).foldl (fun t (x : Nat × Value) => t.setIfInBounds x.1 x.2) at_ := by
      rw [← Array.foldl_toList]
      congr 1
      simp
    have hv := vc_ok v (some l) fd _ w hag hw
    have e0 : ({ tmps := (ps.zip args.toArray).foldl (fun tmps (x : Nat × Value) => tmps.setIfInBounds x.1 x.2) at_, defers := [] } : Act) = { tmps := (ps.toList.zip args).foldl (fun t (x : Nat × Value) => t.setIfInBounds x.1 x.2) at_, defers := [] } := by rw [ez]
    refine Eq.mpr (congrArg (fun a => Code.wpIn _ fd P assign _ a w) e0) (wpIn_mono hv ?_)
    rintro e a1 w1 ⟨f1, fine, p1, p2, p3, p4⟩
    cases e with
    | normal =>
      obtain ⟨L', HS1, k⟩ := p4
      have hl1 : w1.heap[l]? = some (.loop r) := HS1.pt (List.mem_append_right _ (List.mem_cons_self ..))
      have hlt1 : l < w1.heap.size := (Array.getElem?_eq_some_iff.1 hl1).1
      refine ⟨w1.putObj l (.loop { r with state := .busy }), run_beginRound hl1 (by rw [hr]), ?_⟩
      have hi1 : (L' ++ Pt l (.loop r) :: M)[L'.length]? = some (Pt l (.loop r)) := by simp
      have HS2 := HS1.upd L'.length hi1 (putObj_upd w1 (.loop { r with state := .busy }) hlt1)
      have es : (L' ++ Pt l (.loop r) :: M).set L'.length (Pt l (.loop { r with state := .busy })) = L' ++ Pt l (.loop { r with state := .busy }) :: M := by simp
      rw [es] at HS2
      refine wpIn_mono (vc_ok (k _ HS2) (some l) fd a1 _ p1 rfl) ?_
      rintro e2 a2 w2 ⟨f2, fine2, q1, q2, q3, q4⟩
      cases e2 with
      | normal =>
        obtain ⟨L2, HS3, k2⟩ := q4
        have hl2 : w2.heap[l]? = some (.loop { r with state := .busy }) := HS3.pt (List.mem_append_right _ (List.mem_cons_self ..))
        have hlt2 : l < w2.heap.size := (Array.getElem?_eq_some_iff.1 hl2).1
        have hend := run_endRound (P := P) none hl2
        have hi2 : (L2 ++ Pt l (.loop { r with state := .busy }) :: M)[L2.length]? = some (Pt l (.loop { r with state := .busy })) := by simp
        have HS4 := HS3.upd L2.length hi2 (putObj_upd w2 (.loop r) hlt2)
        have es2 : (L2 ++ Pt l (.loop { r with state := .busy }) :: M).set L2.length (Pt l (.loop r)) = L2 ++ Pt l (.loop r) :: M := by simp
        rw [es2] at HS4
        have HS5 := HS4.front L2.length (A := Pt l (.loop r)) (by simp)
        have es3 : (L2 ++ Pt l (.loop r) :: M).eraseIdx L2.length = L2 ++ M := by
          rw [List.eraseIdx_append_of_length_le (Nat.le_refl _)]
          simp
        rw [es3] at HS5
        have er : ({ { r with state := .busy } with state := if (none : Option Code).isNone then .ready else .done, pending := none } : Loop) = r := by rw [hr]; rfl
        rw [er] at hend
        exact ⟨_, _, hend, _, rfl, ((p3.trans (Same.putObj _ _ _)).trans q3).trans (Same.putObj _ _ _), rfl, k2 _ HS5⟩
      | exit id => exact q4.elim
      | ret => exact q4.elim
      | goto l => exact fine2.elim
      | panic ch => exact fine2.elim
      | outgrown => exact fine2.elim
    | exit id => exact p4.elim
    | ret => exact p4.elim
    | goto l => exact fine.elim
    | panic ch => exact fine.elim
    | outgrown => exact fine.elim
/-- the statement: the iterator's contract is asked for the record that is laid -/
theorem SVD.range {g : Operand} {ps : Array Tmp} {assign body : Code} {K : Exit → Fr → Hp → List Nat → Prop} {f : Fr} {h0 h : Hp} {Ds : List Nat} {L : List Asn} {gf : Nat} {lb : Array Value}
    (hg : f.ev g = some (.func (.func gf) #[] lb)) (HS : Sep h0 h L)
    (it : ∀ (l D : Nat) (r : Loop) (fnn : FuncId) (at_ : Array Value) (h1 : Hp), r = { state := .ready, pending := none, fn := fnn, tmps := at_, params := ps, assign, body, defers := D } → Ag n f { tmps := at_, defers := [] } → Sep h0 h1 (Pt l (.loop r) :: Pt D (.deferred (some [])) :: L) →
      HC P gf (.func (.yield l) #[] #[] :: lb.toList) h1 fun _ h2 => ∃ L2, Sep h0 h2 (Pt l (.loop r) :: Pt D (.deferred (some [])) :: L2) ∧ ∀ h3, Sep h0 h3 (Pt D (.deferred (some [])) :: L2) → K .normal f h3 (D :: Ds)) :
    SVD P n (.rangeFunc g ps assign body) K f h Ds := by
  refine ⟨fun fd a w ha hw hd => ?_⟩
  refine wpIn_rangeFunc ?_
  intro fn hfn
  obtain ⟨r, hr⟩ : ∃ r : Loop, r = { state := .ready, pending := none, fn := fn, tmps := a.tmps, params := ps, assign, body, defers := w.heap.size } := ⟨_, rfl⟩
  have HS1 : Sep h0 ((w.alloc (.deferred (some []))).alloc (.loop r)).heap (Pt (w.heap.size + 1) (.loop r) :: Pt w.heap.size (.deferred (some [])) :: L) := by
    subst hw
    have := (HS.push (.deferred (some []))).push (.loop r)
    have e : (w.heap.push (.deferred (some []))).size = w.heap.size + 1 := Array.size_push ..
    rw [e] at this
    exact this
  have hag : Ag n f { tmps := a.tmps, defers := [] } := ⟨ha.1, ha.2⟩
  have hc := it (w.heap.size + 1) w.heap.size r fn a.tmps _ hr hag HS1
  refine ⟨w.heap.size + 1, [{ target := .collected w.heap.size, args := #[] }], (w.alloc (.deferred (some []))).alloc (.loop r), { target := .fn (.func gf) lb, args := #[.func (.yield (w.heap.size + 1)) #[] #[]] }, (w.alloc (.deferred (some []))).alloc (.loop r), gf,
    #[.func (.yield (w.heap.size + 1)) #[] #[]] ++ lb, (w.alloc (.deferred (some []))).alloc (.loop r), ?_, ?_, fun _ _ => trivial, ?_, fun hd => (by cases hd), ?_⟩
  · rw [hr]; exact run_enterLoop_outer _ _ _ _ _
  · simp only [resolve, ha.ev _ _ hg]
    simp [go_sem]
  · simp only [invoke]
    exact hc.1 _ _
  · have hcall := hc.2 _ rfl
    have e1 : (.func (.yield (w.heap.size + 1)) #[] #[] :: lb.toList : List Value).toArray = #[.func (.yield (w.heap.size + 1)) #[] #[]] ++ lb := by
      apply Array.ext'
      simp
    rw [e1] at hcall
    refine CallsIn.mono ((callsIn_wide (n := fd - 1)).2 hcall) ?_
    rintro e w3 ⟨v, rfl, hs3, L2, HS2, k⟩
    have hl2 : w3.heap[w.heap.size + 1]? = some (.loop r) := HS2.pt_i 0 rfl
    have hlt2 : w.heap.size + 1 < w3.heap.size := (Array.getElem?_eq_some_iff.1 hl2).1
    have hend := run_endLoop (P := P) hl2 (by rw [hr]; simp)
    have ep : r.pending = none := by rw [hr]
    have HS3 := HS2.upd 0 rfl (putObj_upd w3 (.loop { r with state := .exhausted }) hlt2)
    have hsW := Same.putObj w3 (w.heap.size + 1) (.loop { r with state := .exhausted })
    obtain ⟨W, hW⟩ : ∃ W, w3.putObj (w.heap.size + 1) (.loop { r with state := .exhausted }) = W := ⟨_, rfl⟩
    rw [hW] at hend HS3 hsW
    rw [ep] at hend
    refine ⟨none, W, hend, ?_⟩
    exact ⟨f, w.heap.size :: Ds, trivial, ⟨ha.1, ha.2⟩, by simp [hd, dmk], (show Same w ((w.alloc (.deferred (some []))).alloc (.loop r)) from ⟨rfl, rfl, rfl⟩).trans (hs3.trans hsW), k _ HS3.tail⟩
/-- the marks' blocks -/
def DefP (Ds : List Nat) : List Asn := Ds.map fun D => Pt D (.deferred (some []))
theorem leaves_ok {fn : Func} {tmps : Array Value} {R : Ending → World → Prop} {h0 : Hp} {L : List Asn} : ∀ (Ds : List Nat) (w : World), Sep h0 w.heap (DefP Ds ++ L) → (∀ w', Same w w' → Sep h0 w'.heap L → ∃ v, (results fn tmps).run P w' = .ok v w' ∧ R (.returned v) w') →
    LeavesInM (FR none) 0 P fn tmps R (Ds.map dmk) .returning w
  | [], w, HS, k => k w (Same.refl _) HS
  | D :: Ds, w, HS, k => by
    have hD : w.heap[D]? = some (.deferred (some [])) := HS.pt_i 0 rfl
    have hlt : D < w.heap.size := (Array.getElem?_eq_some_iff.1 hD).1
    refine ⟨by simp, .inl ⟨D, _, rfl, run_takeDeferred hD, leaves_ok Ds _ ?_ (fun w' hs' HS' => k w' ((Same.putObj _ _ _).trans hs') HS')⟩⟩
    exact (HS.upd 0 rfl (putObj_upd w (.deferred none) hlt)).tail
def VEndD (P : Program) (h0 : Hp) (rs : Array ResultVar) (R : Value → Hp → Prop) : Exit → Fr → Hp → List Nat → Prop :=
  fun e f h Ds => match e with
  | .normal => ∃ L, Sep h0 h (DefP Ds ++ L) ∧ ∀ h', Sep h0 h' L → VRes P h' f rs.toList fun vs => match vs with | [v] => R v h' | vs => R (.tuple vs.toArray) h'
  | .ret => ∃ L, Sep h0 h (DefP Ds ++ L) ∧ ∀ h', Sep h0 h' L → VRes P h' f rs.toList fun vs => match vs with | [v] => R v h' | vs => R (.tuple vs.toArray) h'
  | _ => False
theorem hc_of_d {i : FuncId} {fn : Func} {c : Code} {rs : Array ResultVar} {args : List Value} {h h0 : Hp} {R : Value → Hp → Prop} (hf : P.funcs[i]? = some fn) (hb : fn.body = some c) (hn : fn.ntmps = n) (hr : fn.results = rs)
    (hcall : ∀ (args : Array Value) (w : World), (callFunc i args).run P w = .ok (.enter i args) w) (hlen : Nat.ble args.length n = true)
    (hv : SVD P n c (VEndD P h0 rs R) (initFr 0 args) h []) : HC P i args h R := by
  refine ⟨hcall, fun w hw => (callsIn_wide (n := 0)).1 (callsIn_of_wp_marks hf hb trivial ?_)⟩
  have hlen := Nat.le_of_ble_eq_true hlen
  have ha : Ag n (initFr 0 args) { tmps := args.toArray ++ Array.replicate (fn.ntmps - args.toArray.size) undef, defers := [] } := by
    refine ⟨by simp [hn]; omega, fun t v ht => ?_⟩
    obtain ⟨_, e⟩ := initFr_ok _ _ _ _ ht
    have hlt : t < args.length := by
      have := (List.getElem?_eq_some_iff.mp e).1
      omega
    rw [Array.getD_eq_getD_getElem?, Array.getElem?_append_left (by simpa using hlt)]
    simp at e
    simp [e]
  refine wpIn_mono (hv.out 0 _ w ha hw rfl) ?_
  rintro e a' w' ⟨f', Ds, fine, p1, p2, p3, p4⟩
  have fin : (∃ L, Sep h0 w'.heap (DefP Ds ++ L) ∧ ∀ h', Sep h0 h' L → VRes P h' f' rs.toList fun vs => match vs with | [v] => R v h' | vs => R (.tuple vs.toArray) h') →
      LeavesInM (FR none) 0 P fn a'.tmps (fun e w' => ∃ v, e = .returned v ∧ Same w w' ∧ R v w'.heap) a'.defers .returning w' := by
    rintro ⟨L, HS, hk⟩
    rw [p2]
    refine leaves_ok Ds w' HS (fun w2 hs2 HS2 => ?_)
    obtain ⟨v, e1, hk⟩ := res_ok (R := R) hr p1 w2 (hk _ HS2)
    exact ⟨v, e1, _, rfl, p3.trans hs2, hk⟩
  cases e with
  | normal => exact fin p4
  | ret => exact fin p4
  | exit id => exact p4.elim
  | goto l => exact fine.elim
  | panic ch => exact fine.elim
  | outgrown => exact fine.elim
end
end Go.Proofs.YtjggmhpjlnmigaaDoor
