/- Small facts and walks that many texts share. -/
import Derived.Test.YtjggmhpjlnmigaaDoorVProg
import Derived.Test.YtjggmhpjlnmigaaDoorVA
namespace Go.Proofs.YtjggmhpjlnmigaaDoor
open Go.RowKit
set_option maxRecDepth 20000
set_option linter.unusedSimpArgs false
set_option linter.unusedVariables false
theorem EvKeep.same {h : Hp} {b o n : Nat} {A : Prop} (a : A) : EvKeep h h b o n A := ⟨fun _ _ => rfl, a⟩
theorem Rd.of_blk {h : Hp} {b : Nat} {l : List Value} {T : TypeId} {z : Nat × Nat} (e : h[b]? = some (.cells l.toArray T z)) : Rd h (some ⟨b, 0, none⟩) l :=
  fun j v hv => ⟨b, 0, rfl, by rw [Nat.zero_add, hcell_lit e, hv]⟩
/-- What comes behind cells that are kept, held back. -/
structure Hole (X : Prop) : Prop where
  out : X
theorem keepK_mono {h h' : Hp} {A B : Prop} (k : A → B) : ∀ {G : List (Nat × Nat × Nat × Nat)}, keepK h h' A G → keepK h h' B G
  | [], a => k a
  | (_, _, _, _) :: _, ⟨e, r⟩ => ⟨e, keepK_mono k r⟩
theorem EvKeep.abs {h h' : Hp} {b o c : Nat} {A : Prop} {G : List (Nat × Nat × Nat × Nat)} (k : ∀ X : Prop, (A → X) → EvKeep h h' b o c (keepK h h' (Hole X) G)) : EvKeep h h' b o c (keepK h h' A G) :=
  ⟨(k A id).keep, keepK_mono (fun x => x.out) (k A id).out⟩
theorem EvKeep.hole {h h' : Hp} {b o c : Nat} {X : Prop} {G : List (Nat × Nat × Nat × Nat)} (k : EvKeep h h' b o c (keepK h h' (Hole X) G)) : EvKeep h h' b o c (keepK h h' (Hole X) G) := k
/-- a region that draws, its orders met behind it -/
theorem EvDraw.cut {P : Program} {n id : Nat} {ops : Array Oper} {K : Fr → Hp → Prop} {f : Fr} {h : Hp} {α : Type} (F : α → Fr) (I : α → Hp → Prop)
    (h1 : EvDraw P n id ops (fun f' h' => ∃ x, SubK f' (F x) ∧ I x h') f h) (h2 : ∀ x h, I x h → K (F x) h) : EvDraw P n id ops K f h := by
  refine ⟨fun ro fd a w ha hw => wpIn_mono (h1.out ro fd a w ha hw) ?_⟩
  rintro e a' w' ⟨f', fine, p1, p2, p3, p4⟩
  cases e with
  | normal =>
    obtain ⟨z, s1, s2⟩ := p4
    exact ⟨F z, trivial, s1.ag p1, p2, p3, h2 z _ s2⟩
  | exit id => exact p4.elim
  | ret => exact p4.elim
  | goto l => exact p4.elim
  | panic ch => exact p4.elim
  | outgrown => exact p4.elim
/-- some of the pieces, in another order -/
inductive PK : List Asn → List Asn → Prop
  | nil {L : List Asn} : PK L []
  | cons {L M : List Asn} {A : Asn} (i : Nat) (h : L[i]? = some A) (r : PK (L.eraseIdx i) M) : PK L (A :: M)
theorem PK.sep {L M : List Asn} (p : PK L M) : ∀ {h : Hp} {S : Foot}, sepL L h S → sepL M h S := by
  induction p with
  | nil => exact fun _ => trivial
  | cons i e r ih =>
    intro h S s
    obtain ⟨S1, S2, a, q, d, s1, s2⟩ := sepL_front s e
    exact ⟨S1, S2, a, ih q, d, s1, s2⟩
inductive Del (A : Asn) : List Asn → List Asn → Prop
  | h {L : List Asn} : Del A (A :: L) L
  | t {B : Asn} {L M : List Asn} (r : Del A L M) : Del A (B :: L) (B :: M)
theorem PK.q {A : Asn} {L L' M : List Asn} (p : Del A L L') (r : PK L' M) : PK L (A :: M) := by
  have : ∃ i, L[i]? = some A ∧ L.eraseIdx i = L' := by
    clear r
    induction p with
    | h => exact ⟨0, rfl, rfl⟩
    | t r ih =>
      obtain ⟨i, a, b⟩ := ih
      exact ⟨i + 1, by simpa using a, by rw [List.eraseIdx_cons_succ, b]⟩
  obtain ⟨i, a, b⟩ := this
  exact PK.cons i a (b ▸ r)
theorem Sep.pk {h0 h : Hp} {L M : List Asn} (s : Sep h0 h L) (p : PK L M) : Sep h0 h M := by
  obtain ⟨e, S, hS, r⟩ := s
  exact ⟨e, S, hS, p.sep r⟩
theorem EvLd.bi {h0 h : Hp} {L : List Asn} {b o : Nat} {l : List Value} {T : TypeId} {K : Value → Prop} (s : Sep h0 h L) (i : Nat) (hi : L[i]? = some (Bx b l T)) (k : nthK o l fun v => hcell h b o = some v → K v) : EvLd h b o K := EvLd.nth (s.pt_i i hi) k
theorem EvLdN.bi {h0 h : Hp} {L : List Asn} {b o n : Nat} {l : List Value} {T : TypeId} {K : List Value → Prop} (s : Sep h0 h L) (i : Nat) (hi : L[i]? = some (Bx b l T)) (k : h[b]? = some (.cells l.toArray T (0, 0)) → dropK o l fun r => takeK n r K) : EvLdN h b o n K := EvLdN.blk (s.pt_i i hi) (k (s.pt_i i hi))
theorem EvSt.bi {h0 h : Hp} {L : List Asn} {b o : Nat} {vs l : List Value} {T : TypeId} {K : Hp → Prop} (s : Sep h0 h L) (i : Nat) (hi : L[i]? = some (Bx b l T)) (k : putK l o vs fun l' => ∀ h', Sep h0 h' (L.set i (Bx b l' T)) → Upd h b (.cells l'.toArray T (0, 0)) h' → K h') : EvSt h b o vs K := EvSt.blk (i := i) s hi k
theorem EvKeep.ci {h0 h h' : Hp} {L : List Asn} {b o : Nat} {l : List Value} {T : TypeId} {A : Prop} (s : Sep h0 h' L) (i : Nat) (hi : L[i]? = some (Bx b l T)) (k : nthK o l fun v => hcell h b o = some v ∧ (hcell h' b o = some v → A)) : EvKeep h h' b o 1 A := EvKeep.nth (s.pt_i i hi) k
theorem EvKeep.ni {h0 h h' : Hp} {L : List Asn} {b o n : Nat} {l : List Value} {T : TypeId} {A : Prop} (s : Sep h0 h' L) (i : Nat) (hi : L[i]? = some (Bx b l T)) (h1 : h[b]? = some (.cells l.toArray T (0, 0))) (a : h'[b]? = some (.cells l.toArray T (0, 0)) → A) : EvKeep h h' b o n A := ⟨fun j _ => hcell_of ((s.pt_i i hi).trans h1.symm) _, a (s.pt_i i hi)⟩
theorem inside_c (n lo hi : Int) (h : Hp) : HC Tryd.prog 61 [.int .i64 n, .int .i64 lo, .int .i64 hi] h fun v h' => v = .bool (decide (lo ≤ n ∧ n ≤ hi)) ∧ h' = h := by
  refine hc_of Tryd.func61 (rfl : Tryd.f61.body = some _) Tryd.ntmps61 Tryd.results61 Tryd.call61 rfl ?_; have HS := Sep.nil h; conv => whnf
  repeat' ((first | (with_reducible first | refine EvSeq.go ?_ | refine EvIf.tt ?_ | refine EvIf.ff ?_) | ((with_reducible refine EvIf.mk (fun c => ?_) (fun c => ?_)) <;> (try simp only [cs_] at c) <;> (try (exfalso; first | omega | (revert c; decide))))) <;> conv => whnf)
  all_goals
    refine ⟨?_, rfl⟩
    congr 1
    simp
    try omega
theorem iw64 (n : Int) : IntKind.i64.wrap n = wrap64 n := wrap_i64 n
theorem iWord_c (n : Int) (h : Hp) : HC Tryd.prog 91 [.int .i64 n] h fun v h' => v = .int .i64 (n % 4294967296) ∧ h' = h := by
  refine hc_of Tryd.func91 (rfl : Tryd.f91.body = some _) Tryd.ntmps91 Tryd.results91 Tryd.call91 rfl ?_; have HS := Sep.nil h; conv => whnf
  repeat' (fail <;> conv => whnf)
  refine ⟨?_, rfl⟩
  show Value.int _ _ = _
  rw [and_w]
end Go.Proofs.YtjggmhpjlnmigaaDoor
