/- Draws: the reader. -/
import Derived.Test.YthndggachjdkfaaVPst
namespace Go.Proofs.Ythndggachjdkfaa
open Go.RowKit
set_option maxRecDepth 20000
set_option linter.unusedSimpArgs false
set_option linter.unusedVariables false
/-- the number at a place of the row, 0 behind its end -/
def bt (l : List Int) (q : Nat) : Int := l.getD q 0
/-- a reader of a row of n numbers, q times read -/
def RQ (b : Nat) (A : Option Addr) (n q : Nat) : Asn :=
  ⟨fun h S => ∃ c : Nat, (Bx b [.slice A n c, .int .i64 ((min q n : Nat) : Int)] 138).at_ h S, fun ⟨c, a⟩ e => ⟨c, Asn.loc _ a e⟩⟩
structure RdB (h : Hp) (A : Option Addr) (l : List Int) : Prop where
  r : Rd h A (ints .u8 l)
  by_ : Byt l
  nb : l.length ≤ 1000000000
theorem RdB.ext {h h' : Hp} {A : Option Addr} {l : List Int} (r : RdB h A l) (e : Ext h h') : RdB h' A l := ⟨r.r.ext e, r.by_, r.nb⟩
theorem bt_r {l : List Int} (h : Byt l) (q : Nat) : 0 ≤ bt l q ∧ bt l q ≤ 255 := by
  unfold bt
  rw [List.getD_eq_getElem?_getD]
  cases e : l[q]? with
  | none => simp
  | some x => exact h x (List.mem_of_getElem? e)
theorem sepL_unfront : ∀ {L : List Asn} {h : Hp} {S : Foot} {i : Nat} {X : Asn}, sepL (X :: L.eraseIdx i) h S → i < L.length → sepL (L.set i X) h S
  | B :: L, h, S, 0, X, r, _ => r
  | B :: L, h, S, i + 1, X, r, hi => by
    obtain ⟨S1, S2, a, r, d, s1, s2⟩ := sepL_swap r
    exact ⟨S1, S2, a, sepL_unfront r (by simpa using hi), d, s1, s2⟩
/-- the piece at the front put back to its place -/
theorem Sep.unfront {h0 h : Hp} {L : List Asn} {i : Nat} {X : Asn} (s : Sep h0 h (X :: L.eraseIdx i)) (hi : i < L.length) : Sep h0 h (L.set i X) := by
  obtain ⟨e, S, hS, r⟩ := s
  exact ⟨e, S, hS, sepL_unfront r hi⟩
theorem Sep.opn {h0 h : Hp} {L : List Asn} {b : Nat} {A : Option Addr} {n q : Nat} (s : Sep h0 h (RQ b A n q :: L)) : ∃ c : Nat, Sep h0 h (Bx b [.slice A n c, .int .i64 ((min q n : Nat) : Int)] 138 :: L) := by
  obtain ⟨e, S, hS, S1, S2, ⟨c, a⟩, r, d, s1, s2⟩ := s
  exact ⟨c, e, S, hS, S1, S2, a, r, d, s1, s2⟩
theorem Sep.cls {h0 h : Hp} {L : List Asn} {b : Nat} {A : Option Addr} {n q c : Nat} {p : Int} (s : Sep h0 h (Bx b [.slice A n c, .int .i64 p] 138 :: L)) (e : p = ((min q n : Nat) : Int)) : Sep h0 h (RQ b A n q :: L) := by
  subst e
  exact s.weaken fun S a => ⟨c, a⟩
theorem next_e {h0 h : Hp} {L : List Asn} {F : Asn → List Asn} {b q : Nat} {A : Option Addr} {l : List Int} (S0 : Sep h0 h L) (p : Spot (RQ b A l.length q) L F) (r : RdB h0 A l) :
    HC Try.prog 72 [.pointer (some ⟨b, 0, none⟩)] h fun v h' => v = .int .i64 (bt l q) ∧ 0 ≤ bt l q ∧ bt l q ≤ 255 ∧ Sep h0 h' (F (RQ b A l.length (q + 1))) := by
  obtain ⟨i, hi, hF⟩ := p.idx
  have hil : i < L.length := (List.getElem?_eq_some_iff.mp hi).1
  obtain ⟨c, HS⟩ := (S0.front i hi).opn
  have R := r.r.ext S0.to_ext
  have nb := r.nb
  have hk := bt_r r.by_ q
  refine hc_of Try.func72 (rfl : Try.f72.body = some _) Try.ntmps72 Try.results72 Try.call72 rfl ?_; conv => whnf
  repeat' ((first | ((with_reducible refine EvDraw.ord (id := 1) (.go 0 (.go 1 (.go 2 (.go 3 (.go 4 (.go 5 (.go 6 (.go 7 (.go 8 (.go 9 .done)))))))))) fol ?_ ?_ ?_); kernel_rfl; kernel_rfl) | ((with_reducible refine EvDraw.ord (id := 2) (.go 0 (.go 1 (.go 2 (.go 3 (.go 4 (.go 5 (.go 6 (.go 7 (.go 8 (.go 9 (.go 10 (.go 11 .done)))))))))))) fol ?_ ?_ ?_); kernel_rfl; kernel_rfl) | ((with_reducible refine EvIdx.rd R (by simp) (by omega) (by omega) ?_); intro bI oI eI hI) | ((with_reducible refine EvLd.row (by assumption) (by omega) ?_)) | (with_reducible first | refine EvSeq.go ?_ | refine EvIf.tt ?_ | refine EvIf.ff ?_) | ((with_reducible refine Hole.mk (kK ?_)); clear kK) | ((with_reducible refine EvIf.mk (fun c => ?_) (fun c => ?_)) <;> (try simp only [cs_] at c) <;> (try (exfalso; first | omega | (revert c; decide)))) | ((with_reducible refine EvNew.sep HS ?_); intro bN hN HS1 hX; replace HS := HS1; clear HS1) | ((with_reducible refine EvIdx.lit ?_ ?_ ?_); (first | omega | decide); (first | omega | decide)) | ((with_reducible first | refine EvNe.mk ?_ ?_ | refine EvGe.mk ?_ ?_); (first | decide | omega)) | ((with_reducible refine EvLd.q HS (by repeat first | exact .h | apply Spot.t) ?_); (conv => whnf); intro hC) | (with_reducible refine EvLdN.q HS (by repeat first | exact .h | apply Spot.t) (fun hC => ?_)) | ((with_reducible refine EvSt.q HS (by repeat first | exact .h | apply Spot.t) ?_); (conv => whnf); intro hN HS1 hU; replace HS := HS1; clear HS1) | ((with_reducible refine EvKeep.cq (A := keepK _ _ (Hole _) _) HS (by repeat first | exact .h | apply Spot.t) ?_); (conv => whnf); (refine ⟨?_, ?_⟩); assumption; intro hC) | ((with_reducible refine EvKeep.nq (A := keepK _ _ (Hole _) _) HS (by repeat first | exact .h | apply Spot.t) ?_ ?_); assumption; intro hC) | ((fail_if_success with_reducible refine EvKeep.hole ?_); (with_reducible refine EvKeep.abs (fun X kK => ?_)))) <;> conv => whnf)
  · have hlt : q < l.length := by omega
    have e0 : min q l.length = q := by omega
    have e1 : l[(((min q l.length : Nat) : Int)).toNat]'(by omega) = bt l q := by
      unfold bt
      rw [List.getD_eq_getElem?_getD, List.getElem?_eq_getElem hlt]
      simp [e0]
    rw [e1, i64w _ (by omega) (by omega)]
    refine ⟨rfl, hk.1, hk.2, ?_⟩
    rw [← hF]
    exact (HS.cls (q := q + 1) (by rw [i64w _ (by omega) (by omega)]; omega)).unfront hil
  · have e1 : bt l q = 0 := by
      unfold bt
      rw [List.getD_eq_getElem?_getD, List.getElem?_eq_none (by omega)]
      rfl
    rw [e1]
    refine ⟨rfl, by decide, by decide, ?_⟩
    rw [← hF]
    exact (HS.cls (q := q + 1) (by omega)).unfront hil
theorem rd_take {h : Hp} {A : Option Addr} {k : IntKind} {l : List Int} (n : Nat) (r : Rd h A (ints k l)) : Rd h A (ints k (l.take n)) := by
  intro j v hj
  refine r j v ?_
  have hlt := (List.getElem?_eq_some_iff.mp hj).1
  have hlt : j < n ∧ j < l.length := by simp [ints] at hlt; omega
  rw [← hj]
  simp [ints, List.getElem?_take, hlt.1]
theorem rd_add0 {h : Hp} {A : Option Addr} {vs : List Value} (r : Rd h A vs) : Rd h (A.map fun x => x.add (0 * 1)) vs := by
  intro j v hj
  obtain ⟨b, o, rfl, hc⟩ := r j v hj
  exact ⟨b, o, rfl, hc⟩
theorem open_e {h0 h : Hp} {L : List Asn} {x : Hdr} {l : List Int} (S0 : Sep h0 h L) (r : Rd h0 x.a (ints .u8 l)) (by_ : Byt l) (rl : l.length = x.n) (nc : x.n ≤ x.c) (nb : x.n ≤ 1000000000) :
    HC Try.prog 70 [x.v] h fun v h' => ∃ (b : Nat) (A : Option Addr), v = .pointer (some ⟨b, 0, none⟩) ∧ RdB h0 A (l.take 1500) ∧ Sep h0 h' (RQ b A (l.take 1500).length 0 :: L) := by
  have HS := S0
  have hb : Byt (l.take 1500) := fun x hx => by_ x (List.mem_of_mem_take hx)
  refine hc_of Try.func70 (rfl : Try.f70.body = some _) Try.ntmps70 Try.results70 Try.call70 rfl ?_; conv => whnf
  repeat' ((first | ((with_reducible refine EvCut.mk (by omega) (by omega) (by omega) (by omega) ?_)) | (with_reducible first | refine EvSeq.go ?_ | refine EvIf.tt ?_ | refine EvIf.ff ?_) | ((with_reducible refine Hole.mk (kK ?_)); clear kK) | ((with_reducible refine EvIf.mk (fun c => ?_) (fun c => ?_)) <;> (try simp only [cs_] at c) <;> (try (exfalso; first | omega | (revert c; decide)))) | ((with_reducible refine EvNew.sep HS ?_); intro bN hN HS1 hX; replace HS := HS1; clear HS1) | ((with_reducible refine EvIdx.lit ?_ ?_ ?_); (first | omega | decide); (first | omega | decide)) | ((with_reducible first | refine EvNe.mk ?_ ?_ | refine EvGe.mk ?_ ?_); (first | decide | omega)) | ((with_reducible refine EvLd.q HS (by repeat first | exact .h | apply Spot.t) ?_); (conv => whnf); intro hC) | (with_reducible refine EvLdN.q HS (by repeat first | exact .h | apply Spot.t) (fun hC => ?_)) | ((with_reducible refine EvSt.q HS (by repeat first | exact .h | apply Spot.t) ?_); (conv => whnf); intro hN HS1 hU; replace HS := HS1; clear HS1) | ((with_reducible refine EvKeep.cq (A := keepK _ _ (Hole _) _) HS (by repeat first | exact .h | apply Spot.t) ?_); (conv => whnf); (refine ⟨?_, ?_⟩); assumption; intro hC) | ((with_reducible refine EvKeep.nq (A := keepK _ _ (Hole _) _) HS (by repeat first | exact .h | apply Spot.t) ?_ ?_); assumption; intro hC) | ((fail_if_success with_reducible refine EvKeep.hole ?_); (with_reducible refine EvKeep.abs (fun X kK => ?_)))) <;> conv => whnf)
  · have e : (l.take 1500).length = (1500 : Int).toNat - (0 : Int).toNat := by simp; omega
    have nb' : (l.take 1500).length ≤ 1000000000 := by simp; omega
    rw [e]
    refine ⟨bN, _, rfl, ⟨?_, hb, nb'⟩, HS.cls (by simp)⟩
    split
    · exact rd_take _ r
    · exact rd_add0 (rd_take _ r)
  · have e : l.take 1500 = l := List.take_of_length_le (by omega)
    rw [e] at hb ⊢
    refine ⟨bN, x.a, rfl, ⟨r, hb, by omega⟩, ?_⟩
    rw [rl]
    exact HS.cls (by simp)
/-- whole numbers in a row of values -/
inductive AllI (k : IntKind) : List Value → List Int → Prop
  | nil : AllI k [] []
  | cons {x : Int} {vs : List Value} {ls : List Int} (r : AllI k vs ls) : AllI k (.int k x :: vs) (x :: ls)
theorem AllI.eq {k : IntKind} {vs : List Value} {ls : List Int} (a : AllI k vs ls) : vs = ints k ls := by
  induction a with
  | nil => rfl
  | cons r ih => rw [ih]; rfl
/-- a number out of a row that is told whole -/
theorem EvLd.lit {h0 h : Hp} {L : List Asn} {F : Asn → List Asn} {b j : Nat} {vs : List Value} {ls : List Int} {k : IntKind} {T : TypeId} {K : Value → Prop} (s : Sep h0 h L) (p : Spot (Bx b vs T) L F) (a : AllI k vs ls) (ho : j < ls.length)
    (kk : h[b]? = some (.cells vs.toArray T (0, 0)) → K (.int k (ls.getD j 0))) : EvLd h b (0 + j * 1) K := by
  obtain ⟨i, hi, _⟩ := p.idx
  have e := a.eq
  subst e
  refine EvLd.blk (s.pt_i i hi) ?_ (kk (s.pt_i i hi))
  simp [List.getElem?_eq_getElem ho, List.getD_eq_getElem?_getD]
def dop (l : List Int) (q : Nat) : Int := 1 + bt l q % 47
def dd (p v : Int) : Int := if p % 2 = 1 then v % 32 else 0
def ds (l : List Int) (p : Int) (q : Nat) : Int × Nat := if p / 2 % 2 = 1 then (bt l q % 32, q + 1) else (0, q)
def dt (l : List Int) (p : Int) (q : Nat) : Int × Nat := if p / 4 % 2 = 1 then (bt l q % 32, q + 1) else (0, q)
def dn (l : List Int) (q : Nat) : Int := bt l q * 65536 + bt l (q + 1) * 256 + bt l (q + 2)
def di (f p v n : Int) : Int := if p / 8 = 1 then (if 224 ≤ v then [(rng f).1, (rng f).2.1, (rng f).2.1 + (rng f).2.2, (rng f).1 - (rng f).2.2, 0, 0 - (rng f).2.2].getD (v % 6).toNat 0 else IntKind.i64.wrap ((rng f).1 + IntKind.i64.wrap (IntKind.i64.wrap (Int.tdiv (n % ((rng f).2.1 - (rng f).1 + 1)) (rng f).2.2) * (rng f).2.2))) else 0
abbrev dj (v : Int) : Nat := (Int.tmod (IntKind.i64.wrap (Int.tdiv v 5)) 3).toNat
def spoil (k v : Int) (i : Ins) : Ins :=
  if 245 ≤ k then (if Int.tmod v 5 = 0 then { i with op := [0, 48, -1].getD (dj v) 0 } else if Int.tmod v 5 = 1 then { i with d := [32, -1, 1].getD (dj v) 0 } else if Int.tmod v 5 = 2 then { i with s := [32, -1, 1].getD (dj v) 0 }
    else if Int.tmod v 5 = 3 then { i with t := [32, -1, 1].getD (dj v) 0 } else { i with n := IntKind.i64.wrap (i.n + 1) }) else i
/-- an instruction, drawn at the q-th number, and where the next stands -/
def dins (l : List Int) (q : Nat) : Ins × Nat :=
  let f := frm (dop l q)
  let p := prt f
  let v := bt l (q + 1)
  let s := ds l p (q + 2)
  let t := dt l p s.2
  (spoil (bt l q) v ⟨dop l q, dd p v, s.1, t.1, di f p v (dn l t.2)⟩, t.2 + 3)
theorem sForm_e (op f : Int) (hf : frm op = f) (h : Hp) : HC Try.prog 119 [.int .i64 op] h fun v h' => v = .int .i64 f ∧ h' = h := hf ▸ l2Form_c op h
theorem rng_b (f : Int) (h1 : 1 ≤ f) (h8 : f ≤ 8) : -1048576 ≤ (rng f).1 ∧ (rng f).1 ≤ (rng f).2.1 ∧ (rng f).2.1 ≤ 1048575 ∧ ((rng f).2.2 = 1 ∨ (rng f).2.2 = 2) := by
  obtain rfl | rfl | rfl | rfl | rfl | rfl | rfl | rfl : f = 1 ∨ f = 2 ∨ f = 3 ∨ f = 4 ∨ f = 5 ∨ f = 6 ∨ f = 7 ∨ f = 8 := by omega
  all_goals decide
theorem prt_b (f : Int) (h1 : 1 ≤ f) (h8 : f ≤ 8) : 0 ≤ prt f ∧ prt f ≤ 15 := by
  obtain rfl | rfl | rfl | rfl | rfl | rfl | rfl | rfl : f = 1 ∨ f = 2 ∨ f = 3 ∨ f = 4 ∨ f = 5 ∨ f = 6 ∨ f = 7 ∨ f = 8 := by omega
  all_goals decide
set_option maxHeartbeats 4000000 in
theorem inst_e {h0 h : Hp} {L : List Asn} {b q : Nat} {A : Option Addr} {l : List Int} (HS : Sep h0 h (RQ b A l.length q :: L)) (r : RdB h0 A l) :
    HC Try.prog 156 [.pointer (some ⟨b, 0, none⟩)] h fun v h' => v = inst (dins l q).1.op (dins l q).1.d (dins l q).1.s (dins l q).1.t (dins l q).1.n ∧ Sep h0 h' (RQ b A l.length (dins l q).2 :: L) := by
  have hk := bt_r r.by_ q
  have e0 : IntKind.i64.wrap (1 + Int.tmod (bt l q) 47) = dop l q := by
    rw [tmod_pos hk.1]
    exact i64w _ (by omega) (by omega)
  have hop : 1 ≤ dop l q ∧ dop l q ≤ 47 := by unfold dop; omega
  have hfr : 1 ≤ frm (dop l q) ∧ frm (dop l q) ≤ 8 := by unfold frm; omega
  unfold dins
  dsimp only
  generalize hop' : dop l q = op at *
  obtain ⟨f, hf⟩ : ∃ f, frm op = f := ⟨_, rfl⟩
  rw [hf] at hfr ⊢
  have hp := prt_b f hfr.1 hfr.2
  have hr := rng_b f hfr.1 hfr.2
  have hvr := bt_r r.by_ (q + 1)
  have hp8 : IntKind.i64.wrap (Int.tdiv (prt f) 8) = prt f / 8 := by
    rw [tdiv_pos hp.1]
    exact i64w _ (by omega) (by omega)
  refine hc_of Try.func156 (rfl : Try.f156.body = some _) Try.ntmps156 Try.results156 Try.call156 rfl ?_; conv => whnf
  refine EvNew.sep HS ?_
  intro b0 gb0 HS1 xb0
  replace HS := HS1
  clear HS1
  conv => whnf
  repeat' ((first | ((with_reducible refine EvCall.mk (HC.mono (next_e HS (by repeat first | exact .h | apply Spot.t) r) ?_)); rintro _ hN ⟨rfl, k0, k1, HS1⟩; replace HS := HS1; clear HS1) | ((with_reducible refine EvCall.mk (HC.mono (sForm_e _ f (by first | exact hf | (rw [e0]; exact hf)) _) ?_)); (rintro _ _ ⟨rfl, rfl⟩)) | ((with_reducible refine EvCall.mk (HC.mono (l2Parts_c f _ (by omega) (by omega)) ?_)); (rintro _ hN ⟨rfl, hX⟩); replace HS := HS.ext hX) | (with_reducible first | refine EvIf.tt ?_ | refine EvIf.ff ?_) | ((with_reducible refine Hole.mk (kK ?_)); clear kK) | ((with_reducible refine EvIf.mk (fun c => ?_) (fun c => ?_)) <;> (try simp only [cs_] at c) <;> (try (exfalso; first | omega | (revert c; decide)))) | ((with_reducible refine EvNew.sep HS ?_); intro bN hN HS1 hX; replace HS := HS1; clear HS1) | ((with_reducible refine EvIdx.lit ?_ ?_ ?_); (first | omega | decide); (first | omega | decide)) | ((with_reducible first | refine EvNe.mk ?_ ?_ | refine EvGe.mk ?_ ?_); (first | decide | omega)) | ((with_reducible refine EvLd.q HS (by repeat first | exact .h | apply Spot.t) ?_); (conv => whnf); intro hC) | (with_reducible refine EvLdN.q HS (by repeat first | exact .h | apply Spot.t) (fun hC => ?_)) | ((with_reducible refine EvSt.q HS (by repeat first | exact .h | apply Spot.t) ?_); (conv => whnf); intro hN HS1 hU; replace HS := HS1; clear HS1) | ((with_reducible refine EvKeep.cq (A := keepK _ _ (Hole _) _) HS (by repeat first | exact .h | apply Spot.t) ?_); (conv => whnf); (refine ⟨?_, ?_⟩); assumption; intro hC) | ((with_reducible refine EvKeep.nq (A := keepK _ _ (Hole _) _) HS (by repeat first | exact .h | apply Spot.t) ?_ ?_); assumption; intro hC) | ((fail_if_success with_reducible refine EvKeep.hole ?_); (with_reducible refine EvKeep.abs (fun X kK => ?_)))) <;> conv => whnf)
  rw [e0] at HS
  refine EvSeq.keepcut ([], 13) (α := Unit) (fun _ => []) (fun _ h' => Sep h0 h' (Bx bN [.int .i64 op, .int .i64 (dd (prt f) (bt l (q + 1))), .int .i64 0, .int .i64 0, .int .i64 0] 71 :: Bx b0 [.int .i64 0, .int .i64 0, .int .i64 0, .int .i64 0, .int .i64 0] 71 :: RQ b A l.length (q + 2) :: L)) ?_ ?_
  · conv => whnf
    repeat' ((first | ((with_reducible refine EvCall.mk (HC.mono (next_e HS (by repeat first | exact .h | apply Spot.t) r) ?_)); rintro _ hN ⟨rfl, k0, k1, HS1⟩; replace HS := HS1; clear HS1) | (with_reducible first | refine EvIf.tt ?_ | refine EvIf.ff ?_) | ((with_reducible refine Hole.mk (kK ?_)); clear kK) | ((with_reducible refine EvIf.mk (fun c => ?_) (fun c => ?_)) <;> (try simp only [cs_] at c) <;> (try (exfalso; first | omega | (revert c; decide)))) | ((with_reducible refine EvNew.sep HS ?_); intro bN hN HS1 hX; replace HS := HS1; clear HS1) | ((with_reducible refine EvIdx.lit ?_ ?_ ?_); (first | omega | decide); (first | omega | decide)) | ((with_reducible first | refine EvNe.mk ?_ ?_ | refine EvGe.mk ?_ ?_); (first | decide | omega)) | ((with_reducible refine EvLd.q HS (by repeat first | exact .h | apply Spot.t) ?_); (conv => whnf); intro hC) | (with_reducible refine EvLdN.q HS (by repeat first | exact .h | apply Spot.t) (fun hC => ?_)) | ((with_reducible refine EvSt.q HS (by repeat first | exact .h | apply Spot.t) ?_); (conv => whnf); intro hN HS1 hU; replace HS := HS1; clear HS1) | ((with_reducible refine EvKeep.cq (A := keepK _ _ (Hole _) _) HS (by repeat first | exact .h | apply Spot.t) ?_); (conv => whnf); (refine ⟨?_, ?_⟩); assumption; intro hC) | ((with_reducible refine EvKeep.nq (A := keepK _ _ (Hole _) _) HS (by repeat first | exact .h | apply Spot.t) ?_ ?_); assumption; intro hC) | ((fail_if_success with_reducible refine EvKeep.hole ?_); (with_reducible refine EvKeep.abs (fun X kK => ?_)))) <;> conv => whnf)
    all_goals
      refine ⟨(), (by (repeat' (first | exact trivial | refine ⟨rfl, ?_⟩))), ?_⟩
      simp (disch := omega) only [tdiv_pos, tmod_pos, i64w] at c HS
      unfold dd
      first
      | (rw [if_pos c]; exact HS)
      | (rw [if_neg c]; exact HS)
  clear HS
  rintro _ _ HS
  conv => whnf
  repeat' ((first | ((with_reducible refine EvCall.mk (HC.mono (next_e HS (by repeat first | exact .h | apply Spot.t) r) ?_)); rintro _ hN ⟨rfl, k0, k1, HS1⟩; replace HS := HS1; clear HS1) | (with_reducible first | refine EvIf.tt ?_ | refine EvIf.ff ?_) | ((with_reducible refine Hole.mk (kK ?_)); clear kK) | ((with_reducible refine EvIf.mk (fun c => ?_) (fun c => ?_)) <;> (try simp only [cs_] at c) <;> (try (exfalso; first | omega | (revert c; decide)))) | ((with_reducible refine EvNew.sep HS ?_); intro bN hN HS1 hX; replace HS := HS1; clear HS1) | ((with_reducible refine EvIdx.lit ?_ ?_ ?_); (first | omega | decide); (first | omega | decide)) | ((with_reducible first | refine EvNe.mk ?_ ?_ | refine EvGe.mk ?_ ?_); (first | decide | omega)) | ((with_reducible refine EvLd.q HS (by repeat first | exact .h | apply Spot.t) ?_); (conv => whnf); intro hC) | (with_reducible refine EvLdN.q HS (by repeat first | exact .h | apply Spot.t) (fun hC => ?_)) | ((with_reducible refine EvSt.q HS (by repeat first | exact .h | apply Spot.t) ?_); (conv => whnf); intro hN HS1 hU; replace HS := HS1; clear HS1) | ((with_reducible refine EvKeep.cq (A := keepK _ _ (Hole _) _) HS (by repeat first | exact .h | apply Spot.t) ?_); (conv => whnf); (refine ⟨?_, ?_⟩); assumption; intro hC) | ((with_reducible refine EvKeep.nq (A := keepK _ _ (Hole _) _) HS (by repeat first | exact .h | apply Spot.t) ?_ ?_); assumption; intro hC) | ((fail_if_success with_reducible refine EvKeep.hole ?_); (with_reducible refine EvKeep.abs (fun X kK => ?_)))) <;> conv => whnf)
  refine EvSeq.keepcut ([], 13) (α := Unit) (fun _ => []) (fun _ h' => Sep h0 h' (Bx bN [.int .i64 op, .int .i64 (dd (prt f) (bt l (q + 1))), .int .i64 (ds l (prt f) (q + 2)).1, .int .i64 0, .int .i64 0] 71 :: Bx b0 [.int .i64 0, .int .i64 0, .int .i64 0, .int .i64 0, .int .i64 0] 71 :: RQ b A l.length (ds l (prt f) (q + 2)).2 :: L)) ?_ ?_
  · conv => whnf
    repeat' ((first | ((with_reducible refine EvCall.mk (HC.mono (next_e HS (by repeat first | exact .h | apply Spot.t) r) ?_)); rintro _ hN ⟨rfl, k0, k1, HS1⟩; replace HS := HS1; clear HS1) | (with_reducible first | refine EvIf.tt ?_ | refine EvIf.ff ?_) | ((with_reducible refine Hole.mk (kK ?_)); clear kK) | ((with_reducible refine EvIf.mk (fun c => ?_) (fun c => ?_)) <;> (try simp only [cs_] at c) <;> (try (exfalso; first | omega | (revert c; decide)))) | ((with_reducible refine EvNew.sep HS ?_); intro bN hN HS1 hX; replace HS := HS1; clear HS1) | ((with_reducible refine EvIdx.lit ?_ ?_ ?_); (first | omega | decide); (first | omega | decide)) | ((with_reducible first | refine EvNe.mk ?_ ?_ | refine EvGe.mk ?_ ?_); (first | decide | omega)) | ((with_reducible refine EvLd.q HS (by repeat first | exact .h | apply Spot.t) ?_); (conv => whnf); intro hC) | (with_reducible refine EvLdN.q HS (by repeat first | exact .h | apply Spot.t) (fun hC => ?_)) | ((with_reducible refine EvSt.q HS (by repeat first | exact .h | apply Spot.t) ?_); (conv => whnf); intro hN HS1 hU; replace HS := HS1; clear HS1) | ((with_reducible refine EvKeep.cq (A := keepK _ _ (Hole _) _) HS (by repeat first | exact .h | apply Spot.t) ?_); (conv => whnf); (refine ⟨?_, ?_⟩); assumption; intro hC) | ((with_reducible refine EvKeep.nq (A := keepK _ _ (Hole _) _) HS (by repeat first | exact .h | apply Spot.t) ?_ ?_); assumption; intro hC) | ((fail_if_success with_reducible refine EvKeep.hole ?_); (with_reducible refine EvKeep.abs (fun X kK => ?_)))) <;> conv => whnf)
    all_goals
      refine ⟨(), (by (repeat' (first | exact trivial | refine ⟨rfl, ?_⟩))), ?_⟩
      simp (disch := omega) only [tdiv_pos, tmod_pos, i64w] at c HS
      unfold ds
      first
      | (rw [if_pos c]; exact HS)
      | (rw [if_neg c]; exact HS)
  clear HS
  rintro _ _ HS
  conv => whnf
  repeat' ((first | ((with_reducible refine EvCall.mk (HC.mono (next_e HS (by repeat first | exact .h | apply Spot.t) r) ?_)); rintro _ hN ⟨rfl, k0, k1, HS1⟩; replace HS := HS1; clear HS1) | (with_reducible first | refine EvIf.tt ?_ | refine EvIf.ff ?_) | ((with_reducible refine Hole.mk (kK ?_)); clear kK) | ((with_reducible refine EvIf.mk (fun c => ?_) (fun c => ?_)) <;> (try simp only [cs_] at c) <;> (try (exfalso; first | omega | (revert c; decide)))) | ((with_reducible refine EvNew.sep HS ?_); intro bN hN HS1 hX; replace HS := HS1; clear HS1) | ((with_reducible refine EvIdx.lit ?_ ?_ ?_); (first | omega | decide); (first | omega | decide)) | ((with_reducible first | refine EvNe.mk ?_ ?_ | refine EvGe.mk ?_ ?_); (first | decide | omega)) | ((with_reducible refine EvLd.q HS (by repeat first | exact .h | apply Spot.t) ?_); (conv => whnf); intro hC) | (with_reducible refine EvLdN.q HS (by repeat first | exact .h | apply Spot.t) (fun hC => ?_)) | ((with_reducible refine EvSt.q HS (by repeat first | exact .h | apply Spot.t) ?_); (conv => whnf); intro hN HS1 hU; replace HS := HS1; clear HS1) | ((with_reducible refine EvKeep.cq (A := keepK _ _ (Hole _) _) HS (by repeat first | exact .h | apply Spot.t) ?_); (conv => whnf); (refine ⟨?_, ?_⟩); assumption; intro hC) | ((with_reducible refine EvKeep.nq (A := keepK _ _ (Hole _) _) HS (by repeat first | exact .h | apply Spot.t) ?_ ?_); assumption; intro hC) | ((fail_if_success with_reducible refine EvKeep.hole ?_); (with_reducible refine EvKeep.abs (fun X kK => ?_)))) <;> conv => whnf)
  refine EvSeq.keepcut ([], 13) (α := Unit) (fun _ => []) (fun _ h' => Sep h0 h' (Bx bN [.int .i64 op, .int .i64 (dd (prt f) (bt l (q + 1))), .int .i64 (ds l (prt f) (q + 2)).1, .int .i64 (dt l (prt f) (ds l (prt f) (q + 2)).2).1, .int .i64 0] 71 :: Bx b0 [.int .i64 0, .int .i64 0, .int .i64 0, .int .i64 0, .int .i64 0] 71 :: RQ b A l.length (dt l (prt f) (ds l (prt f) (q + 2)).2).2 :: L)) ?_ ?_
  · conv => whnf
    repeat' ((first | ((with_reducible refine EvCall.mk (HC.mono (next_e HS (by repeat first | exact .h | apply Spot.t) r) ?_)); rintro _ hN ⟨rfl, k0, k1, HS1⟩; replace HS := HS1; clear HS1) | ((with_reducible refine EvCall.mk (HC.mono (l2Range_c f _ (by omega) (by omega)) ?_)); (rintro _ _ ⟨rfl, rfl⟩)) | (with_reducible first | refine EvIf.tt ?_ | refine EvIf.ff ?_) | ((with_reducible refine Hole.mk (kK ?_)); clear kK) | ((with_reducible refine EvIf.mk (fun c => ?_) (fun c => ?_)) <;> (try simp only [cs_] at c) <;> (try (exfalso; first | omega | (revert c; decide)))) | ((with_reducible refine EvNew.sep HS ?_); intro bN hN HS1 hX; replace HS := HS1; clear HS1) | ((with_reducible refine EvIdx.lit ?_ ?_ ?_); (first | omega | decide); (first | omega | decide)) | ((with_reducible first | refine EvNe.mk ?_ ?_ | refine EvGe.mk ?_ ?_); (first | decide | omega)) | ((with_reducible refine EvLd.q HS (by repeat first | exact .h | apply Spot.t) ?_); (conv => whnf); intro hC) | (with_reducible refine EvLdN.q HS (by repeat first | exact .h | apply Spot.t) (fun hC => ?_)) | ((with_reducible refine EvSt.q HS (by repeat first | exact .h | apply Spot.t) ?_); (conv => whnf); intro hN HS1 hU; replace HS := HS1; clear HS1) | ((with_reducible refine EvKeep.cq (A := keepK _ _ (Hole _) _) HS (by repeat first | exact .h | apply Spot.t) ?_); (conv => whnf); (refine ⟨?_, ?_⟩); assumption; intro hC) | ((with_reducible refine EvKeep.nq (A := keepK _ _ (Hole _) _) HS (by repeat first | exact .h | apply Spot.t) ?_ ?_); assumption; intro hC) | ((fail_if_success with_reducible refine EvKeep.hole ?_); (with_reducible refine EvKeep.abs (fun X kK => ?_)))) <;> conv => whnf)
    all_goals
      refine ⟨(), (by (repeat' (first | exact trivial | refine ⟨rfl, ?_⟩))), ?_⟩
      simp (disch := omega) only [tdiv_pos, tmod_pos, i64w] at c HS
      unfold dt
      first
      | (rw [if_pos c]; exact HS)
      | (rw [if_neg c]; exact HS)
  clear HS
  rintro _ _ HS
  conv => whnf
  repeat' ((first | ((with_reducible refine EvCall.mk (HC.mono (next_e HS (by repeat first | exact .h | apply Spot.t) r) ?_)); rintro _ hN ⟨rfl, k0, k1, HS1⟩; replace HS := HS1; clear HS1) | ((with_reducible refine EvCall.mk (HC.mono (l2Range_c f _ (by omega) (by omega)) ?_)); (rintro _ _ ⟨rfl, rfl⟩)) | (with_reducible first | refine EvIf.tt ?_ | refine EvIf.ff ?_) | ((with_reducible refine Hole.mk (kK ?_)); clear kK) | ((with_reducible refine EvIf.mk (fun c => ?_) (fun c => ?_)) <;> (try simp only [cs_] at c) <;> (try (exfalso; first | omega | (revert c; decide)))) | ((with_reducible refine EvNew.sep HS ?_); intro bN hN HS1 hX; replace HS := HS1; clear HS1) | ((with_reducible refine EvIdx.lit ?_ ?_ ?_); (first | omega | decide); (first | omega | decide)) | ((with_reducible first | refine EvNe.mk ?_ ?_ | refine EvGe.mk ?_ ?_); (first | decide | omega)) | ((with_reducible refine EvLd.q HS (by repeat first | exact .h | apply Spot.t) ?_); (conv => whnf); intro hC) | (with_reducible refine EvLdN.q HS (by repeat first | exact .h | apply Spot.t) (fun hC => ?_)) | ((with_reducible refine EvSt.q HS (by repeat first | exact .h | apply Spot.t) ?_); (conv => whnf); intro hN HS1 hU; replace HS := HS1; clear HS1) | ((with_reducible refine EvKeep.cq (A := keepK _ _ (Hole _) _) HS (by repeat first | exact .h | apply Spot.t) ?_); (conv => whnf); (refine ⟨?_, ?_⟩); assumption; intro hC) | ((with_reducible refine EvKeep.nq (A := keepK _ _ (Hole _) _) HS (by repeat first | exact .h | apply Spot.t) ?_ ?_); assumption; intro hC) | ((fail_if_success with_reducible refine EvKeep.hole ?_); (with_reducible refine EvKeep.abs (fun X kK => ?_)))) <;> conv => whnf)
  refine EvSeq.keepcut ([], 13) (α := Unit) (fun _ => []) (fun _ h' => Sep h0 h' (Bx bN [.int .i64 op, .int .i64 (dd (prt f) (bt l (q + 1))), .int .i64 (ds l (prt f) (q + 2)).1, .int .i64 (dt l (prt f) (ds l (prt f) (q + 2)).2).1, .int .i64 (di f (prt f) (bt l (q + 1)) (dn l (dt l (prt f) (ds l (prt f) (q + 2)).2).2))] 71 :: Bx b0 [.int .i64 0, .int .i64 0, .int .i64 0, .int .i64 0, .int .i64 0] 71 :: RQ b A l.length ((dt l (prt f) (ds l (prt f) (q + 2)).2).2 + 3) :: L)) ?_ ?_
  · conv => whnf
    repeat' ((first | ((with_reducible refine EvCall.mk (HC.mono (next_e HS (by repeat first | exact .h | apply Spot.t) r) ?_)); rintro _ hN ⟨rfl, k0, k1, HS1⟩; replace HS := HS1; clear HS1) | ((with_reducible refine EvNe.mk ?_ ?_); (simp (disch := omega) only [i64w]; omega)) | ((with_reducible refine EvIdx.lit ?_ ?_ ?_); (simp (disch := omega) only [tdiv_pos, tmod_pos, i64w]; omega); (simp (disch := omega) only [tdiv_pos, tmod_pos, i64w]; omega)) | ((with_reducible refine EvLd.lit HS (by repeat first | exact .h | apply Spot.t) (by repeat first | exact .nil | apply AllI.cons) (by simp (disch := omega) only [tdiv_pos, tmod_pos, i64w, List.length_cons, List.length_nil]; omega) (fun hC => ?_))) | (with_reducible first | refine EvSeq.go ?_ | refine EvIf.tt ?_ | refine EvIf.ff ?_) | ((with_reducible refine Hole.mk (kK ?_)); clear kK) | ((with_reducible refine EvIf.mk (fun c => ?_) (fun c => ?_)) <;> (try simp only [cs_] at c) <;> (try (exfalso; first | omega | (revert c; decide)))) | ((with_reducible refine EvNew.sep HS ?_); intro bN hN HS1 hX; replace HS := HS1; clear HS1) | ((with_reducible refine EvIdx.lit ?_ ?_ ?_); (first | omega | decide); (first | omega | decide)) | ((with_reducible first | refine EvNe.mk ?_ ?_ | refine EvGe.mk ?_ ?_); (first | decide | omega)) | ((with_reducible refine EvLd.q HS (by repeat first | exact .h | apply Spot.t) ?_); (conv => whnf); intro hC) | (with_reducible refine EvLdN.q HS (by repeat first | exact .h | apply Spot.t) (fun hC => ?_)) | ((with_reducible refine EvSt.q HS (by repeat first | exact .h | apply Spot.t) ?_); (conv => whnf); intro hN HS1 hU; replace HS := HS1; clear HS1) | ((with_reducible refine EvKeep.cq (A := keepK _ _ (Hole _) _) HS (by repeat first | exact .h | apply Spot.t) ?_); (conv => whnf); (refine ⟨?_, ?_⟩); assumption; intro hC) | ((with_reducible refine EvKeep.nq (A := keepK _ _ (Hole _) _) HS (by repeat first | exact .h | apply Spot.t) ?_ ?_); assumption; intro hC) | ((fail_if_success with_reducible refine EvKeep.hole ?_); (with_reducible refine EvKeep.abs (fun X kK => ?_)))) <;> conv => whnf)
    all_goals
      refine ⟨(), (by (repeat' (first | exact trivial | refine ⟨rfl, ?_⟩))), ?_⟩
      unfold di dn
      try simp (disch := omega) only [tmod_pos, i64w] at HS
    · rw [if_pos (by omega), if_pos (by assumption)]
      exact HS.tail
    · rw [if_pos (by omega), if_neg (by omega)]
      exact HS
    · rw [if_neg (by omega)]
      exact HS
  clear HS
  rintro _ _ HS
  conv => whnf
  repeat' ((first | ((with_reducible refine EvCall.mk (HC.mono (next_e HS (by repeat first | exact .h | apply Spot.t) r) ?_)); rintro _ hN ⟨rfl, k0, k1, HS1⟩; replace HS := HS1; clear HS1) | ((with_reducible refine EvNe.mk ?_ ?_); (simp (disch := omega) only [i64w]; omega)) | ((with_reducible refine EvIdx.lit ?_ ?_ ?_); (simp (disch := omega) only [tdiv_pos, tmod_pos, i64w]; omega); (simp (disch := omega) only [tdiv_pos, tmod_pos, i64w]; omega)) | ((with_reducible refine EvLd.lit HS (by repeat first | exact .h | apply Spot.t) (by repeat first | exact .nil | apply AllI.cons) (by simp (disch := omega) only [tdiv_pos, tmod_pos, i64w, List.length_cons, List.length_nil]; omega) (fun hC => ?_))) | (with_reducible first | refine EvSeq.go ?_ | refine EvIf.tt ?_ | refine EvIf.ff ?_) | ((with_reducible refine Hole.mk (kK ?_)); clear kK) | ((with_reducible refine EvIf.mk (fun c => ?_) (fun c => ?_)) <;> (try simp only [cs_] at c) <;> (try (exfalso; first | omega | (revert c; decide)))) | ((with_reducible refine EvNew.sep HS ?_); intro bN hN HS1 hX; replace HS := HS1; clear HS1) | ((with_reducible refine EvIdx.lit ?_ ?_ ?_); (first | omega | decide); (first | omega | decide)) | ((with_reducible first | refine EvNe.mk ?_ ?_ | refine EvGe.mk ?_ ?_); (first | decide | omega)) | ((with_reducible refine EvLd.q HS (by repeat first | exact .h | apply Spot.t) ?_); (conv => whnf); intro hC) | (with_reducible refine EvLdN.q HS (by repeat first | exact .h | apply Spot.t) (fun hC => ?_)) | ((with_reducible refine EvSt.q HS (by repeat first | exact .h | apply Spot.t) ?_); (conv => whnf); intro hN HS1 hU; replace HS := HS1; clear HS1) | ((with_reducible refine EvKeep.cq (A := keepK _ _ (Hole _) _) HS (by repeat first | exact .h | apply Spot.t) ?_); (conv => whnf); (refine ⟨?_, ?_⟩); assumption; intro hC) | ((with_reducible refine EvKeep.nq (A := keepK _ _ (Hole _) _) HS (by repeat first | exact .h | apply Spot.t) ?_ ?_); assumption; intro hC) | ((fail_if_success with_reducible refine EvKeep.hole ?_); (with_reducible refine EvKeep.abs (fun X kK => ?_)))) <;> conv => whnf)
  all_goals
    refine ⟨?_, by first | exact HS.tail.tail | exact HS.tail.tail.tail⟩
    unfold spoil
    first
    | (rw [if_neg (by omega)] <;> rfl)
    | (rw [if_pos (by assumption), if_pos (by assumption)] <;> rfl)
    | (rw [if_pos (by assumption), if_neg (by assumption), if_pos (by assumption)] <;> rfl)
    | (rw [if_pos (by assumption), if_neg (by assumption), if_neg (by assumption), if_pos (by assumption)] <;> rfl)
    | (rw [if_pos (by assumption), if_neg (by assumption), if_neg (by assumption), if_neg (by assumption), if_pos (by assumption)] <;> rfl)
    | (rw [if_pos (by assumption), if_neg (by assumption), if_neg (by assumption), if_neg (by assumption), if_neg (by assumption)] <;> rfl)
theorem inst_q {h0 h : Hp} {L : List Asn} {F : Asn → List Asn} {b q : Nat} {A : Option Addr} {l : List Int} (S0 : Sep h0 h L) (p : Spot (RQ b A l.length q) L F) (r : RdB h0 A l) :
    HC Try.prog 156 [.pointer (some ⟨b, 0, none⟩)] h fun v h' => v = inst (dins l q).1.op (dins l q).1.d (dins l q).1.s (dins l q).1.t (dins l q).1.n ∧ Sep h0 h' (F (RQ b A l.length (dins l q).2)) := by
  obtain ⟨i, hi, hF⟩ := p.idx
  have hil : i < L.length := (List.getElem?_eq_some_iff.mp hi).1
  refine (inst_e (S0.front i hi) r).mono fun v h' ⟨e, s⟩ => ⟨e, ?_⟩
  rw [← hF]
  exact s.unfront hil
end Go.Proofs.Ythndggachjdkfaa
