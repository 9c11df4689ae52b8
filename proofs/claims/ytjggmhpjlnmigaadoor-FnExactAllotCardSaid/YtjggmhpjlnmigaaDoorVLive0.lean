/- The law of LiveBefore, out of the two functions' contracts. -/
import Derived.Test.YtjggmhpjlnmigaaDoorVIr3
import Derived.Test.YtjggmhpjlnmigaaDoorVRr
namespace Go.Proofs.YtjggmhpjlnmigaaDoor
open Go.RowKit
set_option maxRecDepth 20000
set_option linter.unusedSimpArgs false
set_option linter.unusedVariables false
abbrev Full := ByteArray × Int × Int × List Int × List (Int × Int × Int × Int × Int × ByteArray × List Int)
/-- what a function that answers rows of registers is to show -/
def LiveC (Q : Hp → Prop) (F : FuncId) (lv : Full → List (List Int)) : Prop := ∀ (h : Hp) (f : Fu), Q h → FuOk h f → wt f.cl ≤ 8000000 → HC Tryd.prog F [f.v] h fun v h' => ∃ A n c xs, v = .slice A n c ∧ xs.map Rw.l = lv f.full ∧ n ≤ 8000 ∧ (∀ x ∈ xs, x.l.length = x.h.n ∧ x.h.n ≤ 2000) ∧ Sep h h' [RrP A n c xs]
theorem wr2_bd : ∀ (xs : List Rw), (∀ x ∈ xs, x.l.length = x.h.n ∧ x.h.n ≤ 2000) → wr2 xs ≤ xs.length * 2000
  | [], _ => by simp [wr2]
  | x :: r, h => by
    have h1 := h x (by simp)
    have h2 := wr2_bd r (fun y hy => h y (by simp [hy]))
    simp only [wr2, List.length_cons]
    omega
theorem wt_full : ∀ {xs ys : List Ii}, xs.map Ii.full = ys.map Ii.full → (∀ x ∈ xs, x.l.length = x.h.n) → (∀ y ∈ ys, y.l.length = y.h.n) → wt xs = wt ys
  | [], [], _, _, _ => rfl
  | [], _ :: _, e, _, _ => by cases e
  | _ :: _, [], e, _, _ => by cases e
  | x :: xs, y :: ys, e, hx, hy => by
    simp only [List.map_cons, List.cons.injEq] at e
    have h1 := wt_full e.2 (fun z hz => hx z (by simp [hz])) (fun z hz => hy z (by simp [hz]))
    have h2 : x.l = y.l := congrArg (fun z => z.2.2.2.2.2.2) e.1
    have h3 := hx x (by simp)
    have h4 := hy y (by simp)
    simp only [wt, h1]
    rw [← h3, ← h4, h2]
theorem mkr_len : ∀ (k : Nat) (a : Int) (xs : List Rw), (∀ x ∈ xs, x.l.length = x.h.n) → ∀ x ∈ mkr a xs k, x.l.length = x.h.n
  | 0, a, xs, h => by rw [mkr_zero]; exact h
  | k + 1, a, [], h => h
  | k + 1, a, y :: r, h => by
    intro x hx
    rcases List.mem_cons.mp hx with rfl | hx
    · exact marks_len _ _ _
    · exact mkr_len k _ r (fun z hz => h z (by simp [hz])) x hx
/-- an owned function reads -/
theorem Sep.fuOk {h0 h : Hp} {L : List Asn} (s : Sep h0 h L) (i : Nat) {b : Nat} {g : Fu} (hi : L[i]? = some (FuP b g)) (hc : g.ch = ⟨some ⟨b, 0, none⟩, g.cl.length, g.cl.length⟩) (hn : g.cl.length ≤ 1000000000) (h1 : g.sl.length = g.sh.n) (h2 : g.sh.n ≤ 1000000000) (h3 : ∀ y ∈ g.cl, y.h.n ≤ 1000000000 ∧ y.l.length = y.h.n) : FuOk h g := by
  have s : Sep h0 h (IsP b g.cl :: Sl 3 g.sh.a g.sh.n g.sh.c (ints .i64 g.sl) :: L.eraseIdx i) := (s.front i hi).unfold
  have q := s.isOk 0 rfl rfl hn h3
  refine ⟨s.rd 1 rfl, h1, h2, ?_⟩
  rw [hc]
  exact q
/-- made over: an owned function that reads as the argument -/
theorem toFun_m {h : Hp} {f : Fu} (o : FuOk h f) (hw : wt f.cl ≤ 8000000) (hs : f.sh.n ≤ 1048576) : HC Tryd.prog 8 [f.v] h fun v h' => ∃ (b : Nat) (g : Fu), v = g.v ∧ g.full = f.full ∧ wt g.cl ≤ 8000000 ∧ g.sh.n ≤ 1048576 ∧ g.ch = ⟨some ⟨b, 0, none⟩, g.cl.length, g.cl.length⟩ ∧ (∀ y ∈ g.cl, y.h.n ≤ 1000000000) ∧ (∀ (h0 h'' : Hp) (L : List Asn) (i : Nat), Sep h0 h'' L → L[i]? = some (FuP b g) → FuOk h'' g) ∧ Sep h h' [FuP b g] := by
  refine (toFun_c o).mono fun v h' ⟨b, g, e1, e2, e3, e4, e5, e6, e7, e8⟩ => ⟨b, g, e1, e2, ?_, ?_, e3, fun y hy => (e7 y hy).1, fun h0 h'' L i s hi => s.fuOk i hi e3 e4 e5 e6 e7, e8⟩
  · have e0 : g.cl.map Ii.full = f.cl.map Ii.full := congrArg (fun z : Full => z.2.2.2.2) e2
    rw [wt_full e0 (fun x hx => (e7 x hx).2) (fun x hx => (o.c.o x hx).l)]
    exact hw
  · have e0 : g.sl = f.sl := congrArg (fun z : Full => z.2.2.2.1) e2
    rw [← e5, e0, o.sn]
    exact hs
set_option maxHeartbeats 8000000 in
theorem lawLive_of {Q : Hp → Prop} (qe : ∀ {h h' : Hp}, Ext h h' → Q h → Q h') {lv : Full → List (List Int)} (sL : LiveC Q 7 lv) (iL : LiveC Q 9 lv) {h : Hp} {f : Fu} (q : Q h) (o : FuR h f) : HC Tryd.prog 3 [f.v] h fun v h' => v = .bool true ∧ Ext h h' := by
  refine hc_of Tryd.func3 (rfl : Tryd.f3.body = some _) Tryd.ntmps3 Tryd.results3 Tryd.call3 rfl ?_; have HS := Sep.nil h; conv => whnf
  repeat' ((first | ((with_reducible refine EvNew.sep HS ?_); intro bN hN HS1 hX; replace HS := HS1; clear HS1) | (with_reducible refine EvLdN.q HS (by repeat first | exact .h | apply Spot.t) (fun hC => ?_))) <;> conv => whnf)
  refine EvCall.mk ((szFun_c (o.ext HS.to_ext) _ (by decide) (by decide)).mono ?_)
  rintro _ hN ⟨⟨r, rfl, r0, r1, r2⟩, hX⟩
  replace HS := HS.ext hX
  conv => whnf
  repeat' ((first | (with_reducible first | refine EvSeq.go ?_ | refine EvIf.tt ?_ | refine EvIf.ff ?_) | ((with_reducible refine EvIf.mk (fun c => ?_) (fun c => ?_)) <;> (try simp only [cs_] at c) <;> (try (exfalso; first | omega | (revert c; decide)))) | (with_reducible refine EvLdN.q HS (by repeat first | exact .h | apply Spot.t) (fun hC => ?_))) <;> conv => whnf)
  · exact ⟨rfl, HS.to_ext⟩
  obtain ⟨b1, b2, b3, b4⟩ := r2 (by assumption)
  have ok := o.ok b1 b2 b4
  repeat' (fail <;> conv => whnf)
  refine EvCall.mk ((toFun_m (ok.ext HS.to_ext) b3 b1).mono ?_)
  rintro _ hN ⟨d1, g1, rfl, q1, w1, s1, c1, x1, k1, HS1⟩
  replace HS := HS.join1 HS1
  clear HS1
  conv => whnf
  repeat' (fail <;> conv => whnf)
  refine EvCall.mk ((sL _ g1 (qe HS.to_ext q) (k1 _ _ _ 0 HS rfl) w1).mono ?_)
  rintro _ hN ⟨A0, n0, ca0, xs0, rfl, e0, m0, z0, HS1⟩
  replace HS := HS.join1 HS1
  clear HS1
  rw [q1] at e0
  have v0 : ∀ x ∈ xs0, x.l.length = x.h.n := fun x hx => (z0 x hx).1
  have y0 : ∀ x ∈ xs0, x.l.length ≤ 1000000000 := fun x hx => by have := z0 x hx; omega
  have u0 : ∀ x ∈ xs0, x.h.n ≤ 1000000000 := fun x hx => by have := z0 x hx; omega
  conv => whnf
  repeat' ((with_reducible refine EvLdN.q HS (by repeat first | exact .h | apply Spot.t) (fun hC => ?_)) <;> conv => whnf)
  refine EvCall.mk ((toFun_m (ok.ext HS.to_ext) b3 b1).mono ?_)
  rintro _ hN ⟨d2, g2, rfl, q2, w2, s2, c2, x2, k2, HS1⟩
  replace HS := HS.join1 HS1
  clear HS1
  conv => whnf
  repeat' ((first | ((with_reducible refine EvNew.sep HS ?_); intro bN hN HS1 hX; replace HS := HS1; clear HS1) | (with_reducible refine EvLdN.q HS (by repeat first | exact .h | apply Spot.t) (fun hC => ?_)) | ((with_reducible refine EvSt.q HS (by repeat first | exact .h | apply Spot.t) ?_); (conv => whnf); intro hN HS1 hU; replace HS := HS1; clear HS1)) <;> conv => whnf)
  refine EvCall.mk ((iL _ g2 (qe HS.to_ext q) (k2 _ _ _ 1 HS rfl) w2).mono ?_)
  rintro _ hN ⟨A1, n1, ca1, xs1, rfl, e1, m1, z1, HS1⟩
  replace HS := HS.join1 HS1
  clear HS1
  rw [q2] at e1
  have v1 : ∀ x ∈ xs1, x.l.length = x.h.n := fun x hx => (z1 x hx).1
  have y1 : ∀ x ∈ xs1, x.l.length ≤ 1000000000 := fun x hx => by have := z1 x hx; omega
  have u1 : ∀ x ∈ xs1, x.h.n ≤ 1000000000 := fun x hx => by have := z1 x hx; omega
  conv => whnf
  repeat' ((with_reducible first | refine EvSeq.go ?_ | refine EvIf.tt ?_ | refine EvIf.ff ?_) <;> conv => whnf)
  refine EvCall.mk ((eqSS_c (HS.rrOk 0 rfl v1) (HS.rrOk 3 rfl v0) (e1.trans e0.symm) (by omega) y1).mono ?_)
  rintro _ _ ⟨rfl, rfl⟩
  conv => whnf
  repeat' ((first | ((with_reducible refine EvDraw.ord (id := 10) (.go 0 (.go 1 (.alt 2 (.alt 3 (.go 4 .done) .stop) .stop))) fol ?_ ?_ ?_); kernel_rfl; kernel_rfl) | (with_reducible first | refine EvSeq.go ?_ | refine EvIf.tt ?_ | refine EvIf.ff ?_) | ((with_reducible refine EvIf.mk (fun c => ?_) (fun c => ?_)) <;> (try simp only [cs_] at c) <;> (try (exfalso; first | omega | (revert c; decide)))) | (with_reducible refine EvLdN.q HS (by repeat first | exact .h | apply Spot.t) (fun hC => ?_))) <;> conv => whnf)
  refine EvCall.mk ((toFun_m (ok.ext HS.to_ext) b3 b1).mono ?_)
  rintro _ hN ⟨d3, g3, rfl, q3, w3, s3, c3, x3, k3, HS1⟩
  replace HS := HS.join1 HS1
  clear HS1
  conv => whnf
  repeat' ((first | ((with_reducible refine Hole.mk (kK ?_)); clear kK) | ((with_reducible refine EvKeep.nq (A := keepK _ _ (Hole _) _) HS (by repeat first | exact .h | apply Spot.t) ?_ ?_); assumption; intro hC) | ((fail_if_success with_reducible refine EvKeep.hole ?_); (with_reducible refine EvKeep.abs (fun X kK => ?_)))) <;> conv => whnf)
  refine EvCall.mk ((eqFun_c (k2 _ _ _ 3 HS rfl) (k3 _ _ _ 0 HS rfl) (q2.trans q3.symm)).mono ?_)
  rintro _ hN ⟨rfl, hX⟩
  replace HS := HS.ext hX
  conv => whnf
  repeat' ((first | ((with_reducible refine EvIf.mk (fun c => ?_) (fun c => ?_)) <;> (try simp only [cs_] at c) <;> (try (exfalso; first | omega | (revert c; decide)))) | (with_reducible refine EvLdN.q HS (by repeat first | exact .h | apply Spot.t) (fun hC => ?_))) <;> conv => whnf)
  refine EvCall.mk ((markFun_c (HS.front 3 rfl) c2 (by omega) (by omega) (by decide) (by decide) x2).mono ?_)
  rintro _ hN ⟨rfl, HS1⟩
  replace HS := HS1
  clear HS1
  dsimp only [List.eraseIdx] at HS
  conv => whnf
  repeat' ((first | (with_reducible first | refine EvSeq.go ?_ | refine EvIf.tt ?_ | refine EvIf.ff ?_) | ((with_reducible refine EvIf.mk (fun c => ?_) (fun c => ?_)) <;> (try simp only [cs_] at c) <;> (try (exfalso; first | omega | (revert c; decide))))) <;> conv => whnf)
  refine EvCall.mk ((eqSS_c (HS.rrOk 1 rfl v1) (HS.rrOk 3 rfl v0) (e1.trans e0.symm) (by omega) y1).mono ?_)
  rintro _ _ ⟨rfl, rfl⟩
  conv => whnf
  repeat' ((first | (with_reducible first | refine EvSeq.go ?_ | refine EvIf.tt ?_ | refine EvIf.ff ?_) | ((with_reducible refine EvIf.mk (fun c => ?_) (fun c => ?_)) <;> (try simp only [cs_] at c) <;> (try (exfalso; first | omega | (revert c; decide))))) <;> conv => whnf)
  have hl1 : xs1.length = n1 := (HS.rrOk 1 rfl v1).l
  have hw1 := wr2_bd xs1 z1
  refine EvCall.mk ((markSS_c (HS.front 1 rfl) (by omega) (by omega) u1 (by decide) (by decide)).mono ?_)
  rintro _ hN ⟨rfl, HS1⟩
  replace HS := HS1
  clear HS1
  dsimp only [List.eraseIdx] at HS
  conv => whnf
  repeat' (fail <;> conv => whnf)
  refine EvCall.mk ((heldSS_c (HS.rrOk 0 rfl (mkr_len _ _ _ v1)) hl1 (by omega) (by omega) u1 (by decide) (by decide)).mono ?_)
  rintro _ _ ⟨rfl, rfl⟩
  conv => whnf
  repeat' ((first | (with_reducible first | refine EvSeq.go ?_ | refine EvIf.tt ?_ | refine EvIf.ff ?_) | ((with_reducible refine EvIf.mk (fun c => ?_) (fun c => ?_)) <;> (try simp only [cs_] at c) <;> (try (exfalso; first | omega | (revert c; decide)))) | (with_reducible refine EvLdN.q HS (by repeat first | exact .h | apply Spot.t) (fun hC => ?_))) <;> conv => whnf)
  refine EvCall.mk ((toFun_m (ok.ext HS.to_ext) b3 b1).mono ?_)
  rintro _ hN ⟨d4, g4, rfl, q4, w4, s4, c4, x4, k4, HS1⟩
  replace HS := HS.join1 HS1
  clear HS1
  conv => whnf
  repeat' (fail <;> conv => whnf)
  refine EvCall.mk ((iL _ g4 (qe HS.to_ext q) (k4 _ _ _ 0 HS rfl) w4).mono ?_)
  rintro _ hN ⟨A2, n2, ca2, xs2, rfl, e2, m2, z2, HS1⟩
  replace HS := HS.join1 HS1
  clear HS1
  rw [q4] at e2
  have v2 : ∀ x ∈ xs2, x.l.length = x.h.n := fun x hx => (z2 x hx).1
  have y2 : ∀ x ∈ xs2, x.l.length ≤ 1000000000 := fun x hx => by have := z2 x hx; omega
  conv => whnf
  repeat' ((with_reducible first | refine EvSeq.go ?_ | refine EvIf.tt ?_ | refine EvIf.ff ?_) <;> conv => whnf)
  refine EvCall.mk ((eqSS_c (HS.rrOk 0 rfl v2) (HS.rrOk 5 rfl v0) (e2.trans e0.symm) (by omega) y2).mono ?_)
  rintro _ _ ⟨rfl, rfl⟩
  conv => whnf
  repeat' (((with_reducible refine EvIf.mk (fun c => ?_) (fun c => ?_)) <;> (try simp only [cs_] at c) <;> (try (exfalso; first | omega | (revert c; decide)))) <;> conv => whnf)
  refine EvCall.mk ((heldSS_c (HS.rrOk 2 rfl (mkr_len _ _ _ v1)) hl1 (by omega) (by omega) u1 (by decide) (by decide)).mono ?_)
  rintro _ _ ⟨rfl, rfl⟩
  conv => whnf
  repeat' ((first | (with_reducible first | refine EvSeq.go ?_ | refine EvIf.tt ?_ | refine EvIf.ff ?_) | ((with_reducible refine EvIf.mk (fun c => ?_) (fun c => ?_)) <;> (try simp only [cs_] at c) <;> (try (exfalso; first | omega | (revert c; decide))))) <;> conv => whnf)
  exact ⟨rfl, HS.to_ext⟩
theorem lawLive_r {Q : Hp → Prop} (qe : ∀ {h h' : Hp}, Ext h h' → Q h → Q h') {lv : Full → List (List Int)} (sL : LiveC Q 7 lv) (iL : LiveC Q 9 lv) {h : Hp} {v : Value} (q : Q h) (r : RdA h shFun v) : HC Tryd.prog 3 [v] h fun v h' => v = .bool true ∧ Ext h h' := by
  obtain ⟨f, rfl, o⟩ := fun_of r
  exact lawLive_of qe sL iL q o
end Go.Proofs.YtjggmhpjlnmigaaDoor
