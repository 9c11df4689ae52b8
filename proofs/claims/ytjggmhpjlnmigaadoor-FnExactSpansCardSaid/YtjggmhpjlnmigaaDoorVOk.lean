/- Steps that are right: the reference's tests. -/
import Derived.Test.YtjggmhpjlnmigaaDoorVIr
namespace Go.Proofs.YtjggmhpjlnmigaaDoor
open Go.RowKit
set_option maxRecDepth 20000
set_option linter.unusedSimpArgs false
set_option linter.unusedVariables false
/-- whole numbers in a row of values -/
inductive AllI (k : IntKind) : List Value → List Int → Prop
  | nil : AllI k [] []
  | cons {x : Int} {vs : List Value} {ls : List Int} (r : AllI k vs ls) : AllI k (.int k x :: vs) (x :: ls)
theorem AllI.eq {k : IntKind} {vs : List Value} {ls : List Int} (a : AllI k vs ls) : vs = ints k ls := by
  induction a with
  | nil => rfl
  | cons r ih => rw [ih]; rfl
/-- a number out of a row that is told whole -/
theorem EvLd.lit {h0 h : Hp} {L : List Asn} {F : Asn → List Asn} {b j : Nat} {vs : List Value} {ls : List Int} {k : IntKind} {T : TypeId} {K : Value → Prop} (s : Sep h0 h L) (p : Spot (Bx b vs T) L F) (a : AllI k vs ls) (ho : j < ls.length)
    (kk : h[b]? = some (.cells vs.toArray T (0, 0)) → K (.int k (ls.getD j 0))) : EvLd h b (0 + j * 1) K := by
  obtain ⟨i, hi, _⟩ := p.idx
  have e := a.eq
  subst e
  refine EvLd.blk (s.pt_i i hi) ?_ (kk (s.pt_i i hi))
  simp [List.getElem?_eq_getElem ho, List.getD_eq_getElem?_getD]
def fld (op : Int) : Int := [0, 33, 5, 53, 37, 37, 52, 97, 33, 194, 134, 32, 32, 116, 8, 52, 36].getD op.toNat 0
theorem fld_c (op : Int) (h0 : 0 ≤ op) (h1 : op ≤ 16) (h : Hp) : HC Tryd.prog 76 [.int .i64 op] h fun v h' => v = .int .i64 (fld op) ∧ Ext h h' := by
  refine hc_of Tryd.func76 (rfl : Tryd.f76.body = some _) Tryd.ntmps76 Tryd.results76 Tryd.call76 rfl ?_; have HS := Sep.nil h; conv => whnf
  repeat' ((first | ((with_reducible refine EvIdx.lit ?_ ?_ ?_); omega; omega) | ((with_reducible refine EvLd.lit HS (by repeat first | exact .h | apply Spot.t) (by repeat first | exact .nil | apply AllI.cons) (by simp; omega) (fun hC => ?_))) | (with_reducible first | refine EvSeq.go ?_ | refine EvIf.tt ?_ | refine EvIf.ff ?_) | ((with_reducible refine Hole.mk (kK ?_)); clear kK) | ((with_reducible refine EvIf.mk (fun c => ?_) (fun c => ?_)) <;> (try simp only [cs_] at c) <;> (try (exfalso; first | omega | (revert c; decide)))) | ((with_reducible refine EvNew.sep HS ?_); intro bN hN HS1 hX; replace HS := HS1; clear HS1) | ((with_reducible refine EvIdx.lit ?_ ?_ ?_); (first | omega | decide); (first | omega | decide)) | ((with_reducible first | refine EvNe.mk ?_ ?_ | refine EvGe.mk ?_ ?_); (first | decide | omega)) | ((with_reducible refine EvLd.q HS (by repeat first | exact .h | apply Spot.t) ?_); (conv => whnf); intro hC) | (with_reducible refine EvLdN.q HS (by repeat first | exact .h | apply Spot.t) (fun hC => ?_)) | ((with_reducible refine EvSt.q HS (by repeat first | exact .h | apply Spot.t) ?_); (conv => whnf); intro hN HS1 hU; replace HS := HS1; clear HS1) | ((with_reducible refine EvKeep.cq (A := keepK _ _ (Hole _) _) HS (by repeat first | exact .h | apply Spot.t) ?_); (conv => whnf); (refine ⟨?_, ?_⟩); assumption; intro hC) | ((with_reducible refine EvKeep.nq (A := keepK _ _ (Hole _) _) HS (by repeat first | exact .h | apply Spot.t) ?_ ?_); assumption; intro hC) | ((fail_if_success with_reducible refine EvKeep.hole ?_); (with_reducible refine EvKeep.abs (fun X kK => ?_)))) <;> conv => whnf)
  exact ⟨rfl, HS.to_ext⟩
def rok (rg r how : Int) : Bool := if how = 0 then decide (r = 0) else decide (r < rg ∧ (0 ≤ r ∨ (how = 2 ∧ r = -1)))
theorem rok_c (f : Fu) (r how : Int) (h : Hp) : HC Tryd.prog 77 [f.v, .int .i64 r, .int .i64 how] h fun v h' => v = .bool (rok f.rg r how) ∧ Ext h h' := by
  refine hc_of Tryd.func77 (rfl : Tryd.f77.body = some _) Tryd.ntmps77 Tryd.results77 Tryd.call77 rfl ?_; have HS := Sep.nil h; conv => whnf
  repeat' ((first | (with_reducible first | refine EvSeq.go ?_ | refine EvIf.tt ?_ | refine EvIf.ff ?_) | ((with_reducible refine Hole.mk (kK ?_)); clear kK) | ((with_reducible refine EvIf.mk (fun c => ?_) (fun c => ?_)) <;> (try simp only [cs_] at c) <;> (try (exfalso; first | omega | (revert c; decide)))) | ((with_reducible refine EvNew.sep HS ?_); intro bN hN HS1 hX; replace HS := HS1; clear HS1) | ((with_reducible refine EvIdx.lit ?_ ?_ ?_); (first | omega | decide); (first | omega | decide)) | ((with_reducible first | refine EvNe.mk ?_ ?_ | refine EvGe.mk ?_ ?_); (first | decide | omega)) | ((with_reducible refine EvLd.q HS (by repeat first | exact .h | apply Spot.t) ?_); (conv => whnf); intro hC) | (with_reducible refine EvLdN.q HS (by repeat first | exact .h | apply Spot.t) (fun hC => ?_)) | ((with_reducible refine EvSt.q HS (by repeat first | exact .h | apply Spot.t) ?_); (conv => whnf); intro hN HS1 hU; replace HS := HS1; clear HS1) | ((with_reducible refine EvKeep.cq (A := keepK _ _ (Hole _) _) HS (by repeat first | exact .h | apply Spot.t) ?_); (conv => whnf); (refine ⟨?_, ?_⟩); assumption; intro hC) | ((with_reducible refine EvKeep.nq (A := keepK _ _ (Hole _) _) HS (by repeat first | exact .h | apply Spot.t) ?_ ?_); assumption; intro hC) | ((fail_if_success with_reducible refine EvKeep.hole ?_); (with_reducible refine EvKeep.abs (fun X kK => ?_)))) <;> conv => whnf)
  all_goals
    refine ⟨congrArg Value.bool ?_, HS.to_ext⟩
    clear HS
    unfold rok
    simp (disch := omega) only [if_pos, if_neg]
    try grind
def wok (n : Int) : Bool := decide (0 ≤ n ∧ n ≤ 4294967295)
theorem wok_c (n : Int) (h : Hp) : HC Tryd.prog 87 [.int .i64 n] h fun v h' => v = .bool (wok n) ∧ Ext h h' := by
  refine hc_of Tryd.func87 (rfl : Tryd.f87.body = some _) Tryd.ntmps87 Tryd.results87 Tryd.call87 rfl ?_; have HS := Sep.nil h; conv => whnf
  repeat' ((first | (with_reducible first | refine EvSeq.go ?_ | refine EvIf.tt ?_ | refine EvIf.ff ?_) | ((with_reducible refine Hole.mk (kK ?_)); clear kK) | ((with_reducible refine EvIf.mk (fun c => ?_) (fun c => ?_)) <;> (try simp only [cs_] at c) <;> (try (exfalso; first | omega | (revert c; decide)))) | ((with_reducible refine EvNew.sep HS ?_); intro bN hN HS1 hX; replace HS := HS1; clear HS1) | ((with_reducible refine EvIdx.lit ?_ ?_ ?_); (first | omega | decide); (first | omega | decide)) | ((with_reducible first | refine EvNe.mk ?_ ?_ | refine EvGe.mk ?_ ?_); (first | decide | omega)) | ((with_reducible refine EvLd.q HS (by repeat first | exact .h | apply Spot.t) ?_); (conv => whnf); intro hC) | (with_reducible refine EvLdN.q HS (by repeat first | exact .h | apply Spot.t) (fun hC => ?_)) | ((with_reducible refine EvSt.q HS (by repeat first | exact .h | apply Spot.t) ?_); (conv => whnf); intro hN HS1 hU; replace HS := HS1; clear HS1) | ((with_reducible refine EvKeep.cq (A := keepK _ _ (Hole _) _) HS (by repeat first | exact .h | apply Spot.t) ?_); (conv => whnf); (refine ⟨?_, ?_⟩); assumption; intro hC) | ((with_reducible refine EvKeep.nq (A := keepK _ _ (Hole _) _) HS (by repeat first | exact .h | apply Spot.t) ?_ ?_); assumption; intro hC) | ((fail_if_success with_reducible refine EvKeep.hole ?_); (with_reducible refine EvKeep.abs (fun X kK => ?_)))) <;> conv => whnf)
  all_goals
    refine ⟨congrArg Value.bool ?_, HS.to_ext⟩
    clear HS
    unfold wok
    try grind
def ks (k : Int) : Int := if k = 1 ∨ k = 2 then 1 else if k = 3 ∨ k = 4 then 2 else if k = 5 then 4 else 0
theorem sKs_c (k : Int) (h : Hp) : HC Tryd.prog 88 [.int .i64 k] h fun v h' => v = .int .i64 (ks k) ∧ h' = h := by
  refine hc_of Tryd.func88 (rfl : Tryd.f88.body = some _) Tryd.ntmps88 Tryd.results88 Tryd.call88 rfl ?_; have HS := Sep.nil h; conv => whnf
  repeat' ((first | (with_reducible first | refine EvSeq.go ?_ | refine EvIf.tt ?_ | refine EvIf.ff ?_) | ((with_reducible refine Hole.mk (kK ?_)); clear kK) | ((with_reducible refine EvIf.mk (fun c => ?_) (fun c => ?_)) <;> (try simp only [cs_] at c) <;> (try (exfalso; first | omega | (revert c; decide)))) | ((with_reducible refine EvNew.sep HS ?_); intro bN hN HS1 hX; replace HS := HS1; clear HS1) | ((with_reducible refine EvIdx.lit ?_ ?_ ?_); (first | omega | decide); (first | omega | decide)) | ((with_reducible first | refine EvNe.mk ?_ ?_ | refine EvGe.mk ?_ ?_); (first | decide | omega)) | ((with_reducible refine EvLd.q HS (by repeat first | exact .h | apply Spot.t) ?_); (conv => whnf); intro hC) | (with_reducible refine EvLdN.q HS (by repeat first | exact .h | apply Spot.t) (fun hC => ?_)) | ((with_reducible refine EvSt.q HS (by repeat first | exact .h | apply Spot.t) ?_); (conv => whnf); intro hN HS1 hU; replace HS := HS1; clear HS1) | ((with_reducible refine EvKeep.cq (A := keepK _ _ (Hole _) _) HS (by repeat first | exact .h | apply Spot.t) ?_); (conv => whnf); (refine ⟨?_, ?_⟩); assumption; intro hC) | ((with_reducible refine EvKeep.nq (A := keepK _ _ (Hole _) _) HS (by repeat first | exact .h | apply Spot.t) ?_ ?_); assumption; intro hC) | ((fail_if_success with_reducible refine EvKeep.hole ?_); (with_reducible refine EvKeep.abs (fun X kK => ?_)))) <;> conv => whnf)
  all_goals
    refine ⟨?_, rfl⟩
    congr 1
    unfold ks
    simp (disch := omega) only [if_pos, if_neg] <;> rfl
/-- is N right? m: how many slots -/
def nok (m op n : Int) : Bool :=
  if op = 1 then wok n else if op = 3 then decide (1 ≤ n ∧ n ≤ 18) else if op = 4 then decide (1 ≤ n ∧ n ≤ 4) else if op = 5 ∨ op = 6 then decide (0 < ks n)
  else if op = 7 then decide (0 ≤ n ∧ n ≤ 60000) else if op = 8 then decide (0 ≤ n ∧ n < m) else if op = 15 ∨ op = 16 then decide (1 ≤ n ∧ n ≤ 60000) else decide (fld op / 32 % 2 = 1 ∨ n = 0)
theorem fld_r (op : Int) : 0 ≤ fld op ∧ fld op ≤ 194 := by
  unfold fld
  rw [List.getD_eq_getElem?_getD]
  cases e : [0, 33, 5, 53, 37, 37, 52, 97, 33, 194, 134, 32, 32, 116, 8, 52, (36 : Int)][op.toNat]? with
  | none => decide
  | some x =>
    have := List.mem_of_getElem? e
    simp at this
    show 0 ≤ x ∧ x ≤ 194
    omega
set_option maxHeartbeats 1000000 in
theorem nok_c (f : Fu) (x : Ii) (h0 : 1 ≤ x.op) (h1 : x.op ≤ 16) (h : Hp) : HC Tryd.prog 78 [f.v, .agg x.cells.toArray] h fun v h' => v = .bool (nok f.sh.n x.op x.n) ∧ Ext h h' := by
  have hf := fld_r x.op
  refine hc_of Tryd.func78 (rfl : Tryd.f78.body = some _) Tryd.ntmps78 Tryd.results78 Tryd.call78 rfl ?_; have HS := Sep.nil h; conv => whnf
  repeat' ((first | ((with_reducible refine EvCall.mk (HC.mono (wok_c _ _) ?_)); (rintro _ hN ⟨rfl, hX⟩); replace HS := HS.ext hX) | ((with_reducible refine EvCall.mk (HC.mono (sKs_c _ _) ?_)); (rintro _ _ ⟨rfl, rfl⟩)) | ((with_reducible refine EvCall.mk (HC.mono (fld_c _ (by omega) (by omega) _) ?_)); (rintro _ hN ⟨rfl, hX⟩); replace HS := HS.ext hX) | (with_reducible first | refine EvSeq.go ?_ | refine EvIf.tt ?_ | refine EvIf.ff ?_) | ((with_reducible refine Hole.mk (kK ?_)); clear kK) | ((with_reducible refine EvIf.mk (fun c => ?_) (fun c => ?_)) <;> (try simp only [cs_] at c) <;> (try (exfalso; first | omega | (revert c; decide)))) | ((with_reducible refine EvNew.sep HS ?_); intro bN hN HS1 hX; replace HS := HS1; clear HS1) | ((with_reducible refine EvIdx.lit ?_ ?_ ?_); (first | omega | decide); (first | omega | decide)) | ((with_reducible first | refine EvNe.mk ?_ ?_ | refine EvGe.mk ?_ ?_); (first | decide | omega)) | ((with_reducible refine EvLd.q HS (by repeat first | exact .h | apply Spot.t) ?_); (conv => whnf); intro hC) | (with_reducible refine EvLdN.q HS (by repeat first | exact .h | apply Spot.t) (fun hC => ?_)) | ((with_reducible refine EvSt.q HS (by repeat first | exact .h | apply Spot.t) ?_); (conv => whnf); intro hN HS1 hU; replace HS := HS1; clear HS1) | ((with_reducible refine EvKeep.cq (A := keepK _ _ (Hole _) _) HS (by repeat first | exact .h | apply Spot.t) ?_); (conv => whnf); (refine ⟨?_, ?_⟩); assumption; intro hC) | ((with_reducible refine EvKeep.nq (A := keepK _ _ (Hole _) _) HS (by repeat first | exact .h | apply Spot.t) ?_ ?_); assumption; intro hC) | ((fail_if_success with_reducible refine EvKeep.hole ?_); (with_reducible refine EvKeep.abs (fun X kK => ?_)))) <;> conv => whnf)
  all_goals
    refine ⟨congrArg Value.bool ?_, HS.to_ext⟩
    clear HS
    unfold nok
    simp (disch := omega) only [if_pos, if_neg, tdiv_pos, tmod_pos, i64w] at *
    try (first | rfl | grind)
/-- is a step right, but for its label and text? -/
def iok (rg m : Int) (x : Ii) : Bool :=
  if x.op < 1 ∨ 16 < x.op then false
  else if !rok rg x.d (fld x.op % 4) || !rok rg x.a (fld x.op / 4 % 4) || !rok rg x.b (fld x.op / 16 % 2) || !nok m x.op x.n then false
  else if 8 < x.l.length ∨ (fld x.op < 128 ∧ 0 < x.l.length) then false
  else x.l.all fun r => rok rg r 1
set_option maxHeartbeats 1000000 in
theorem iok_c {h : Hp} (f : Fu) {x : Ii} (ox : IiOk h x) : HC Tryd.prog 53 [f.v, .agg x.cells.toArray] h fun v h' => v = .bool (iok f.rg f.sh.n x) ∧ Ext h h' := by
  have hf := fld_r x.op
  have hl := ox.l
  have hb := ox.b
  refine hc_of Tryd.func53 (rfl : Tryd.f53.body = some _) Tryd.ntmps53 Tryd.results53 Tryd.call53 rfl ?_; have HS := Sep.nil h; conv => whnf
  refine EvNew.sep HS ?_
  intro bf gbf HS1 xbf
  replace HS := HS1
  clear HS1
  conv => whnf
  refine EvNew.sep HS ?_
  intro bx gbx HS1 xbx
  replace HS := HS1
  clear HS1
  conv => whnf
  have d4 : (fld x.op).tmod 4 = fld x.op % 4 := tmod_pos hf.1
  have a4 : (IntKind.i64.wrap ((fld x.op).tdiv 4)).tmod 4 = fld x.op / 4 % 4 := by rw [tdiv_pos hf.1, i64w _ (by omega) (by omega), tmod_pos (by omega)]
  have b2 : (IntKind.i64.wrap ((fld x.op).tdiv 16)).tmod 2 = fld x.op / 16 % 2 := by rw [tdiv_pos hf.1, i64w _ (by omega) (by omega), tmod_pos (by omega)]
  repeat' ((first | ((with_reducible refine EvDraw.ord (id := 11) (.go 0 (.go 1 (.go 2 (.go 3 (.go 4 (.go 5 (.alt 6 (.go 7 .done) .stop))))))) fol ?_ ?_ ?_); kernel_rfl; kernel_rfl) | ((with_reducible refine EvCall.mk (HC.mono (fld_c _ (by omega) (by omega) _) ?_)); (rintro _ hN ⟨rfl, hX⟩); replace HS := HS.ext hX) | ((with_reducible refine EvCall.mk (HC.mono (rok_c f _ _ _) ?_)); (rintro _ hN ⟨rfl, hX⟩); replace HS := HS.ext hX) | (with_reducible first | refine EvSeq.go ?_ | refine EvIf.tt ?_ | refine EvIf.ff ?_) | ((with_reducible refine Hole.mk (kK ?_)); clear kK) | ((with_reducible refine EvIf.mk (fun c => ?_) (fun c => ?_)) <;> (try simp only [cs_] at c) <;> (try (exfalso; first | omega | (revert c; decide)))) | ((with_reducible refine EvNew.sep HS ?_); intro bN hN HS1 hX; replace HS := HS1; clear HS1) | ((with_reducible refine EvIdx.lit ?_ ?_ ?_); (first | omega | decide); (first | omega | decide)) | ((with_reducible first | refine EvNe.mk ?_ ?_ | refine EvGe.mk ?_ ?_); (first | decide | omega)) | ((with_reducible refine EvLd.q HS (by repeat first | exact .h | apply Spot.t) ?_); (conv => whnf); intro hC) | (with_reducible refine EvLdN.q HS (by repeat first | exact .h | apply Spot.t) (fun hC => ?_)) | ((with_reducible refine EvSt.q HS (by repeat first | exact .h | apply Spot.t) ?_); (conv => whnf); intro hN HS1 hU; replace HS := HS1; clear HS1) | ((with_reducible refine EvKeep.cq (A := keepK _ _ (Hole _) _) HS (by repeat first | exact .h | apply Spot.t) ?_); (conv => whnf); (refine ⟨?_, ?_⟩); assumption; intro hC) | ((with_reducible refine EvKeep.nq (A := keepK _ _ (Hole _) _) HS (by repeat first | exact .h | apply Spot.t) ?_ ?_); assumption; intro hC) | ((fail_if_success with_reducible refine EvKeep.hole ?_); (with_reducible refine EvKeep.abs (fun X kK => ?_)))) <;> conv => whnf)
  · refine ⟨congrArg Value.bool ?_, HS.to_ext⟩
    unfold iok
    rw [if_pos (.inl c)]
  · refine ⟨congrArg Value.bool ?_, HS.to_ext⟩
    unfold iok
    rw [if_pos (.inr c)]
  · refine ⟨congrArg Value.bool ?_, HS.to_ext⟩
    rw [d4] at c
    unfold iok
    rw [if_neg (by omega), if_pos (by simp [c])]
  · refine ⟨congrArg Value.bool ?_, HS.to_ext⟩
    rw [a4] at c
    unfold iok
    rw [if_neg (by omega), if_pos (by simp [c])]
  · refine ⟨congrArg Value.bool ?_, HS.to_ext⟩
    rw [b2] at c
    unfold iok
    rw [if_neg (by omega), if_pos (by simp [c])]
  · rename_i c1 c2
    rw [d4, a4, b2] at *
    refine EvCall.mk ((nok_c f x (by omega) (by omega) _).mono ?_)
    rintro _ hN ⟨rfl, hX⟩
    replace HS := HS.ext hX
    conv => whnf
    repeat' ((first | ((with_reducible refine EvDraw.ord (id := 11) (.go 0 (.go 1 (.go 2 (.go 3 (.go 4 (.go 5 (.alt 6 (.go 7 .done) .stop))))))) fol ?_ ?_ ?_); kernel_rfl; kernel_rfl) | (with_reducible first | refine EvSeq.go ?_ | refine EvIf.tt ?_ | refine EvIf.ff ?_) | ((with_reducible refine Hole.mk (kK ?_)); clear kK) | ((with_reducible refine EvIf.mk (fun c => ?_) (fun c => ?_)) <;> (try simp only [cs_] at c) <;> (try (exfalso; first | omega | (revert c; decide)))) | ((with_reducible refine EvNew.sep HS ?_); intro bN hN HS1 hX; replace HS := HS1; clear HS1) | ((with_reducible refine EvIdx.lit ?_ ?_ ?_); (first | omega | decide); (first | omega | decide)) | ((with_reducible first | refine EvNe.mk ?_ ?_ | refine EvGe.mk ?_ ?_); (first | decide | omega)) | ((with_reducible refine EvLd.q HS (by repeat first | exact .h | apply Spot.t) ?_); (conv => whnf); intro hC) | (with_reducible refine EvLdN.q HS (by repeat first | exact .h | apply Spot.t) (fun hC => ?_)) | ((with_reducible refine EvSt.q HS (by repeat first | exact .h | apply Spot.t) ?_); (conv => whnf); intro hN HS1 hU; replace HS := HS1; clear HS1) | ((with_reducible refine EvKeep.cq (A := keepK _ _ (Hole _) _) HS (by repeat first | exact .h | apply Spot.t) ?_); (conv => whnf); (refine ⟨?_, ?_⟩); assumption; intro hC) | ((with_reducible refine EvKeep.nq (A := keepK _ _ (Hole _) _) HS (by repeat first | exact .h | apply Spot.t) ?_ ?_); assumption; intro hC) | ((fail_if_success with_reducible refine EvKeep.hole ?_); (with_reducible refine EvKeep.abs (fun X kK => ?_)))) <;> conv => whnf)
    · refine ⟨congrArg Value.bool ?_, HS.to_ext⟩
      unfold iok
      rw [if_neg (by omega), if_pos (by simp [c])]
    · refine ⟨congrArg Value.bool ?_, HS.to_ext⟩
      unfold iok
      rw [if_neg (by omega), if_neg (by simp [*]), if_pos (.inl (by omega))]
    · refine ⟨congrArg Value.bool ?_, HS.to_ext⟩
      unfold iok
      rw [if_neg (by omega), if_neg (by simp [*]), if_pos (.inr ⟨by omega, by omega⟩)]
    all_goals
      have e0 : iok f.rg f.sh.n x = x.l.all fun r => rok f.rg r 1 := by
        unfold iok
        rw [if_neg (by omega), if_neg (by simp [*]), if_neg (by omega)]
      rw [e0]
      refine EvLoop.keep ([4, 6, 65, 66, 67, 68, 69, 70, 71, 72, 73, 74, 75, 76, 77, 78, 79], 7) (α := Nat) (fun k => [(6, .int .i64 k)]) (fun k h' => k ≤ x.h.n ∧ ((x.l.take k).all fun r => rok f.rg r 1) = true ∧ Sep h h' [Bx bx x.cells 67, Bx bf [.string f.nm, .int .i64 f.pa, .int .i64 f.rg, f.sh.v, f.ch.v] 31]) (fun k => x.h.n - k) 0 (by (repeat' (first | exact trivial | refine ⟨rfl, ?_⟩))) ⟨Nat.zero_le _, by simp, HS⟩ ?_
      clear HS
      rintro k h1 ⟨hk, ht, HS⟩
      conv => whnf
      repeat' ((first | ((with_reducible refine EvDraw.ord (id := 11) (.go 0 (.go 1 (.go 2 (.go 3 (.go 4 (.go 5 (.alt 6 (.go 7 .done) .stop))))))) fol ?_ ?_ ?_); kernel_rfl; kernel_rfl) | ((with_reducible refine EvIdx.rd (ox.r.ext HS.to_ext) (by simpa using hl) (by omega) (by omega) ?_); intro bI oI eI hI) | ((with_reducible refine EvLd.row (by assumption) (by omega) ?_)) | ((with_reducible refine EvCall.mk (HC.mono (rok_c f _ _ _) ?_)); (rintro _ hN ⟨rfl, hX⟩); replace HS := HS.ext hX) | (with_reducible first | refine EvSeq.go ?_ | refine EvIf.tt ?_ | refine EvIf.ff ?_) | ((with_reducible refine Hole.mk (kK ?_)); clear kK) | ((with_reducible refine EvIf.mk (fun c => ?_) (fun c => ?_)) <;> (try simp only [cs_] at c) <;> (try (exfalso; first | omega | (revert c; decide)))) | ((with_reducible refine EvNew.sep HS ?_); intro bN hN HS1 hX; replace HS := HS1; clear HS1) | ((with_reducible refine EvIdx.lit ?_ ?_ ?_); (first | omega | decide); (first | omega | decide)) | ((with_reducible first | refine EvNe.mk ?_ ?_ | refine EvGe.mk ?_ ?_); (first | decide | omega)) | ((with_reducible refine EvLd.q HS (by repeat first | exact .h | apply Spot.t) ?_); (conv => whnf); intro hC) | (with_reducible refine EvLdN.q HS (by repeat first | exact .h | apply Spot.t) (fun hC => ?_)) | ((with_reducible refine EvSt.q HS (by repeat first | exact .h | apply Spot.t) ?_); (conv => whnf); intro hN HS1 hU; replace HS := HS1; clear HS1) | ((with_reducible refine EvKeep.cq (A := keepK _ _ (Hole _) _) HS (by repeat first | exact .h | apply Spot.t) ?_); (conv => whnf); (refine ⟨?_, ?_⟩); assumption; intro hC) | ((with_reducible refine EvKeep.nq (A := keepK _ _ (Hole _) _) HS (by repeat first | exact .h | apply Spot.t) ?_ ?_); assumption; intro hC) | ((fail_if_success with_reducible refine EvKeep.hole ?_); (with_reducible refine EvKeep.abs (fun X kK => ?_)))) <;> conv => whnf)
      all_goals first
        | (refine ⟨congrArg Value.bool ?_, HS.to_ext⟩
           rw [List.take_of_length_le (by omega)] at ht
           exact ht.symm)
        | (refine ⟨congrArg Value.bool ?_, HS.to_ext⟩
           rw [eq_comm, List.all_eq_false]
           exact ⟨x.l[(k : Int).toNat]'(by omega), List.getElem_mem _, by simpa using c⟩)
        | (refine ⟨k + 1, ⟨congrArg (fun z => some (Value.int .i64 z)) ((i64w _ (by omega) (by omega)).trans (by omega)), (by (repeat' (first | exact trivial | refine ⟨rfl, ?_⟩)))⟩, ⟨by omega, ?_, HS⟩, by omega⟩
           rw [List.take_succ_eq_append_getElem (by omega), List.all_append, ht]
           simpa using c)
end Go.Proofs.YtjggmhpjlnmigaaDoor
