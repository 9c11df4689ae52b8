/- Steps that are right: the reference's tests. -/
import Derived.Test.YtjggmhpjlnmigaaDoorVIr
namespace Go.Proofs.YtjggmhpjlnmigaaDoor
open Go.RowKit
set_option maxRecDepth 20000
set_option linter.unusedSimpArgs false
set_option linter.unusedVariables false
/-- whole numbers in a row of values -/
inductive AllI (k : IntKind) : List Value → List Int → Prop
  | nil : AllI k [] []
  | cons {x : Int} {vs : List Value} {ls : List Int} (r : AllI k vs ls) : AllI k (.int k x :: vs) (x :: ls)
theorem AllI.eq {k : IntKind} {vs : List Value} {ls : List Int} (a : AllI k vs ls) : vs = ints k ls := by
  induction a with
  | nil => rfl
  | cons r ih => rw [ih]; rfl
/-- a number out of a row that is told whole -/
theorem EvLd.lit {h0 h : Hp} {L : List Asn} {F : Asn → List Asn} {b j : Nat} {vs : List Value} {ls : List Int} {k : IntKind} {T : TypeId} {K : Value → Prop} (s : Sep h0 h L) (p : Spot (Bx b vs T) L F) (a : AllI k vs ls) (ho : j < ls.length)
    (kk : h[b]? = some (.cells vs.toArray T (0, 0)) → K (.int k (ls.getD j 0))) : EvLd h b (0 + j * 1) K := by
  obtain ⟨i, hi, _⟩ := p.idx
  have e := a.eq
  subst e
  refine EvLd.blk (s.pt_i i hi) ?_ (kk (s.pt_i i hi))
  simp [List.getElem?_eq_getElem ho, List.getD_eq_getElem?_getD]
def fld (op : Int) : Int := [0, 33, 5, 53, 37, 37, 52, 97, 33, 194, 134, 32, 32, 116, 8, 52, 36].getD op.toNat 0
theorem fld_c (op : Int) (h0 : 0 ≤ op) (h1 : op ≤ 16) (h : Hp) : HC Tryd.prog 76 [.int .i64 op] h fun v h' => v = .int .i64 (fld op) ∧ Ext h h' := by
  refine hc_of Tryd.func76 (rfl : Tryd.f76.body = some _) Tryd.ntmps76 Tryd.results76 Tryd.call76 rfl ?_; have HS := Sep.nil h; conv => whnf
  repeat' ((first | ((with_reducible refine EvIdx.lit ?_ ?_ ?_); omega; omega) | ((with_reducible refine EvLd.lit HS (by repeat first | exact .h | apply Spot.t) (by repeat first | exact .nil | apply AllI.cons) (by simp; omega) (fun hC => ?_))) | ((with_reducible refine EvNew.sep HS ?_); intro bN hN HS1 hX; replace HS := HS1; clear HS1)) <;> conv => whnf)
  exact ⟨rfl, HS.to_ext⟩
def rok (rg r how : Int) : Bool := if how = 0 then decide (r = 0) else decide (r < rg ∧ (0 ≤ r ∨ (how = 2 ∧ r = -1)))
theorem rok_c (f : Fu) (r how : Int) (h : Hp) : HC Tryd.prog 77 [f.v, .int .i64 r, .int .i64 how] h fun v h' => v = .bool (rok f.rg r how) ∧ Ext h h' := by
  refine hc_of Tryd.func77 (rfl : Tryd.f77.body = some _) Tryd.ntmps77 Tryd.results77 Tryd.call77 rfl ?_; have HS := Sep.nil h; conv => whnf
  repeat' ((first | (with_reducible first | refine EvSeq.go ?_ | refine EvIf.tt ?_ | refine EvIf.ff ?_) | ((with_reducible refine EvIf.mk (fun c => ?_) (fun c => ?_)) <;> (try simp only [cs_] at c) <;> (try (exfalso; first | omega | (revert c; decide)))) | ((with_reducible refine EvNew.sep HS ?_); intro bN hN HS1 hX; replace HS := HS1; clear HS1) | ((with_reducible refine EvLd.q HS (by repeat first | exact .h | apply Spot.t) ?_); (conv => whnf); intro hC)) <;> conv => whnf)
  all_goals
    refine ⟨congrArg Value.bool ?_, HS.to_ext⟩
    clear HS
    unfold rok
    simp (disch := omega) only [if_pos, if_neg]
    try grind
def wok (n : Int) : Bool := decide (0 ≤ n ∧ n ≤ 4294967295)
theorem wok_c (n : Int) (h : Hp) : HC Tryd.prog 87 [.int .i64 n] h fun v h' => v = .bool (wok n) ∧ Ext h h' := by
  refine hc_of Tryd.func87 (rfl : Tryd.f87.body = some _) Tryd.ntmps87 Tryd.results87 Tryd.call87 rfl ?_; have HS := Sep.nil h; conv => whnf
  repeat' ((first | (with_reducible first | refine EvSeq.go ?_ | refine EvIf.tt ?_ | refine EvIf.ff ?_) | ((with_reducible refine EvIf.mk (fun c => ?_) (fun c => ?_)) <;> (try simp only [cs_] at c) <;> (try (exfalso; first | omega | (revert c; decide))))) <;> conv => whnf)
  all_goals
    refine ⟨congrArg Value.bool ?_, HS.to_ext⟩
    clear HS
    unfold wok
    try grind
def ks (k : Int) : Int := if k = 1 ∨ k = 2 then 1 else if k = 3 ∨ k = 4 then 2 else if k = 5 then 4 else 0
theorem sKs_c (k : Int) (h : Hp) : HC Tryd.prog 88 [.int .i64 k] h fun v h' => v = .int .i64 (ks k) ∧ h' = h := by
  refine hc_of Tryd.func88 (rfl : Tryd.f88.body = some _) Tryd.ntmps88 Tryd.results88 Tryd.call88 rfl ?_; have HS := Sep.nil h; conv => whnf
  repeat' ((first | (with_reducible first | refine EvSeq.go ?_ | refine EvIf.tt ?_ | refine EvIf.ff ?_) | ((with_reducible refine EvIf.mk (fun c => ?_) (fun c => ?_)) <;> (try simp only [cs_] at c) <;> (try (exfalso; first | omega | (revert c; decide))))) <;> conv => whnf)
  all_goals
    refine ⟨?_, rfl⟩
    congr 1
    unfold ks
    simp (disch := omega) only [if_pos, if_neg] <;> rfl
/-- is N right? m: how many slots -/
def nok (m op n : Int) : Bool :=
  if op = 1 then wok n else if op = 3 then decide (1 ≤ n ∧ n ≤ 18) else if op = 4 then decide (1 ≤ n ∧ n ≤ 4) else if op = 5 ∨ op = 6 then decide (0 < ks n)
  else if op = 7 then decide (0 ≤ n ∧ n ≤ 60000) else if op = 8 then decide (0 ≤ n ∧ n < m) else if op = 15 ∨ op = 16 then decide (1 ≤ n ∧ n ≤ 60000) else decide (fld op / 32 % 2 = 1 ∨ n = 0)
theorem fld_r (op : Int) : 0 ≤ fld op ∧ fld op ≤ 194 := by
  unfold fld
  rw [List.getD_eq_getElem?_getD]
  cases e : [0, 33, 5, 53, 37, 37, 52, 97, 33, 194, 134, 32, 32, 116, 8, 52, (36 : Int)][op.toNat]? with
  | none => decide
  | some x =>
    have := List.mem_of_getElem? e
    simp at this
    show 0 ≤ x ∧ x ≤ 194
    omega
set_option maxHeartbeats 1000000 in
theorem nok_c (f : Fu) (x : Ii) (h0 : 1 ≤ x.op) (h1 : x.op ≤ 16) (h : Hp) : HC Tryd.prog 78 [f.v, .agg x.cells.toArray] h fun v h' => v = .bool (nok f.sh.n x.op x.n) ∧ Ext h h' := by
  have hf := fld_r x.op
  refine hc_of Tryd.func78 (rfl : Tryd.f78.body = some _) Tryd.ntmps78 Tryd.results78 Tryd.call78 rfl ?_; have HS := Sep.nil h; conv => whnf
  repeat' ((first | ((with_reducible refine EvCall.mk (HC.mono (wok_c _ _) ?_)); (rintro _ hN ⟨rfl, hX⟩); replace HS := HS.ext hX) | ((with_reducible refine EvCall.mk (HC.mono (sKs_c _ _) ?_)); (rintro _ _ ⟨rfl, rfl⟩)) | ((with_reducible refine EvCall.mk (HC.mono (fld_c _ (by omega) (by omega) _) ?_)); (rintro _ hN ⟨rfl, hX⟩); replace HS := HS.ext hX) | (with_reducible first | refine EvSeq.go ?_ | refine EvIf.tt ?_ | refine EvIf.ff ?_) | ((with_reducible refine EvIf.mk (fun c => ?_) (fun c => ?_)) <;> (try simp only [cs_] at c) <;> (try (exfalso; first | omega | (revert c; decide)))) | ((with_reducible refine EvNew.sep HS ?_); intro bN hN HS1 hX; replace HS := HS1; clear HS1) | ((with_reducible first | refine EvNe.mk ?_ ?_ | refine EvGe.mk ?_ ?_); (first | decide | omega)) | ((with_reducible refine EvLd.q HS (by repeat first | exact .h | apply Spot.t) ?_); (conv => whnf); intro hC)) <;> conv => whnf)
  all_goals
    refine ⟨congrArg Value.bool ?_, HS.to_ext⟩
    clear HS
    unfold nok
    simp (disch := omega) only [if_pos, if_neg, tdiv_pos, tmod_pos, i64w] at *
    try (first | rfl | grind)
/-- is a step right, but for its label and text? -/
def iok (rg m : Int) (x : Ii) : Bool :=
  if x.op < 1 ∨ 16 < x.op then false
  else if !rok rg x.d (fld x.op % 4) || !rok rg x.a (fld x.op / 4 % 4) || !rok rg x.b (fld x.op / 16 % 2) || !nok m x.op x.n then false
  else if 8 < x.l.length ∨ (fld x.op < 128 ∧ 0 < x.l.length) then false
  else x.l.all fun r => rok rg r 1
set_option maxHeartbeats 1000000 in
theorem iok_c {h : Hp} (f : Fu) {x : Ii} (ox : IiOk h x) : HC Tryd.prog 53 [f.v, .agg x.cells.toArray] h fun v h' => v = .bool (iok f.rg f.sh.n x) ∧ Ext h h' := by
  have hf := fld_r x.op
  have hl := ox.l
  have hb := ox.b
  refine hc_of Tryd.func53 (rfl : Tryd.f53.body = some _) Tryd.ntmps53 Tryd.results53 Tryd.call53 rfl ?_; have HS := Sep.nil h; conv => whnf
  refine EvNew.sep HS ?_
  intro bf gbf HS1 xbf
  replace HS := HS1
  clear HS1
  conv => whnf
  refine EvNew.sep HS ?_
  intro bx gbx HS1 xbx
  replace HS := HS1
  clear HS1
  conv => whnf
  have d4 : (fld x.op).tmod 4 = fld x.op % 4 := tmod_pos hf.1
  have a4 : (IntKind.i64.wrap ((fld x.op).tdiv 4)).tmod 4 = fld x.op / 4 % 4 := by rw [tdiv_pos hf.1, i64w _ (by omega) (by omega), tmod_pos (by omega)]
  have b2 : (IntKind.i64.wrap ((fld x.op).tdiv 16)).tmod 2 = fld x.op / 16 % 2 := by rw [tdiv_pos hf.1, i64w _ (by omega) (by omega), tmod_pos (by omega)]
  repeat' ((first | ((with_reducible refine EvCall.mk (HC.mono (fld_c _ (by omega) (by omega) _) ?_)); (rintro _ hN ⟨rfl, hX⟩); replace HS := HS.ext hX) | ((with_reducible refine EvCall.mk (HC.mono (rok_c f _ _ _) ?_)); (rintro _ hN ⟨rfl, hX⟩); replace HS := HS.ext hX) | (with_reducible first | refine EvSeq.go ?_ | refine EvIf.tt ?_ | refine EvIf.ff ?_) | ((with_reducible refine EvIf.mk (fun c => ?_) (fun c => ?_)) <;> (try simp only [cs_] at c) <;> (try (exfalso; first | omega | (revert c; decide)))) | ((with_reducible first | refine EvNe.mk ?_ ?_ | refine EvGe.mk ?_ ?_); (first | decide | omega)) | ((with_reducible refine EvLd.q HS (by repeat first | exact .h | apply Spot.t) ?_); (conv => whnf); intro hC) | (with_reducible refine EvLdN.q HS (by repeat first | exact .h | apply Spot.t) (fun hC => ?_))) <;> conv => whnf)
  · refine ⟨congrArg Value.bool ?_, HS.to_ext⟩
    unfold iok
    rw [if_pos (.inl c)]
  · refine ⟨congrArg Value.bool ?_, HS.to_ext⟩
    unfold iok
    rw [if_pos (.inr c)]
  · refine ⟨congrArg Value.bool ?_, HS.to_ext⟩
    rw [d4] at c
    unfold iok
    rw [if_neg (by omega), if_pos (by simp [c])]
  · refine ⟨congrArg Value.bool ?_, HS.to_ext⟩
    rw [a4] at c
    unfold iok
    rw [if_neg (by omega), if_pos (by simp [c])]
  · refine ⟨congrArg Value.bool ?_, HS.to_ext⟩
    rw [b2] at c
    unfold iok
    rw [if_neg (by omega), if_pos (by simp [c])]
  · rename_i c1 c2
    rw [d4, a4, b2] at *
    refine EvCall.mk ((nok_c f x (by omega) (by omega) _).mono ?_)
    rintro _ hN ⟨rfl, hX⟩
    replace HS := HS.ext hX
    conv => whnf
    repeat' ((first | (with_reducible first | refine EvSeq.go ?_ | refine EvIf.tt ?_ | refine EvIf.ff ?_) | ((with_reducible refine EvIf.mk (fun c => ?_) (fun c => ?_)) <;> (try simp only [cs_] at c) <;> (try (exfalso; first | omega | (revert c; decide)))) | ((with_reducible refine EvLd.q HS (by repeat first | exact .h | apply Spot.t) ?_); (conv => whnf); intro hC)) <;> conv => whnf)
    · refine ⟨congrArg Value.bool ?_, HS.to_ext⟩
      unfold iok
      rw [if_neg (by omega), if_pos (by simp [c])]
    · refine ⟨congrArg Value.bool ?_, HS.to_ext⟩
      unfold iok
      rw [if_neg (by omega), if_neg (by simp [*]), if_pos (.inl (by omega))]
    · refine ⟨congrArg Value.bool ?_, HS.to_ext⟩
      unfold iok
      rw [if_neg (by omega), if_neg (by simp [*]), if_pos (.inr ⟨by omega, by omega⟩)]
    all_goals
      have e0 : iok f.rg f.sh.n x = x.l.all fun r => rok f.rg r 1 := by
        unfold iok
        rw [if_neg (by omega), if_neg (by simp [*]), if_neg (by omega)]
      rw [e0]
      refine EvLoop.keep ([4, 6, 65, 66, 67, 68, 69, 70, 71, 72, 73, 74, 75, 76, 77, 78, 79], 7) (α := Nat) (fun k => [(6, .int .i64 k)]) (fun k h' => k ≤ x.h.n ∧ ((x.l.take k).all fun r => rok f.rg r 1) = true ∧ Sep h h' [Bx bx x.cells 67, Bx bf [.string f.nm, .int .i64 f.pa, .int .i64 f.rg, f.sh.v, f.ch.v] 31]) (fun k => x.h.n - k) 0 (by (repeat' (first | exact trivial | refine ⟨rfl, ?_⟩))) ⟨Nat.zero_le _, by simp, HS⟩ ?_
      clear HS
      rintro k h1 ⟨hk, ht, HS⟩
      conv => whnf
      repeat' ((first | ((with_reducible refine EvDraw.ord (id := 11) (.go 0 (.go 1 (.go 2 (.go 3 (.go 4 (.go 5 (.alt 6 (.go 7 .done) .stop))))))) fol ?_ ?_ ?_); kernel_rfl; kernel_rfl) | ((with_reducible refine EvIdx.rd (ox.r.ext HS.to_ext) (by simpa using hl) (by omega) (by omega) ?_); intro bI oI eI hI) | ((with_reducible refine EvLd.row (by assumption) (by omega) ?_)) | ((with_reducible refine EvCall.mk (HC.mono (rok_c f _ _ _) ?_)); (rintro _ hN ⟨rfl, hX⟩); replace HS := HS.ext hX) | (with_reducible first | refine EvSeq.go ?_ | refine EvIf.tt ?_ | refine EvIf.ff ?_) | ((with_reducible refine Hole.mk (kK ?_)); clear kK) | ((with_reducible refine EvIf.mk (fun c => ?_) (fun c => ?_)) <;> (try simp only [cs_] at c) <;> (try (exfalso; first | omega | (revert c; decide)))) | ((with_reducible refine EvLd.q HS (by repeat first | exact .h | apply Spot.t) ?_); (conv => whnf); intro hC) | (with_reducible refine EvLdN.q HS (by repeat first | exact .h | apply Spot.t) (fun hC => ?_)) | ((with_reducible refine EvKeep.cq (A := keepK _ _ (Hole _) _) HS (by repeat first | exact .h | apply Spot.t) ?_); (conv => whnf); (refine ⟨?_, ?_⟩); assumption; intro hC) | ((fail_if_success with_reducible refine EvKeep.hole ?_); (with_reducible refine EvKeep.abs (fun X kK => ?_)))) <;> conv => whnf)
      all_goals first
        | (refine ⟨congrArg Value.bool ?_, HS.to_ext⟩
           rw [List.take_of_length_le (by omega)] at ht
           exact ht.symm)
        | (refine ⟨congrArg Value.bool ?_, HS.to_ext⟩
           rw [eq_comm, List.all_eq_false]
           exact ⟨x.l[(k : Int).toNat]'(by omega), List.getElem_mem _, by simpa using c⟩)
        | (refine ⟨k + 1, ⟨congrArg (fun z => some (Value.int .i64 z)) ((i64w _ (by omega) (by omega)).trans (by omega)), (by (repeat' (first | exact trivial | refine ⟨rfl, ?_⟩)))⟩, ⟨by omega, ?_, HS⟩, by omega⟩
           rw [List.take_succ_eq_append_getElem (by omega), List.all_append, ht]
           simpa using c)
end Go.Proofs.YtjggmhpjlnmigaaDoor
/- Functions that are right: the reference's tests, continued. -/
namespace Go.Proofs.YtjggmhpjlnmigaaDoor
open Go.RowKit
set_option maxRecDepth 20000
set_option linter.unusedSimpArgs false
set_option linter.unusedVariables false
def isLab (n : Int) (x : Ii) : Bool := decide (x.op = 11) && decide (x.n = n)
/-- the place of a label, -1 when it is not there -/
def lab (xs : List Ii) (n : Int) : Int := match xs.findIdx? (isLab n) with
  | some i => (i : Int)
  | none => -1
theorem lab_at {xs : List Ii} {n : Int} {k : Nat} {x : Ii} (hx : xs[k]? = some x) (hl : isLab n x = true) (ht : (xs.take k).all fun y => !isLab n y) : lab xs n = k := by
  obtain ⟨h1, h2⟩ := List.getElem?_eq_some_iff.mp hx
  have : xs.findIdx? (isLab n) = some k := by
    rw [List.findIdx?_eq_some_iff_getElem]
    refine ⟨h1, by rw [h2]; exact hl, fun j hj => ?_⟩
    have := List.all_eq_true.mp ht (xs[j]'(by omega)) (List.mem_take_iff_getElem.mpr ⟨j, by omega, rfl⟩)
    simpa using this
  unfold lab
  rw [this]
theorem lab_no {xs : List Ii} {n : Int} (ht : xs.all fun y => !isLab n y) : lab xs n = -1 := by
  have : xs.findIdx? (isLab n) = none := by
    rw [List.findIdx?_eq_none_iff]
    intro x hx
    simpa using List.all_eq_true.mp ht x hx
  unfold lab
  rw [this]
theorem all_step {xs : List Ii} {p : Ii → Bool} {k : Nat} {x : Ii} (hx : xs[k]? = some x) (ht : (xs.take k).all p = true) (h : p x = true) : (xs.take (k + 1)).all p = true := by
  rw [List.take_add_one, hx, List.all_append, ht]
  simpa using h
theorem lab_c {h : Hp} {f : Fu} (o : FuOk h f) (n : Int) : HC Tryd.prog 56 [f.v, .int .i64 n] h fun v h' => v = .int .i64 (lab f.cl n) ∧ Ext h h' := by
  have hxl := o.c.l
  have hn := o.c.b
  refine hc_of Tryd.func56 (rfl : Tryd.f56.body = some _) Tryd.ntmps56 Tryd.results56 Tryd.call56 rfl ?_; have HS := Sep.nil h; conv => whnf
  refine EvNew.sep HS ?_
  intro bf gbf HS1 xbf
  replace HS := HS1
  clear HS1
  conv => whnf
  repeat' ((with_reducible first | refine EvSeq.go ?_ | refine EvIf.tt ?_ | refine EvIf.ff ?_) <;> conv => whnf)
  refine EvLoop.keep ([4, 5, 6, 7, 8, 9, 10, 11, 12, 13, 14, 15, 16, 17, 18, 19, 20, 21, 22, 23, 24, 25, 26, 27, 28, 29, 30], 6) (α := Nat) (fun k => [(5, .int .i64 k)]) (fun k h' => k ≤ f.ch.n ∧ ((f.cl.take k).all fun y => !isLab n y) = true ∧ Sep h h' [Bx bf [.string f.nm, .int .i64 f.pa, .int .i64 f.rg, f.sh.v, f.ch.v] 31]) (fun k => f.ch.n - k) 0 (by (repeat' (first | exact trivial | refine ⟨rfl, ?_⟩))) ⟨Nat.zero_le _, by simp, HS⟩ ?_
  clear HS
  rintro k h1 ⟨hk, ht, HS⟩
  conv => whnf
  obtain hlt | hge := Nat.lt_or_ge k f.ch.n
  · obtain ⟨x, hxk⟩ : ∃ x, f.cl[k]? = some x := ⟨_, List.getElem?_eq_getElem (by omega)⟩
    repeat' ((first | ((with_reducible refine EvIdx.el Ii.len (by decide) (o.c.r.ext HS.to_ext) hxl (by omega) (by omega) ?_); intro bI oI z eI hz hI; have hzx : x = z := Option.some.inj (hxk.symm.trans hz); subst hzx) | ((with_reducible refine EvLd.el 4 hI rfl ?_)) | ((with_reducible refine EvLd.el0 hI rfl ?_)) | (with_reducible first | refine EvSeq.go ?_ | refine EvIf.tt ?_ | refine EvIf.ff ?_) | ((with_reducible refine EvIf.mk (fun c => ?_) (fun c => ?_)) <;> (try simp only [cs_] at c) <;> (try (exfalso; first | omega | (revert c; decide)))) | ((with_reducible refine EvLd.q HS (by repeat first | exact .h | apply Spot.t) ?_); (conv => whnf); intro hC)) <;> conv => whnf)
    all_goals first
      | (rw [lab_at hxk (by simp [isLab, *]) ht]
         exact ⟨rfl, HS.to_ext⟩)
      | exact ⟨k + 1, ⟨congrArg (fun z => some (Value.int .i64 z)) ((i64w _ (by omega) (by omega)).trans (by omega)), (by (repeat' (first | exact trivial | refine ⟨rfl, ?_⟩)))⟩, ⟨by omega, all_step hxk ht (by simp [isLab, *]), HS⟩, by omega⟩
  · repeat' ((first | (with_reducible first | refine EvSeq.go ?_ | refine EvIf.tt ?_ | refine EvIf.ff ?_) | ((with_reducible refine EvIf.mk (fun c => ?_) (fun c => ?_)) <;> (try simp only [cs_] at c) <;> (try (exfalso; first | omega | (revert c; decide)))) | ((with_reducible refine EvLd.q HS (by repeat first | exact .h | apply Spot.t) ?_); (conv => whnf); intro hC)) <;> conv => whnf)
    rw [List.take_of_length_le (by omega)] at ht
    rw [lab_no ht]
    exact ⟨rfl, HS.to_ext⟩
def strIn (ls : List ByteArray) (s : ByteArray) : Bool := ls.any fun t => decide (t.toList = s.toList)
theorem l5In_c {h : Hp} {A : Option Addr} {n c : Nat} {ls : List ByteArray} (r : Rd h A (ls.map Value.string)) (hl : ls.length = n) (hn : n ≤ 1000000000) (s : ByteArray) : HC Tryd.prog 54 [.slice A n c, .string s] h fun v h' => v = .bool (strIn ls s) ∧ h' = h := by
  refine hc_of Tryd.func54 (rfl : Tryd.f54.body = some _) Tryd.ntmps54 Tryd.results54 Tryd.call54 rfl ?_; have HS := Sep.nil h; conv => whnf
  repeat' ((with_reducible first | refine EvSeq.go ?_ | refine EvIf.tt ?_ | refine EvIf.ff ?_) <;> conv => whnf)
  refine EvLoop.keep ([4, 5, 6, 7, 8, 9, 10, 11, 12, 13, 14, 15, 16, 17], 6) (α := Nat) (fun k => [(5, .int .i64 k)]) (fun k h' => h' = h ∧ k ≤ n ∧ ((ls.take k).any fun t => decide (t.toList = s.toList)) = false) (fun k => n - k) 0 (by (repeat' (first | exact trivial | refine ⟨rfl, ?_⟩))) ⟨rfl, Nat.zero_le _, by simp⟩ ?_
  rintro k _ ⟨rfl, hk, ht⟩
  conv => whnf
  obtain hlt | hge := Nat.lt_or_ge k n
  · obtain ⟨t, htk⟩ : ∃ t, ls[k]? = some t := ⟨_, List.getElem?_eq_getElem (by omega)⟩
    have hv : (ls.map Value.string)[((k : Int)).toNat]? = some (.string t) := by simp [htk]
    repeat' ((first | ((with_reducible refine EvIdx.rd r (by simpa using hl) (by omega) (by omega) ?_); intro bI oI eI hI) | ((with_reducible refine EvLd.mk ⟨_, (by rw [Nat.mul_one]; exact hI.trans hv), ?_⟩)) | (with_reducible first | refine EvSeq.go ?_ | refine EvIf.tt ?_ | refine EvIf.ff ?_) | ((with_reducible refine EvIf.mk (fun c => ?_) (fun c => ?_)) <;> (try simp only [cs_] at c) <;> (try (exfalso; first | omega | (revert c; decide))))) <;> conv => whnf)
    · refine ⟨congrArg Value.bool ?_, rfl⟩
      unfold strIn
      rw [eq_comm, List.any_eq_true]
      exact ⟨t, List.mem_of_getElem? htk, by simpa using c⟩
    · refine ⟨k + 1, ⟨congrArg (fun z => some (Value.int .i64 z)) ((i64w _ (by omega) (by omega)).trans (by omega)), (by (repeat' (first | exact trivial | refine ⟨rfl, ?_⟩)))⟩, ⟨rfl, by omega, ?_⟩, by omega⟩
      rw [List.take_add_one, htk, List.any_append, ht]
      simpa using c
  · repeat' ((first | (with_reducible first | refine EvSeq.go ?_ | refine EvIf.tt ?_ | refine EvIf.ff ?_) | ((with_reducible refine EvIf.mk (fun c => ?_) (fun c => ?_)) <;> (try simp only [cs_] at c) <;> (try (exfalso; first | omega | (revert c; decide))))) <;> conv => whnf)
    rw [List.take_of_length_le (by omega)] at ht
    exact ⟨congrArg Value.bool ht.symm, rfl⟩
theorem tests_c (h : Hp) : HC Tryd.prog 55 [] h fun v h' => ∃ b ls, v = .slice (some ⟨b, 0, none⟩) 6 6 ∧ ls = [(⟨#[101, 113]⟩ : ByteArray), ⟨#[110, 101]⟩, ⟨#[108, 116]⟩, ⟨#[103, 101]⟩, ⟨#[108, 116, 117]⟩, ⟨#[103, 101, 117]⟩] ∧ Sep h h' [Bx b (ls.map Value.string) 9] := by
  refine hc_of Tryd.func55 (rfl : Tryd.f55.body = some _) Tryd.ntmps55 Tryd.results55 Tryd.call55 rfl ?_; have HS := Sep.nil h; conv => whnf
  repeat' (((with_reducible refine EvNew.sep HS ?_); intro bN hN HS1 hX; replace HS := HS1; clear HS1) <;> conv => whnf)
  exact ⟨bN, _, rfl, rfl, HS⟩
end Go.Proofs.YtjggmhpjlnmigaaDoor
/- Functions that are right: the reference's whole test. -/
namespace Go.Proofs.YtjggmhpjlnmigaaDoor
open Go.RowKit
set_option maxRecDepth 20000
set_option linter.unusedSimpArgs false
set_option linter.unusedVariables false
def tests : List ByteArray := [(⟨#[101, 113]⟩ : ByteArray), ⟨#[110, 101]⟩, ⟨#[108, 116]⟩, ⟨#[103, 101]⟩, ⟨#[108, 116, 117]⟩, ⟨#[103, 101, 117]⟩]
/-- a step, but for labels -/
def lok (rg m : Int) (x : Ii) : Bool := iok rg m x && (decide (x.op ≠ 13) || strIn tests x.s) && (decide (x.op = 13 ∨ x.op = 7 ∨ x.op = 9) || decide (x.s.toList = (⟨#[]⟩ : ByteArray).toList))
/-- a step's label, the step at place k -/
def kok (cl : List Ii) (k : Nat) (x : Ii) : Bool := (decide (x.op ≠ 11) || decide (0 ≤ x.n ∧ lab cl x.n = k)) && (decide (x.op ≠ 12 ∧ x.op ≠ 13) || decide (0 ≤ lab cl x.n))
def kall (cl : List Ii) : Nat → List Ii → Bool
  | _, [] => true
  | k, x :: r => kok cl k x && kall cl (k + 1) r
def hok (f : Fu) : Bool := decide (0 ≤ f.pa ∧ f.pa ≤ 8 ∧ f.pa ≤ f.rg ∧ f.rg ≤ 2000 ∧ f.sl.length ≤ 200 ∧ 1 ≤ f.cl.length ∧ f.cl.length ≤ 8000) && decide ((f.cl[f.cl.length - 1]?).map Ii.op = some 14)
def fok (f : Fu) : Bool := hok f && f.sl.all (fun n => decide (1 ≤ n ∧ n ≤ 60000)) && f.cl.all (lok f.rg f.sl.length) && kall f.cl 0 f.cl
theorem kok_n1 {cl : List Ii} {k : Nat} {x : Ii} (h : x.op = 11) (h2 : ¬(0 ≤ x.n ∧ lab cl x.n = k)) : kok cl k x = false := by
  unfold kok
  rw [decide_eq_false (p := x.op ≠ 11) (fun e => e h), decide_eq_false h2]
  rfl
theorem kok_n2 {cl : List Ii} {k : Nat} {x : Ii} (h : x.op = 12 ∨ x.op = 13) (h2 : ¬(0 ≤ lab cl x.n)) : kok cl k x = false := by
  unfold kok
  rw [decide_eq_false (p := x.op ≠ 12 ∧ x.op ≠ 13) (by omega), decide_eq_false h2, Bool.or_self, Bool.and_false]
theorem kok_y1 {cl : List Ii} {k : Nat} {x : Ii} (h : x.op = 11) (h2 : 0 ≤ x.n ∧ lab cl x.n = k) : kok cl k x = true := by
  unfold kok
  rw [decide_eq_true h2, decide_eq_true (p := x.op ≠ 12 ∧ x.op ≠ 13) (by omega), Bool.or_true, Bool.true_or]
  rfl
theorem kok_y2 {cl : List Ii} {k : Nat} {x : Ii} (h : x.op = 12 ∨ x.op = 13) (h2 : 0 ≤ lab cl x.n) : kok cl k x = true := by
  unfold kok
  rw [decide_eq_true h2, decide_eq_true (p := x.op ≠ 11) (by omega), Bool.or_true, Bool.true_or]
  rfl
theorem kok_y3 {cl : List Ii} {k : Nat} {x : Ii} (h : x.op ≠ 11 ∧ x.op ≠ 12 ∧ x.op ≠ 13) : kok cl k x = true := by
  unfold kok
  rw [decide_eq_true (p := x.op ≠ 12 ∧ x.op ≠ 13) (by omega), decide_eq_true (p := x.op ≠ 11) (by omega), Bool.true_or, Bool.true_or]
  rfl
theorem kall_iff (cl : List Ii) : ∀ (xs : List Ii) (k : Nat), kall cl k xs = true ↔ ∀ (j : Nat) y, xs[j]? = some y → kok cl (k + j) y = true
  | [], k => by simp [kall]
  | x :: r, k => by
    simp only [kall, Bool.and_eq_true, kall_iff cl r (k + 1)]
    constructor
    · rintro ⟨h1, h2⟩ j y hy
      cases j with
      | zero =>
        cases hy
        exact h1
      | succ j =>
        have := h2 j y (by simpa using hy)
        rwa [show k + 1 + j = k + (j + 1) by omega] at this
    · intro h
      refine ⟨h 0 x rfl, fun j y hy => ?_⟩
      have := h (j + 1) y (by simpa using hy)
      rwa [show k + (j + 1) = k + 1 + j by omega] at this
theorem sl_no {l : List Int} {k : Nat} (hk : k < l.length) (c : ¬(1 ≤ l[k] ∧ l[k] ≤ 60000)) : (l.all fun n => decide (1 ≤ n ∧ n ≤ 60000)) = false := by
  rw [List.all_eq_false]
  exact ⟨_, List.getElem_mem hk, by rw [decide_eq_false c]; decide⟩
theorem sl_step {l : List Int} {k : Nat} (hk : k < l.length) (c : 1 ≤ l[k] ∧ l[k] ≤ 60000) (ht : ((l.take k).all fun n => decide (1 ≤ n ∧ n ≤ 60000)) = true) : ((l.take (k + 1)).all fun n => decide (1 ≤ n ∧ n ≤ 60000)) = true := by
  rw [List.take_succ_eq_append_getElem hk, List.all_append, ht]
  simpa using c
set_option maxHeartbeats 2000000 in
theorem sFok_c {h : Hp} {f : Fu} (o : FuOk h f) : HC Tryd.prog 27 [f.v] h fun v h' => v = .bool (fok f) ∧ Ext h h' := by
  have hxl := o.c.l
  have hn := o.c.b
  have hsl := o.sn
  have hsb := o.sb
  refine hc_of Tryd.func27 (rfl : Tryd.f27.body = some _) Tryd.ntmps27 Tryd.results27 Tryd.call27 rfl ?_; have HS := Sep.nil h; conv => whnf
  refine EvNew.sep HS ?_
  intro bf gbf HS1 xbf
  replace HS := HS1
  clear HS1
  conv => whnf
  repeat' ((first | ((with_reducible refine EvIdx.el Ii.len (by decide) (o.c.r.ext HS.to_ext) hxl (by simp (disch := omega) only [i64w]; omega) (by simp (disch := omega) only [i64w]; omega) ?_); intro bI oI z eI hz hI) | ((with_reducible refine EvLd.el0 hI rfl ?_)) | (with_reducible first | refine EvSeq.go ?_ | refine EvIf.tt ?_ | refine EvIf.ff ?_) | ((with_reducible refine EvIf.mk (fun c => ?_) (fun c => ?_)) <;> (try simp only [cs_] at c) <;> (try (exfalso; first | omega | (revert c; decide)))) | ((with_reducible refine EvLd.q HS (by repeat first | exact .h | apply Spot.t) ?_); (conv => whnf); intro hC)) <;> conv => whnf)
  all_goals try
    (refine ⟨congrArg Value.bool ?_, HS.to_ext⟩
     have e : hok f = false := by
       unfold hok
       rw [decide_eq_false (by omega)]
       rfl
     unfold fok
     rw [e]
     rfl)
  · refine ⟨congrArg Value.bool ?_, HS.to_ext⟩
    have e1 : (IntKind.i64.wrap ((f.ch.n : Int) - 1)).toNat = f.cl.length - 1 := by rw [i64w _ (by omega) (by omega)]; omega
    rw [e1] at hz
    have e : hok f = false := by
      unfold hok
      rw [hz, decide_eq_false (p := Option.map Ii.op (some z) = some 14) (by simpa using c), Bool.and_false]
    unfold fok
    rw [e]
    rfl
  · have e1 : (IntKind.i64.wrap ((f.ch.n : Int) - 1)).toNat = f.cl.length - 1 := by rw [i64w _ (by omega) (by omega)]; omega
    rw [e1] at hz
    have e : hok f = true := by
      unfold hok
      rw [hz, decide_eq_true (p := Option.map Ii.op (some z) = some 14) (by simpa using c), decide_eq_true (by omega)]
      rfl
    refine EvLoop.keep ([2, 4, 56, 57, 58, 59, 60, 61, 62, 63, 64, 65, 66, 67, 68, 69, 70, 71, 72, 73, 74, 75, 76], 9) (α := Nat) (fun k => [(4, .int .i64 k)]) (fun k h' => k ≤ f.sh.n ∧ ((f.sl.take k).all fun n => decide (1 ≤ n ∧ n ≤ 60000)) = true ∧ Sep h h' [Bx bf [.string f.nm, .int .i64 f.pa, .int .i64 f.rg, f.sh.v, f.ch.v] 31]) (fun k => f.sh.n - k) 0 (by (repeat' (first | exact trivial | refine ⟨rfl, ?_⟩))) ⟨Nat.zero_le _, by simp, HS⟩ ?_
    clear HS
    rintro k h1 ⟨hk, ht, HS⟩
    conv => whnf
    repeat' ((first | ((with_reducible refine EvIdx.rd (o.s.ext HS.to_ext) (by simpa using hsl) (by omega) (by omega) ?_); intro bI oI eI hI) | ((with_reducible refine EvLd.row (by assumption) (by omega) ?_)) | (with_reducible first | refine EvSeq.go ?_ | refine EvIf.tt ?_ | refine EvIf.ff ?_) | ((with_reducible refine EvIf.mk (fun c => ?_) (fun c => ?_)) <;> (try simp only [cs_] at c) <;> (try (exfalso; first | omega | (revert c; decide)))) | ((with_reducible refine EvLd.q HS (by repeat first | exact .h | apply Spot.t) ?_); (conv => whnf); intro hC)) <;> conv => whnf)
    · refine ⟨congrArg Value.bool ?_, HS.to_ext⟩
      unfold fok
      rw [e, sl_no (k := (k : Int).toNat) (by omega) (by omega)]
      rfl
    · refine ⟨congrArg Value.bool ?_, HS.to_ext⟩
      unfold fok
      rw [e, sl_no (k := (k : Int).toNat) (by omega) (by omega)]
      rfl
    · exact ⟨k + 1, ⟨congrArg (fun z => some (Value.int .i64 z)) ((i64w _ (by omega) (by omega)).trans (by omega)), (by (repeat' (first | exact trivial | refine ⟨rfl, ?_⟩)))⟩, ⟨by omega, sl_step (by omega) (by constructor <;> assumption) ht, HS⟩, by omega⟩
    rw [List.take_of_length_le (by omega)] at ht
    refine EvLoop.keep ([2, 5, 6, 77, 78, 79, 80, 81, 82, 83, 84, 85, 86, 87, 88, 89, 90, 91, 92, 93, 94, 95, 96, 97, 98, 99, 100, 101, 102, 103, 104, 105, 106, 107, 108, 109, 110, 111, 112, 113, 114, 115, 116, 117, 118, 119, 120], 9) (α := Nat) (fun k => [(5, .int .i64 k)]) (fun k h' => k ≤ f.ch.n ∧ ((f.cl.take k).all (lok f.rg f.sl.length)) = true ∧ Sep h h' [Bx bf [.string f.nm, .int .i64 f.pa, .int .i64 f.rg, f.sh.v, f.ch.v] 31]) (fun k => f.ch.n - k) 0 (by (repeat' (first | exact trivial | refine ⟨rfl, ?_⟩))) ⟨Nat.zero_le _, by simp, HS⟩ ?_
    clear HS
    rintro k h1 ⟨hk, hL, HS⟩
    conv => whnf
    obtain hlt | hge := Nat.lt_or_ge k f.ch.n
    · obtain ⟨x, hxk⟩ : ∃ x, f.cl[k]? = some x := ⟨_, List.getElem?_eq_getElem (by omega)⟩
      have ox := o.c.at_ hxk
      repeat' ((first | ((with_reducible refine EvDraw.ord (id := 13) (.go 0 (.go 1 (.alt 2 (.go 3 (.go 4 (.go 5 (.go 6 (.go 7 (.go 8 (.go 10 (.go 11 (.alt 9 (.alt 12 (.go 13 (.go 14 (.go 15 .done))) .stop) .stop))))))))) .stop))) fol ?_ ?_ ?_); kernel_rfl; kernel_rfl) | ((with_reducible refine EvIdx.el Ii.len (by decide) (o.c.r.ext HS.to_ext) hxl (by omega) (by omega) ?_); intro bI oI z eI hz hI; have hzx : x = z := Option.some.inj (hxk.symm.trans hz); subst hzx) | ((with_reducible refine EvLdN.el hI (Ii.len _) ?_)) | (with_reducible first | refine EvSeq.go ?_ | refine EvIf.tt ?_ | refine EvIf.ff ?_) | ((with_reducible refine EvIf.mk (fun c => ?_) (fun c => ?_)) <;> (try simp only [cs_] at c) <;> (try (exfalso; first | omega | (revert c; decide)))) | ((with_reducible refine EvNew.sep HS ?_); intro bN hN HS1 hX; replace HS := HS1; clear HS1) | ((with_reducible refine EvLd.q HS (by repeat first | exact .h | apply Spot.t) ?_); (conv => whnf); intro hC) | (with_reducible refine EvLdN.q HS (by repeat first | exact .h | apply Spot.t) (fun hC => ?_)) | ((with_reducible refine EvSt.q HS (by repeat first | exact .h | apply Spot.t) ?_); (conv => whnf); intro hN HS1 hU; replace HS := HS1; clear HS1)) <;> conv => whnf)
      refine EvCall.mk ((iok_c f (ox.ext HS.to_ext)).mono ?_)
      rintro _ hN ⟨rfl, hX⟩
      replace HS := HS.ext hX
      conv => whnf
      repeat' ((first | ((with_reducible refine EvCall.mk (HC.mono (tests_c _) ?_)); rintro _ hN ⟨bT, ls, rfl, eT, HS1⟩; replace HS := HS.join1 HS1; clear HS1) | ((refine EvCall.mk (HC.mono (l5In_c (ls := ls) (Rd.of_blk (HS.pt_i 0 rfl)) (by rw [eT]; rfl) (by decide) _) ?_)); rintro _ _ ⟨rfl, rfl⟩) | (with_reducible first | refine EvSeq.go ?_ | refine EvIf.tt ?_ | refine EvIf.ff ?_) | ((with_reducible refine Hole.mk (kK ?_)); clear kK) | ((with_reducible refine EvIf.mk (fun c => ?_) (fun c => ?_)) <;> (try simp only [cs_] at c) <;> (try (exfalso; first | omega | (revert c; decide)))) | ((with_reducible refine EvLd.q HS (by repeat first | exact .h | apply Spot.t) ?_); (conv => whnf); intro hC) | ((with_reducible refine EvKeep.cq (A := keepK _ _ (Hole _) _) HS (by repeat first | exact .h | apply Spot.t) ?_); (conv => whnf); (refine ⟨?_, ?_⟩); assumption; intro hC) | ((fail_if_success with_reducible refine EvKeep.hole ?_); (with_reducible refine EvKeep.abs (fun X kK => ?_)))) <;> conv => whnf)
      all_goals first
        | (have e3 : lok f.rg f.sl.length x = false := by
             unfold lok
             rw [hsl]
             simp_all [tests]
           refine ⟨congrArg Value.bool ?_, HS.to_ext⟩
           have e4 : f.cl.all (lok f.rg f.sl.length) = false := by
             rw [List.all_eq_false]
             exact ⟨x, List.mem_of_getElem? hxk, by rw [e3]; decide⟩
           unfold fok
           rw [e4, Bool.and_false, Bool.false_and])
        | (have e3 : lok f.rg f.sl.length x = true := by
             unfold lok
             rw [hsl]
             simp_all [tests]
           exact ⟨k + 1, ⟨congrArg (fun z => some (Value.int .i64 z)) ((i64w _ (by omega) (by omega)).trans (by omega)), (by (repeat' (first | exact trivial | refine ⟨rfl, ?_⟩)))⟩, ⟨by omega, all_step hxk hL e3, by first | exact HS.tail | exact HS.tail.tail⟩, by omega⟩)
    · repeat' ((first | (with_reducible first | refine EvSeq.go ?_ | refine EvIf.tt ?_ | refine EvIf.ff ?_) | ((with_reducible refine EvIf.mk (fun c => ?_) (fun c => ?_)) <;> (try simp only [cs_] at c) <;> (try (exfalso; first | omega | (revert c; decide))))) <;> conv => whnf)
      rw [List.take_of_length_le (by omega)] at hL
      refine EvLoop.keep ([2, 7, 8, 121, 122, 123, 124, 125, 126, 127, 128, 129, 130, 131, 132, 133, 134, 135, 136, 137, 138, 139, 140, 141, 142, 143, 144, 145, 146, 147, 148, 149, 150, 151, 152, 153, 154, 155, 156, 157, 158, 159, 160, 161], 9) (α := Nat) (fun k => [(7, .int .i64 k)]) (fun k h' => k ≤ f.ch.n ∧ (∀ (j : Nat) y, j < k → f.cl[j]? = some y → kok f.cl j y = true) ∧ Sep h h' [Bx bf [.string f.nm, .int .i64 f.pa, .int .i64 f.rg, f.sh.v, f.ch.v] 31]) (fun k => f.ch.n - k) 0 (by (repeat' (first | exact trivial | refine ⟨rfl, ?_⟩))) ⟨Nat.zero_le _, fun j y hj => absurd hj (Nat.not_lt_zero _), HS⟩ ?_
      clear HS
      rintro q h2 ⟨hq, hK, HS⟩
      conv => whnf
      obtain hlt2 | hge2 := Nat.lt_or_ge q f.ch.n
      · obtain ⟨x, hxk⟩ : ∃ x, f.cl[q]? = some x := ⟨_, List.getElem?_eq_getElem (by omega)⟩
        have ox := o.c.at_ hxk
        repeat' ((first | ((with_reducible refine EvIdx.el Ii.len (by decide) (o.c.r.ext HS.to_ext) hxl (by omega) (by omega) ?_); intro bI oI z eI hz hI; have hzx : x = z := Option.some.inj (hxk.symm.trans hz); subst hzx) | ((with_reducible refine EvLdN.el hI (Ii.len _) ?_)) | ((refine EvCall.mk (HC.mono (lab_c (o.ext HS.to_ext) _) ?_)); rintro _ hN ⟨rfl, hX⟩; replace HS := HS.ext hX) | (with_reducible first | refine EvSeq.go ?_ | refine EvIf.tt ?_ | refine EvIf.ff ?_) | ((with_reducible refine EvIf.mk (fun c => ?_) (fun c => ?_)) <;> (try simp only [cs_] at c) <;> (try (exfalso; first | omega | (revert c; decide)))) | ((with_reducible refine EvNew.sep HS ?_); intro bN hN HS1 hX; replace HS := HS1; clear HS1) | ((with_reducible refine EvLd.q HS (by repeat first | exact .h | apply Spot.t) ?_); (conv => whnf); intro hC) | (with_reducible refine EvLdN.q HS (by repeat first | exact .h | apply Spot.t) (fun hC => ?_)) | ((with_reducible refine EvSt.q HS (by repeat first | exact .h | apply Spot.t) ?_); (conv => whnf); intro hN HS1 hU; replace HS := HS1; clear HS1)) <;> conv => whnf)
        all_goals first
          | (have e3 : kok f.cl q x = false := by
               first
                 | exact kok_n1 (by omega) (by omega)
                 | exact kok_n2 (by omega) (by omega)
             refine ⟨congrArg Value.bool ?_, HS.to_ext⟩
             have e4 : kall f.cl 0 f.cl = false := by
               cases hb : kall f.cl 0 f.cl with
               | false => rfl
               | true =>
                 have := (kall_iff f.cl f.cl 0).mp hb q x hxk
                 rw [Nat.zero_add, e3] at this
                 cases this
             unfold fok
             rw [e4, Bool.and_false])
          | (have e3 : kok f.cl q x = true := by
               first
                 | exact kok_y1 (by omega) (by omega)
                 | exact kok_y2 (by omega) (by omega)
                 | exact kok_y3 (by omega)
             refine ⟨q + 1, ⟨congrArg (fun z => some (Value.int .i64 z)) ((i64w _ (by omega) (by omega)).trans (by omega)), (by (repeat' (first | exact trivial | refine ⟨rfl, ?_⟩)))⟩, ⟨by omega, fun j y hj hy => ?_, by first | exact HS | exact HS.tail⟩, by omega⟩
             obtain hj2 | hj2 := Nat.lt_or_ge j q
             · exact hK j y hj2 hy
             · obtain rfl : j = q := by omega
               rw [hxk] at hy
               cases hy
               exact e3)
      · repeat' ((first | (with_reducible first | refine EvSeq.go ?_ | refine EvIf.tt ?_ | refine EvIf.ff ?_) | ((with_reducible refine EvIf.mk (fun c => ?_) (fun c => ?_)) <;> (try simp only [cs_] at c) <;> (try (exfalso; first | omega | (revert c; decide))))) <;> conv => whnf)
        have e5 : kall f.cl 0 f.cl = true := by
          rw [kall_iff]
          intro j y hy
          rw [Nat.zero_add]
          exact hK j y (by have := (List.getElem?_eq_some_iff.mp hy).1; omega) hy
        refine ⟨congrArg Value.bool ?_, HS.to_ext⟩
        unfold fok
        rw [e, ht, hL, e5]
        rfl
end Go.Proofs.YtjggmhpjlnmigaaDoor
