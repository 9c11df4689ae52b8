/- Functions that are right: the reference's whole test. -/
import Derived.Test.YtjggmhpjlnmigaaDoorVOk2
namespace Go.Proofs.YtjggmhpjlnmigaaDoor
open Go.RowKit
set_option maxRecDepth 20000
set_option linter.unusedSimpArgs false
set_option linter.unusedVariables false
def tests : List ByteArray := [(⟨#[101, 113]⟩ : ByteArray), ⟨#[110, 101]⟩, ⟨#[108, 116]⟩, ⟨#[103, 101]⟩, ⟨#[108, 116, 117]⟩, ⟨#[103, 101, 117]⟩]
/-- a step, but for labels -/
def lok (rg m : Int) (x : Ii) : Bool := iok rg m x && (decide (x.op ≠ 13) || strIn tests x.s) && (decide (x.op = 13 ∨ x.op = 7 ∨ x.op = 9) || decide (x.s.toList = (⟨#[]⟩ : ByteArray).toList))
/-- a step's label, the step at place k -/
def kok (cl : List Ii) (k : Nat) (x : Ii) : Bool := (decide (x.op ≠ 11) || decide (0 ≤ x.n ∧ lab cl x.n = k)) && (decide (x.op ≠ 12 ∧ x.op ≠ 13) || decide (0 ≤ lab cl x.n))
def kall (cl : List Ii) : Nat → List Ii → Bool
  | _, [] => true
  | k, x :: r => kok cl k x && kall cl (k + 1) r
def hok (f : Fu) : Bool := decide (0 ≤ f.pa ∧ f.pa ≤ 8 ∧ f.pa ≤ f.rg ∧ f.rg ≤ 2000 ∧ f.sl.length ≤ 200 ∧ 1 ≤ f.cl.length ∧ f.cl.length ≤ 8000) && decide ((f.cl[f.cl.length - 1]?).map Ii.op = some 14)
def fok (f : Fu) : Bool := hok f && f.sl.all (fun n => decide (1 ≤ n ∧ n ≤ 60000)) && f.cl.all (lok f.rg f.sl.length) && kall f.cl 0 f.cl
theorem kok_n1 {cl : List Ii} {k : Nat} {x : Ii} (h : x.op = 11) (h2 : ¬(0 ≤ x.n ∧ lab cl x.n = k)) : kok cl k x = false := by
  unfold kok
  rw [decide_eq_false (p := x.op ≠ 11) (fun e => e h), decide_eq_false h2]
  rfl
theorem kok_n2 {cl : List Ii} {k : Nat} {x : Ii} (h : x.op = 12 ∨ x.op = 13) (h2 : ¬(0 ≤ lab cl x.n)) : kok cl k x = false := by
  unfold kok
  rw [decide_eq_false (p := x.op ≠ 12 ∧ x.op ≠ 13) (by omega), decide_eq_false h2, Bool.or_self, Bool.and_false]
theorem kok_y1 {cl : List Ii} {k : Nat} {x : Ii} (h : x.op = 11) (h2 : 0 ≤ x.n ∧ lab cl x.n = k) : kok cl k x = true := by
  unfold kok
  rw [decide_eq_true h2, decide_eq_true (p := x.op ≠ 12 ∧ x.op ≠ 13) (by omega), Bool.or_true, Bool.true_or]
  rfl
theorem kok_y2 {cl : List Ii} {k : Nat} {x : Ii} (h : x.op = 12 ∨ x.op = 13) (h2 : 0 ≤ lab cl x.n) : kok cl k x = true := by
  unfold kok
  rw [decide_eq_true h2, decide_eq_true (p := x.op ≠ 11) (by omega), Bool.or_true, Bool.true_or]
  rfl
theorem kok_y3 {cl : List Ii} {k : Nat} {x : Ii} (h : x.op ≠ 11 ∧ x.op ≠ 12 ∧ x.op ≠ 13) : kok cl k x = true := by
  unfold kok
  rw [decide_eq_true (p := x.op ≠ 12 ∧ x.op ≠ 13) (by omega), decide_eq_true (p := x.op ≠ 11) (by omega), Bool.true_or, Bool.true_or]
  rfl
theorem kall_iff (cl : List Ii) : ∀ (xs : List Ii) (k : Nat), kall cl k xs = true ↔ ∀ (j : Nat) y, xs[j]? = some y → kok cl (k + j) y = true
  | [], k => by simp [kall]
  | x :: r, k => by
    simp only [kall, Bool.and_eq_true, kall_iff cl r (k + 1)]
    constructor
    · rintro ⟨h1, h2⟩ j y hy
      cases j with
      | zero =>
        cases hy
        exact h1
      | succ j =>
        have := h2 j y (by simpa using hy)
        rwa [show k + 1 + j = k + (j + 1) by omega] at this
    · intro h
      refine ⟨h 0 x rfl, fun j y hy => ?_⟩
      have := h (j + 1) y (by simpa using hy)
      rwa [show k + (j + 1) = k + 1 + j by omega] at this
theorem sl_no {l : List Int} {k : Nat} (hk : k < l.length) (c : ¬(1 ≤ l[k] ∧ l[k] ≤ 60000)) : (l.all fun n => decide (1 ≤ n ∧ n ≤ 60000)) = false := by
  rw [List.all_eq_false]
  exact ⟨_, List.getElem_mem hk, by rw [decide_eq_false c]; decide⟩
theorem sl_step {l : List Int} {k : Nat} (hk : k < l.length) (c : 1 ≤ l[k] ∧ l[k] ≤ 60000) (ht : ((l.take k).all fun n => decide (1 ≤ n ∧ n ≤ 60000)) = true) : ((l.take (k + 1)).all fun n => decide (1 ≤ n ∧ n ≤ 60000)) = true := by
  rw [List.take_succ_eq_append_getElem hk, List.all_append, ht]
  simpa using c
set_option maxHeartbeats 2000000 in
theorem sFok_c {h : Hp} {f : Fu} (o : FuOk h f) : HC Tryd.prog 27 [f.v] h fun v h' => v = .bool (fok f) ∧ Ext h h' := by
  have hxl := o.c.l
  have hn := o.c.b
  have hsl := o.sn
  have hsb := o.sb
  refine hc_of Tryd.func27 (rfl : Tryd.f27.body = some _) Tryd.ntmps27 Tryd.results27 Tryd.call27 rfl ?_; have HS := Sep.nil h; conv => whnf
  refine EvNew.sep HS ?_
  intro bf gbf HS1 xbf
  replace HS := HS1
  clear HS1
  conv => whnf
  repeat' ((first | ((with_reducible refine EvDraw.ord (id := 13) (.go 0 (.go 1 (.alt 2 (.go 3 (.go 4 (.go 5 (.go 6 (.go 7 (.go 8 (.go 10 (.go 11 (.alt 9 (.alt 12 (.go 13 (.go 14 (.go 15 .done))) .stop) .stop))))))))) .stop))) fol ?_ ?_ ?_); kernel_rfl; kernel_rfl) | ((with_reducible refine EvIdx.el Ii.len (by decide) (o.c.r.ext HS.to_ext) hxl (by simp (disch := omega) only [i64w]; omega) (by simp (disch := omega) only [i64w]; omega) ?_); intro bI oI z eI hz hI) | ((with_reducible refine EvLd.el0 hI rfl ?_)) | (with_reducible first | refine EvSeq.go ?_ | refine EvIf.tt ?_ | refine EvIf.ff ?_) | ((with_reducible refine Hole.mk (kK ?_)); clear kK) | ((with_reducible refine EvIf.mk (fun c => ?_) (fun c => ?_)) <;> (try simp only [cs_] at c) <;> (try (exfalso; first | omega | (revert c; decide)))) | ((with_reducible refine EvNew.sep HS ?_); intro bN hN HS1 hX; replace HS := HS1; clear HS1) | ((with_reducible refine EvIdx.lit ?_ ?_ ?_); (first | omega | decide); (first | omega | decide)) | ((with_reducible first | refine EvNe.mk ?_ ?_ | refine EvGe.mk ?_ ?_); (first | decide | omega)) | ((with_reducible refine EvLd.q HS (by repeat first | exact .h | apply Spot.t) ?_); (conv => whnf); intro hC) | (with_reducible refine EvLdN.q HS (by repeat first | exact .h | apply Spot.t) (fun hC => ?_)) | ((with_reducible refine EvSt.q HS (by repeat first | exact .h | apply Spot.t) ?_); (conv => whnf); intro hN HS1 hU; replace HS := HS1; clear HS1) | ((with_reducible refine EvKeep.cq (A := keepK _ _ (Hole _) _) HS (by repeat first | exact .h | apply Spot.t) ?_); (conv => whnf); (refine ⟨?_, ?_⟩); assumption; intro hC) | ((with_reducible refine EvKeep.nq (A := keepK _ _ (Hole _) _) HS (by repeat first | exact .h | apply Spot.t) ?_ ?_); assumption; intro hC) | ((fail_if_success with_reducible refine EvKeep.hole ?_); (with_reducible refine EvKeep.abs (fun X kK => ?_)))) <;> conv => whnf)
  all_goals try
    (refine ⟨congrArg Value.bool ?_, HS.to_ext⟩
     have e : hok f = false := by
       unfold hok
       rw [decide_eq_false (by omega)]
       rfl
     unfold fok
     rw [e]
     rfl)
  · refine ⟨congrArg Value.bool ?_, HS.to_ext⟩
    have e1 : (IntKind.i64.wrap ((f.ch.n : Int) - 1)).toNat = f.cl.length - 1 := by rw [i64w _ (by omega) (by omega)]; omega
    rw [e1] at hz
    have e : hok f = false := by
      unfold hok
      rw [hz, decide_eq_false (p := Option.map Ii.op (some z) = some 14) (by simpa using c), Bool.and_false]
    unfold fok
    rw [e]
    rfl
  · have e1 : (IntKind.i64.wrap ((f.ch.n : Int) - 1)).toNat = f.cl.length - 1 := by rw [i64w _ (by omega) (by omega)]; omega
    rw [e1] at hz
    have e : hok f = true := by
      unfold hok
      rw [hz, decide_eq_true (p := Option.map Ii.op (some z) = some 14) (by simpa using c), decide_eq_true (by omega)]
      rfl
    refine EvLoop.keep ([2, 4, 56, 57, 58, 59, 60, 61, 62, 63, 64, 65, 66, 67, 68, 69, 70, 71, 72, 73, 74, 75, 76], 9) (α := Nat) (fun k => [(4, .int .i64 k)]) (fun k h' => k ≤ f.sh.n ∧ ((f.sl.take k).all fun n => decide (1 ≤ n ∧ n ≤ 60000)) = true ∧ Sep h h' [Bx bf [.string f.nm, .int .i64 f.pa, .int .i64 f.rg, f.sh.v, f.ch.v] 31]) (fun k => f.sh.n - k) 0 (by (repeat' (first | exact trivial | refine ⟨rfl, ?_⟩))) ⟨Nat.zero_le _, by simp, HS⟩ ?_
    clear HS
    rintro k h1 ⟨hk, ht, HS⟩
    conv => whnf
    repeat' ((first | ((with_reducible refine EvDraw.ord (id := 13) (.go 0 (.go 1 (.alt 2 (.go 3 (.go 4 (.go 5 (.go 6 (.go 7 (.go 8 (.go 10 (.go 11 (.alt 9 (.alt 12 (.go 13 (.go 14 (.go 15 .done))) .stop) .stop))))))))) .stop))) fol ?_ ?_ ?_); kernel_rfl; kernel_rfl) | ((with_reducible refine EvIdx.rd (o.s.ext HS.to_ext) (by simpa using hsl) (by omega) (by omega) ?_); intro bI oI eI hI) | ((with_reducible refine EvLd.row (by assumption) (by omega) ?_)) | (with_reducible first | refine EvSeq.go ?_ | refine EvIf.tt ?_ | refine EvIf.ff ?_) | ((with_reducible refine Hole.mk (kK ?_)); clear kK) | ((with_reducible refine EvIf.mk (fun c => ?_) (fun c => ?_)) <;> (try simp only [cs_] at c) <;> (try (exfalso; first | omega | (revert c; decide)))) | ((with_reducible refine EvNew.sep HS ?_); intro bN hN HS1 hX; replace HS := HS1; clear HS1) | ((with_reducible refine EvIdx.lit ?_ ?_ ?_); (first | omega | decide); (first | omega | decide)) | ((with_reducible first | refine EvNe.mk ?_ ?_ | refine EvGe.mk ?_ ?_); (first | decide | omega)) | ((with_reducible refine EvLd.q HS (by repeat first | exact .h | apply Spot.t) ?_); (conv => whnf); intro hC) | (with_reducible refine EvLdN.q HS (by repeat first | exact .h | apply Spot.t) (fun hC => ?_)) | ((with_reducible refine EvSt.q HS (by repeat first | exact .h | apply Spot.t) ?_); (conv => whnf); intro hN HS1 hU; replace HS := HS1; clear HS1) | ((with_reducible refine EvKeep.cq (A := keepK _ _ (Hole _) _) HS (by repeat first | exact .h | apply Spot.t) ?_); (conv => whnf); (refine ⟨?_, ?_⟩); assumption; intro hC) | ((with_reducible refine EvKeep.nq (A := keepK _ _ (Hole _) _) HS (by repeat first | exact .h | apply Spot.t) ?_ ?_); assumption; intro hC) | ((fail_if_success with_reducible refine EvKeep.hole ?_); (with_reducible refine EvKeep.abs (fun X kK => ?_)))) <;> conv => whnf)
    · refine ⟨congrArg Value.bool ?_, HS.to_ext⟩
      unfold fok
      rw [e, sl_no (k := (k : Int).toNat) (by omega) (by omega)]
      rfl
    · refine ⟨congrArg Value.bool ?_, HS.to_ext⟩
      unfold fok
      rw [e, sl_no (k := (k : Int).toNat) (by omega) (by omega)]
      rfl
    · exact ⟨k + 1, ⟨congrArg (fun z => some (Value.int .i64 z)) ((i64w _ (by omega) (by omega)).trans (by omega)), (by (repeat' (first | exact trivial | refine ⟨rfl, ?_⟩)))⟩, ⟨by omega, sl_step (by omega) (by constructor <;> assumption) ht, HS⟩, by omega⟩
    rw [List.take_of_length_le (by omega)] at ht
    refine EvLoop.keep ([2, 5, 6, 77, 78, 79, 80, 81, 82, 83, 84, 85, 86, 87, 88, 89, 90, 91, 92, 93, 94, 95, 96, 97, 98, 99, 100, 101, 102, 103, 104, 105, 106, 107, 108, 109, 110, 111, 112, 113, 114, 115, 116, 117, 118, 119, 120], 9) (α := Nat) (fun k => [(5, .int .i64 k)]) (fun k h' => k ≤ f.ch.n ∧ ((f.cl.take k).all (lok f.rg f.sl.length)) = true ∧ Sep h h' [Bx bf [.string f.nm, .int .i64 f.pa, .int .i64 f.rg, f.sh.v, f.ch.v] 31]) (fun k => f.ch.n - k) 0 (by (repeat' (first | exact trivial | refine ⟨rfl, ?_⟩))) ⟨Nat.zero_le _, by simp, HS⟩ ?_
    clear HS
    rintro k h1 ⟨hk, hL, HS⟩
    conv => whnf
    obtain hlt | hge := Nat.lt_or_ge k f.ch.n
    · obtain ⟨x, hxk⟩ : ∃ x, f.cl[k]? = some x := ⟨_, List.getElem?_eq_getElem (by omega)⟩
      have ox := o.c.at_ hxk
      repeat' ((first | ((with_reducible refine EvDraw.ord (id := 13) (.go 0 (.go 1 (.alt 2 (.go 3 (.go 4 (.go 5 (.go 6 (.go 7 (.go 8 (.go 10 (.go 11 (.alt 9 (.alt 12 (.go 13 (.go 14 (.go 15 .done))) .stop) .stop))))))))) .stop))) fol ?_ ?_ ?_); kernel_rfl; kernel_rfl) | ((with_reducible refine EvIdx.el Ii.len (by decide) (o.c.r.ext HS.to_ext) hxl (by omega) (by omega) ?_); intro bI oI z eI hz hI; have hzx : x = z := Option.some.inj (hxk.symm.trans hz); subst hzx) | ((with_reducible refine EvLdN.el hI (Ii.len _) ?_)) | (with_reducible first | refine EvSeq.go ?_ | refine EvIf.tt ?_ | refine EvIf.ff ?_) | ((with_reducible refine Hole.mk (kK ?_)); clear kK) | ((with_reducible refine EvIf.mk (fun c => ?_) (fun c => ?_)) <;> (try simp only [cs_] at c) <;> (try (exfalso; first | omega | (revert c; decide)))) | ((with_reducible refine EvNew.sep HS ?_); intro bN hN HS1 hX; replace HS := HS1; clear HS1) | ((with_reducible refine EvIdx.lit ?_ ?_ ?_); (first | omega | decide); (first | omega | decide)) | ((with_reducible first | refine EvNe.mk ?_ ?_ | refine EvGe.mk ?_ ?_); (first | decide | omega)) | ((with_reducible refine EvLd.q HS (by repeat first | exact .h | apply Spot.t) ?_); (conv => whnf); intro hC) | (with_reducible refine EvLdN.q HS (by repeat first | exact .h | apply Spot.t) (fun hC => ?_)) | ((with_reducible refine EvSt.q HS (by repeat first | exact .h | apply Spot.t) ?_); (conv => whnf); intro hN HS1 hU; replace HS := HS1; clear HS1) | ((with_reducible refine EvKeep.cq (A := keepK _ _ (Hole _) _) HS (by repeat first | exact .h | apply Spot.t) ?_); (conv => whnf); (refine ⟨?_, ?_⟩); assumption; intro hC) | ((with_reducible refine EvKeep.nq (A := keepK _ _ (Hole _) _) HS (by repeat first | exact .h | apply Spot.t) ?_ ?_); assumption; intro hC) | ((fail_if_success with_reducible refine EvKeep.hole ?_); (with_reducible refine EvKeep.abs (fun X kK => ?_)))) <;> conv => whnf)
      refine EvCall.mk ((iok_c f (ox.ext HS.to_ext)).mono ?_)
      rintro _ hN ⟨rfl, hX⟩
      replace HS := HS.ext hX
      conv => whnf
      repeat' ((first | ((with_reducible refine EvDraw.ord (id := 13) (.go 0 (.go 1 (.alt 2 (.go 3 (.go 4 (.go 5 (.go 6 (.go 7 (.go 8 (.go 10 (.go 11 (.alt 9 (.alt 12 (.go 13 (.go 14 (.go 15 .done))) .stop) .stop))))))))) .stop))) fol ?_ ?_ ?_); kernel_rfl; kernel_rfl) | ((with_reducible refine EvCall.mk (HC.mono (tests_c _) ?_)); rintro _ hN ⟨bT, ls, rfl, eT, HS1⟩; replace HS := HS.join1 HS1; clear HS1) | ((refine EvCall.mk (HC.mono (l5In_c (ls := ls) (Rd.of_blk (HS.pt_i 0 rfl)) (by rw [eT]; rfl) (by decide) _) ?_)); rintro _ _ ⟨rfl, rfl⟩) | (with_reducible first | refine EvSeq.go ?_ | refine EvIf.tt ?_ | refine EvIf.ff ?_) | ((with_reducible refine Hole.mk (kK ?_)); clear kK) | ((with_reducible refine EvIf.mk (fun c => ?_) (fun c => ?_)) <;> (try simp only [cs_] at c) <;> (try (exfalso; first | omega | (revert c; decide)))) | ((with_reducible refine EvNew.sep HS ?_); intro bN hN HS1 hX; replace HS := HS1; clear HS1) | ((with_reducible refine EvIdx.lit ?_ ?_ ?_); (first | omega | decide); (first | omega | decide)) | ((with_reducible first | refine EvNe.mk ?_ ?_ | refine EvGe.mk ?_ ?_); (first | decide | omega)) | ((with_reducible refine EvLd.q HS (by repeat first | exact .h | apply Spot.t) ?_); (conv => whnf); intro hC) | (with_reducible refine EvLdN.q HS (by repeat first | exact .h | apply Spot.t) (fun hC => ?_)) | ((with_reducible refine EvSt.q HS (by repeat first | exact .h | apply Spot.t) ?_); (conv => whnf); intro hN HS1 hU; replace HS := HS1; clear HS1) | ((with_reducible refine EvKeep.cq (A := keepK _ _ (Hole _) _) HS (by repeat first | exact .h | apply Spot.t) ?_); (conv => whnf); (refine ⟨?_, ?_⟩); assumption; intro hC) | ((with_reducible refine EvKeep.nq (A := keepK _ _ (Hole _) _) HS (by repeat first | exact .h | apply Spot.t) ?_ ?_); assumption; intro hC) | ((fail_if_success with_reducible refine EvKeep.hole ?_); (with_reducible refine EvKeep.abs (fun X kK => ?_)))) <;> conv => whnf)
      all_goals first
        | (have e3 : lok f.rg f.sl.length x = false := by
             unfold lok
             rw [hsl]
             simp_all [tests]
           refine ⟨congrArg Value.bool ?_, HS.to_ext⟩
           have e4 : f.cl.all (lok f.rg f.sl.length) = false := by
             rw [List.all_eq_false]
             exact ⟨x, List.mem_of_getElem? hxk, by rw [e3]; decide⟩
           unfold fok
           rw [e4, Bool.and_false, Bool.false_and])
        | (have e3 : lok f.rg f.sl.length x = true := by
             unfold lok
             rw [hsl]
             simp_all [tests]
           exact ⟨k + 1, ⟨congrArg (fun z => some (Value.int .i64 z)) ((i64w _ (by omega) (by omega)).trans (by omega)), (by (repeat' (first | exact trivial | refine ⟨rfl, ?_⟩)))⟩, ⟨by omega, all_step hxk hL e3, by first | exact HS.tail | exact HS.tail.tail⟩, by omega⟩)
    · repeat' ((first | ((with_reducible refine EvDraw.ord (id := 13) (.go 0 (.go 1 (.alt 2 (.go 3 (.go 4 (.go 5 (.go 6 (.go 7 (.go 8 (.go 10 (.go 11 (.alt 9 (.alt 12 (.go 13 (.go 14 (.go 15 .done))) .stop) .stop))))))))) .stop))) fol ?_ ?_ ?_); kernel_rfl; kernel_rfl) | (with_reducible first | refine EvSeq.go ?_ | refine EvIf.tt ?_ | refine EvIf.ff ?_) | ((with_reducible refine Hole.mk (kK ?_)); clear kK) | ((with_reducible refine EvIf.mk (fun c => ?_) (fun c => ?_)) <;> (try simp only [cs_] at c) <;> (try (exfalso; first | omega | (revert c; decide)))) | ((with_reducible refine EvNew.sep HS ?_); intro bN hN HS1 hX; replace HS := HS1; clear HS1) | ((with_reducible refine EvIdx.lit ?_ ?_ ?_); (first | omega | decide); (first | omega | decide)) | ((with_reducible first | refine EvNe.mk ?_ ?_ | refine EvGe.mk ?_ ?_); (first | decide | omega)) | ((with_reducible refine EvLd.q HS (by repeat first | exact .h | apply Spot.t) ?_); (conv => whnf); intro hC) | (with_reducible refine EvLdN.q HS (by repeat first | exact .h | apply Spot.t) (fun hC => ?_)) | ((with_reducible refine EvSt.q HS (by repeat first | exact .h | apply Spot.t) ?_); (conv => whnf); intro hN HS1 hU; replace HS := HS1; clear HS1) | ((with_reducible refine EvKeep.cq (A := keepK _ _ (Hole _) _) HS (by repeat first | exact .h | apply Spot.t) ?_); (conv => whnf); (refine ⟨?_, ?_⟩); assumption; intro hC) | ((with_reducible refine EvKeep.nq (A := keepK _ _ (Hole _) _) HS (by repeat first | exact .h | apply Spot.t) ?_ ?_); assumption; intro hC) | ((fail_if_success with_reducible refine EvKeep.hole ?_); (with_reducible refine EvKeep.abs (fun X kK => ?_)))) <;> conv => whnf)
      rw [List.take_of_length_le (by omega)] at hL
      refine EvLoop.keep ([2, 7, 8, 121, 122, 123, 124, 125, 126, 127, 128, 129, 130, 131, 132, 133, 134, 135, 136, 137, 138, 139, 140, 141, 142, 143, 144, 145, 146, 147, 148, 149, 150, 151, 152, 153, 154, 155, 156, 157, 158, 159, 160, 161], 9) (α := Nat) (fun k => [(7, .int .i64 k)]) (fun k h' => k ≤ f.ch.n ∧ (∀ (j : Nat) y, j < k → f.cl[j]? = some y → kok f.cl j y = true) ∧ Sep h h' [Bx bf [.string f.nm, .int .i64 f.pa, .int .i64 f.rg, f.sh.v, f.ch.v] 31]) (fun k => f.ch.n - k) 0 (by (repeat' (first | exact trivial | refine ⟨rfl, ?_⟩))) ⟨Nat.zero_le _, fun j y hj => absurd hj (Nat.not_lt_zero _), HS⟩ ?_
      clear HS
      rintro q h2 ⟨hq, hK, HS⟩
      conv => whnf
      obtain hlt2 | hge2 := Nat.lt_or_ge q f.ch.n
      · obtain ⟨x, hxk⟩ : ∃ x, f.cl[q]? = some x := ⟨_, List.getElem?_eq_getElem (by omega)⟩
        have ox := o.c.at_ hxk
        repeat' ((first | ((with_reducible refine EvDraw.ord (id := 13) (.go 0 (.go 1 (.alt 2 (.go 3 (.go 4 (.go 5 (.go 6 (.go 7 (.go 8 (.go 10 (.go 11 (.alt 9 (.alt 12 (.go 13 (.go 14 (.go 15 .done))) .stop) .stop))))))))) .stop))) fol ?_ ?_ ?_); kernel_rfl; kernel_rfl) | ((with_reducible refine EvIdx.el Ii.len (by decide) (o.c.r.ext HS.to_ext) hxl (by omega) (by omega) ?_); intro bI oI z eI hz hI; have hzx : x = z := Option.some.inj (hxk.symm.trans hz); subst hzx) | ((with_reducible refine EvLdN.el hI (Ii.len _) ?_)) | ((refine EvCall.mk (HC.mono (lab_c (o.ext HS.to_ext) _) ?_)); rintro _ hN ⟨rfl, hX⟩; replace HS := HS.ext hX) | (with_reducible first | refine EvSeq.go ?_ | refine EvIf.tt ?_ | refine EvIf.ff ?_) | ((with_reducible refine Hole.mk (kK ?_)); clear kK) | ((with_reducible refine EvIf.mk (fun c => ?_) (fun c => ?_)) <;> (try simp only [cs_] at c) <;> (try (exfalso; first | omega | (revert c; decide)))) | ((with_reducible refine EvNew.sep HS ?_); intro bN hN HS1 hX; replace HS := HS1; clear HS1) | ((with_reducible refine EvIdx.lit ?_ ?_ ?_); (first | omega | decide); (first | omega | decide)) | ((with_reducible first | refine EvNe.mk ?_ ?_ | refine EvGe.mk ?_ ?_); (first | decide | omega)) | ((with_reducible refine EvLd.q HS (by repeat first | exact .h | apply Spot.t) ?_); (conv => whnf); intro hC) | (with_reducible refine EvLdN.q HS (by repeat first | exact .h | apply Spot.t) (fun hC => ?_)) | ((with_reducible refine EvSt.q HS (by repeat first | exact .h | apply Spot.t) ?_); (conv => whnf); intro hN HS1 hU; replace HS := HS1; clear HS1) | ((with_reducible refine EvKeep.cq (A := keepK _ _ (Hole _) _) HS (by repeat first | exact .h | apply Spot.t) ?_); (conv => whnf); (refine ⟨?_, ?_⟩); assumption; intro hC) | ((with_reducible refine EvKeep.nq (A := keepK _ _ (Hole _) _) HS (by repeat first | exact .h | apply Spot.t) ?_ ?_); assumption; intro hC) | ((fail_if_success with_reducible refine EvKeep.hole ?_); (with_reducible refine EvKeep.abs (fun X kK => ?_)))) <;> conv => whnf)
        all_goals first
          | (have e3 : kok f.cl q x = false := by
               first
                 | exact kok_n1 (by omega) (by omega)
                 | exact kok_n2 (by omega) (by omega)
             refine ⟨congrArg Value.bool ?_, HS.to_ext⟩
             have e4 : kall f.cl 0 f.cl = false := by
               cases hb : kall f.cl 0 f.cl with
               | false => rfl
               | true =>
                 have := (kall_iff f.cl f.cl 0).mp hb q x hxk
                 rw [Nat.zero_add, e3] at this
                 cases this
             unfold fok
             rw [e4, Bool.and_false])
          | (have e3 : kok f.cl q x = true := by
               first
                 | exact kok_y1 (by omega) (by omega)
                 | exact kok_y2 (by omega) (by omega)
                 | exact kok_y3 (by omega)
             refine ⟨q + 1, ⟨congrArg (fun z => some (Value.int .i64 z)) ((i64w _ (by omega) (by omega)).trans (by omega)), (by (repeat' (first | exact trivial | refine ⟨rfl, ?_⟩)))⟩, ⟨by omega, fun j y hj hy => ?_, by first | exact HS | exact HS.tail⟩, by omega⟩
             obtain hj2 | hj2 := Nat.lt_or_ge j q
             · exact hK j y hj2 hy
             · obtain rfl : j = q := by omega
               rw [hxk] at hy
               cases hy
               exact e3)
      · repeat' ((first | ((with_reducible refine EvDraw.ord (id := 13) (.go 0 (.go 1 (.alt 2 (.go 3 (.go 4 (.go 5 (.go 6 (.go 7 (.go 8 (.go 10 (.go 11 (.alt 9 (.alt 12 (.go 13 (.go 14 (.go 15 .done))) .stop) .stop))))))))) .stop))) fol ?_ ?_ ?_); kernel_rfl; kernel_rfl) | (with_reducible first | refine EvSeq.go ?_ | refine EvIf.tt ?_ | refine EvIf.ff ?_) | ((with_reducible refine Hole.mk (kK ?_)); clear kK) | ((with_reducible refine EvIf.mk (fun c => ?_) (fun c => ?_)) <;> (try simp only [cs_] at c) <;> (try (exfalso; first | omega | (revert c; decide)))) | ((with_reducible refine EvNew.sep HS ?_); intro bN hN HS1 hX; replace HS := HS1; clear HS1) | ((with_reducible refine EvIdx.lit ?_ ?_ ?_); (first | omega | decide); (first | omega | decide)) | ((with_reducible first | refine EvNe.mk ?_ ?_ | refine EvGe.mk ?_ ?_); (first | decide | omega)) | ((with_reducible refine EvLd.q HS (by repeat first | exact .h | apply Spot.t) ?_); (conv => whnf); intro hC) | (with_reducible refine EvLdN.q HS (by repeat first | exact .h | apply Spot.t) (fun hC => ?_)) | ((with_reducible refine EvSt.q HS (by repeat first | exact .h | apply Spot.t) ?_); (conv => whnf); intro hN HS1 hU; replace HS := HS1; clear HS1) | ((with_reducible refine EvKeep.cq (A := keepK _ _ (Hole _) _) HS (by repeat first | exact .h | apply Spot.t) ?_); (conv => whnf); (refine ⟨?_, ?_⟩); assumption; intro hC) | ((with_reducible refine EvKeep.nq (A := keepK _ _ (Hole _) _) HS (by repeat first | exact .h | apply Spot.t) ?_ ?_); assumption; intro hC) | ((fail_if_success with_reducible refine EvKeep.hole ?_); (with_reducible refine EvKeep.abs (fun X kK => ?_)))) <;> conv => whnf)
        have e5 : kall f.cl 0 f.cl = true := by
          rw [kall_iff]
          intro j y hy
          rw [Nat.zero_add]
          exact hK j y (by have := (List.getElem?_eq_some_iff.mp hy).1; omega) hy
        refine ⟨congrArg Value.bool ?_, HS.to_ext⟩
        unfold fok
        rw [e, ht, hL, e5]
        rfl
end Go.Proofs.YtjggmhpjlnmigaaDoor
