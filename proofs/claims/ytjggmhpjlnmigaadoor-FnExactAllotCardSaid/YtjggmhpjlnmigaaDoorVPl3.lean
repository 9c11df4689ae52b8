/- Functions that are right: the program's labels and its whole test. -/
import Derived.Test.YtjggmhpjlnmigaaDoorVPl2
import Derived.Test.YtjggmhpjlnmigaaDoorVMap
namespace Go.Proofs.YtjggmhpjlnmigaaDoor
open Go.RowKit
set_option maxRecDepth 20000
set_option linter.unusedSimpArgs false
set_option linter.unusedVariables false
/-- the map of the labels -/
def labM (cl : List Ii) (q : Int) : Option Value := if 0 ≤ lab cl q then some (.int .i64 (lab cl q)) else none
theorem lab_nil (n : Int) : lab [] n = -1 := rfl
theorem lab_snoc (xs : List Ii) (x : Ii) (n : Int) : lab (xs ++ [x]) n = if 0 ≤ lab xs n then lab xs n else if isLab n x then (xs.length : Int) else -1 := by
  unfold lab
  rw [List.findIdx?_append]
  cases h : xs.findIdx? (isLab n) with
  | some i =>
    simp
  | none =>
    simp only [List.findIdx?_singleton]
    cases isLab n x <;> simp
theorem labM_put {xs : List Ii} {x : Ii} {k : Nat} (h : labM xs x.n = none) (ho : x.op = 11) (hl : xs.length = k) : (fun q => if q = x.n then some (Value.int .i64 (k : Int)) else labM xs q) = labM (xs ++ [x]) := by
  funext q
  have hneg : ¬ 0 ≤ lab xs x.n := by
    intro e
    unfold labM at h
    rw [if_pos e] at h
    cases h
  unfold labM
  rw [lab_snoc, hl]
  by_cases e : q = x.n
  · subst e
    have : isLab x.n x = true := by simp [isLab, ho]
    rw [if_pos rfl, if_neg hneg, this]
    simp
  · have : isLab q x = false := by simp [isLab, Ne.symm e]
    rw [if_neg e, this]
    by_cases e2 : 0 ≤ lab xs q
    · rw [if_pos e2, if_pos e2, if_pos e2]
    · rw [if_neg e2, if_neg e2]
      simp
theorem labM_same {xs : List Ii} {x : Ii} (h : ¬x.op = 11 ∨ ∃ w, labM xs x.n = some w) : labM (xs ++ [x]) = labM xs := by
  funext q
  unfold labM
  rw [lab_snoc]
  by_cases e2 : 0 ≤ lab xs q
  · rw [if_pos e2, if_pos e2]
  · rw [if_neg e2, if_neg e2]
    have : isLab q x = false := by
      cases hl : isLab q x with
      | false => rfl
      | true =>
        exfalso
        simp only [isLab, Bool.and_eq_true, decide_eq_true_eq] at hl
        rcases h with h | ⟨w, h⟩
        · exact h hl.1
        · unfold labM at h
          rw [hl.2, if_neg e2] at h
          cases h
    rw [this]
    simp
theorem mapT : Tryd.prog.underlying 3 = some (.int .i64) := by kernel_rfl
theorem labels_c {h : Hp} {f : Fu} (o : FuOk h f) (hn8 : f.cl.length ≤ 8000) : HC Tryd.prog 62 [f.v] h fun v h' => ∃ r, v = .map (some r) ∧ Sep h h' [MapP r (labM f.cl)] := by
  have hxl := o.c.l
  have hn := o.c.b
  refine hc_of Tryd.func62 (rfl : Tryd.f62.body = some _) Tryd.ntmps62 Tryd.results62 Tryd.call62 rfl ?_; have HS := Sep.nil h; conv => whnf
  refine EvNew.sep HS ?_
  intro bf gbf HS1 xbf
  replace HS := HS1
  clear HS1
  conv => whnf
  repeat' ((first | (with_reducible first | refine EvSeq.go ?_ | refine EvIf.tt ?_ | refine EvIf.ff ?_) | ((with_reducible refine EvNew.sep HS ?_); intro bN hN HS1 hX; replace HS := HS1; clear HS1) | ((with_reducible refine EvLd.q HS (by repeat first | exact .h | apply Spot.t) ?_); (conv => whnf); intro hC)) <;> conv => whnf)
  have HS2 := HS.mapNew
  clear HS
  refine EvLoop.keep ([4, 5, 6, 7, 12, 13, 14, 15, 16, 17, 18, 19, 20, 21, 22, 23, 24, 25, 26, 27, 28, 29, 30, 31, 32, 33, 34, 35], 8) (α := Nat) (fun k => [(12, .int .i64 k), (11, .int .i64 f.ch.n), (10, f.ch.v)]) (fun k h' => k ≤ f.ch.n ∧ Sep h h' [MapP bN (labM (f.cl.take k)), Bx bf (fcs f) 31]) (fun k => f.ch.n - k) 0 (by (repeat' (first | exact trivial | refine ⟨rfl, ?_⟩))) ⟨Nat.zero_le _, HS2⟩ ?_
  clear HS2
  rintro k h1 ⟨hk, HS⟩
  conv => whnf
  obtain hlt | hge := Nat.lt_or_ge k f.ch.n
  · obtain ⟨x, hxk⟩ : ∃ x, f.cl[k]? = some x := ⟨_, List.getElem?_eq_getElem (by omega)⟩
    have ox := o.c.at_ hxk
    have htk : f.cl.take (k + 1) = f.cl.take k ++ [x] := by rw [List.take_add_one, hxk]; rfl
    have hlk : (f.cl.take k).length = k := by rw [List.length_take]; omega
    repeat' ((first | ((with_reducible refine EvIdx.el Ii.len (by decide) (o.c.r.ext HS.to_ext) hxl (by omega) (by omega) ?_); intro bI oI z eI hz hI; have hzx : x = z := Option.some.inj (hxk.symm.trans hz); subst hzx) | ((with_reducible refine EvLdN.el hI (Ii.len _) ?_)) | ((with_reducible refine EvLook.mp HS (by repeat first | exact .h | apply Spot.t) mapT (fun hg => ?_) (fun w hg => ?_))) | ((with_reducible refine EvPut.mp HS (by repeat first | exact .h | apply Spot.t) mapT (fun h' HS2 => ?_)); clear HS; have HS := HS2; clear HS2) | (with_reducible first | refine EvSeq.go ?_ | refine EvIf.tt ?_ | refine EvIf.ff ?_) | ((with_reducible refine EvIf.mk (fun c => ?_) (fun c => ?_)) <;> (try simp only [cs_] at c) <;> (try (exfalso; first | omega | (revert c; decide)))) | ((with_reducible refine EvNew.sep HS ?_); intro bN hN HS1 hX; replace HS := HS1; clear HS1) | ((with_reducible refine EvLd.q HS (by repeat first | exact .h | apply Spot.t) ?_); (conv => whnf); intro hC) | ((with_reducible refine EvSt.q HS (by repeat first | exact .h | apply Spot.t) ?_); (conv => whnf); intro hN HS1 hU; replace HS := HS1; clear HS1)) <;> conv => whnf)
    all_goals
      refine ⟨k + 1, ⟨congrArg (fun z => some (Value.int .i64 z)) ((i64w _ (by omega) (by omega)).trans (by omega)), (by (repeat' (first | exact trivial | refine ⟨rfl, ?_⟩)))⟩, ⟨by omega, ?_⟩, by omega⟩
      rw [htk]
      first
        | (rw [← labM_put (by assumption) (by assumption) hlk]
           exact HS.tail)
        | (rw [labM_same (.inl (by assumption))]
           exact HS.tail)
        | (rw [labM_same (.inr ⟨_, (by assumption)⟩)]
           exact HS.tail)
  · repeat' ((first | (with_reducible first | refine EvSeq.go ?_ | refine EvIf.tt ?_ | refine EvIf.ff ?_) | ((with_reducible refine EvIf.mk (fun c => ?_) (fun c => ?_)) <;> (try simp only [cs_] at c) <;> (try (exfalso; first | omega | (revert c; decide))))) <;> conv => whnf)
    obtain rfl : k = f.ch.n := by omega
    rw [List.take_of_length_le (by omega)] at HS
    exact ⟨bN, rfl, HS.take [_]⟩
theorem EvLook.lb {h0 h : Hp} {L : List Asn} {F : Asn → List Asn} {z : Value} {r : Nat} {key : Int} {cl : List Ii} {K : Value → Bool → Prop} (s : Sep h0 h L) (p : Spot (MapP r (labM cl)) L F)
    (k0 : ¬ 0 ≤ lab cl key → K z false) (k1 : 0 ≤ lab cl key → K (.int .i64 (lab cl key)) true) : EvLook Tryd.prog 3 z h r (.int .i64 key) K := by
  refine EvLook.mp s p mapT (fun e => k0 (fun h => ?_)) (fun v e => ?_)
  · unfold labM at e
    rw [if_pos h] at e
    cases e
  · unfold labM at e
    split at e
    · rename_i h
      cases e
      exact k1 h
    · cases e
/-- what the program asks of a step's label -/
def pok (cl : List Ii) (k : Nat) (x : Ii) : Bool := (decide (x.op ≠ 11) || decide ((if 0 ≤ lab cl x.n then lab cl x.n else 0) = k)) && (decide (x.op ≠ 12 ∧ x.op ≠ 13) || decide (0 ≤ lab cl x.n))
def pls (f : Fu) : Prop := hok f = true ∧ (f.sl.all fun n => decide (1 ≤ n ∧ n ≤ 60000)) = true ∧ ∀ (k : Nat) x, f.cl[k]? = some x → shp f.rg f.sl.length x = true ∧ pok f.cl k x = true
theorem lab_some {cl : List Ii} {n : Int} (h : 0 ≤ lab cl n) : ∃ (i : Nat) (y : Ii), lab cl n = i ∧ cl[i]? = some y ∧ y.op = 11 ∧ y.n = n := by
  unfold lab at h ⊢
  cases e : cl.findIdx? (isLab n) with
  | none => rw [e] at h; simp at h
  | some i =>
    obtain ⟨h1, h2, _⟩ := List.findIdx?_eq_some_iff_getElem.mp e
    simp only [isLab, Bool.and_eq_true, decide_eq_true_eq] at h2
    exact ⟨i, _, rfl, List.getElem?_eq_getElem h1, h2.1, h2.2⟩
theorem lab_have {cl : List Ii} {k : Nat} {x : Ii} (h : cl[k]? = some x) (ho : x.op = 11) : 0 ≤ lab cl x.n := by
  unfold lab
  cases e : cl.findIdx? (isLab x.n) with
  | some i => simp only; omega
  | none =>
    have := List.findIdx?_eq_none_iff.mp e x (List.mem_of_getElem? h)
    simp [isLab, ho] at this
theorem pls_iff (f : Fu) : pls f ↔ fok f = true := by
  unfold fok pls
  simp only [Bool.and_eq_true, and_assoc]
  refine and_congr_right fun _ => and_congr_right fun _ => ?_
  rw [kall_iff, List.all_eq_true]
  constructor
  · intro h
    refine ⟨fun x hx => ?_, fun j y hy => ?_⟩
    · obtain ⟨k, hk⟩ := List.getElem?_of_mem hx
      have := (h k x hk).1
      unfold shp at this
      simp only [Bool.and_eq_true] at this
      exact this.1
    · obtain ⟨h1, h2⟩ := h j y hy
      rw [Nat.zero_add]
      unfold shp at h1
      unfold pok at h2
      unfold kok
      simp only [Bool.and_eq_true, Bool.or_eq_true, decide_eq_true_eq] at h1 h2 ⊢
      refine ⟨?_, h2.2⟩
      by_cases e : y.op = 11
      · right
        have h0 := lab_have hy e
        rw [if_pos h0] at h2
        refine ⟨?_, ?_⟩
        · rcases h1.2 with h1 | h1
          · omega
          · exact h1
        · rcases h2.1 with h2 | h2
          · exact absurd e h2
          · exact h2
      · exact .inl e
  · rintro ⟨h1, h2⟩ k x hx
    have ka := h1 x (List.mem_of_getElem? hx)
    have kb := h2 k x hx
    rw [Nat.zero_add] at kb
    unfold kok at kb
    simp only [Bool.and_eq_true, Bool.or_eq_true, decide_eq_true_eq] at kb
    constructor
    · unfold shp
      rw [ka, Bool.true_and]
      simp only [Bool.or_eq_true, decide_eq_true_eq]
      by_cases e : 11 ≤ x.op ∧ x.op ≤ 13
      · right
        have : x.op = 11 ∨ (x.op = 12 ∨ x.op = 13) := by omega
        rcases this with e1 | e1
        · rcases kb.1 with kb | kb
          · exact absurd e1 kb
          · exact kb.1
        · have hl : 0 ≤ lab f.cl x.n := by
            rcases kb.2 with kb | kb
            · omega
            · exact kb
          obtain ⟨i, y, _, hy, yo, yn⟩ := lab_some hl
          have kc := h2 i y hy
          unfold kok at kc
          simp only [Bool.and_eq_true, Bool.or_eq_true, decide_eq_true_eq] at kc
          rcases kc.1 with kc | kc
          · exact absurd yo kc
          · rw [← yn]
            exact kc.1
      · exact .inl e
    · unfold pok
      simp only [Bool.and_eq_true, Bool.or_eq_true, decide_eq_true_eq]
      refine ⟨?_, kb.2⟩
      rcases kb.1 with kb | kb
      · exact .inl kb
      · right
        rw [if_pos (by omega)]
        exact kb.2
theorem pls_false {f : Fu} (h : ¬ pls f) : fok f = false := by
  cases e : fok f with
  | false => rfl
  | true => exact absurd ((pls_iff f).mpr e) h
set_option maxHeartbeats 4000000 in
theorem plain_c {h : Hp} {f : Fu} (hg : GT h) (o : FuOk h f) : HC Tryd.prog 32 [f.v] h fun v h' => v = .bool (fok f) ∧ Ext h h' := by
  have hxl := o.c.l
  have hn := o.c.b
  have hsl := o.sn
  have hsb := o.sb
  refine hc_of Tryd.func32 (rfl : Tryd.f32.body = some _) Tryd.ntmps32 Tryd.results32 Tryd.call32 rfl ?_; have HS := Sep.nil h; conv => whnf
  refine EvNew.sep HS ?_
  intro bf gbf HS1 xbf
  replace HS := HS1
  clear HS1
  conv => whnf
  repeat' ((first | ((with_reducible refine EvCall.fn 61 ?_); (with_reducible refine HC.mono (inside_c _ _ _ _) ?_); (rintro _ _ ⟨rfl, rfl⟩)) | ((with_reducible refine EvIdx.el Ii.len (by decide) (o.c.r.ext HS.to_ext) hxl (by simp (disch := omega) only [i64w]; omega) (by simp (disch := omega) only [i64w]; omega) ?_); intro bI oI z eI hz hI) | ((with_reducible refine EvLd.el0 hI rfl ?_)) | (with_reducible first | refine EvSeq.go ?_ | refine EvIf.tt ?_ | refine EvIf.ff ?_) | ((with_reducible refine EvIf.mk (fun c => ?_) (fun c => ?_)) <;> (try simp only [cs_] at c) <;> (try (exfalso; first | omega | (revert c; decide)))) | ((with_reducible refine EvLd.q HS (by repeat first | exact .h | apply Spot.t) ?_); (conv => whnf); intro hC)) <;> conv => whnf)
  all_goals try
    (refine ⟨congrArg Value.bool ?_, HS.to_ext⟩
     have e : hok f = false := by
       unfold hok
       rw [decide_eq_false (by omega)]
       rfl
     rw [pls_false (fun p => by have := p.1; rw [e] at this; cases this)])
  · refine ⟨congrArg Value.bool ?_, HS.to_ext⟩
    have e1 : (IntKind.i64.wrap ((f.ch.n : Int) - 1)).toNat = f.cl.length - 1 := by rw [i64w _ (by omega) (by omega)]; omega
    rw [e1] at hz
    have e : hok f = false := by
      unfold hok
      rw [hz, decide_eq_false (p := Option.map Ii.op (some z) = some 14) (by simpa using c), Bool.and_false]
    rw [pls_false (fun p => by have := p.1; rw [e] at this; cases this)]
  · have e1 : (IntKind.i64.wrap ((f.ch.n : Int) - 1)).toNat = f.cl.length - 1 := by rw [i64w _ (by omega) (by omega)]; omega
    rw [e1] at hz
    have e : hok f = true := by
      unfold hok
      rw [hz, decide_eq_true (p := Option.map Ii.op (some z) = some 14) (by simpa using c), decide_eq_true (by omega)]
      rfl
    refine EvLoop.keep ([2, 4, 50, 51, 52, 53, 54, 55, 56, 57], 10) (α := Nat) (fun k => [(50, .int .i64 k), (49, .int .i64 f.sh.n), (48, f.sh.v)]) (fun k h' => k ≤ f.sh.n ∧ ((f.sl.take k).all fun n => decide (1 ≤ n ∧ n ≤ 60000)) = true ∧ Sep h h' [Bx bf (fcs f) 31]) (fun k => f.sh.n - k) 0 (by (repeat' (first | exact trivial | refine ⟨rfl, ?_⟩))) ⟨Nat.zero_le _, by simp, HS⟩ ?_
    clear HS
    rintro k h1 ⟨hk, ht, HS⟩
    conv => whnf
    repeat' ((first | ((with_reducible refine EvCall.fn 61 ?_); (with_reducible refine HC.mono (inside_c _ _ _ _) ?_); (rintro _ _ ⟨rfl, rfl⟩)) | ((with_reducible refine EvIdx.rd (o.s.ext HS.to_ext) (by simpa using hsl) (by omega) (by omega) ?_); intro bI oI eI hI) | ((with_reducible refine EvLd.row (by assumption) (by omega) ?_)) | (with_reducible first | refine EvSeq.go ?_ | refine EvIf.tt ?_ | refine EvIf.ff ?_) | ((with_reducible refine EvIf.mk (fun c => ?_) (fun c => ?_)) <;> (try simp only [cs_] at c) <;> (try (exfalso; first | omega | (revert c; decide)))) | (with_reducible refine EvLdN.q HS (by repeat first | exact .h | apply Spot.t) (fun hC => ?_))) <;> conv => whnf)
    · refine ⟨congrArg Value.bool ?_, HS.to_ext⟩
      rw [pls_false (fun p => by have := p.2.1; rw [sl_no (k := (k : Int).toNat) (by omega) c] at this; cases this)]
    · exact ⟨k + 1, ⟨congrArg (fun z => some (Value.int .i64 z)) ((i64w _ (by omega) (by omega)).trans (by omega)), (by (repeat' (first | exact trivial | refine ⟨rfl, ?_⟩)))⟩, ⟨by omega, sl_step (by omega) c ht, HS⟩, by omega⟩
    rw [List.take_of_length_le (by omega)] at ht
    refine EvCall.mk ((labels_c (o.ext HS.to_ext) (by omega)).mono ?_)
    rintro _ h2 ⟨rm, rfl, HS1⟩
    replace HS := HS.join1 HS1
    clear HS1
    conv => whnf
    repeat' ((first | (with_reducible first | refine EvSeq.go ?_ | refine EvIf.tt ?_ | refine EvIf.ff ?_) | ((with_reducible refine EvLd.q HS (by repeat first | exact .h | apply Spot.t) ?_); (conv => whnf); intro hC)) <;> conv => whnf)
    refine EvLoop.keep ([2, 6, 7, 8, 9, 63, 64, 65, 66, 67, 68, 69, 70, 71, 72, 73, 74, 75, 76, 77, 78, 79, 80, 81, 82, 83, 84, 85, 86, 87, 88, 89, 90, 91, 92, 93, 94], 10) (α := Nat) (fun k => [(63, .int .i64 k), (62, .int .i64 f.ch.n), (61, f.ch.v)]) (fun k h' => k ≤ f.ch.n ∧ (∀ (j : Nat) x, j < k → f.cl[j]? = some x → shp f.rg f.sl.length x = true ∧ pok f.cl j x = true) ∧ Sep h h' [MapP rm (labM f.cl), Bx bf (fcs f) 31]) (fun k => f.ch.n - k) 0 (by (repeat' (first | exact trivial | refine ⟨rfl, ?_⟩))) ⟨Nat.zero_le _, (fun j x hj => absurd hj (Nat.not_lt_zero _)), HS⟩ ?_
    clear HS
    rintro q h3 ⟨hq, hK, HS⟩
    conv => whnf
    obtain hlt2 | hge2 := Nat.lt_or_ge q f.ch.n
    · obtain ⟨x, hxk⟩ : ∃ x, f.cl[q]? = some x := ⟨_, List.getElem?_eq_getElem (by omega)⟩
      have ox := o.c.at_ hxk
      repeat' ((first | ((with_reducible refine EvIdx.el Ii.len (by decide) (o.c.r.ext HS.to_ext) hxl (by omega) (by omega) ?_); intro bI oI z eI hz hI; have hzx : x = z := Option.some.inj (hxk.symm.trans hz); subst hzx) | ((with_reducible refine EvLdN.el hI (Ii.len _) ?_)) | ((with_reducible refine EvCall.fn 63 ?_); (refine HC.mono (shape_c (x := x) (hg.ext HS.to_ext) (o.ext HS.to_ext) (ox.ext HS.to_ext) (by omega)) ?_); rintro _ hN ⟨rfl, hX⟩; replace HS := HS.ext hX) | ((with_reducible refine EvLook.lb HS (by repeat first | exact .h | apply Spot.t) (fun hg => ?_) (fun hg => ?_))) | (with_reducible first | refine EvSeq.go ?_ | refine EvIf.tt ?_ | refine EvIf.ff ?_) | ((with_reducible refine EvIf.mk (fun c => ?_) (fun c => ?_)) <;> (try simp only [cs_] at c) <;> (try (exfalso; first | omega | (revert c; decide)))) | ((with_reducible refine EvNew.sep HS ?_); intro bN hN HS1 hX; replace HS := HS1; clear HS1) | ((with_reducible refine EvLd.q HS (by repeat first | exact .h | apply Spot.t) ?_); (conv => whnf); intro hC) | (with_reducible refine EvLdN.q HS (by repeat first | exact .h | apply Spot.t) (fun hC => ?_)) | ((with_reducible refine EvSt.q HS (by repeat first | exact .h | apply Spot.t) ?_); (conv => whnf); intro hN HS1 hU; replace HS := HS1; clear HS1)) <;> conv => whnf)
      all_goals first
        | (refine ⟨congrArg Value.bool ?_, HS.to_ext⟩
           rw [pls_false (fun p => ?_)]
           obtain ⟨a1, a2⟩ := p.2.2 q x hxk
           first
             | (have c2 := c; rw [a1] at c2; cases c2)
             | (unfold pok at a2
                simp only [Bool.and_eq_true, Bool.or_eq_true, decide_eq_true_eq] at a2
                first
                  | (rw [if_neg hg] at a2; omega)
                  | (rw [if_pos hg] at a2; omega)))
        | (refine ⟨q + 1, ⟨congrArg (fun z => some (Value.int .i64 z)) ((i64w _ (by omega) (by omega)).trans (by omega)), (by (repeat' (first | exact trivial | refine ⟨rfl, ?_⟩)))⟩, ⟨by omega, fun j y hj hy => ?_, by first | exact HS | exact HS.tail⟩, by omega⟩
           obtain hj2 | hj2 := Nat.lt_or_ge j q
           · exact hK j y hj2 hy
           · obtain rfl : j = q := by omega
             obtain rfl : x = y := Option.some.inj (hxk.symm.trans hy)
             refine ⟨by assumption, ?_⟩
             unfold pok
             simp only [Bool.and_eq_true, Bool.or_eq_true, decide_eq_true_eq]
             first
               | (rw [if_neg hg]; omega)
               | (rw [if_pos hg]; omega)
               | omega)
    · repeat' ((first | (with_reducible first | refine EvSeq.go ?_ | refine EvIf.tt ?_ | refine EvIf.ff ?_) | ((with_reducible refine EvIf.mk (fun c => ?_) (fun c => ?_)) <;> (try simp only [cs_] at c) <;> (try (exfalso; first | omega | (revert c; decide))))) <;> conv => whnf)
      refine ⟨congrArg Value.bool ?_, HS.to_ext⟩
      rw [eq_comm, ← pls_iff]
      exact ⟨e, ht, fun k x hx => hK k x (by have := (List.getElem?_eq_some_iff.mp hx).1; omega) hx⟩
end Go.Proofs.YtjggmhpjlnmigaaDoor
