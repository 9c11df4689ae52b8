-- Lines for this claim, written by the session's own program wip/myprint.py. Not trusted: Lean checks them.
import Derived.Test.YtgbpofhabhabcaaPFnAlux0
import Derived.Test.YtgbpofhabhabcaaPFnAlux1
import Derived.Test.YtgbpofhabhabcaaPFnAlux3
import Derived.Test.YtgbpofhabhabcaaPFnAlux4
namespace Go.Proofs.Ytgbpofhabhabcaa.PFnAlu
open Go.RowKit Go.Proofs.YtgbpofhabhabcaaW.PrintWords Go.Proofs.YtgbpofhabhabcaaW.PrintLast Go.Proofs.YtgbpofhabhabcaaW.PrintMore
attribute [local go_sem] max2_int min2_int max_two min_two max_three min_three max_four min_four   -- for this text's walks alone
set_option linter.unusedVariables false
set_option linter.unusedSimpArgs false

/-! ### laws_FnAlu: function 11 -/
mutual
def laws_FnAlu.j0 : Nat → Int → Int → Bool → Option (Bool)
  | 0, _, _, _ => none
  | k + 1, x4, x5, x63 => if x63 = true then (some false) else ((impl_Alu.f 11 x4 x5).bind fun bt209 => ((impl_Alu.f 14 x4 x5).bind fun bt211 => ((impl_Word.f x4).bind fun t213 => ((impl_Word.f x5).bind fun t214 => (if bt209.1 = (Int.tmod (wrap64 ((wrap64 ((Int.tmod t213 65536) * (Int.tmod t214 65536))) + (wrap64 ((Int.tmod (wrap64 ((wrap64 ((Int.tmod t213 65536) * (wrap64 (Int.tdiv t214 65536)))) + (wrap64 ((wrap64 (Int.tdiv t213 65536)) * (Int.tmod t214 65536))))) 65536) * 65536)))) 4294967296) then (laws_FnAlu.j1 k x4 x5 bt211.1 t213 t214 (bt211.1 != (wrap64 ((wrap64 ((wrap64 ((wrap64 (Int.tdiv t213 65536)) * (wrap64 (Int.tdiv t214 65536)))) + (wrap64 (Int.tdiv (wrap64 ((wrap64 ((Int.tmod t213 65536) * (wrap64 (Int.tdiv t214 65536)))) + (wrap64 ((wrap64 (Int.tdiv t213 65536)) * (Int.tmod t214 65536))))) 65536)))) + (wrap64 (Int.tdiv (wrap64 ((wrap64 ((Int.tmod t213 65536) * (Int.tmod t214 65536))) + (wrap64 ((Int.tmod (wrap64 ((wrap64 ((Int.tmod t213 65536) * (wrap64 (Int.tdiv t214 65536)))) + (wrap64 ((wrap64 (Int.tdiv t213 65536)) * (Int.tmod t214 65536))))) 65536) * 65536)))) 4294967296)))))) else (laws_FnAlu.j1 k x4 x5 bt211.1 t213 t214 true))))))
def laws_FnAlu.j1 : Nat → Int → Int → Int → Int → Int → Bool → Option (Bool)
  | 0, _, _, _, _, _, _ => none
  | k + 1, x4, x5, x12, x14, x15, x118 => if x118 = true then (some false) else (if x14 ≥ 2147483648 then (laws_FnAlu.j2 k x4 x5 x14 x15 (wrap64 (x12 - x15)) (wrap64 (x12 - x15))) else (laws_FnAlu.j2 k x4 x5 x14 x15 x12 x12))
def laws_FnAlu.j2 : Nat → Int → Int → Int → Int → Int → Int → Option (Bool)
  | 0, _, _, _, _, _, _ => none
  | k + 1, x4, x5, x14, x15, x18, x19 => if x15 ≥ 2147483648 then (laws_FnAlu.j3 k x4 x5 x14 x15 x18 (wrap64 (x19 - x14))) else (laws_FnAlu.j3 k x4 x5 x14 x15 x18 x19)
def laws_FnAlu.j3 : Nat → Int → Int → Int → Int → Int → Int → Option (Bool)
  | 0, _, _, _, _, _, _ => none
  | k + 1, x4, x5, x14, x15, x18, x19 => (impl_Alu.f 12 x4 x5).bind fun bt215 => ((impl_Alu.f 13 x4 x5).bind fun bt217 => ((impl_Word.f x19).bind fun t219 => (if bt215.1 = t219 then ((impl_Word.f x18).bind fun t220 => (laws_FnAlu.j4 k x4 x5 x14 x15 (bt217.1 != t220))) else (laws_FnAlu.j4 k x4 x5 x14 x15 true))))
def laws_FnAlu.j4 : Nat → Int → Int → Int → Int → Bool → Option (Bool)
  | 0, _, _, _, _, _ => none
  | k + 1, x4, x5, x14, x15, x155 => if x155 = true then (some false) else ((impl_Alu.f 16 x4 x5).bind fun bt221 => ((impl_Alu.f 18 x4 x5).bind fun bt223 => ((impl_Alu.f 15 x4 x5).bind fun bt225 => ((impl_Alu.f 17 x4 x5).bind fun bt227 => (if x15 = 0 then (if bt221.1 = 4294967295 then (if bt225.1 = bt221.1 then (if bt223.1 = x14 then (some (bt227.1 == x14)) else (some false)) else (some false)) else (some false)) else ((impl_Signed.f bt225.1).bind fun t229 => ((impl_Signed.f x5).bind fun t230 => ((impl_Signed.f bt227.1).bind fun t231 => (if (wrap64 ((wrap64 (bt221.1 * x15)) + bt223.1)) = x14 then (if bt223.1 < x15 then ((impl_Word.f (wrap64 ((wrap64 (t229 * t230)) + t231))).bind fun t232 => (some (t232 == x14))) else (some false)) else (some false))))))))))
end
def laws_FnAlu.f (k : Nat) (l0 : List Int) : Option (Bool) := if (l0.length : Int) > 1048576 then (some true) else ((spec_DrawAlu.f l0).bind fun bt202 => ((spec_Alu.f k bt202.1 bt202.2.1 bt202.2.2).bind fun bt205 => ((impl_Alu.f bt202.1 bt202.2.1 bt202.2.2).bind fun bt207 => (if (bt207.2 != bt205.2) = true then (laws_FnAlu.j0 k bt202.2.1 bt202.2.2 true) else (laws_FnAlu.j0 k bt202.2.1 bt202.2.2 (bt207.1 != bt205.1))))))
theorem laws_FnAlu.mono_l : ∀ k, (∀ y0 y1 y2, LeO (laws_FnAlu.j0 k y0 y1 y2) (laws_FnAlu.j0 (k + 1) y0 y1 y2)) ∧ (∀ y0 y1 y2 y3 y4 y5, LeO (laws_FnAlu.j1 k y0 y1 y2 y3 y4 y5) (laws_FnAlu.j1 (k + 1) y0 y1 y2 y3 y4 y5)) ∧ (∀ y0 y1 y2 y3 y4 y5, LeO (laws_FnAlu.j2 k y0 y1 y2 y3 y4 y5) (laws_FnAlu.j2 (k + 1) y0 y1 y2 y3 y4 y5)) ∧ (∀ y0 y1 y2 y3 y4 y5, LeO (laws_FnAlu.j3 k y0 y1 y2 y3 y4 y5) (laws_FnAlu.j3 (k + 1) y0 y1 y2 y3 y4 y5)) ∧ (∀ y0 y1 y2 y3 y4, LeO (laws_FnAlu.j4 k y0 y1 y2 y3 y4) (laws_FnAlu.j4 (k + 1) y0 y1 y2 y3 y4))
  | 0 => ⟨fun _ _ _ r h => by simp [laws_FnAlu.j0] at h, fun _ _ _ _ _ _ r h => by simp [laws_FnAlu.j1] at h, fun _ _ _ _ _ _ r h => by simp [laws_FnAlu.j2] at h, fun _ _ _ _ _ _ r h => by simp [laws_FnAlu.j3] at h, fun _ _ _ _ _ r h => by simp [laws_FnAlu.j4] at h⟩
  | k + 1 => by
    obtain ⟨ih0, ih1, ih2, ih3, ih4⟩ := laws_FnAlu.mono_l k
    refine ⟨?_, ?_, ?_, ?_, ?_⟩
    · intro y0 y1 y2
      unfold laws_FnAlu.j0
      repeat' first
      | (with_reducible exact ih0 _ _ _)
      | (with_reducible exact ih1 _ _ _ _ _ _)
      | (with_reducible exact ih2 _ _ _ _ _ _)
      | (with_reducible exact ih3 _ _ _ _ _ _)
      | (with_reducible exact ih4 _ _ _ _ _)
      | (with_reducible exact spec_Alu.mono _ _ _ _)
      | (with_reducible exact LeO.refl _)
      | (with_reducible exact LeO.none _)
      | (with_reducible refine LeO.ite ?_ ?_)
      | (with_reducible refine LeO.bind ?_ (fun _ => ?_))
      | exact ih0 _ _ _
      | exact ih1 _ _ _ _ _ _
      | exact ih2 _ _ _ _ _ _
      | exact ih3 _ _ _ _ _ _
      | exact ih4 _ _ _ _ _
      | exact spec_Alu.mono _ _ _ _
      | exact LeO.none _
      | refine LeO.ite ?_ ?_
      | refine LeO.bind ?_ (fun _ => ?_)
    · intro y0 y1 y2 y3 y4 y5
      unfold laws_FnAlu.j1
      repeat' first
      | (with_reducible exact ih0 _ _ _)
      | (with_reducible exact ih1 _ _ _ _ _ _)
      | (with_reducible exact ih2 _ _ _ _ _ _)
      | (with_reducible exact ih3 _ _ _ _ _ _)
      | (with_reducible exact ih4 _ _ _ _ _)
      | (with_reducible exact spec_Alu.mono _ _ _ _)
      | (with_reducible exact LeO.refl _)
      | (with_reducible exact LeO.none _)
      | (with_reducible refine LeO.ite ?_ ?_)
      | (with_reducible refine LeO.bind ?_ (fun _ => ?_))
      | exact ih0 _ _ _
      | exact ih1 _ _ _ _ _ _
      | exact ih2 _ _ _ _ _ _
      | exact ih3 _ _ _ _ _ _
      | exact ih4 _ _ _ _ _
      | exact spec_Alu.mono _ _ _ _
      | exact LeO.none _
      | refine LeO.ite ?_ ?_
      | refine LeO.bind ?_ (fun _ => ?_)
    · intro y0 y1 y2 y3 y4 y5
      unfold laws_FnAlu.j2
      repeat' first
      | (with_reducible exact ih0 _ _ _)
      | (with_reducible exact ih1 _ _ _ _ _ _)
      | (with_reducible exact ih2 _ _ _ _ _ _)
      | (with_reducible exact ih3 _ _ _ _ _ _)
      | (with_reducible exact ih4 _ _ _ _ _)
      | (with_reducible exact spec_Alu.mono _ _ _ _)
      | (with_reducible exact LeO.refl _)
      | (with_reducible exact LeO.none _)
      | (with_reducible refine LeO.ite ?_ ?_)
      | (with_reducible refine LeO.bind ?_ (fun _ => ?_))
      | exact ih0 _ _ _
      | exact ih1 _ _ _ _ _ _
      | exact ih2 _ _ _ _ _ _
      | exact ih3 _ _ _ _ _ _
      | exact ih4 _ _ _ _ _
      | exact spec_Alu.mono _ _ _ _
      | exact LeO.none _
      | refine LeO.ite ?_ ?_
      | refine LeO.bind ?_ (fun _ => ?_)
    · intro y0 y1 y2 y3 y4 y5
      unfold laws_FnAlu.j3
      repeat' first
      | (with_reducible exact ih0 _ _ _)
      | (with_reducible exact ih1 _ _ _ _ _ _)
      | (with_reducible exact ih2 _ _ _ _ _ _)
      | (with_reducible exact ih3 _ _ _ _ _ _)
      | (with_reducible exact ih4 _ _ _ _ _)
      | (with_reducible exact spec_Alu.mono _ _ _ _)
      | (with_reducible exact LeO.refl _)
      | (with_reducible exact LeO.none _)
      | (with_reducible refine LeO.ite ?_ ?_)
      | (with_reducible refine LeO.bind ?_ (fun _ => ?_))
      | exact ih0 _ _ _
      | exact ih1 _ _ _ _ _ _
      | exact ih2 _ _ _ _ _ _
      | exact ih3 _ _ _ _ _ _
      | exact ih4 _ _ _ _ _
      | exact spec_Alu.mono _ _ _ _
      | exact LeO.none _
      | refine LeO.ite ?_ ?_
      | refine LeO.bind ?_ (fun _ => ?_)
    · intro y0 y1 y2 y3 y4
      unfold laws_FnAlu.j4
      repeat' first
      | (with_reducible exact ih0 _ _ _)
      | (with_reducible exact ih1 _ _ _ _ _ _)
      | (with_reducible exact ih2 _ _ _ _ _ _)
      | (with_reducible exact ih3 _ _ _ _ _ _)
      | (with_reducible exact ih4 _ _ _ _ _)
      | (with_reducible exact spec_Alu.mono _ _ _ _)
      | (with_reducible exact LeO.refl _)
      | (with_reducible exact LeO.none _)
      | (with_reducible refine LeO.ite ?_ ?_)
      | (with_reducible refine LeO.bind ?_ (fun _ => ?_))
      | exact ih0 _ _ _
      | exact ih1 _ _ _ _ _ _
      | exact ih2 _ _ _ _ _ _
      | exact ih3 _ _ _ _ _ _
      | exact ih4 _ _ _ _ _
      | exact spec_Alu.mono _ _ _ _
      | exact LeO.none _
      | refine LeO.ite ?_ ?_
      | refine LeO.bind ?_ (fun _ => ?_)
theorem laws_FnAlu.mono : ∀ a0 k, LeO (laws_FnAlu.f k a0) (laws_FnAlu.f (k + 1) a0) := by
  intro a0 k
  obtain ⟨ih0, ih1, ih2, ih3, ih4⟩ := laws_FnAlu.mono_l k
  unfold laws_FnAlu.f
  repeat' first
      | (with_reducible exact ih0 _ _ _)
      | (with_reducible exact ih1 _ _ _ _ _ _)
      | (with_reducible exact ih2 _ _ _ _ _ _)
      | (with_reducible exact ih3 _ _ _ _ _ _)
      | (with_reducible exact ih4 _ _ _ _ _)
      | (with_reducible exact spec_Alu.mono _ _ _ _)
      | (with_reducible exact LeO.refl _)
      | (with_reducible exact LeO.none _)
      | (with_reducible refine LeO.ite ?_ ?_)
      | (with_reducible refine LeO.bind ?_ (fun _ => ?_))
      | exact ih0 _ _ _
      | exact ih1 _ _ _ _ _ _
      | exact ih2 _ _ _ _ _ _
      | exact ih3 _ _ _ _ _ _
      | exact ih4 _ _ _ _ _
      | exact spec_Alu.mono _ _ _ _
      | exact LeO.none _
      | refine LeO.ite ?_ ?_
      | refine LeO.bind ?_ (fun _ => ?_)
set_option maxHeartbeats 8000000 in
set_option maxRecDepth 100000 in
theorem laws_FnAlu.calls (k : Nat) (A0 : Option Addr) (c0 : Nat) (l0 : List Int) (r : Bool) (w : World) (hr0 : Kd.C (Kd.int .u8) w A0 l0.length l0) (hc0 : l0.length ≤ c0) (h : laws_FnAlu.f k l0 = some r) :
    Calls Try.prog 11 #[.slice A0 l0.length c0] w fun e w' => e = .returned (.bool r) ∧ Below w.heap.size w w' := by
  have HR0 := Aside0.mk hr0
  have HC0 := Aside0.mk hc0
  clear hr0 hc0
  have HB := Aside0.mk (Below.refl w.heap.size w)
  have H : (if (l0.length : Int) > 1048576 then (some true) else ((spec_DrawAlu.f l0).bind fun bt202 => ((spec_Alu.f k bt202.1 bt202.2.1 bt202.2.2).bind fun bt205 => ((impl_Alu.f bt202.1 bt202.2.1 bt202.2.2).bind fun bt207 => (if (bt207.2 != bt205.2) = true then (laws_FnAlu.j0 k bt202.2.1 bt202.2.2 true) else (laws_FnAlu.j0 k bt202.2.1 bt202.2.2 (bt207.1 != bt205.1))))))) = some r := h
  clear h
  by_cases c2 : (l0.length : Int) > 1048576
  · rw [if_pos c2] at H
    have c2b0 : decide (1048576 < (l0.length : Int)) = true := decide_eq_true c2
    have c2b1 : decide (1048576 < l0.length) = true := decide_eq_true (by omega)
    clear c2
    obtain rfl := Option.some.inj H
    go_enter Try.func11, Try.ntmps11
    go_wp2
    go_ret
    exact ⟨by first | rfl | (simp [errW_none, errW_some] <;> rfl) | (simp [*, errW_none, errW_some] <;> rfl), by repeat (first | (with_reducible first | exact HB.out | apply below_alloc | apply pw_below_drewN | apply below_drew1) | exact HB.out)⟩
  · rw [if_neg c2] at H
    have c2b0 : decide (1048576 < (l0.length : Int)) = false := decide_eq_false c2
    have c2b1 : decide (1048576 < l0.length) = false := decide_eq_false (by omega)
    clear c2
    replace H := Option.bind_eq_some_iff.mp H
    obtain ⟨⟨t202, t203, t204⟩, A30, H⟩ := H
    replace H : ((spec_Alu.f k t202 t203 t204).bind fun bt205 => ((impl_Alu.f t202 t203 t204).bind fun bt207 => (if (bt207.2 != bt205.2) = true then (laws_FnAlu.j0 k t203 t204 true) else (laws_FnAlu.j0 k t203 t204 (bt207.1 != bt205.1))))) = some r := H
    have A3 := Aside0.mk A30
    clear A30
    replace H := Option.bind_eq_some_iff.mp H
    obtain ⟨⟨t205, t206⟩, A40, H⟩ := H
    replace H : ((impl_Alu.f t202 t203 t204).bind fun bt207 => (if (bt207.2 != t206) = true then (laws_FnAlu.j0 k t203 t204 true) else (laws_FnAlu.j0 k t203 t204 (bt207.1 != t205)))) = some r := H
    have A4 := Aside0.mk A40
    clear A40
    replace H := Option.bind_eq_some_iff.mp H
    obtain ⟨⟨t207, t208⟩, A50, H⟩ := H
    replace H : (if (t208 != t206) = true then (laws_FnAlu.j0 k t203 t204 true) else (laws_FnAlu.j0 k t203 t204 (t207 != t205))) = some r := H
    have A5 := Aside0.mk A50
    clear A50
    have HC6 := Aside0.mk H
    clear H
    go_enter Try.func11, Try.ntmps11
    go_upto_region 6 with (first | ((with_reducible refine gate_callee (f := 29) rfl ?_); refine goesL_ (some 38) rfl rfl Try.func29 (by kernel_rfl) rfl #[.slice A0 l0.length c0] rfl (by (try simp only [List.map_toArray, List.map_cons, List.map_nil]); first | done | rfl | (simp only [List.length_drop, List.length_take]; rfl)) ?_; (with_reducible refine (spec_DrawAlu.calls _ _ l0 t202 t203 t204 _ ?side1 ?side2 A3.out).mono ?_); (case side1 => repeat (first | exact HR0.out | (with_reducible refine Kd.C_alloc ?_ _) | (with_reducible refine Kd.C_drewN ?_ _) | (with_reducible refine Kd.C_drew ?_))); (case side2 => exact HC0.out); rintro e w7 ⟨rfl, hb⟩; refine ⟨_, rfl, ?_⟩; have n0_ := Aside0.mk (below_step (by repeat (first | (with_reducible first | exact HB.out | apply below_alloc | apply pw_below_drewN | apply below_drew1) | exact HB.out)) hb); clear HB; have HB := n0_; clear n0_; (try clear hb); (try clear hb2); (try clear hk); (try clear hi)) | ((with_reducible refine gate_callee (f := 27) rfl ?_); refine goesL_ (some 46) rfl rfl Try.func27 (by kernel_rfl) rfl #[.int .i64 t202, .int .i64 t203, .int .i64 t204] rfl (by (try simp only [List.map_toArray, List.map_cons, List.map_nil]); first | done | rfl | (simp only [List.length_drop, List.length_take]; rfl)) ?_; (with_reducible refine (spec_Alu.calls k t202 t203 t204 t205 t206 _ A4.out).mono ?_); rintro e w' ⟨rfl, ⟨nd, rfl⟩⟩; refine ⟨_, rfl, ?_⟩) | ((with_reducible refine gate_callee (f := 28) rfl ?_); refine goesL_ (some 53) rfl rfl Try.func28 (by kernel_rfl) rfl #[.int .i64 t202, .int .i64 t203, .int .i64 t204] rfl (by (try simp only [List.map_toArray, List.map_cons, List.map_nil]); first | done | rfl | (simp only [List.length_drop, List.length_take]; rfl)) ?_; (with_reducible refine (impl_Alu.calls t202 t203 t204 t207 t208 _ A5.out).mono ?_); rintro e w' ⟨rfl, ⟨nd, rfl⟩⟩; refine ⟨_, rfl, ?_⟩))
    (try simp only [Act.put, List.setIfInBounds_toArray, List.set_cons_zero, List.set_cons_succ])
    go_cut [63] (fun v63 wc => ∃ (kq : Nat) (x63_5 : Bool), v63 = .bool x63_5 ∧ Aside0 (laws_FnAlu.j0 kq t203 t204 x63_5 = some r) ∧ Aside0 (kq ≤ k) ∧ Aside0 (Below w.heap.size w wc))
    case first => as_aux_lemma =>
      have H := HC6.out
      clear HC6
      by_cases c8 : (t208 != t206) = true
      · rw [if_pos c8] at H
        have c8b0 : (t208 != t206) = true := c8
        (try (have c8b1 : decide (t208 = t206) = false := by simpa using c8))
        (try (have c8b2 : (t208 == t206) = false := by simpa using c8))
        (try (have c8b3 : ¬ (t208 = t206) := by simpa using c8))
        clear c8
        (first | rw [c8b0] | (simp only [i64_w, i32_w]; rw [c8b0]) | skip)
        have H' := Aside0.mk H
        clear H
        go_wp2
        go_meet
        case rel => exact ⟨_, (true), (by first | rfl | (simp; done) | (simp [*]; done)), H', ⟨by first | omega | exact Nat.le_refl _⟩, ⟨by repeat (first | (with_reducible first | exact HB.out | apply below_alloc | apply pw_below_drewN | apply below_drew1) | exact HB.out)⟩⟩
      · rw [if_neg c8] at H
        have c8b0 : (t208 != t206) = false := by simpa using c8
        (try (have c8b1 : decide (t208 = t206) = true := by simpa using c8))
        (try (have c8b2 : (t208 == t206) = true := by simpa using c8))
        clear c8
        (first | rw [c8b0] | (simp only [i64_w, i32_w]; rw [c8b0]) | skip)
        have H' := Aside0.mk H
        clear H
        go_wp2
        go_meet
        case rel => exact ⟨_, ((t207 != t205)), (by first | rfl | (simp; done) | (simp [*]; done)), H', ⟨by first | omega | exact Nat.le_refl _⟩, ⟨by repeat (first | (with_reducible first | exact HB.out | apply below_alloc | apply pw_below_drewN | apply below_drew1) | exact HB.out)⟩⟩
    case rest => as_aux_lemma =>
      clear HC6
      try clear c1
      try clear c2
      try clear c2b0
      try clear c2b1
      try clear p2
      try clear c8
      try clear c8b0
      try clear c8b1
      try clear c8b2
      obtain ⟨kq, x63_5, rfl, HA, HJ5, HB⟩ := hcut
      cases kq with
      | zero => exact absurd HA.out (by simp [laws_FnAlu.j0])
      | succ kj5 =>
        have H := HA.out
        clear HA
        simp only [laws_FnAlu.j0] at H
        by_cases c9 : x63_5 = true
        · subst c9
          have H1 : (some false) = some r := by rw [if_pos rfl] at H; exact H
          clear H
          have H := H1
          clear H1
          obtain rfl := Option.some.inj H
          go_wp2
          go_ret
          exact ⟨by first | rfl | (simp [errW_none, errW_some] <;> rfl) | (simp [*, errW_none, errW_some] <;> rfl), by repeat (first | (with_reducible first | exact HB.out | apply below_alloc | apply pw_below_drewN | apply below_drew1) | exact HB.out)⟩
        · replace c9 := Bool.eq_false_iff.mpr c9
          subst c9
          have H1 : ((impl_Alu.f 11 t203 t204).bind fun bt209 => ((impl_Alu.f 14 t203 t204).bind fun bt211 => ((impl_Word.f t203).bind fun t213 => ((impl_Word.f t204).bind fun t214 => (if bt209.1 = (Int.tmod (wrap64 ((wrap64 ((Int.tmod t213 65536) * (Int.tmod t214 65536))) + (wrap64 ((Int.tmod (wrap64 ((wrap64 ((Int.tmod t213 65536) * (wrap64 (Int.tdiv t214 65536)))) + (wrap64 ((wrap64 (Int.tdiv t213 65536)) * (Int.tmod t214 65536))))) 65536) * 65536)))) 4294967296) then (laws_FnAlu.j1 kj5 t203 t204 bt211.1 t213 t214 (bt211.1 != (wrap64 ((wrap64 ((wrap64 ((wrap64 (Int.tdiv t213 65536)) * (wrap64 (Int.tdiv t214 65536)))) + (wrap64 (Int.tdiv (wrap64 ((wrap64 ((Int.tmod t213 65536) * (wrap64 (Int.tdiv t214 65536)))) + (wrap64 ((wrap64 (Int.tdiv t213 65536)) * (Int.tmod t214 65536))))) 65536)))) + (wrap64 (Int.tdiv (wrap64 ((wrap64 ((Int.tmod t213 65536) * (Int.tmod t214 65536))) + (wrap64 ((Int.tmod (wrap64 ((wrap64 ((Int.tmod t213 65536) * (wrap64 (Int.tdiv t214 65536)))) + (wrap64 ((wrap64 (Int.tdiv t213 65536)) * (Int.tmod t214 65536))))) 65536) * 65536)))) 4294967296)))))) else (laws_FnAlu.j1 kj5 t203 t204 bt211.1 t213 t214 true)))))) = some r := by rw [if_neg (show ¬ (false = true) by decide)] at H; exact H
          clear H
          have H := H1
          clear H1
          replace H := Option.bind_eq_some_iff.mp H
          obtain ⟨⟨t209, t210⟩, A100, H⟩ := H
          replace H : ((impl_Alu.f 14 t203 t204).bind fun bt211 => ((impl_Word.f t203).bind fun t213 => ((impl_Word.f t204).bind fun t214 => (if t209 = (Int.tmod (wrap64 ((wrap64 ((Int.tmod t213 65536) * (Int.tmod t214 65536))) + (wrap64 ((Int.tmod (wrap64 ((wrap64 ((Int.tmod t213 65536) * (wrap64 (Int.tdiv t214 65536)))) + (wrap64 ((wrap64 (Int.tdiv t213 65536)) * (Int.tmod t214 65536))))) 65536) * 65536)))) 4294967296) then (laws_FnAlu.j1 kj5 t203 t204 bt211.1 t213 t214 (bt211.1 != (wrap64 ((wrap64 ((wrap64 ((wrap64 (Int.tdiv t213 65536)) * (wrap64 (Int.tdiv t214 65536)))) + (wrap64 (Int.tdiv (wrap64 ((wrap64 ((Int.tmod t213 65536) * (wrap64 (Int.tdiv t214 65536)))) + (wrap64 ((wrap64 (Int.tdiv t213 65536)) * (Int.tmod t214 65536))))) 65536)))) + (wrap64 (Int.tdiv (wrap64 ((wrap64 ((Int.tmod t213 65536) * (Int.tmod t214 65536))) + (wrap64 ((Int.tmod (wrap64 ((wrap64 ((Int.tmod t213 65536) * (wrap64 (Int.tdiv t214 65536)))) + (wrap64 ((wrap64 (Int.tdiv t213 65536)) * (Int.tmod t214 65536))))) 65536) * 65536)))) 4294967296)))))) else (laws_FnAlu.j1 kj5 t203 t204 bt211.1 t213 t214 true))))) = some r := H
          have A10 := Aside0.mk A100
          clear A100
          replace H := Option.bind_eq_some_iff.mp H
          obtain ⟨⟨t211, t212⟩, A110, H⟩ := H
          replace H : ((impl_Word.f t203).bind fun t213 => ((impl_Word.f t204).bind fun t214 => (if t209 = (Int.tmod (wrap64 ((wrap64 ((Int.tmod t213 65536) * (Int.tmod t214 65536))) + (wrap64 ((Int.tmod (wrap64 ((wrap64 ((Int.tmod t213 65536) * (wrap64 (Int.tdiv t214 65536)))) + (wrap64 ((wrap64 (Int.tdiv t213 65536)) * (Int.tmod t214 65536))))) 65536) * 65536)))) 4294967296) then (laws_FnAlu.j1 kj5 t203 t204 t211 t213 t214 (t211 != (wrap64 ((wrap64 ((wrap64 ((wrap64 (Int.tdiv t213 65536)) * (wrap64 (Int.tdiv t214 65536)))) + (wrap64 (Int.tdiv (wrap64 ((wrap64 ((Int.tmod t213 65536) * (wrap64 (Int.tdiv t214 65536)))) + (wrap64 ((wrap64 (Int.tdiv t213 65536)) * (Int.tmod t214 65536))))) 65536)))) + (wrap64 (Int.tdiv (wrap64 ((wrap64 ((Int.tmod t213 65536) * (Int.tmod t214 65536))) + (wrap64 ((Int.tmod (wrap64 ((wrap64 ((Int.tmod t213 65536) * (wrap64 (Int.tdiv t214 65536)))) + (wrap64 ((wrap64 (Int.tdiv t213 65536)) * (Int.tmod t214 65536))))) 65536) * 65536)))) 4294967296)))))) else (laws_FnAlu.j1 kj5 t203 t204 t211 t213 t214 true)))) = some r := H
          have A11 := Aside0.mk A110
          clear A110
          replace H := Option.bind_eq_some_iff.mp H
          obtain ⟨t213, A120, H⟩ := H
          replace H : ((impl_Word.f t204).bind fun t214 => (if t209 = (Int.tmod (wrap64 ((wrap64 ((Int.tmod t213 65536) * (Int.tmod t214 65536))) + (wrap64 ((Int.tmod (wrap64 ((wrap64 ((Int.tmod t213 65536) * (wrap64 (Int.tdiv t214 65536)))) + (wrap64 ((wrap64 (Int.tdiv t213 65536)) * (Int.tmod t214 65536))))) 65536) * 65536)))) 4294967296) then (laws_FnAlu.j1 kj5 t203 t204 t211 t213 t214 (t211 != (wrap64 ((wrap64 ((wrap64 ((wrap64 (Int.tdiv t213 65536)) * (wrap64 (Int.tdiv t214 65536)))) + (wrap64 (Int.tdiv (wrap64 ((wrap64 ((Int.tmod t213 65536) * (wrap64 (Int.tdiv t214 65536)))) + (wrap64 ((wrap64 (Int.tdiv t213 65536)) * (Int.tmod t214 65536))))) 65536)))) + (wrap64 (Int.tdiv (wrap64 ((wrap64 ((Int.tmod t213 65536) * (Int.tmod t214 65536))) + (wrap64 ((Int.tmod (wrap64 ((wrap64 ((Int.tmod t213 65536) * (wrap64 (Int.tdiv t214 65536)))) + (wrap64 ((wrap64 (Int.tdiv t213 65536)) * (Int.tmod t214 65536))))) 65536) * 65536)))) 4294967296)))))) else (laws_FnAlu.j1 kj5 t203 t204 t211 t213 t214 true))) = some r := H
          have A12 := Aside0.mk A120
          clear A120
          replace H := Option.bind_eq_some_iff.mp H
          obtain ⟨t214, A130, H⟩ := H
          replace H : (if t209 = (Int.tmod (wrap64 ((wrap64 ((Int.tmod t213 65536) * (Int.tmod t214 65536))) + (wrap64 ((Int.tmod (wrap64 ((wrap64 ((Int.tmod t213 65536) * (wrap64 (Int.tdiv t214 65536)))) + (wrap64 ((wrap64 (Int.tdiv t213 65536)) * (Int.tmod t214 65536))))) 65536) * 65536)))) 4294967296) then (laws_FnAlu.j1 kj5 t203 t204 t211 t213 t214 (t211 != (wrap64 ((wrap64 ((wrap64 ((wrap64 (Int.tdiv t213 65536)) * (wrap64 (Int.tdiv t214 65536)))) + (wrap64 (Int.tdiv (wrap64 ((wrap64 ((Int.tmod t213 65536) * (wrap64 (Int.tdiv t214 65536)))) + (wrap64 ((wrap64 (Int.tdiv t213 65536)) * (Int.tmod t214 65536))))) 65536)))) + (wrap64 (Int.tdiv (wrap64 ((wrap64 ((Int.tmod t213 65536) * (Int.tmod t214 65536))) + (wrap64 ((Int.tmod (wrap64 ((wrap64 ((Int.tmod t213 65536) * (wrap64 (Int.tdiv t214 65536)))) + (wrap64 ((wrap64 (Int.tdiv t213 65536)) * (Int.tmod t214 65536))))) 65536) * 65536)))) 4294967296)))))) else (laws_FnAlu.j1 kj5 t203 t204 t211 t213 t214 true)) = some r := H
          have A13 := Aside0.mk A130
          clear A130
          have HC14 := Aside0.mk H
          clear H
          go_upto_region 14 with (first | ((with_reducible refine gate_callee (f := 28) rfl ?_); refine goesL_ (some 67) rfl rfl Try.func28 (by kernel_rfl) rfl #[.int .i64 11, .int .i64 t203, .int .i64 t204] rfl (by (try simp only [List.map_toArray, List.map_cons, List.map_nil]); first | done | rfl | (simp only [List.length_drop, List.length_take]; rfl)) ?_; (with_reducible refine (impl_Alu.calls 11 t203 t204 t209 t210 _ A10.out).mono ?_); rintro e w' ⟨rfl, ⟨nd, rfl⟩⟩; refine ⟨_, rfl, ?_⟩) | ((with_reducible refine gate_callee (f := 28) rfl ?_); refine goesL_ (some 73) rfl rfl Try.func28 (by kernel_rfl) rfl #[.int .i64 14, .int .i64 t203, .int .i64 t204] rfl (by (try simp only [List.map_toArray, List.map_cons, List.map_nil]); first | done | rfl | (simp only [List.length_drop, List.length_take]; rfl)) ?_; (with_reducible refine (impl_Alu.calls 14 t203 t204 t211 t212 _ A11.out).mono ?_); rintro e w' ⟨rfl, ⟨nd, rfl⟩⟩; refine ⟨_, rfl, ?_⟩) | ((with_reducible refine gate_callee (f := 16) rfl ?_); refine goesL_ (some 77) rfl rfl Try.func16 (by kernel_rfl) rfl #[.int .i64 t203] rfl (by (try simp only [List.map_toArray, List.map_cons, List.map_nil]); first | done | rfl | (simp only [List.length_drop, List.length_take]; rfl)) ?_; (with_reducible refine (impl_Word.calls t203 t213 _ A12.out).mono ?_); rintro e w' ⟨rfl, ⟨nd, rfl⟩⟩; refine ⟨_, rfl, ?_⟩) | ((with_reducible refine gate_callee (f := 16) rfl ?_); refine goesL_ (some 79) rfl rfl Try.func16 (by kernel_rfl) rfl #[.int .i64 t204] rfl (by (try simp only [List.map_toArray, List.map_cons, List.map_nil]); first | done | rfl | (simp only [List.length_drop, List.length_take]; rfl)) ?_; (with_reducible refine (impl_Word.calls t204 t214 _ A13.out).mono ?_); rintro e w' ⟨rfl, ⟨nd, rfl⟩⟩; refine ⟨_, rfl, ?_⟩))
          (try simp only [Act.put, List.setIfInBounds_toArray, List.set_cons_zero, List.set_cons_succ])
          go_cut [118] (fun v118 wc => ∃ (kq : Nat) (x118_13 : Bool), v118 = .bool x118_13 ∧ Aside0 (laws_FnAlu.j1 kq t203 t204 t211 t213 t214 x118_13 = some r) ∧ Aside0 (kq ≤ kj5) ∧ Aside0 (Below w.heap.size w wc))
          case first => as_aux_lemma =>
            have H := HC14.out
            clear HC14
            by_cases c15 : t209 = (Int.tmod (wrap64 ((wrap64 ((Int.tmod t213 65536) * (Int.tmod t214 65536))) + (wrap64 ((Int.tmod (wrap64 ((wrap64 ((Int.tmod t213 65536) * (wrap64 (Int.tdiv t214 65536)))) + (wrap64 ((wrap64 (Int.tdiv t213 65536)) * (Int.tmod t214 65536))))) 65536) * 65536)))) 4294967296)
            · rw [if_pos c15] at H
              have c15b0 : (t209 == (Int.tmod (wrap64 ((wrap64 ((Int.tmod t213 65536) * (Int.tmod t214 65536))) + (wrap64 ((Int.tmod (wrap64 ((wrap64 ((Int.tmod t213 65536) * (wrap64 (Int.tdiv t214 65536)))) + (wrap64 ((wrap64 (Int.tdiv t213 65536)) * (Int.tmod t214 65536))))) 65536) * 65536)))) 4294967296)) = true := beq_iff_eq.mpr c15
              have c15b1 : (t209 != (Int.tmod (wrap64 ((wrap64 ((Int.tmod t213 65536) * (Int.tmod t214 65536))) + (wrap64 ((Int.tmod (wrap64 ((wrap64 ((Int.tmod t213 65536) * (wrap64 (Int.tdiv t214 65536)))) + (wrap64 ((wrap64 (Int.tdiv t213 65536)) * (Int.tmod t214 65536))))) 65536) * 65536)))) 4294967296)) = false := bne_eq_false_iff_eq.mpr c15
              clear c15
              (first | rw [c15b0] | (simp only [i64_w, i32_w]; rw [c15b0]) | skip)
              have H' := Aside0.mk H
              clear H
              go_wp2
              go_meet
              case rel => exact ⟨_, ((t211 != (wrap64 ((wrap64 ((wrap64 ((wrap64 (Int.tdiv t213 65536)) * (wrap64 (Int.tdiv t214 65536)))) + (wrap64 (Int.tdiv (wrap64 ((wrap64 ((Int.tmod t213 65536) * (wrap64 (Int.tdiv t214 65536)))) + (wrap64 ((wrap64 (Int.tdiv t213 65536)) * (Int.tmod t214 65536))))) 65536)))) + (wrap64 (Int.tdiv (wrap64 ((wrap64 ((Int.tmod t213 65536) * (Int.tmod t214 65536))) + (wrap64 ((Int.tmod (wrap64 ((wrap64 ((Int.tmod t213 65536) * (wrap64 (Int.tdiv t214 65536)))) + (wrap64 ((wrap64 (Int.tdiv t213 65536)) * (Int.tmod t214 65536))))) 65536) * 65536)))) 4294967296)))))), (by first | rfl | (simp; done) | (simp [*]; done)), H', ⟨by have := HJ5.out; first | omega | exact Nat.le_refl _⟩, ⟨by repeat (first | (with_reducible first | exact HB.out | apply below_alloc | apply pw_below_drewN | apply below_drew1) | exact HB.out)⟩⟩
            · rw [if_neg c15] at H
              have c15b0 : (t209 == (Int.tmod (wrap64 ((wrap64 ((Int.tmod t213 65536) * (Int.tmod t214 65536))) + (wrap64 ((Int.tmod (wrap64 ((wrap64 ((Int.tmod t213 65536) * (wrap64 (Int.tdiv t214 65536)))) + (wrap64 ((wrap64 (Int.tdiv t213 65536)) * (Int.tmod t214 65536))))) 65536) * 65536)))) 4294967296)) = false := beq_eq_false_iff_ne.mpr c15
              have c15b1 : (t209 != (Int.tmod (wrap64 ((wrap64 ((Int.tmod t213 65536) * (Int.tmod t214 65536))) + (wrap64 ((Int.tmod (wrap64 ((wrap64 ((Int.tmod t213 65536) * (wrap64 (Int.tdiv t214 65536)))) + (wrap64 ((wrap64 (Int.tdiv t213 65536)) * (Int.tmod t214 65536))))) 65536) * 65536)))) 4294967296)) = true := bne_iff_ne.mpr c15
              (first | rw [c15b0] | (simp only [i64_w, i32_w]; rw [c15b0]) | skip)
              have H' := Aside0.mk H
              clear H
              go_wp2
              go_meet
              case rel => exact ⟨_, (true), (by first | rfl | (simp; done) | (simp [*]; done)), H', ⟨by have := HJ5.out; first | omega | exact Nat.le_refl _⟩, ⟨by repeat (first | (with_reducible first | exact HB.out | apply below_alloc | apply pw_below_drewN | apply below_drew1) | exact HB.out)⟩⟩
          case rest => as_aux_lemma =>
            clear HC14
            try clear c1
            try clear c2
            try clear c2b0
            try clear c2b1
            try clear p2
            try clear p6
            try clear c8
            try clear c8b0
            try clear c8b1
            try clear c8b2
            try clear c9
            try clear c11
            try clear c15
            try clear c15b0
            try clear c15b1
            try clear p2
            obtain ⟨kq, x118_13, rfl, HA, HJ13, HB⟩ := hcut
            cases kq with
            | zero => exact absurd HA.out (by simp [laws_FnAlu.j1])
            | succ kj13 =>
              have H := HA.out
              clear HA
              simp only [laws_FnAlu.j1] at H
              by_cases c16 : x118_13 = true
              · subst c16
                have H1 : (some false) = some r := by rw [if_pos rfl] at H; exact H
                clear H
                have H := H1
                clear H1
                obtain rfl := Option.some.inj H
                go_wp2
                go_ret
                exact ⟨by first | rfl | (simp [errW_none, errW_some] <;> rfl) | (simp [*, errW_none, errW_some] <;> rfl), by repeat (first | (with_reducible first | exact HB.out | apply below_alloc | apply pw_below_drewN | apply below_drew1) | exact HB.out)⟩
              · replace c16 := Bool.eq_false_iff.mpr c16
                subst c16
                have H1 : (if t213 ≥ 2147483648 then (laws_FnAlu.j2 kj13 t203 t204 t213 t214 (wrap64 (t211 - t214)) (wrap64 (t211 - t214))) else (laws_FnAlu.j2 kj13 t203 t204 t213 t214 t211 t211)) = some r := by rw [if_neg (show ¬ (false = true) by decide)] at H; exact H
                clear H
                have H := H1
                clear H1
                have HC17 := Aside0.mk H
                clear H
                go_upto_if 122 with (fail)
                go_cut [18, 19] (fun v18 v19 wc => ∃ (kq : Nat) (x18_16 : Int) (x19_16 : Int), v18 = .int .i64 x18_16 ∧ v19 = .int .i64 x19_16 ∧ Aside0 (laws_FnAlu.j2 kq t203 t204 t213 t214 x18_16 x19_16 = some r) ∧ Aside0 (kq ≤ kj13) ∧ Aside0 (Below w.heap.size w wc))
                case first => as_aux_lemma =>
                  have H := HC17.out
                  clear HC17
                  by_cases c18 : t213 ≥ 2147483648
                  · rw [if_pos c18] at H
                    have c18b0 : decide (2147483648 ≤ t213) = true := decide_eq_true c18
                    clear c18
                    (first | rw [c18b0] | (simp only [i64_w, i32_w]; rw [c18b0]) | skip)
                    have H' := Aside0.mk H
                    clear H
                    go_wp2
                    go_meet
                    case rel => exact ⟨_, (wrap64 (t211 - t214)), (wrap64 (t211 - t214)), (by first | rfl | (simp; done) | (simp [*]; done)), (by first | rfl | (simp; done) | (simp [*]; done)), H', ⟨by have := HJ5.out; have := HJ13.out; first | omega | exact Nat.le_refl _⟩, ⟨by repeat (first | (with_reducible first | exact HB.out | apply below_alloc | apply pw_below_drewN | apply below_drew1) | exact HB.out)⟩⟩
                  · rw [if_neg c18] at H
                    have c18b0 : decide (2147483648 ≤ t213) = false := decide_eq_false c18
                    clear c18
                    (first | rw [c18b0] | (simp only [i64_w, i32_w]; rw [c18b0]) | skip)
                    have H' := Aside0.mk H
                    clear H
                    go_wp2
                    go_meet
                    case rel => exact ⟨_, (t211), (t211), (by first | rfl | (simp; done) | (simp [*]; done)), (by first | rfl | (simp; done) | (simp [*]; done)), H', ⟨by have := HJ5.out; have := HJ13.out; first | omega | exact Nat.le_refl _⟩, ⟨by repeat (first | (with_reducible first | exact HB.out | apply below_alloc | apply pw_below_drewN | apply below_drew1) | exact HB.out)⟩⟩
                case rest => as_aux_lemma =>
                  clear HC17
                  try clear c1
                  try clear c2
                  try clear c2b0
                  try clear c2b1
                  try clear p2
                  try clear p6
                  try clear c8
                  try clear c8b0
                  try clear c8b1
                  try clear c8b2
                  try clear c9
                  try clear c11
                  try clear c15
                  try clear c15b0
                  try clear c15b1
                  try clear c16
                  try clear c18
                  try clear c18b0
                  try clear p2
                  try clear p6
                  obtain ⟨kq, x18_16, x19_16, rfl, rfl, HA, HJ16, HB⟩ := hcut
                  cases kq with
                  | zero => exact absurd HA.out (by simp [laws_FnAlu.j2])
                  | succ kj16 =>
                    have H := HA.out
                    clear HA
                    simp only [laws_FnAlu.j2] at H
                    have HC19 := Aside0.mk H
                    clear H
                    go_upto_if 130 with (fail)
                    go_cut [19] (fun v19 wc => ∃ (kq : Nat) (x19_18 : Int), v19 = .int .i64 x19_18 ∧ Aside0 (laws_FnAlu.j3 kq t203 t204 t213 t214 x18_16 x19_18 = some r) ∧ Aside0 (kq ≤ kj16) ∧ Aside0 (Below w.heap.size w wc))
                    case first => as_aux_lemma =>
                      have H := HC19.out
                      clear HC19
                      by_cases c20 : t214 ≥ 2147483648
                      · rw [if_pos c20] at H
                        have c20b0 : decide (2147483648 ≤ t214) = true := decide_eq_true c20
                        clear c20
                        (first | rw [c20b0] | (simp only [i64_w, i32_w]; rw [c20b0]) | skip)
                        have H' := Aside0.mk H
                        clear H
                        go_wp2
                        go_meet
                        case rel => exact ⟨_, (wrap64 (x19_16 - t213)), (by first | rfl | (simp; done) | (simp [*]; done)), H', ⟨by have := HJ5.out; have := HJ13.out; have := HJ16.out; first | omega | exact Nat.le_refl _⟩, ⟨by repeat (first | (with_reducible first | exact HB.out | apply below_alloc | apply pw_below_drewN | apply below_drew1) | exact HB.out)⟩⟩
                      · rw [if_neg c20] at H
                        have c20b0 : decide (2147483648 ≤ t214) = false := decide_eq_false c20
                        clear c20
                        (first | rw [c20b0] | (simp only [i64_w, i32_w]; rw [c20b0]) | skip)
                        have H' := Aside0.mk H
                        clear H
                        go_wp2
                        go_meet
                        case rel => exact ⟨_, (x19_16), (by first | rfl | (simp; done) | (simp [*]; done)), H', ⟨by have := HJ5.out; have := HJ13.out; have := HJ16.out; first | omega | exact Nat.le_refl _⟩, ⟨by repeat (first | (with_reducible first | exact HB.out | apply below_alloc | apply pw_below_drewN | apply below_drew1) | exact HB.out)⟩⟩
                    case rest => as_aux_lemma =>
                      clear HC19
                      try clear c1
                      try clear c2
                      try clear c2b0
                      try clear c2b1
                      try clear p2
                      try clear p6
                      try clear c8
                      try clear c8b0
                      try clear c8b1
                      try clear c8b2
                      try clear c9
                      try clear c11
                      try clear c15
                      try clear c15b0
                      try clear c15b1
                      try clear c16
                      try clear c18
                      try clear c18b0
                      try clear c20
                      try clear c20b0
                      try clear p2
                      try clear p6
                      obtain ⟨kq, x19_18, rfl, HA, HJ18, HB⟩ := hcut
                      cases kq with
                      | zero => exact absurd HA.out (by simp [laws_FnAlu.j3])
                      | succ kj18 =>
                        have H := HA.out
                        clear HA
                        simp only [laws_FnAlu.j3] at H
                        replace H := Option.bind_eq_some_iff.mp H
                        obtain ⟨⟨t215, t216⟩, A210, H⟩ := H
                        replace H : ((impl_Alu.f 13 t203 t204).bind fun bt217 => ((impl_Word.f x19_18).bind fun t219 => (if t215 = t219 then ((impl_Word.f x18_16).bind fun t220 => (laws_FnAlu.j4 kj18 t203 t204 t213 t214 (bt217.1 != t220))) else (laws_FnAlu.j4 kj18 t203 t204 t213 t214 true)))) = some r := H
                        have A21 := Aside0.mk A210
                        clear A210
                        replace H := Option.bind_eq_some_iff.mp H
                        obtain ⟨⟨t217, t218⟩, A220, H⟩ := H
                        replace H : ((impl_Word.f x19_18).bind fun t219 => (if t215 = t219 then ((impl_Word.f x18_16).bind fun t220 => (laws_FnAlu.j4 kj18 t203 t204 t213 t214 (t217 != t220))) else (laws_FnAlu.j4 kj18 t203 t204 t213 t214 true))) = some r := H
                        have A22 := Aside0.mk A220
                        clear A220
                        have HC23 := Aside0.mk H
                        clear H
                        go_upto_region 25 with (first | ((with_reducible refine gate_callee (f := 28) rfl ?_); refine goesL_ (some 137) rfl rfl Try.func28 (by kernel_rfl) rfl #[.int .i64 12, .int .i64 t203, .int .i64 t204] rfl (by (try simp only [List.map_toArray, List.map_cons, List.map_nil]); first | done | rfl | (simp only [List.length_drop, List.length_take]; rfl)) ?_; (with_reducible refine (impl_Alu.calls 12 t203 t204 t215 t216 _ A21.out).mono ?_); rintro e w' ⟨rfl, ⟨nd, rfl⟩⟩; refine ⟨_, rfl, ?_⟩) | ((with_reducible refine gate_callee (f := 28) rfl ?_); refine goesL_ (some 143) rfl rfl Try.func28 (by kernel_rfl) rfl #[.int .i64 13, .int .i64 t203, .int .i64 t204] rfl (by (try simp only [List.map_toArray, List.map_cons, List.map_nil]); first | done | rfl | (simp only [List.length_drop, List.length_take]; rfl)) ?_; (with_reducible refine (impl_Alu.calls 13 t203 t204 t217 t218 _ A22.out).mono ?_); rintro e w' ⟨rfl, ⟨nd, rfl⟩⟩; refine ⟨_, rfl, ?_⟩))
                        (try simp only [Act.put, List.setIfInBounds_toArray, List.set_cons_zero, List.set_cons_succ])
                        go_cut [155] (fun v155 wc => ∃ (kq : Nat) (x155_22 : Bool), v155 = .bool x155_22 ∧ Aside0 (laws_FnAlu.j4 kq t203 t204 t213 t214 x155_22 = some r) ∧ Aside0 (kq ≤ kj18) ∧ Aside0 (Below w.heap.size w wc))
                        case first => as_aux_lemma =>
                          have H := HC23.out
                          clear HC23
                          replace H := Option.bind_eq_some_iff.mp H
                          obtain ⟨t219, A240, H⟩ := H
                          replace H : (if t215 = t219 then ((impl_Word.f x18_16).bind fun t220 => (laws_FnAlu.j4 kj18 t203 t204 t213 t214 (t217 != t220))) else (laws_FnAlu.j4 kj18 t203 t204 t213 t214 true)) = some r := H
                          have A24 := Aside0.mk A240
                          clear A240
                          by_cases c25 : t215 = t219
                          · rw [if_pos c25] at H
                            have c25b0 : (t215 == t219) = true := beq_iff_eq.mpr c25
                            have c25b1 : (t215 != t219) = false := bne_eq_false_iff_eq.mpr c25
                            clear c25
                            (first | rw [c25b0] | (simp only [i64_w, i32_w]; rw [c25b0]) | skip)
                            replace H := Option.bind_eq_some_iff.mp H
                            obtain ⟨t220, A260, H⟩ := H
                            replace H : (laws_FnAlu.j4 kj18 t203 t204 t213 t214 (t217 != t220)) = some r := H
                            have A26 := Aside0.mk A260
                            clear A260
                            have H' := Aside0.mk H
                            clear H
                            go_wp2_with (first | ((with_reducible refine gate_callee (f := 16) rfl ?_); refine goesL_ (some 148) rfl rfl Try.func16 (by kernel_rfl) rfl #[.int .i64 x19_18] rfl (by (try simp only [List.map_toArray, List.map_cons, List.map_nil]); first | done | rfl | (simp only [List.length_drop, List.length_take]; rfl)) ?_; (with_reducible refine (impl_Word.calls x19_18 t219 _ A24.out).mono ?_); rintro e w' ⟨rfl, ⟨nd, rfl⟩⟩; refine ⟨_, rfl, ?_⟩) | (go_at_call 16; (with_reducible refine (impl_Word.calls x18_16 t220 _ A26.out).mono ?_); rintro e w' ⟨rfl, ⟨nd, rfl⟩⟩))
                            go_meet
                            case rel => exact ⟨_, ((t217 != t220)), (by first | rfl | (simp; done) | (simp [*]; done)), H', ⟨by have := HJ5.out; have := HJ13.out; have := HJ16.out; have := HJ18.out; first | omega | exact Nat.le_refl _⟩, ⟨by repeat (first | (with_reducible first | exact HB.out | apply below_alloc | apply pw_below_drewN | apply below_drew1) | exact HB.out)⟩⟩
                          · rw [if_neg c25] at H
                            have c25b0 : (t215 == t219) = false := beq_eq_false_iff_ne.mpr c25
                            have c25b1 : (t215 != t219) = true := bne_iff_ne.mpr c25
                            (first | rw [c25b0] | (simp only [i64_w, i32_w]; rw [c25b0]) | skip)
                            have H' := Aside0.mk H
                            clear H
                            go_wp2_with (first | ((with_reducible refine gate_callee (f := 16) rfl ?_); refine goesL_ (some 148) rfl rfl Try.func16 (by kernel_rfl) rfl #[.int .i64 x19_18] rfl (by (try simp only [List.map_toArray, List.map_cons, List.map_nil]); first | done | rfl | (simp only [List.length_drop, List.length_take]; rfl)) ?_; (with_reducible refine (impl_Word.calls x19_18 t219 _ A24.out).mono ?_); rintro e w' ⟨rfl, ⟨nd, rfl⟩⟩; refine ⟨_, rfl, ?_⟩))
                            go_meet
                            case rel => exact ⟨_, (true), (by first | rfl | (simp; done) | (simp [*]; done)), H', ⟨by have := HJ5.out; have := HJ13.out; have := HJ16.out; have := HJ18.out; first | omega | exact Nat.le_refl _⟩, ⟨by repeat (first | (with_reducible first | exact HB.out | apply below_alloc | apply pw_below_drewN | apply below_drew1) | exact HB.out)⟩⟩
                        case rest => as_aux_lemma =>
                          clear HC23
                          try clear c1
                          try clear c2
                          try clear c2b0
                          try clear c2b1
                          try clear p2
                          try clear p6
                          try clear c8
                          try clear c8b0
                          try clear c8b1
                          try clear c8b2
                          try clear c9
                          try clear c11
                          try clear c15
                          try clear c15b0
                          try clear c15b1
                          try clear c16
                          try clear c18
                          try clear c18b0
                          try clear c20
                          try clear c20b0
                          try clear c25
                          try clear c25b0
                          try clear c25b1
                          try clear p2
                          try clear p6
                          obtain ⟨kq, x155_22, rfl, HA, HJ22, HB⟩ := hcut
                          cases kq with
                          | zero => exact absurd HA.out (by simp [laws_FnAlu.j4])
                          | succ kj22 =>
                            have H := HA.out
                            clear HA
                            simp only [laws_FnAlu.j4] at H
                            by_cases c27 : x155_22 = true
                            · subst c27
                              have H1 : (some false) = some r := by rw [if_pos rfl] at H; exact H
                              clear H
                              have H := H1
                              clear H1
                              obtain rfl := Option.some.inj H
                              go_wp2
                              go_ret
                              exact ⟨by first | rfl | (simp [errW_none, errW_some] <;> rfl) | (simp [*, errW_none, errW_some] <;> rfl), by repeat (first | (with_reducible first | exact HB.out | apply below_alloc | apply pw_below_drewN | apply below_drew1) | exact HB.out)⟩
                            · replace c27 := Bool.eq_false_iff.mpr c27
                              subst c27
                              have H1 : ((impl_Alu.f 16 t203 t204).bind fun bt221 => ((impl_Alu.f 18 t203 t204).bind fun bt223 => ((impl_Alu.f 15 t203 t204).bind fun bt225 => ((impl_Alu.f 17 t203 t204).bind fun bt227 => (if t214 = 0 then (if bt221.1 = 4294967295 then (if bt225.1 = bt221.1 then (if bt223.1 = t213 then (some (bt227.1 == t213)) else (some false)) else (some false)) else (some false)) else ((impl_Signed.f bt225.1).bind fun t229 => ((impl_Signed.f t204).bind fun t230 => ((impl_Signed.f bt227.1).bind fun t231 => (if (wrap64 ((wrap64 (bt221.1 * t214)) + bt223.1)) = t213 then (if bt223.1 < t214 then ((impl_Word.f (wrap64 ((wrap64 (t229 * t230)) + t231))).bind fun t232 => (some (t232 == t213))) else (some false)) else (some false)))))))))) = some r := by rw [if_neg (show ¬ (false = true) by decide)] at H; exact H
                              clear H
                              have H := H1
                              clear H1
                              replace H := Option.bind_eq_some_iff.mp H
                              obtain ⟨⟨t221, t222⟩, A280, H⟩ := H
                              replace H : ((impl_Alu.f 18 t203 t204).bind fun bt223 => ((impl_Alu.f 15 t203 t204).bind fun bt225 => ((impl_Alu.f 17 t203 t204).bind fun bt227 => (if t214 = 0 then (if t221 = 4294967295 then (if bt225.1 = t221 then (if bt223.1 = t213 then (some (bt227.1 == t213)) else (some false)) else (some false)) else (some false)) else ((impl_Signed.f bt225.1).bind fun t229 => ((impl_Signed.f t204).bind fun t230 => ((impl_Signed.f bt227.1).bind fun t231 => (if (wrap64 ((wrap64 (t221 * t214)) + bt223.1)) = t213 then (if bt223.1 < t214 then ((impl_Word.f (wrap64 ((wrap64 (t229 * t230)) + t231))).bind fun t232 => (some (t232 == t213))) else (some false)) else (some false))))))))) = some r := H
                              have A28 := Aside0.mk A280
                              clear A280
                              replace H := Option.bind_eq_some_iff.mp H
                              obtain ⟨⟨t223, t224⟩, A290, H⟩ := H
                              replace H : ((impl_Alu.f 15 t203 t204).bind fun bt225 => ((impl_Alu.f 17 t203 t204).bind fun bt227 => (if t214 = 0 then (if t221 = 4294967295 then (if bt225.1 = t221 then (if t223 = t213 then (some (bt227.1 == t213)) else (some false)) else (some false)) else (some false)) else ((impl_Signed.f bt225.1).bind fun t229 => ((impl_Signed.f t204).bind fun t230 => ((impl_Signed.f bt227.1).bind fun t231 => (if (wrap64 ((wrap64 (t221 * t214)) + t223)) = t213 then (if t223 < t214 then ((impl_Word.f (wrap64 ((wrap64 (t229 * t230)) + t231))).bind fun t232 => (some (t232 == t213))) else (some false)) else (some false)))))))) = some r := H
                              have A29 := Aside0.mk A290
                              clear A290
                              replace H := Option.bind_eq_some_iff.mp H
                              obtain ⟨⟨t225, t226⟩, A300, H⟩ := H
                              replace H : ((impl_Alu.f 17 t203 t204).bind fun bt227 => (if t214 = 0 then (if t221 = 4294967295 then (if t225 = t221 then (if t223 = t213 then (some (bt227.1 == t213)) else (some false)) else (some false)) else (some false)) else ((impl_Signed.f t225).bind fun t229 => ((impl_Signed.f t204).bind fun t230 => ((impl_Signed.f bt227.1).bind fun t231 => (if (wrap64 ((wrap64 (t221 * t214)) + t223)) = t213 then (if t223 < t214 then ((impl_Word.f (wrap64 ((wrap64 (t229 * t230)) + t231))).bind fun t232 => (some (t232 == t213))) else (some false)) else (some false))))))) = some r := H
                              have A30 := Aside0.mk A300
                              clear A300
                              replace H := Option.bind_eq_some_iff.mp H
                              obtain ⟨⟨t227, t228⟩, A310, H⟩ := H
                              replace H : (if t214 = 0 then (if t221 = 4294967295 then (if t225 = t221 then (if t223 = t213 then (some (t227 == t213)) else (some false)) else (some false)) else (some false)) else ((impl_Signed.f t225).bind fun t229 => ((impl_Signed.f t204).bind fun t230 => ((impl_Signed.f t227).bind fun t231 => (if (wrap64 ((wrap64 (t221 * t214)) + t223)) = t213 then (if t223 < t214 then ((impl_Word.f (wrap64 ((wrap64 (t229 * t230)) + t231))).bind fun t232 => (some (t232 == t213))) else (some false)) else (some false)))))) = some r := H
                              have A31 := Aside0.mk A310
                              clear A310
                              by_cases c32 : t214 = 0
                              · rw [if_pos c32] at H
                                have c32b0 : (t214 == 0) = true := beq_iff_eq.mpr c32
                                have c32b1 : (t214 != 0) = false := bne_eq_false_iff_eq.mpr c32
                                clear c32
                                by_cases c33 : t221 = 4294967295
                                · rw [if_pos c33] at H
                                  have c33b0 : (t221 == 4294967295) = true := beq_iff_eq.mpr c33
                                  have c33b1 : (t221 != 4294967295) = false := bne_eq_false_iff_eq.mpr c33
                                  clear c33
                                  by_cases c34 : t225 = t221
                                  · rw [if_pos c34] at H
                                    have c34b0 : (t225 == t221) = true := beq_iff_eq.mpr c34
                                    have c34b1 : (t225 != t221) = false := bne_eq_false_iff_eq.mpr c34
                                    clear c34
                                    by_cases c35 : t223 = t213
                                    · rw [if_pos c35] at H
                                      have c35b0 : (t223 == t213) = true := beq_iff_eq.mpr c35
                                      have c35b1 : (t223 != t213) = false := bne_eq_false_iff_eq.mpr c35
                                      clear c35
                                      obtain rfl := Option.some.inj H
                                      go_wp2_with (first | ((with_reducible refine gate_callee (f := 28) rfl ?_); refine goesL_ (some 159) rfl rfl Try.func28 (by kernel_rfl) rfl #[.int .i64 16, .int .i64 t203, .int .i64 t204] rfl (by (try simp only [List.map_toArray, List.map_cons, List.map_nil]); first | done | rfl | (simp only [List.length_drop, List.length_take]; rfl)) ?_; (with_reducible refine (impl_Alu.calls 16 t203 t204 t221 t222 _ A28.out).mono ?_); rintro e w' ⟨rfl, ⟨nd, rfl⟩⟩; refine ⟨_, rfl, ?_⟩) | ((with_reducible refine gate_callee (f := 28) rfl ?_); refine goesL_ (some 165) rfl rfl Try.func28 (by kernel_rfl) rfl #[.int .i64 18, .int .i64 t203, .int .i64 t204] rfl (by (try simp only [List.map_toArray, List.map_cons, List.map_nil]); first | done | rfl | (simp only [List.length_drop, List.length_take]; rfl)) ?_; (with_reducible refine (impl_Alu.calls 18 t203 t204 t223 t224 _ A29.out).mono ?_); rintro e w' ⟨rfl, ⟨nd, rfl⟩⟩; refine ⟨_, rfl, ?_⟩) | ((with_reducible refine gate_callee (f := 28) rfl ?_); refine goesL_ (some 171) rfl rfl Try.func28 (by kernel_rfl) rfl #[.int .i64 15, .int .i64 t203, .int .i64 t204] rfl (by (try simp only [List.map_toArray, List.map_cons, List.map_nil]); first | done | rfl | (simp only [List.length_drop, List.length_take]; rfl)) ?_; (with_reducible refine (impl_Alu.calls 15 t203 t204 t225 t226 _ A30.out).mono ?_); rintro e w' ⟨rfl, ⟨nd, rfl⟩⟩; refine ⟨_, rfl, ?_⟩) | ((with_reducible refine gate_callee (f := 28) rfl ?_); refine goesL_ (some 177) rfl rfl Try.func28 (by kernel_rfl) rfl #[.int .i64 17, .int .i64 t203, .int .i64 t204] rfl (by (try simp only [List.map_toArray, List.map_cons, List.map_nil]); first | done | rfl | (simp only [List.length_drop, List.length_take]; rfl)) ?_; (with_reducible refine (impl_Alu.calls 17 t203 t204 t227 t228 _ A31.out).mono ?_); rintro e w' ⟨rfl, ⟨nd, rfl⟩⟩; refine ⟨_, rfl, ?_⟩))
                                      go_ret
                                      exact ⟨by first | rfl | (simp [errW_none, errW_some] <;> rfl) | (simp [*, errW_none, errW_some] <;> rfl), by repeat (first | (with_reducible first | exact HB.out | apply below_alloc | apply pw_below_drewN | apply below_drew1) | exact HB.out)⟩
                                    · rw [if_neg c35] at H
                                      have c35b0 : (t223 == t213) = false := beq_eq_false_iff_ne.mpr c35
                                      have c35b1 : (t223 != t213) = true := bne_iff_ne.mpr c35
                                      obtain rfl := Option.some.inj H
                                      go_wp2_with (first | ((with_reducible refine gate_callee (f := 28) rfl ?_); refine goesL_ (some 159) rfl rfl Try.func28 (by kernel_rfl) rfl #[.int .i64 16, .int .i64 t203, .int .i64 t204] rfl (by (try simp only [List.map_toArray, List.map_cons, List.map_nil]); first | done | rfl | (simp only [List.length_drop, List.length_take]; rfl)) ?_; (with_reducible refine (impl_Alu.calls 16 t203 t204 t221 t222 _ A28.out).mono ?_); rintro e w' ⟨rfl, ⟨nd, rfl⟩⟩; refine ⟨_, rfl, ?_⟩) | ((with_reducible refine gate_callee (f := 28) rfl ?_); refine goesL_ (some 165) rfl rfl Try.func28 (by kernel_rfl) rfl #[.int .i64 18, .int .i64 t203, .int .i64 t204] rfl (by (try simp only [List.map_toArray, List.map_cons, List.map_nil]); first | done | rfl | (simp only [List.length_drop, List.length_take]; rfl)) ?_; (with_reducible refine (impl_Alu.calls 18 t203 t204 t223 t224 _ A29.out).mono ?_); rintro e w' ⟨rfl, ⟨nd, rfl⟩⟩; refine ⟨_, rfl, ?_⟩) | ((with_reducible refine gate_callee (f := 28) rfl ?_); refine goesL_ (some 171) rfl rfl Try.func28 (by kernel_rfl) rfl #[.int .i64 15, .int .i64 t203, .int .i64 t204] rfl (by (try simp only [List.map_toArray, List.map_cons, List.map_nil]); first | done | rfl | (simp only [List.length_drop, List.length_take]; rfl)) ?_; (with_reducible refine (impl_Alu.calls 15 t203 t204 t225 t226 _ A30.out).mono ?_); rintro e w' ⟨rfl, ⟨nd, rfl⟩⟩; refine ⟨_, rfl, ?_⟩) | ((with_reducible refine gate_callee (f := 28) rfl ?_); refine goesL_ (some 177) rfl rfl Try.func28 (by kernel_rfl) rfl #[.int .i64 17, .int .i64 t203, .int .i64 t204] rfl (by (try simp only [List.map_toArray, List.map_cons, List.map_nil]); first | done | rfl | (simp only [List.length_drop, List.length_take]; rfl)) ?_; (with_reducible refine (impl_Alu.calls 17 t203 t204 t227 t228 _ A31.out).mono ?_); rintro e w' ⟨rfl, ⟨nd, rfl⟩⟩; refine ⟨_, rfl, ?_⟩))
                                      go_ret
                                      exact ⟨by first | rfl | (simp [errW_none, errW_some] <;> rfl) | (simp [*, errW_none, errW_some] <;> rfl), by repeat (first | (with_reducible first | exact HB.out | apply below_alloc | apply pw_below_drewN | apply below_drew1) | exact HB.out)⟩
                                  · rw [if_neg c34] at H
                                    have c34b0 : (t225 == t221) = false := beq_eq_false_iff_ne.mpr c34
                                    have c34b1 : (t225 != t221) = true := bne_iff_ne.mpr c34
                                    obtain rfl := Option.some.inj H
                                    go_wp2_with (first | ((with_reducible refine gate_callee (f := 28) rfl ?_); refine goesL_ (some 159) rfl rfl Try.func28 (by kernel_rfl) rfl #[.int .i64 16, .int .i64 t203, .int .i64 t204] rfl (by (try simp only [List.map_toArray, List.map_cons, List.map_nil]); first | done | rfl | (simp only [List.length_drop, List.length_take]; rfl)) ?_; (with_reducible refine (impl_Alu.calls 16 t203 t204 t221 t222 _ A28.out).mono ?_); rintro e w' ⟨rfl, ⟨nd, rfl⟩⟩; refine ⟨_, rfl, ?_⟩) | ((with_reducible refine gate_callee (f := 28) rfl ?_); refine goesL_ (some 165) rfl rfl Try.func28 (by kernel_rfl) rfl #[.int .i64 18, .int .i64 t203, .int .i64 t204] rfl (by (try simp only [List.map_toArray, List.map_cons, List.map_nil]); first | done | rfl | (simp only [List.length_drop, List.length_take]; rfl)) ?_; (with_reducible refine (impl_Alu.calls 18 t203 t204 t223 t224 _ A29.out).mono ?_); rintro e w' ⟨rfl, ⟨nd, rfl⟩⟩; refine ⟨_, rfl, ?_⟩) | ((with_reducible refine gate_callee (f := 28) rfl ?_); refine goesL_ (some 171) rfl rfl Try.func28 (by kernel_rfl) rfl #[.int .i64 15, .int .i64 t203, .int .i64 t204] rfl (by (try simp only [List.map_toArray, List.map_cons, List.map_nil]); first | done | rfl | (simp only [List.length_drop, List.length_take]; rfl)) ?_; (with_reducible refine (impl_Alu.calls 15 t203 t204 t225 t226 _ A30.out).mono ?_); rintro e w' ⟨rfl, ⟨nd, rfl⟩⟩; refine ⟨_, rfl, ?_⟩) | ((with_reducible refine gate_callee (f := 28) rfl ?_); refine goesL_ (some 177) rfl rfl Try.func28 (by kernel_rfl) rfl #[.int .i64 17, .int .i64 t203, .int .i64 t204] rfl (by (try simp only [List.map_toArray, List.map_cons, List.map_nil]); first | done | rfl | (simp only [List.length_drop, List.length_take]; rfl)) ?_; (with_reducible refine (impl_Alu.calls 17 t203 t204 t227 t228 _ A31.out).mono ?_); rintro e w' ⟨rfl, ⟨nd, rfl⟩⟩; refine ⟨_, rfl, ?_⟩))
                                    go_ret
                                    exact ⟨by first | rfl | (simp [errW_none, errW_some] <;> rfl) | (simp [*, errW_none, errW_some] <;> rfl), by repeat (first | (with_reducible first | exact HB.out | apply below_alloc | apply pw_below_drewN | apply below_drew1) | exact HB.out)⟩
                                · rw [if_neg c33] at H
                                  have c33b0 : (t221 == 4294967295) = false := beq_eq_false_iff_ne.mpr c33
                                  have c33b1 : (t221 != 4294967295) = true := bne_iff_ne.mpr c33
                                  obtain rfl := Option.some.inj H
                                  go_wp2_with (first | ((with_reducible refine gate_callee (f := 28) rfl ?_); refine goesL_ (some 159) rfl rfl Try.func28 (by kernel_rfl) rfl #[.int .i64 16, .int .i64 t203, .int .i64 t204] rfl (by (try simp only [List.map_toArray, List.map_cons, List.map_nil]); first | done | rfl | (simp only [List.length_drop, List.length_take]; rfl)) ?_; (with_reducible refine (impl_Alu.calls 16 t203 t204 t221 t222 _ A28.out).mono ?_); rintro e w' ⟨rfl, ⟨nd, rfl⟩⟩; refine ⟨_, rfl, ?_⟩) | ((with_reducible refine gate_callee (f := 28) rfl ?_); refine goesL_ (some 165) rfl rfl Try.func28 (by kernel_rfl) rfl #[.int .i64 18, .int .i64 t203, .int .i64 t204] rfl (by (try simp only [List.map_toArray, List.map_cons, List.map_nil]); first | done | rfl | (simp only [List.length_drop, List.length_take]; rfl)) ?_; (with_reducible refine (impl_Alu.calls 18 t203 t204 t223 t224 _ A29.out).mono ?_); rintro e w' ⟨rfl, ⟨nd, rfl⟩⟩; refine ⟨_, rfl, ?_⟩) | ((with_reducible refine gate_callee (f := 28) rfl ?_); refine goesL_ (some 171) rfl rfl Try.func28 (by kernel_rfl) rfl #[.int .i64 15, .int .i64 t203, .int .i64 t204] rfl (by (try simp only [List.map_toArray, List.map_cons, List.map_nil]); first | done | rfl | (simp only [List.length_drop, List.length_take]; rfl)) ?_; (with_reducible refine (impl_Alu.calls 15 t203 t204 t225 t226 _ A30.out).mono ?_); rintro e w' ⟨rfl, ⟨nd, rfl⟩⟩; refine ⟨_, rfl, ?_⟩) | ((with_reducible refine gate_callee (f := 28) rfl ?_); refine goesL_ (some 177) rfl rfl Try.func28 (by kernel_rfl) rfl #[.int .i64 17, .int .i64 t203, .int .i64 t204] rfl (by (try simp only [List.map_toArray, List.map_cons, List.map_nil]); first | done | rfl | (simp only [List.length_drop, List.length_take]; rfl)) ?_; (with_reducible refine (impl_Alu.calls 17 t203 t204 t227 t228 _ A31.out).mono ?_); rintro e w' ⟨rfl, ⟨nd, rfl⟩⟩; refine ⟨_, rfl, ?_⟩))
                                  go_ret
                                  exact ⟨by first | rfl | (simp [errW_none, errW_some] <;> rfl) | (simp [*, errW_none, errW_some] <;> rfl), by repeat (first | (with_reducible first | exact HB.out | apply below_alloc | apply pw_below_drewN | apply below_drew1) | exact HB.out)⟩
                              · rw [if_neg c32] at H
                                have c32b0 : (t214 == 0) = false := beq_eq_false_iff_ne.mpr c32
                                have c32b1 : (t214 != 0) = true := bne_iff_ne.mpr c32
                                replace H := Option.bind_eq_some_iff.mp H
                                obtain ⟨t229, A360, H⟩ := H
                                replace H : ((impl_Signed.f t204).bind fun t230 => ((impl_Signed.f t227).bind fun t231 => (if (wrap64 ((wrap64 (t221 * t214)) + t223)) = t213 then (if t223 < t214 then ((impl_Word.f (wrap64 ((wrap64 (t229 * t230)) + t231))).bind fun t232 => (some (t232 == t213))) else (some false)) else (some false)))) = some r := H
                                have A36 := Aside0.mk A360
                                clear A360
                                replace H := Option.bind_eq_some_iff.mp H
                                obtain ⟨t230, A370, H⟩ := H
                                replace H : ((impl_Signed.f t227).bind fun t231 => (if (wrap64 ((wrap64 (t221 * t214)) + t223)) = t213 then (if t223 < t214 then ((impl_Word.f (wrap64 ((wrap64 (t229 * t230)) + t231))).bind fun t232 => (some (t232 == t213))) else (some false)) else (some false))) = some r := H
                                have A37 := Aside0.mk A370
                                clear A370
                                replace H := Option.bind_eq_some_iff.mp H
                                obtain ⟨t231, A380, H⟩ := H
                                replace H : (if (wrap64 ((wrap64 (t221 * t214)) + t223)) = t213 then (if t223 < t214 then ((impl_Word.f (wrap64 ((wrap64 (t229 * t230)) + t231))).bind fun t232 => (some (t232 == t213))) else (some false)) else (some false)) = some r := H
                                have A38 := Aside0.mk A380
                                clear A380
                                by_cases c39 : (wrap64 ((wrap64 (t221 * t214)) + t223)) = t213
                                · rw [if_pos c39] at H
                                  have c39b0 : ((wrap64 ((wrap64 (t221 * t214)) + t223)) == t213) = true := beq_iff_eq.mpr c39
                                  have c39b1 : ((wrap64 ((wrap64 (t221 * t214)) + t223)) != t213) = false := bne_eq_false_iff_eq.mpr c39
                                  clear c39
                                  by_cases c40 : t223 < t214
                                  · rw [if_pos c40] at H
                                    have c40b0 : decide (t223 < t214) = true := decide_eq_true c40
                                    clear c40
                                    replace H := Option.bind_eq_some_iff.mp H
                                    obtain ⟨t232, A410, H⟩ := H
                                    replace H : (some (t232 == t213)) = some r := H
                                    have A41 := Aside0.mk A410
                                    clear A410
                                    obtain rfl := Option.some.inj H
                                    go_wp2_with (first | ((with_reducible refine gate_callee (f := 28) rfl ?_); refine goesL_ (some 159) rfl rfl Try.func28 (by kernel_rfl) rfl #[.int .i64 16, .int .i64 t203, .int .i64 t204] rfl (by (try simp only [List.map_toArray, List.map_cons, List.map_nil]); first | done | rfl | (simp only [List.length_drop, List.length_take]; rfl)) ?_; (with_reducible refine (impl_Alu.calls 16 t203 t204 t221 t222 _ A28.out).mono ?_); rintro e w' ⟨rfl, ⟨nd, rfl⟩⟩; refine ⟨_, rfl, ?_⟩) | ((with_reducible refine gate_callee (f := 28) rfl ?_); refine goesL_ (some 165) rfl rfl Try.func28 (by kernel_rfl) rfl #[.int .i64 18, .int .i64 t203, .int .i64 t204] rfl (by (try simp only [List.map_toArray, List.map_cons, List.map_nil]); first | done | rfl | (simp only [List.length_drop, List.length_take]; rfl)) ?_; (with_reducible refine (impl_Alu.calls 18 t203 t204 t223 t224 _ A29.out).mono ?_); rintro e w' ⟨rfl, ⟨nd, rfl⟩⟩; refine ⟨_, rfl, ?_⟩) | ((with_reducible refine gate_callee (f := 28) rfl ?_); refine goesL_ (some 171) rfl rfl Try.func28 (by kernel_rfl) rfl #[.int .i64 15, .int .i64 t203, .int .i64 t204] rfl (by (try simp only [List.map_toArray, List.map_cons, List.map_nil]); first | done | rfl | (simp only [List.length_drop, List.length_take]; rfl)) ?_; (with_reducible refine (impl_Alu.calls 15 t203 t204 t225 t226 _ A30.out).mono ?_); rintro e w' ⟨rfl, ⟨nd, rfl⟩⟩; refine ⟨_, rfl, ?_⟩) | ((with_reducible refine gate_callee (f := 28) rfl ?_); refine goesL_ (some 177) rfl rfl Try.func28 (by kernel_rfl) rfl #[.int .i64 17, .int .i64 t203, .int .i64 t204] rfl (by (try simp only [List.map_toArray, List.map_cons, List.map_nil]); first | done | rfl | (simp only [List.length_drop, List.length_take]; rfl)) ?_; (with_reducible refine (impl_Alu.calls 17 t203 t204 t227 t228 _ A31.out).mono ?_); rintro e w' ⟨rfl, ⟨nd, rfl⟩⟩; refine ⟨_, rfl, ?_⟩) | ((with_reducible refine gate_callee (f := 18) rfl ?_); refine goesL_ (some 200) rfl rfl Try.func18 (by kernel_rfl) rfl #[.int .i64 t225] rfl (by (try simp only [List.map_toArray, List.map_cons, List.map_nil]); first | done | rfl | (simp only [List.length_drop, List.length_take]; rfl)) ?_; (with_reducible refine (impl_Signed.calls t225 t229 _ A36.out).mono ?_); rintro e w' ⟨rfl, ⟨nd, rfl⟩⟩; refine ⟨_, rfl, ?_⟩) | ((with_reducible refine gate_callee (f := 18) rfl ?_); refine goesL_ (some 202) rfl rfl Try.func18 (by kernel_rfl) rfl #[.int .i64 t204] rfl (by (try simp only [List.map_toArray, List.map_cons, List.map_nil]); first | done | rfl | (simp only [List.length_drop, List.length_take]; rfl)) ?_; (with_reducible refine (impl_Signed.calls t204 t230 _ A37.out).mono ?_); rintro e w' ⟨rfl, ⟨nd, rfl⟩⟩; refine ⟨_, rfl, ?_⟩) | ((with_reducible refine gate_callee (f := 18) rfl ?_); refine goesL_ (some 205) rfl rfl Try.func18 (by kernel_rfl) rfl #[.int .i64 t227] rfl (by (try simp only [List.map_toArray, List.map_cons, List.map_nil]); first | done | rfl | (simp only [List.length_drop, List.length_take]; rfl)) ?_; (with_reducible refine (impl_Signed.calls t227 t231 _ A38.out).mono ?_); rintro e w' ⟨rfl, ⟨nd, rfl⟩⟩; refine ⟨_, rfl, ?_⟩) | (go_at_call 16; (with_reducible refine (impl_Word.calls (wrap64 ((wrap64 (t229 * t230)) + t231)) t232 _ A41.out).mono ?_); rintro e w' ⟨rfl, ⟨nd, rfl⟩⟩))
                                    go_ret
                                    exact ⟨by first | rfl | (simp [errW_none, errW_some] <;> rfl) | (simp [*, errW_none, errW_some] <;> rfl), by repeat (first | (with_reducible first | exact HB.out | apply below_alloc | apply pw_below_drewN | apply below_drew1) | exact HB.out)⟩
                                  · rw [if_neg c40] at H
                                    have c40b0 : decide (t223 < t214) = false := decide_eq_false c40
                                    clear c40
                                    obtain rfl := Option.some.inj H
                                    go_wp2_with (first | ((with_reducible refine gate_callee (f := 28) rfl ?_); refine goesL_ (some 159) rfl rfl Try.func28 (by kernel_rfl) rfl #[.int .i64 16, .int .i64 t203, .int .i64 t204] rfl (by (try simp only [List.map_toArray, List.map_cons, List.map_nil]); first | done | rfl | (simp only [List.length_drop, List.length_take]; rfl)) ?_; (with_reducible refine (impl_Alu.calls 16 t203 t204 t221 t222 _ A28.out).mono ?_); rintro e w' ⟨rfl, ⟨nd, rfl⟩⟩; refine ⟨_, rfl, ?_⟩) | ((with_reducible refine gate_callee (f := 28) rfl ?_); refine goesL_ (some 165) rfl rfl Try.func28 (by kernel_rfl) rfl #[.int .i64 18, .int .i64 t203, .int .i64 t204] rfl (by (try simp only [List.map_toArray, List.map_cons, List.map_nil]); first | done | rfl | (simp only [List.length_drop, List.length_take]; rfl)) ?_; (with_reducible refine (impl_Alu.calls 18 t203 t204 t223 t224 _ A29.out).mono ?_); rintro e w' ⟨rfl, ⟨nd, rfl⟩⟩; refine ⟨_, rfl, ?_⟩) | ((with_reducible refine gate_callee (f := 28) rfl ?_); refine goesL_ (some 171) rfl rfl Try.func28 (by kernel_rfl) rfl #[.int .i64 15, .int .i64 t203, .int .i64 t204] rfl (by (try simp only [List.map_toArray, List.map_cons, List.map_nil]); first | done | rfl | (simp only [List.length_drop, List.length_take]; rfl)) ?_; (with_reducible refine (impl_Alu.calls 15 t203 t204 t225 t226 _ A30.out).mono ?_); rintro e w' ⟨rfl, ⟨nd, rfl⟩⟩; refine ⟨_, rfl, ?_⟩) | ((with_reducible refine gate_callee (f := 28) rfl ?_); refine goesL_ (some 177) rfl rfl Try.func28 (by kernel_rfl) rfl #[.int .i64 17, .int .i64 t203, .int .i64 t204] rfl (by (try simp only [List.map_toArray, List.map_cons, List.map_nil]); first | done | rfl | (simp only [List.length_drop, List.length_take]; rfl)) ?_; (with_reducible refine (impl_Alu.calls 17 t203 t204 t227 t228 _ A31.out).mono ?_); rintro e w' ⟨rfl, ⟨nd, rfl⟩⟩; refine ⟨_, rfl, ?_⟩) | ((with_reducible refine gate_callee (f := 18) rfl ?_); refine goesL_ (some 200) rfl rfl Try.func18 (by kernel_rfl) rfl #[.int .i64 t225] rfl (by (try simp only [List.map_toArray, List.map_cons, List.map_nil]); first | done | rfl | (simp only [List.length_drop, List.length_take]; rfl)) ?_; (with_reducible refine (impl_Signed.calls t225 t229 _ A36.out).mono ?_); rintro e w' ⟨rfl, ⟨nd, rfl⟩⟩; refine ⟨_, rfl, ?_⟩) | ((with_reducible refine gate_callee (f := 18) rfl ?_); refine goesL_ (some 202) rfl rfl Try.func18 (by kernel_rfl) rfl #[.int .i64 t204] rfl (by (try simp only [List.map_toArray, List.map_cons, List.map_nil]); first | done | rfl | (simp only [List.length_drop, List.length_take]; rfl)) ?_; (with_reducible refine (impl_Signed.calls t204 t230 _ A37.out).mono ?_); rintro e w' ⟨rfl, ⟨nd, rfl⟩⟩; refine ⟨_, rfl, ?_⟩) | ((with_reducible refine gate_callee (f := 18) rfl ?_); refine goesL_ (some 205) rfl rfl Try.func18 (by kernel_rfl) rfl #[.int .i64 t227] rfl (by (try simp only [List.map_toArray, List.map_cons, List.map_nil]); first | done | rfl | (simp only [List.length_drop, List.length_take]; rfl)) ?_; (with_reducible refine (impl_Signed.calls t227 t231 _ A38.out).mono ?_); rintro e w' ⟨rfl, ⟨nd, rfl⟩⟩; refine ⟨_, rfl, ?_⟩))
                                    go_ret
                                    exact ⟨by first | rfl | (simp [errW_none, errW_some] <;> rfl) | (simp [*, errW_none, errW_some] <;> rfl), by repeat (first | (with_reducible first | exact HB.out | apply below_alloc | apply pw_below_drewN | apply below_drew1) | exact HB.out)⟩
                                · rw [if_neg c39] at H
                                  have c39b0 : ((wrap64 ((wrap64 (t221 * t214)) + t223)) == t213) = false := beq_eq_false_iff_ne.mpr c39
                                  have c39b1 : ((wrap64 ((wrap64 (t221 * t214)) + t223)) != t213) = true := bne_iff_ne.mpr c39
                                  obtain rfl := Option.some.inj H
                                  go_wp2_with (first | ((with_reducible refine gate_callee (f := 28) rfl ?_); refine goesL_ (some 159) rfl rfl Try.func28 (by kernel_rfl) rfl #[.int .i64 16, .int .i64 t203, .int .i64 t204] rfl (by (try simp only [List.map_toArray, List.map_cons, List.map_nil]); first | done | rfl | (simp only [List.length_drop, List.length_take]; rfl)) ?_; (with_reducible refine (impl_Alu.calls 16 t203 t204 t221 t222 _ A28.out).mono ?_); rintro e w' ⟨rfl, ⟨nd, rfl⟩⟩; refine ⟨_, rfl, ?_⟩) | ((with_reducible refine gate_callee (f := 28) rfl ?_); refine goesL_ (some 165) rfl rfl Try.func28 (by kernel_rfl) rfl #[.int .i64 18, .int .i64 t203, .int .i64 t204] rfl (by (try simp only [List.map_toArray, List.map_cons, List.map_nil]); first | done | rfl | (simp only [List.length_drop, List.length_take]; rfl)) ?_; (with_reducible refine (impl_Alu.calls 18 t203 t204 t223 t224 _ A29.out).mono ?_); rintro e w' ⟨rfl, ⟨nd, rfl⟩⟩; refine ⟨_, rfl, ?_⟩) | ((with_reducible refine gate_callee (f := 28) rfl ?_); refine goesL_ (some 171) rfl rfl Try.func28 (by kernel_rfl) rfl #[.int .i64 15, .int .i64 t203, .int .i64 t204] rfl (by (try simp only [List.map_toArray, List.map_cons, List.map_nil]); first | done | rfl | (simp only [List.length_drop, List.length_take]; rfl)) ?_; (with_reducible refine (impl_Alu.calls 15 t203 t204 t225 t226 _ A30.out).mono ?_); rintro e w' ⟨rfl, ⟨nd, rfl⟩⟩; refine ⟨_, rfl, ?_⟩) | ((with_reducible refine gate_callee (f := 28) rfl ?_); refine goesL_ (some 177) rfl rfl Try.func28 (by kernel_rfl) rfl #[.int .i64 17, .int .i64 t203, .int .i64 t204] rfl (by (try simp only [List.map_toArray, List.map_cons, List.map_nil]); first | done | rfl | (simp only [List.length_drop, List.length_take]; rfl)) ?_; (with_reducible refine (impl_Alu.calls 17 t203 t204 t227 t228 _ A31.out).mono ?_); rintro e w' ⟨rfl, ⟨nd, rfl⟩⟩; refine ⟨_, rfl, ?_⟩) | ((with_reducible refine gate_callee (f := 18) rfl ?_); refine goesL_ (some 200) rfl rfl Try.func18 (by kernel_rfl) rfl #[.int .i64 t225] rfl (by (try simp only [List.map_toArray, List.map_cons, List.map_nil]); first | done | rfl | (simp only [List.length_drop, List.length_take]; rfl)) ?_; (with_reducible refine (impl_Signed.calls t225 t229 _ A36.out).mono ?_); rintro e w' ⟨rfl, ⟨nd, rfl⟩⟩; refine ⟨_, rfl, ?_⟩) | ((with_reducible refine gate_callee (f := 18) rfl ?_); refine goesL_ (some 202) rfl rfl Try.func18 (by kernel_rfl) rfl #[.int .i64 t204] rfl (by (try simp only [List.map_toArray, List.map_cons, List.map_nil]); first | done | rfl | (simp only [List.length_drop, List.length_take]; rfl)) ?_; (with_reducible refine (impl_Signed.calls t204 t230 _ A37.out).mono ?_); rintro e w' ⟨rfl, ⟨nd, rfl⟩⟩; refine ⟨_, rfl, ?_⟩) | ((with_reducible refine gate_callee (f := 18) rfl ?_); refine goesL_ (some 205) rfl rfl Try.func18 (by kernel_rfl) rfl #[.int .i64 t227] rfl (by (try simp only [List.map_toArray, List.map_cons, List.map_nil]); first | done | rfl | (simp only [List.length_drop, List.length_take]; rfl)) ?_; (with_reducible refine (impl_Signed.calls t227 t231 _ A38.out).mono ?_); rintro e w' ⟨rfl, ⟨nd, rfl⟩⟩; refine ⟨_, rfl, ?_⟩))
                                  go_ret
                                  exact ⟨by first | rfl | (simp [errW_none, errW_some] <;> rfl) | (simp [*, errW_none, errW_some] <;> rfl), by repeat (first | (with_reducible first | exact HB.out | apply below_alloc | apply pw_below_drewN | apply below_drew1) | exact HB.out)⟩

/-- THE ONE PURE STATEMENT of laws_FnAlu: yours. -/
def laws_FnAlu.Pure : Prop := ∀ (l0 : List Int), l0.length ≤ maxLen → l0.length * 1 ≤ 140737488351232 → (∀ x ∈ l0, (Lit.int .u8 x).wf = true) → ∃ k, laws_FnAlu.f k l0 = some true
theorem laws_FnAlu.walk (P : laws_FnAlu.Pure) (a0 : Option Addr) (len0 cap0 : Nat) (z0 : List Int) (w : World) (w0 : (a0 = none ∧ len0 = 0 ∧ cap0 = 0 ∧ z0 = []) ∨ ∃ x, a0 = some x ∧ len0 ≤ cap0 ∧ cap0 ≤ maxLen ∧ z0.length = cap0 ∧ (∀ i, i < z0.length → w.cell? (x.add i) = some (.int .u8 (z0.getD i 0))) ∧ ∀ n ∈ z0, (Lit.int .u8 n).wf = true) (y0 : len0 * 1 ≤ 140737488351232) :
    Calls Try.prog 11 #[.slice a0 len0 cap0] w fun e w' => e = .returned (.bool true) ∧ Below w.heap.size w w' := by
  obtain ⟨l0, rfl, hr0, hm0, hw0, hc0⟩ := ReadsInt.ofRowC w0
  obtain ⟨k, h⟩ := P l0 hm0 y0 hw0
  refine (laws_FnAlu.calls k _ _ l0 true w (Kd.C_of_reads (d := (0 : Int)) (h1 := fun _ => rfl) hr0) hc0 h).mono ?_
  rintro e w' ⟨rfl, hd⟩
  exact ⟨rfl, hd⟩

end Go.Proofs.Ytgbpofhabhabcaa.PFnAlu
