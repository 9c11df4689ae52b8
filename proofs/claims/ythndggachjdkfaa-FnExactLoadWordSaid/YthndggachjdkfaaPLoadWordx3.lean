-- Lines for this claim, written by the session's own program wip/myprint.py. Not trusted: Lean checks them.
import Derived.Test.YthndggachjdkfaaPLoadWordx0
import Derived.Test.YthndggachjdkfaaPLoadWordx2
namespace Go.Proofs.Ythndggachjdkfaa.PLoadWord
open Go.RowKit Go.Proofs.YthndggachjdkfaaW.PrintWords Go.Proofs.YthndggachjdkfaaW.PrintLast Go.Proofs.YthndggachjdkfaaW.PrintMore
attribute [local go_sem] max2_int min2_int max_two min_two max_three min_three max_four min_four   -- for this text's walks alone
set_option linter.unusedVariables false
set_option linter.unusedSimpArgs false

/-! ### spec_MachineOk: function 17 -/
mutual
def spec_MachineOk.j0 : Nat → Bool → List Int → Int → List Int → List Int → List Int → List Int → List Int → Int → Int → Int → Option (Bool)
  | 0, _, _, _, _, _, _, _, _, _, _, _ => none
  | k + 1, x39, x154000, x154001, x154002, x154003, x154004, x154005, x154006, x154007, x154008, x154009 => if x39 = true then (some false) else (spec_MachineOk.l0 k 0 x154000 x154001 x154002 x154003 x154004 x154005 x154006 x154007 x154008 x154009)
def spec_MachineOk.l0 : Nat → Int → List Int → Int → List Int → List Int → List Int → List Int → List Int → Int → Int → Int → Option (Bool)
  | 0, _, _, _, _, _, _, _, _, _, _, _ => none
  | k + 1, x3, x154000, x154001, x154002, x154003, x154004, x154005, x154006, x154007, x154008, x154009 => if x3 < 32 then (if 0 ≤ x3 then (if x3 < (x154002.length : Int) then ((spec_l3WordOk.f (rd x154002 x3)).bind fun t159 => (if t159 = true then (spec_MachineOk.l0 k (wrap64 (x3 + 1)) x154000 x154001 x154002 x154003 x154004 x154005 x154006 x154007 x154008 x154009) else (some false))) else (none)) else (none)) else (if (x154005.length : Int) ≤ 10000 then (if (x154006.length : Int) ≤ 10000 then (if x154007 ≥ 0 then (if x154007 ≤ 1000000 then (if x154008 ≥ 0 then (if x154008 ≤ 3 then ((spec_l3WordOk.f x154009).bind fun t160 => (some t160)) else (some false)) else (some false)) else (some false)) else (some false)) else (some false)) else (some false))
end
def spec_MachineOk.f (k : Nat) (l0_0 : List Int) (a0_1 : Int) (l0_2 : List Int) (l0_3 : List Int) (l0_4 : List Int) (l0_5 : List Int) (l0_6 : List Int) (a0_7 : Int) (a0_8 : Int) (a0_9 : Int) : Option (Bool) := (spec_l3CodeOk.f k l0_0).bind fun t154 => (if t154 = true then (if (l0_3.length : Int) > 65536 then (spec_MachineOk.j0 k true l0_0 a0_1 l0_2 l0_3 l0_4 l0_5 l0_6 a0_7 a0_8 a0_9) else ((spec_l3StackOk.f (l0_4.length : Int)).bind fun t155 => (if t155 = true then ((spec_l3WordOk.f a0_1).bind fun t156 => (if t156 = true then (if (l0_2.length : Int) = 32 then (if 0 < (l0_2.length : Int) then (spec_MachineOk.j0 k ((rd l0_2 0) != 0) l0_0 a0_1 l0_2 l0_3 l0_4 l0_5 l0_6 a0_7 a0_8 a0_9) else (none)) else (spec_MachineOk.j0 k true l0_0 a0_1 l0_2 l0_3 l0_4 l0_5 l0_6 a0_7 a0_8 a0_9)) else (spec_MachineOk.j0 k true l0_0 a0_1 l0_2 l0_3 l0_4 l0_5 l0_6 a0_7 a0_8 a0_9))) else (spec_MachineOk.j0 k true l0_0 a0_1 l0_2 l0_3 l0_4 l0_5 l0_6 a0_7 a0_8 a0_9)))) else (spec_MachineOk.j0 k true l0_0 a0_1 l0_2 l0_3 l0_4 l0_5 l0_6 a0_7 a0_8 a0_9))
theorem spec_MachineOk.mono_l : ∀ k, (∀ y0 y1 y2 y3 y4 y5 y6 y7 y8 y9 y10, LeO (spec_MachineOk.j0 k y0 y1 y2 y3 y4 y5 y6 y7 y8 y9 y10) (spec_MachineOk.j0 (k + 1) y0 y1 y2 y3 y4 y5 y6 y7 y8 y9 y10)) ∧ (∀ y0 y1 y2 y3 y4 y5 y6 y7 y8 y9 y10, LeO (spec_MachineOk.l0 k y0 y1 y2 y3 y4 y5 y6 y7 y8 y9 y10) (spec_MachineOk.l0 (k + 1) y0 y1 y2 y3 y4 y5 y6 y7 y8 y9 y10))
  | 0 => ⟨fun _ _ _ _ _ _ _ _ _ _ _ r h => by simp [spec_MachineOk.j0] at h, fun _ _ _ _ _ _ _ _ _ _ _ r h => by simp [spec_MachineOk.l0] at h⟩
  | k + 1 => by
    obtain ⟨ih0, ih1⟩ := spec_MachineOk.mono_l k
    refine ⟨?_, ?_⟩
    · intro y0 y1 y2 y3 y4 y5 y6 y7 y8 y9 y10
      unfold spec_MachineOk.j0
      repeat' first
      | (with_reducible exact ih0 _ _ _ _ _ _ _ _ _ _ _)
      | (with_reducible exact ih1 _ _ _ _ _ _ _ _ _ _ _)
      | (with_reducible exact spec_l3CodeOk.mono _ _)
      | (with_reducible exact LeO.refl _)
      | (with_reducible exact LeO.none _)
      | (with_reducible refine LeO.ite ?_ ?_)
      | (with_reducible refine LeO.bind ?_ (fun _ => ?_))
      | exact ih0 _ _ _ _ _ _ _ _ _ _ _
      | exact ih1 _ _ _ _ _ _ _ _ _ _ _
      | exact spec_l3CodeOk.mono _ _
      | exact LeO.none _
      | refine LeO.ite ?_ ?_
      | refine LeO.bind ?_ (fun _ => ?_)
    · intro y0 y1 y2 y3 y4 y5 y6 y7 y8 y9 y10
      unfold spec_MachineOk.l0
      repeat' first
      | (with_reducible exact ih0 _ _ _ _ _ _ _ _ _ _ _)
      | (with_reducible exact ih1 _ _ _ _ _ _ _ _ _ _ _)
      | (with_reducible exact spec_l3CodeOk.mono _ _)
      | (with_reducible exact LeO.refl _)
      | (with_reducible exact LeO.none _)
      | (with_reducible refine LeO.ite ?_ ?_)
      | (with_reducible refine LeO.bind ?_ (fun _ => ?_))
      | exact ih0 _ _ _ _ _ _ _ _ _ _ _
      | exact ih1 _ _ _ _ _ _ _ _ _ _ _
      | exact spec_l3CodeOk.mono _ _
      | exact LeO.none _
      | refine LeO.ite ?_ ?_
      | refine LeO.bind ?_ (fun _ => ?_)
theorem spec_MachineOk.mono : ∀ a0 a1 a2 a3 a4 a5 a6 a7 a8 a9 k, LeO (spec_MachineOk.f k a0 a1 a2 a3 a4 a5 a6 a7 a8 a9) (spec_MachineOk.f (k + 1) a0 a1 a2 a3 a4 a5 a6 a7 a8 a9) := by
  intro a0 a1 a2 a3 a4 a5 a6 a7 a8 a9 k
  obtain ⟨ih0, ih1⟩ := spec_MachineOk.mono_l k
  unfold spec_MachineOk.f
  repeat' first
      | (with_reducible exact ih0 _ _ _ _ _ _ _ _ _ _ _)
      | (with_reducible exact ih1 _ _ _ _ _ _ _ _ _ _ _)
      | (with_reducible exact spec_l3CodeOk.mono _ _)
      | (with_reducible exact LeO.refl _)
      | (with_reducible exact LeO.none _)
      | (with_reducible refine LeO.ite ?_ ?_)
      | (with_reducible refine LeO.bind ?_ (fun _ => ?_))
      | exact ih0 _ _ _ _ _ _ _ _ _ _ _
      | exact ih1 _ _ _ _ _ _ _ _ _ _ _
      | exact spec_l3CodeOk.mono _ _
      | exact LeO.none _
      | refine LeO.ite ?_ ?_
      | refine LeO.bind ?_ (fun _ => ?_)
set_option maxHeartbeats 8000000 in
set_option maxRecDepth 100000 in
theorem spec_MachineOk.calls (k : Nat) (A0_0 : Option Addr) (c0_0 : Nat) (l0_0 : List Int) (a0_1 : Int) (A0_2 : Option Addr) (c0_2 : Nat) (l0_2 : List Int) (A0_3 : Option Addr) (c0_3 : Nat) (l0_3 : List Int) (A0_4 : Option Addr) (c0_4 : Nat) (l0_4 : List Int) (A0_5 : Option Addr) (c0_5 : Nat) (l0_5 : List Int) (A0_6 : Option Addr) (c0_6 : Nat) (l0_6 : List Int) (a0_7 : Int) (a0_8 : Int) (a0_9 : Int) (r : Bool) (w : World) (hr0_0 : Kd.C (Kd.int .i64) w A0_0 l0_0.length l0_0) (hc0_0 : l0_0.length ≤ c0_0) (hr0_2 : Kd.C (Kd.int .i64) w A0_2 l0_2.length l0_2) (hc0_2 : l0_2.length ≤ c0_2) (hr0_3 : Kd.C (Kd.int .u8) w A0_3 l0_3.length l0_3) (hc0_3 : l0_3.length ≤ c0_3) (hr0_4 : Kd.C (Kd.int .u8) w A0_4 l0_4.length l0_4) (hc0_4 : l0_4.length ≤ c0_4) (hr0_5 : Kd.C (Kd.int .u8) w A0_5 l0_5.length l0_5) (hc0_5 : l0_5.length ≤ c0_5) (hr0_6 : Kd.C (Kd.int .u8) w A0_6 l0_6.length l0_6) (hc0_6 : l0_6.length ≤ c0_6) (h : spec_MachineOk.f k l0_0 a0_1 l0_2 l0_3 l0_4 l0_5 l0_6 a0_7 a0_8 a0_9 = some r) :
    Calls Try.prog 17 #[.agg #[.slice A0_0 l0_0.length c0_0, .int .i64 a0_1, .slice A0_2 l0_2.length c0_2, .slice A0_3 l0_3.length c0_3, .slice A0_4 l0_4.length c0_4, .slice A0_5 l0_5.length c0_5, .slice A0_6 l0_6.length c0_6, .int .i64 a0_7, .int .i64 a0_8, .int .i64 a0_9]] w fun e w' => e = .returned (.bool r) ∧ Below w.heap.size w w' := by
  have hu36 := Try.underlying36
  have HR0_0 := Aside0.mk hr0_0
  have HC0_0 := Aside0.mk hc0_0
  clear hr0_0 hc0_0
  have HR0_2 := Aside0.mk hr0_2
  have HC0_2 := Aside0.mk hc0_2
  clear hr0_2 hc0_2
  have HR0_3 := Aside0.mk hr0_3
  have HC0_3 := Aside0.mk hc0_3
  clear hr0_3 hc0_3
  have HR0_4 := Aside0.mk hr0_4
  have HC0_4 := Aside0.mk hc0_4
  clear hr0_4 hc0_4
  have HR0_5 := Aside0.mk hr0_5
  have HC0_5 := Aside0.mk hc0_5
  clear hr0_5 hc0_5
  have HR0_6 := Aside0.mk hr0_6
  have HC0_6 := Aside0.mk hc0_6
  clear hr0_6 hc0_6
  have HB := Aside0.mk (Below.refl w.heap.size w)
  have H : ((spec_l3CodeOk.f k l0_0).bind fun t154 => (if t154 = true then (if (l0_3.length : Int) > 65536 then (spec_MachineOk.j0 k true l0_0 a0_1 l0_2 l0_3 l0_4 l0_5 l0_6 a0_7 a0_8 a0_9) else ((spec_l3StackOk.f (l0_4.length : Int)).bind fun t155 => (if t155 = true then ((spec_l3WordOk.f a0_1).bind fun t156 => (if t156 = true then (if (l0_2.length : Int) = 32 then (if 0 < (l0_2.length : Int) then (spec_MachineOk.j0 k ((rd l0_2 0) != 0) l0_0 a0_1 l0_2 l0_3 l0_4 l0_5 l0_6 a0_7 a0_8 a0_9) else (none)) else (spec_MachineOk.j0 k true l0_0 a0_1 l0_2 l0_3 l0_4 l0_5 l0_6 a0_7 a0_8 a0_9)) else (spec_MachineOk.j0 k true l0_0 a0_1 l0_2 l0_3 l0_4 l0_5 l0_6 a0_7 a0_8 a0_9))) else (spec_MachineOk.j0 k true l0_0 a0_1 l0_2 l0_3 l0_4 l0_5 l0_6 a0_7 a0_8 a0_9)))) else (spec_MachineOk.j0 k true l0_0 a0_1 l0_2 l0_3 l0_4 l0_5 l0_6 a0_7 a0_8 a0_9))) = some r := h
  clear h
  have HC2 := Aside0.mk H
  clear H
  go_enter Try.func17, Try.ntmps17
  go_upto_region 1 with (first | ((with_reducible refine gate_dst (N := 1) rfl ?_); (try (refine gate_guard (by rfl) ?_; dsimp only)); refine box_event ?hg (N := 1) ?hd (cs := #[.slice A0_0 l0_0.length c0_0, .int .i64 a0_1, .slice A0_2 l0_2.length c0_2, .slice A0_3 l0_3.length c0_3, .slice A0_4 l0_4.length c0_4, .slice A0_5 l0_5.length c0_5, .slice A0_6 l0_6.length c0_6, .int .i64 a0_7, .int .i64 a0_8, .int .i64 a0_9]) (t := 36) ?hr ?_; (case hd => rfl); (case hg => rfl); (case hr => first | (go_simp; done) | (go_simp; rfl)); intro gb153 hg w3 hbox hb; have n0_ := Aside0.mk (below_step (by repeat (first | (with_reducible first | exact HB.out | apply below_alloc | apply pw_below_drewN | apply below_drew1) | exact HB.out)) hb); have n1_ := Aside0.mk (hbox); have n2_ := Aside0.mk ((by rw [hg]; exact (below_size (by repeat (first | (with_reducible first | exact HB.out | apply below_alloc | apply pw_below_drewN | apply below_drew1) | exact HB.out))) : w.heap.size ≤ gb153)); have n3_ := Aside0.mk ((by rw [hg]; exact (below_size (by repeat (first | (with_reducible first | exact HB.out | apply below_alloc | apply pw_below_drewN | apply below_drew1) | exact HB.out))) : w.heap.size ≤ gb153)); clear HB; have HB := n0_; have BK153 := n1_; have GW153 := n2_; have GE153 := n3_; clear n0_ n1_ n2_ n3_; clear hb hbox hg))
  (try simp only [Act.put, List.setIfInBounds_toArray, List.set_cons_zero, List.set_cons_succ])
  go_cut [39] (fun v39 wc => ∃ (kq : Nat) (x39_1 : Bool), v39 = .bool x39_1 ∧ Aside0 (spec_MachineOk.j0 kq x39_1 l0_0 a0_1 l0_2 l0_3 l0_4 l0_5 l0_6 a0_7 a0_8 a0_9 = some r) ∧ Aside0 (kq ≤ k) ∧ Aside0 (wc.heap[gb153]? = some (.cells #[(.slice A0_0 l0_0.length c0_0), .int .i64 a0_1, (.slice A0_2 l0_2.length c0_2), (.slice A0_3 l0_3.length c0_3), (.slice A0_4 l0_4.length c0_4), (.slice A0_5 l0_5.length c0_5), (.slice A0_6 l0_6.length c0_6), .int .i64 a0_7, .int .i64 a0_8, .int .i64 a0_9] 36 (0, 0))) ∧ Aside0 (Below w.heap.size w wc))
  case first =>
    have H := HC2.out
    clear HC2
    replace H := Option.bind_eq_some_iff.mp H
    obtain ⟨t154, A40, H⟩ := H
    replace H : (if t154 = true then (if (l0_3.length : Int) > 65536 then (spec_MachineOk.j0 k true l0_0 a0_1 l0_2 l0_3 l0_4 l0_5 l0_6 a0_7 a0_8 a0_9) else ((spec_l3StackOk.f (l0_4.length : Int)).bind fun t155 => (if t155 = true then ((spec_l3WordOk.f a0_1).bind fun t156 => (if t156 = true then (if (l0_2.length : Int) = 32 then (if 0 < (l0_2.length : Int) then (spec_MachineOk.j0 k ((rd l0_2 0) != 0) l0_0 a0_1 l0_2 l0_3 l0_4 l0_5 l0_6 a0_7 a0_8 a0_9) else (none)) else (spec_MachineOk.j0 k true l0_0 a0_1 l0_2 l0_3 l0_4 l0_5 l0_6 a0_7 a0_8 a0_9)) else (spec_MachineOk.j0 k true l0_0 a0_1 l0_2 l0_3 l0_4 l0_5 l0_6 a0_7 a0_8 a0_9))) else (spec_MachineOk.j0 k true l0_0 a0_1 l0_2 l0_3 l0_4 l0_5 l0_6 a0_7 a0_8 a0_9)))) else (spec_MachineOk.j0 k true l0_0 a0_1 l0_2 l0_3 l0_4 l0_5 l0_6 a0_7 a0_8 a0_9)) = some r := H
    have A4 := Aside0.mk A40
    clear A40
    by_cases c5 : t154 = true
    · subst c5
      have H1 : (if (l0_3.length : Int) > 65536 then (spec_MachineOk.j0 k true l0_0 a0_1 l0_2 l0_3 l0_4 l0_5 l0_6 a0_7 a0_8 a0_9) else ((spec_l3StackOk.f (l0_4.length : Int)).bind fun t155 => (if t155 = true then ((spec_l3WordOk.f a0_1).bind fun t156 => (if t156 = true then (if (l0_2.length : Int) = 32 then (if 0 < (l0_2.length : Int) then (spec_MachineOk.j0 k ((rd l0_2 0) != 0) l0_0 a0_1 l0_2 l0_3 l0_4 l0_5 l0_6 a0_7 a0_8 a0_9) else (none)) else (spec_MachineOk.j0 k true l0_0 a0_1 l0_2 l0_3 l0_4 l0_5 l0_6 a0_7 a0_8 a0_9)) else (spec_MachineOk.j0 k true l0_0 a0_1 l0_2 l0_3 l0_4 l0_5 l0_6 a0_7 a0_8 a0_9))) else (spec_MachineOk.j0 k true l0_0 a0_1 l0_2 l0_3 l0_4 l0_5 l0_6 a0_7 a0_8 a0_9)))) = some r := by rw [if_pos rfl] at H; exact H
      clear H
      have H := H1
      clear H1
      by_cases c6 : (l0_3.length : Int) > 65536
      · rw [if_pos c6] at H
        have c6b0 : decide (65536 < (l0_3.length : Int)) = true := decide_eq_true c6
        have c6b1 : decide (65536 < l0_3.length) = true := decide_eq_true (by omega)
        clear c6
        (first | rw [c6b0] | (simp only [i64_w, i32_w]; rw [c6b0]) | skip)
        have H' := Aside0.mk H
        clear H
        have hcz7_0 : w3.cell? ⟨gb153, 0, none⟩ = some (.slice A0_0 l0_0.length c0_0) := (blk_cell BK153.out 0).trans rfl
        have hcz7_1 : w3.cell? ⟨gb153, 1, none⟩ = some (.int .i64 a0_1) := (blk_cell BK153.out 1).trans rfl
        have hcz7_2 : w3.cell? ⟨gb153, 2, none⟩ = some (.slice A0_2 l0_2.length c0_2) := (blk_cell BK153.out 2).trans rfl
        have hcz7_3 : w3.cell? ⟨gb153, 3, none⟩ = some (.slice A0_3 l0_3.length c0_3) := (blk_cell BK153.out 3).trans rfl
        have hcz7_4 : w3.cell? ⟨gb153, 4, none⟩ = some (.slice A0_4 l0_4.length c0_4) := (blk_cell BK153.out 4).trans rfl
        have hcz7_5 : w3.cell? ⟨gb153, 5, none⟩ = some (.slice A0_5 l0_5.length c0_5) := (blk_cell BK153.out 5).trans rfl
        have hcz7_6 : w3.cell? ⟨gb153, 6, none⟩ = some (.slice A0_6 l0_6.length c0_6) := (blk_cell BK153.out 6).trans rfl
        have hcz7_7 : w3.cell? ⟨gb153, 7, none⟩ = some (.int .i64 a0_7) := (blk_cell BK153.out 7).trans rfl
        have hcz7_8 : w3.cell? ⟨gb153, 8, none⟩ = some (.int .i64 a0_8) := (blk_cell BK153.out 8).trans rfl
        have hcz7_9 : w3.cell? ⟨gb153, 9, none⟩ = some (.int .i64 a0_9) := (blk_cell BK153.out 9).trans rfl
        have hfz7_0 := blk_frozen BK153.out 0
        have hfz7_1 := blk_frozen BK153.out 1
        have hfz7_2 := blk_frozen BK153.out 2
        have hfz7_3 := blk_frozen BK153.out 3
        have hfz7_4 := blk_frozen BK153.out 4
        have hfz7_5 := blk_frozen BK153.out 5
        have hfz7_6 := blk_frozen BK153.out 6
        have hfz7_7 := blk_frozen BK153.out 7
        have hfz7_8 := blk_frozen BK153.out 8
        have hfz7_9 := blk_frozen BK153.out 9
        go_wp2_with (first | ((with_reducible refine gate_callee (f := 47) rfl ?_); refine goesL_ (some 6) rfl rfl Try.func47 (by kernel_rfl) rfl #[.slice A0_0 l0_0.length c0_0] rfl (by (try simp only [List.map_toArray, List.map_cons, List.map_nil]); first | done | rfl | (simp only [List.length_drop, List.length_take]; rfl)) ?_; (with_reducible refine (spec_l3CodeOk.calls k _ _ l0_0 true _ ?side1 ?side2 A4.out).mono ?_); (case side1 => repeat (first | exact (Kd.C_below HR0_0.out HB.out) | (with_reducible refine Kd.C_alloc ?_ _) | (with_reducible refine Kd.C_drewN ?_ _) | (with_reducible refine Kd.C_drew ?_))); (case side2 => exact HC0_0.out); rintro e w' ⟨rfl, ⟨nd, rfl⟩⟩; refine ⟨_, rfl, ?_⟩))
        go_meet
        case rel => exact ⟨_, (true), (by first | rfl | (simp; done) | (simp [*]; done)), H', ⟨by first | omega | exact Nat.le_refl _⟩, ⟨by (with_reducible repeat (first | refine blk_drewN ?_ _ | refine blk_drew ?_ | refine blk_alloc ?_ _)); exact BK153.out⟩, ⟨by repeat (first | (with_reducible first | exact HB.out | apply below_alloc | apply pw_below_drewN | apply below_drew1 | refine below_set ?_ GE153.out) | exact HB.out)⟩⟩
      · rw [if_neg c6] at H
        have c6b0 : decide (65536 < (l0_3.length : Int)) = false := decide_eq_false c6
        have c6b1 : decide (65536 < l0_3.length) = false := decide_eq_false (by omega)
        clear c6
        (first | rw [c6b0] | (simp only [i64_w, i32_w]; rw [c6b0]) | skip)
        replace H := Option.bind_eq_some_iff.mp H
        obtain ⟨t155, A80, H⟩ := H
        replace H : (if t155 = true then ((spec_l3WordOk.f a0_1).bind fun t156 => (if t156 = true then (if (l0_2.length : Int) = 32 then (if 0 < (l0_2.length : Int) then (spec_MachineOk.j0 k ((rd l0_2 0) != 0) l0_0 a0_1 l0_2 l0_3 l0_4 l0_5 l0_6 a0_7 a0_8 a0_9) else (none)) else (spec_MachineOk.j0 k true l0_0 a0_1 l0_2 l0_3 l0_4 l0_5 l0_6 a0_7 a0_8 a0_9)) else (spec_MachineOk.j0 k true l0_0 a0_1 l0_2 l0_3 l0_4 l0_5 l0_6 a0_7 a0_8 a0_9))) else (spec_MachineOk.j0 k true l0_0 a0_1 l0_2 l0_3 l0_4 l0_5 l0_6 a0_7 a0_8 a0_9)) = some r := H
        have A8 := Aside0.mk A80
        clear A80
        by_cases c9 : t155 = true
        · subst c9
          have H1 : ((spec_l3WordOk.f a0_1).bind fun t156 => (if t156 = true then (if (l0_2.length : Int) = 32 then (if 0 < (l0_2.length : Int) then (spec_MachineOk.j0 k ((rd l0_2 0) != 0) l0_0 a0_1 l0_2 l0_3 l0_4 l0_5 l0_6 a0_7 a0_8 a0_9) else (none)) else (spec_MachineOk.j0 k true l0_0 a0_1 l0_2 l0_3 l0_4 l0_5 l0_6 a0_7 a0_8 a0_9)) else (spec_MachineOk.j0 k true l0_0 a0_1 l0_2 l0_3 l0_4 l0_5 l0_6 a0_7 a0_8 a0_9))) = some r := by rw [if_pos rfl] at H; exact H
          clear H
          have H := H1
          clear H1
          replace H := Option.bind_eq_some_iff.mp H
          obtain ⟨t156, A100, H⟩ := H
          replace H : (if t156 = true then (if (l0_2.length : Int) = 32 then (if 0 < (l0_2.length : Int) then (spec_MachineOk.j0 k ((rd l0_2 0) != 0) l0_0 a0_1 l0_2 l0_3 l0_4 l0_5 l0_6 a0_7 a0_8 a0_9) else (none)) else (spec_MachineOk.j0 k true l0_0 a0_1 l0_2 l0_3 l0_4 l0_5 l0_6 a0_7 a0_8 a0_9)) else (spec_MachineOk.j0 k true l0_0 a0_1 l0_2 l0_3 l0_4 l0_5 l0_6 a0_7 a0_8 a0_9)) = some r := H
          have A10 := Aside0.mk A100
          clear A100
          by_cases c11 : t156 = true
          · subst c11
            have H1 : (if (l0_2.length : Int) = 32 then (if 0 < (l0_2.length : Int) then (spec_MachineOk.j0 k ((rd l0_2 0) != 0) l0_0 a0_1 l0_2 l0_3 l0_4 l0_5 l0_6 a0_7 a0_8 a0_9) else (none)) else (spec_MachineOk.j0 k true l0_0 a0_1 l0_2 l0_3 l0_4 l0_5 l0_6 a0_7 a0_8 a0_9)) = some r := by rw [if_pos rfl] at H; exact H
            clear H
            have H := H1
            clear H1
            by_cases c12 : (l0_2.length : Int) = 32
            · rw [if_pos c12] at H
              have c12b0 : ((l0_2.length : Int) == 32) = true := beq_iff_eq.mpr c12
              have c12b1 : ((l0_2.length : Int) != 32) = false := bne_eq_false_iff_eq.mpr c12
              clear c12
              by_cases c13 : 0 < (l0_2.length : Int)
              · rw [if_pos c13] at H
                have c13b0 : decide (0 < (l0_2.length : Int)) = true := decide_eq_true c13
                have c13b1 : decide (0 < l0_2.length) = true := decide_eq_true (by omega)
                clear c13
                have H' := Aside0.mk H
                clear H
                have hcz14_0 : w3.cell? ⟨gb153, 0, none⟩ = some (.slice A0_0 l0_0.length c0_0) := (blk_cell BK153.out 0).trans rfl
                have hcz14_1 : w3.cell? ⟨gb153, 1, none⟩ = some (.int .i64 a0_1) := (blk_cell BK153.out 1).trans rfl
                have hcz14_2 : w3.cell? ⟨gb153, 2, none⟩ = some (.slice A0_2 l0_2.length c0_2) := (blk_cell BK153.out 2).trans rfl
                have hcz14_3 : w3.cell? ⟨gb153, 3, none⟩ = some (.slice A0_3 l0_3.length c0_3) := (blk_cell BK153.out 3).trans rfl
                have hcz14_4 : w3.cell? ⟨gb153, 4, none⟩ = some (.slice A0_4 l0_4.length c0_4) := (blk_cell BK153.out 4).trans rfl
                have hcz14_5 : w3.cell? ⟨gb153, 5, none⟩ = some (.slice A0_5 l0_5.length c0_5) := (blk_cell BK153.out 5).trans rfl
                have hcz14_6 : w3.cell? ⟨gb153, 6, none⟩ = some (.slice A0_6 l0_6.length c0_6) := (blk_cell BK153.out 6).trans rfl
                have hcz14_7 : w3.cell? ⟨gb153, 7, none⟩ = some (.int .i64 a0_7) := (blk_cell BK153.out 7).trans rfl
                have hcz14_8 : w3.cell? ⟨gb153, 8, none⟩ = some (.int .i64 a0_8) := (blk_cell BK153.out 8).trans rfl
                have hcz14_9 : w3.cell? ⟨gb153, 9, none⟩ = some (.int .i64 a0_9) := (blk_cell BK153.out 9).trans rfl
                have hfz14_0 := blk_frozen BK153.out 0
                have hfz14_1 := blk_frozen BK153.out 1
                have hfz14_2 := blk_frozen BK153.out 2
                have hfz14_3 := blk_frozen BK153.out 3
                have hfz14_4 := blk_frozen BK153.out 4
                have hfz14_5 := blk_frozen BK153.out 5
                have hfz14_6 := blk_frozen BK153.out 6
                have hfz14_7 := blk_frozen BK153.out 7
                have hfz14_8 := blk_frozen BK153.out 8
                have hfz14_9 := blk_frozen BK153.out 9
                go_wp2_with (first | ((with_reducible refine gate_callee (f := 47) rfl ?_); refine goesL_ (some 6) rfl rfl Try.func47 (by kernel_rfl) rfl #[.slice A0_0 l0_0.length c0_0] rfl (by (try simp only [List.map_toArray, List.map_cons, List.map_nil]); first | done | rfl | (simp only [List.length_drop, List.length_take]; rfl)) ?_; (with_reducible refine (spec_l3CodeOk.calls k _ _ l0_0 true _ ?side1 ?side2 A4.out).mono ?_); (case side1 => repeat (first | exact (Kd.C_below HR0_0.out HB.out) | (with_reducible refine Kd.C_alloc ?_ _) | (with_reducible refine Kd.C_drewN ?_ _) | (with_reducible refine Kd.C_drew ?_))); (case side2 => exact HC0_0.out); rintro e w' ⟨rfl, ⟨nd, rfl⟩⟩; refine ⟨_, rfl, ?_⟩) | (go_at_call 48; (with_reducible refine (spec_l3StackOk.calls (l0_4.length : Int) true _ A8.out).mono ?_); rintro e w' ⟨rfl, ⟨nd, rfl⟩⟩) | (go_at_call 55; (with_reducible refine (spec_l3WordOk.calls a0_1 true _ A10.out).mono ?_); rintro e w' ⟨rfl, ⟨nd, rfl⟩⟩; have p157 : 0 ≤ (0 : Int) := (by omega); have q157 : 0 < (l0_2.length : Int) := of_decide_eq_true (by first | (with_reducible assumption) | assumption); obtain ⟨ad157, e157, hx157_0⟩ := Kd.at_int HR0_2.out 0 p157 q157; cases e157; have qi157 : (0 < l0_2.length) = True := eq_true (by omega); (try rw [show ((0 : Int)).toNat = 0 from rfl] at hx157_0); (try rw [Addr.add_zero'] at hx157_0); replace hx157_0 := (HB.out.cell (World.block_lt_of_cell? w _ hx157_0)).trans hx157_0; replace p157 := eq_true p157; replace q157 := eq_true q157))
                go_meet
                case rel => exact ⟨_, (((rd l0_2 0) != 0)), (by first | rfl | (simp; done) | (simp [*]; done)), H', ⟨by first | omega | exact Nat.le_refl _⟩, ⟨by (with_reducible repeat (first | refine blk_drewN ?_ _ | refine blk_drew ?_ | refine blk_alloc ?_ _)); exact BK153.out⟩, ⟨by repeat (first | (with_reducible first | exact HB.out | apply below_alloc | apply pw_below_drewN | apply below_drew1 | refine below_set ?_ GE153.out) | exact HB.out)⟩⟩
              · rw [if_neg c13] at H
                exact absurd H (by simp)
            · rw [if_neg c12] at H
              have c12b0 : ((l0_2.length : Int) == 32) = false := beq_eq_false_iff_ne.mpr c12
              have c12b1 : ((l0_2.length : Int) != 32) = true := bne_iff_ne.mpr c12
              have H' := Aside0.mk H
              clear H
              have hcz15_0 : w3.cell? ⟨gb153, 0, none⟩ = some (.slice A0_0 l0_0.length c0_0) := (blk_cell BK153.out 0).trans rfl
              have hcz15_1 : w3.cell? ⟨gb153, 1, none⟩ = some (.int .i64 a0_1) := (blk_cell BK153.out 1).trans rfl
              have hcz15_2 : w3.cell? ⟨gb153, 2, none⟩ = some (.slice A0_2 l0_2.length c0_2) := (blk_cell BK153.out 2).trans rfl
              have hcz15_3 : w3.cell? ⟨gb153, 3, none⟩ = some (.slice A0_3 l0_3.length c0_3) := (blk_cell BK153.out 3).trans rfl
              have hcz15_4 : w3.cell? ⟨gb153, 4, none⟩ = some (.slice A0_4 l0_4.length c0_4) := (blk_cell BK153.out 4).trans rfl
              have hcz15_5 : w3.cell? ⟨gb153, 5, none⟩ = some (.slice A0_5 l0_5.length c0_5) := (blk_cell BK153.out 5).trans rfl
              have hcz15_6 : w3.cell? ⟨gb153, 6, none⟩ = some (.slice A0_6 l0_6.length c0_6) := (blk_cell BK153.out 6).trans rfl
              have hcz15_7 : w3.cell? ⟨gb153, 7, none⟩ = some (.int .i64 a0_7) := (blk_cell BK153.out 7).trans rfl
              have hcz15_8 : w3.cell? ⟨gb153, 8, none⟩ = some (.int .i64 a0_8) := (blk_cell BK153.out 8).trans rfl
              have hcz15_9 : w3.cell? ⟨gb153, 9, none⟩ = some (.int .i64 a0_9) := (blk_cell BK153.out 9).trans rfl
              have hfz15_0 := blk_frozen BK153.out 0
              have hfz15_1 := blk_frozen BK153.out 1
              have hfz15_2 := blk_frozen BK153.out 2
              have hfz15_3 := blk_frozen BK153.out 3
              have hfz15_4 := blk_frozen BK153.out 4
              have hfz15_5 := blk_frozen BK153.out 5
              have hfz15_6 := blk_frozen BK153.out 6
              have hfz15_7 := blk_frozen BK153.out 7
              have hfz15_8 := blk_frozen BK153.out 8
              have hfz15_9 := blk_frozen BK153.out 9
              go_wp2_with (first | ((with_reducible refine gate_callee (f := 47) rfl ?_); refine goesL_ (some 6) rfl rfl Try.func47 (by kernel_rfl) rfl #[.slice A0_0 l0_0.length c0_0] rfl (by (try simp only [List.map_toArray, List.map_cons, List.map_nil]); first | done | rfl | (simp only [List.length_drop, List.length_take]; rfl)) ?_; (with_reducible refine (spec_l3CodeOk.calls k _ _ l0_0 true _ ?side1 ?side2 A4.out).mono ?_); (case side1 => repeat (first | exact (Kd.C_below HR0_0.out HB.out) | (with_reducible refine Kd.C_alloc ?_ _) | (with_reducible refine Kd.C_drewN ?_ _) | (with_reducible refine Kd.C_drew ?_))); (case side2 => exact HC0_0.out); rintro e w' ⟨rfl, ⟨nd, rfl⟩⟩; refine ⟨_, rfl, ?_⟩) | (go_at_call 48; (with_reducible refine (spec_l3StackOk.calls (l0_4.length : Int) true _ A8.out).mono ?_); rintro e w' ⟨rfl, ⟨nd, rfl⟩⟩) | (go_at_call 55; (with_reducible refine (spec_l3WordOk.calls a0_1 true _ A10.out).mono ?_); rintro e w' ⟨rfl, ⟨nd, rfl⟩⟩))
              go_meet
              case rel => exact ⟨_, (true), (by first | rfl | (simp; done) | (simp [*]; done)), H', ⟨by first | omega | exact Nat.le_refl _⟩, ⟨by (with_reducible repeat (first | refine blk_drewN ?_ _ | refine blk_drew ?_ | refine blk_alloc ?_ _)); exact BK153.out⟩, ⟨by repeat (first | (with_reducible first | exact HB.out | apply below_alloc | apply pw_below_drewN | apply below_drew1 | refine below_set ?_ GE153.out) | exact HB.out)⟩⟩
          · replace c11 := Bool.eq_false_iff.mpr c11
            subst c11
            have H1 : (spec_MachineOk.j0 k true l0_0 a0_1 l0_2 l0_3 l0_4 l0_5 l0_6 a0_7 a0_8 a0_9) = some r := by rw [if_neg (show ¬ (false = true) by decide)] at H; exact H
            clear H
            have H := H1
            clear H1
            have H' := Aside0.mk H
            clear H
            have hcz16_0 : w3.cell? ⟨gb153, 0, none⟩ = some (.slice A0_0 l0_0.length c0_0) := (blk_cell BK153.out 0).trans rfl
            have hcz16_1 : w3.cell? ⟨gb153, 1, none⟩ = some (.int .i64 a0_1) := (blk_cell BK153.out 1).trans rfl
            have hcz16_2 : w3.cell? ⟨gb153, 2, none⟩ = some (.slice A0_2 l0_2.length c0_2) := (blk_cell BK153.out 2).trans rfl
            have hcz16_3 : w3.cell? ⟨gb153, 3, none⟩ = some (.slice A0_3 l0_3.length c0_3) := (blk_cell BK153.out 3).trans rfl
            have hcz16_4 : w3.cell? ⟨gb153, 4, none⟩ = some (.slice A0_4 l0_4.length c0_4) := (blk_cell BK153.out 4).trans rfl
            have hcz16_5 : w3.cell? ⟨gb153, 5, none⟩ = some (.slice A0_5 l0_5.length c0_5) := (blk_cell BK153.out 5).trans rfl
            have hcz16_6 : w3.cell? ⟨gb153, 6, none⟩ = some (.slice A0_6 l0_6.length c0_6) := (blk_cell BK153.out 6).trans rfl
            have hcz16_7 : w3.cell? ⟨gb153, 7, none⟩ = some (.int .i64 a0_7) := (blk_cell BK153.out 7).trans rfl
            have hcz16_8 : w3.cell? ⟨gb153, 8, none⟩ = some (.int .i64 a0_8) := (blk_cell BK153.out 8).trans rfl
            have hcz16_9 : w3.cell? ⟨gb153, 9, none⟩ = some (.int .i64 a0_9) := (blk_cell BK153.out 9).trans rfl
            have hfz16_0 := blk_frozen BK153.out 0
            have hfz16_1 := blk_frozen BK153.out 1
            have hfz16_2 := blk_frozen BK153.out 2
            have hfz16_3 := blk_frozen BK153.out 3
            have hfz16_4 := blk_frozen BK153.out 4
            have hfz16_5 := blk_frozen BK153.out 5
            have hfz16_6 := blk_frozen BK153.out 6
            have hfz16_7 := blk_frozen BK153.out 7
            have hfz16_8 := blk_frozen BK153.out 8
            have hfz16_9 := blk_frozen BK153.out 9
            go_wp2_with (first | ((with_reducible refine gate_callee (f := 47) rfl ?_); refine goesL_ (some 6) rfl rfl Try.func47 (by kernel_rfl) rfl #[.slice A0_0 l0_0.length c0_0] rfl (by (try simp only [List.map_toArray, List.map_cons, List.map_nil]); first | done | rfl | (simp only [List.length_drop, List.length_take]; rfl)) ?_; (with_reducible refine (spec_l3CodeOk.calls k _ _ l0_0 true _ ?side1 ?side2 A4.out).mono ?_); (case side1 => repeat (first | exact (Kd.C_below HR0_0.out HB.out) | (with_reducible refine Kd.C_alloc ?_ _) | (with_reducible refine Kd.C_drewN ?_ _) | (with_reducible refine Kd.C_drew ?_))); (case side2 => exact HC0_0.out); rintro e w' ⟨rfl, ⟨nd, rfl⟩⟩; refine ⟨_, rfl, ?_⟩) | (go_at_call 48; (with_reducible refine (spec_l3StackOk.calls (l0_4.length : Int) true _ A8.out).mono ?_); rintro e w' ⟨rfl, ⟨nd, rfl⟩⟩) | (go_at_call 55; (with_reducible refine (spec_l3WordOk.calls a0_1 false _ A10.out).mono ?_); rintro e w' ⟨rfl, ⟨nd, rfl⟩⟩))
            go_meet
            case rel => exact ⟨_, (true), (by first | rfl | (simp; done) | (simp [*]; done)), H', ⟨by first | omega | exact Nat.le_refl _⟩, ⟨by (with_reducible repeat (first | refine blk_drewN ?_ _ | refine blk_drew ?_ | refine blk_alloc ?_ _)); exact BK153.out⟩, ⟨by repeat (first | (with_reducible first | exact HB.out | apply below_alloc | apply pw_below_drewN | apply below_drew1 | refine below_set ?_ GE153.out) | exact HB.out)⟩⟩
        · replace c9 := Bool.eq_false_iff.mpr c9
          subst c9
          have H1 : (spec_MachineOk.j0 k true l0_0 a0_1 l0_2 l0_3 l0_4 l0_5 l0_6 a0_7 a0_8 a0_9) = some r := by rw [if_neg (show ¬ (false = true) by decide)] at H; exact H
          clear H
          have H := H1
          clear H1
          have H' := Aside0.mk H
          clear H
          have hcz17_0 : w3.cell? ⟨gb153, 0, none⟩ = some (.slice A0_0 l0_0.length c0_0) := (blk_cell BK153.out 0).trans rfl
          have hcz17_1 : w3.cell? ⟨gb153, 1, none⟩ = some (.int .i64 a0_1) := (blk_cell BK153.out 1).trans rfl
          have hcz17_2 : w3.cell? ⟨gb153, 2, none⟩ = some (.slice A0_2 l0_2.length c0_2) := (blk_cell BK153.out 2).trans rfl
          have hcz17_3 : w3.cell? ⟨gb153, 3, none⟩ = some (.slice A0_3 l0_3.length c0_3) := (blk_cell BK153.out 3).trans rfl
          have hcz17_4 : w3.cell? ⟨gb153, 4, none⟩ = some (.slice A0_4 l0_4.length c0_4) := (blk_cell BK153.out 4).trans rfl
          have hcz17_5 : w3.cell? ⟨gb153, 5, none⟩ = some (.slice A0_5 l0_5.length c0_5) := (blk_cell BK153.out 5).trans rfl
          have hcz17_6 : w3.cell? ⟨gb153, 6, none⟩ = some (.slice A0_6 l0_6.length c0_6) := (blk_cell BK153.out 6).trans rfl
          have hcz17_7 : w3.cell? ⟨gb153, 7, none⟩ = some (.int .i64 a0_7) := (blk_cell BK153.out 7).trans rfl
          have hcz17_8 : w3.cell? ⟨gb153, 8, none⟩ = some (.int .i64 a0_8) := (blk_cell BK153.out 8).trans rfl
          have hcz17_9 : w3.cell? ⟨gb153, 9, none⟩ = some (.int .i64 a0_9) := (blk_cell BK153.out 9).trans rfl
          have hfz17_0 := blk_frozen BK153.out 0
          have hfz17_1 := blk_frozen BK153.out 1
          have hfz17_2 := blk_frozen BK153.out 2
          have hfz17_3 := blk_frozen BK153.out 3
          have hfz17_4 := blk_frozen BK153.out 4
          have hfz17_5 := blk_frozen BK153.out 5
          have hfz17_6 := blk_frozen BK153.out 6
          have hfz17_7 := blk_frozen BK153.out 7
          have hfz17_8 := blk_frozen BK153.out 8
          have hfz17_9 := blk_frozen BK153.out 9
          go_wp2_with (first | ((with_reducible refine gate_callee (f := 47) rfl ?_); refine goesL_ (some 6) rfl rfl Try.func47 (by kernel_rfl) rfl #[.slice A0_0 l0_0.length c0_0] rfl (by (try simp only [List.map_toArray, List.map_cons, List.map_nil]); first | done | rfl | (simp only [List.length_drop, List.length_take]; rfl)) ?_; (with_reducible refine (spec_l3CodeOk.calls k _ _ l0_0 true _ ?side1 ?side2 A4.out).mono ?_); (case side1 => repeat (first | exact (Kd.C_below HR0_0.out HB.out) | (with_reducible refine Kd.C_alloc ?_ _) | (with_reducible refine Kd.C_drewN ?_ _) | (with_reducible refine Kd.C_drew ?_))); (case side2 => exact HC0_0.out); rintro e w' ⟨rfl, ⟨nd, rfl⟩⟩; refine ⟨_, rfl, ?_⟩) | (go_at_call 48; (with_reducible refine (spec_l3StackOk.calls (l0_4.length : Int) false _ A8.out).mono ?_); rintro e w' ⟨rfl, ⟨nd, rfl⟩⟩))
          go_meet
          case rel => exact ⟨_, (true), (by first | rfl | (simp; done) | (simp [*]; done)), H', ⟨by first | omega | exact Nat.le_refl _⟩, ⟨by (with_reducible repeat (first | refine blk_drewN ?_ _ | refine blk_drew ?_ | refine blk_alloc ?_ _)); exact BK153.out⟩, ⟨by repeat (first | (with_reducible first | exact HB.out | apply below_alloc | apply pw_below_drewN | apply below_drew1 | refine below_set ?_ GE153.out) | exact HB.out)⟩⟩
    · replace c5 := Bool.eq_false_iff.mpr c5
      subst c5
      have H1 : (spec_MachineOk.j0 k true l0_0 a0_1 l0_2 l0_3 l0_4 l0_5 l0_6 a0_7 a0_8 a0_9) = some r := by rw [if_neg (show ¬ (false = true) by decide)] at H; exact H
      clear H
      have H := H1
      clear H1
      have H' := Aside0.mk H
      clear H
      have hcz18_0 : w3.cell? ⟨gb153, 0, none⟩ = some (.slice A0_0 l0_0.length c0_0) := (blk_cell BK153.out 0).trans rfl
      have hcz18_1 : w3.cell? ⟨gb153, 1, none⟩ = some (.int .i64 a0_1) := (blk_cell BK153.out 1).trans rfl
      have hcz18_2 : w3.cell? ⟨gb153, 2, none⟩ = some (.slice A0_2 l0_2.length c0_2) := (blk_cell BK153.out 2).trans rfl
      have hcz18_3 : w3.cell? ⟨gb153, 3, none⟩ = some (.slice A0_3 l0_3.length c0_3) := (blk_cell BK153.out 3).trans rfl
      have hcz18_4 : w3.cell? ⟨gb153, 4, none⟩ = some (.slice A0_4 l0_4.length c0_4) := (blk_cell BK153.out 4).trans rfl
      have hcz18_5 : w3.cell? ⟨gb153, 5, none⟩ = some (.slice A0_5 l0_5.length c0_5) := (blk_cell BK153.out 5).trans rfl
      have hcz18_6 : w3.cell? ⟨gb153, 6, none⟩ = some (.slice A0_6 l0_6.length c0_6) := (blk_cell BK153.out 6).trans rfl
      have hcz18_7 : w3.cell? ⟨gb153, 7, none⟩ = some (.int .i64 a0_7) := (blk_cell BK153.out 7).trans rfl
      have hcz18_8 : w3.cell? ⟨gb153, 8, none⟩ = some (.int .i64 a0_8) := (blk_cell BK153.out 8).trans rfl
      have hcz18_9 : w3.cell? ⟨gb153, 9, none⟩ = some (.int .i64 a0_9) := (blk_cell BK153.out 9).trans rfl
      have hfz18_0 := blk_frozen BK153.out 0
      have hfz18_1 := blk_frozen BK153.out 1
      have hfz18_2 := blk_frozen BK153.out 2
      have hfz18_3 := blk_frozen BK153.out 3
      have hfz18_4 := blk_frozen BK153.out 4
      have hfz18_5 := blk_frozen BK153.out 5
      have hfz18_6 := blk_frozen BK153.out 6
      have hfz18_7 := blk_frozen BK153.out 7
      have hfz18_8 := blk_frozen BK153.out 8
      have hfz18_9 := blk_frozen BK153.out 9
      go_wp2_with (first | ((with_reducible refine gate_callee (f := 47) rfl ?_); refine goesL_ (some 6) rfl rfl Try.func47 (by kernel_rfl) rfl #[.slice A0_0 l0_0.length c0_0] rfl (by (try simp only [List.map_toArray, List.map_cons, List.map_nil]); first | done | rfl | (simp only [List.length_drop, List.length_take]; rfl)) ?_; (with_reducible refine (spec_l3CodeOk.calls k _ _ l0_0 false _ ?side1 ?side2 A4.out).mono ?_); (case side1 => repeat (first | exact (Kd.C_below HR0_0.out HB.out) | (with_reducible refine Kd.C_alloc ?_ _) | (with_reducible refine Kd.C_drewN ?_ _) | (with_reducible refine Kd.C_drew ?_))); (case side2 => exact HC0_0.out); rintro e w' ⟨rfl, ⟨nd, rfl⟩⟩; refine ⟨_, rfl, ?_⟩))
      go_meet
      case rel => exact ⟨_, (true), (by first | rfl | (simp; done) | (simp [*]; done)), H', ⟨by first | omega | exact Nat.le_refl _⟩, ⟨by (with_reducible repeat (first | refine blk_drewN ?_ _ | refine blk_drew ?_ | refine blk_alloc ?_ _)); exact BK153.out⟩, ⟨by repeat (first | (with_reducible first | exact HB.out | apply below_alloc | apply pw_below_drewN | apply below_drew1 | refine below_set ?_ GE153.out) | exact HB.out)⟩⟩
  case rest =>
    clear HC2
    try clear c1
    try clear p1
    try clear q1
    try clear hx1
    try clear qi1
    try clear p2
    try clear c4
    try clear c5
    try clear c6
    try clear c6b0
    try clear c6b1
    try clear c9
    try clear c11
    try clear c12
    try clear c12b0
    try clear c12b1
    try clear c13
    try clear c13b0
    try clear c13b1
    try clear p15
    try clear q15
    try clear hx15
    try clear qi15
    try clear c17
    try clear hcz14_0
    try clear hcz14_1
    try clear hcz14_2
    try clear hcz14_3
    try clear hcz14_4
    try clear hcz14_5
    try clear hcz14_6
    try clear hcz14_7
    try clear hcz14_8
    try clear hcz14_9
    try clear hcz15_0
    try clear hcz15_1
    try clear hcz15_2
    try clear hcz15_3
    try clear hcz15_4
    try clear hcz15_5
    try clear hcz15_6
    try clear hcz15_7
    try clear hcz15_8
    try clear hcz15_9
    try clear hcz16_0
    try clear hcz16_1
    try clear hcz16_2
    try clear hcz16_3
    try clear hcz16_4
    try clear hcz16_5
    try clear hcz16_6
    try clear hcz16_7
    try clear hcz16_8
    try clear hcz16_9
    try clear hcz17_0
    try clear hcz17_1
    try clear hcz17_2
    try clear hcz17_3
    try clear hcz17_4
    try clear hcz17_5
    try clear hcz17_6
    try clear hcz17_7
    try clear hcz17_8
    try clear hcz17_9
    try clear hcz18_0
    try clear hcz18_1
    try clear hcz18_2
    try clear hcz18_3
    try clear hcz18_4
    try clear hcz18_5
    try clear hcz18_6
    try clear hcz18_7
    try clear hcz18_8
    try clear hcz18_9
    try clear hcz7_0
    try clear hcz7_1
    try clear hcz7_2
    try clear hcz7_3
    try clear hcz7_4
    try clear hcz7_5
    try clear hcz7_6
    try clear hcz7_7
    try clear hcz7_8
    try clear hcz7_9
    try clear hfz14_0
    try clear hfz14_1
    try clear hfz14_2
    try clear hfz14_3
    try clear hfz14_4
    try clear hfz14_5
    try clear hfz14_6
    try clear hfz14_7
    try clear hfz14_8
    try clear hfz14_9
    try clear hfz15_0
    try clear hfz15_1
    try clear hfz15_2
    try clear hfz15_3
    try clear hfz15_4
    try clear hfz15_5
    try clear hfz15_6
    try clear hfz15_7
    try clear hfz15_8
    try clear hfz15_9
    try clear hfz16_0
    try clear hfz16_1
    try clear hfz16_2
    try clear hfz16_3
    try clear hfz16_4
    try clear hfz16_5
    try clear hfz16_6
    try clear hfz16_7
    try clear hfz16_8
    try clear hfz16_9
    try clear hfz17_0
    try clear hfz17_1
    try clear hfz17_2
    try clear hfz17_3
    try clear hfz17_4
    try clear hfz17_5
    try clear hfz17_6
    try clear hfz17_7
    try clear hfz17_8
    try clear hfz17_9
    try clear hfz18_0
    try clear hfz18_1
    try clear hfz18_2
    try clear hfz18_3
    try clear hfz18_4
    try clear hfz18_5
    try clear hfz18_6
    try clear hfz18_7
    try clear hfz18_8
    try clear hfz18_9
    try clear hfz7_0
    try clear hfz7_1
    try clear hfz7_2
    try clear hfz7_3
    try clear hfz7_4
    try clear hfz7_5
    try clear hfz7_6
    try clear hfz7_7
    try clear hfz7_8
    try clear hfz7_9
    try clear hx157_0
    try clear p157
    try clear q157
    obtain ⟨kq, x39_1, rfl, HA, HJ1, BK153, HB⟩ := hcut
    cases kq with
    | zero => exact absurd HA.out (by simp [spec_MachineOk.j0])
    | succ kj1 =>
      have H := HA.out
      clear HA
      simp only [spec_MachineOk.j0] at H
      by_cases c19 : x39_1 = true
      · subst c19
        have H1 : (some false) = some r := by rw [if_pos rfl] at H; exact H
        clear H
        have H := H1
        clear H1
        obtain rfl := Option.some.inj H
        go_wp2
        go_ret
        exact ⟨by first | rfl | (simp [errW_none, errW_some] <;> rfl) | (simp [*, errW_none, errW_some] <;> rfl), by repeat (first | (with_reducible first | exact HB.out | apply below_alloc | apply pw_below_drewN | apply below_drew1 | refine below_set ?_ GE153.out) | exact HB.out)⟩
      · replace c19 := Bool.eq_false_iff.mpr c19
        subst c19
        have H1 : (spec_MachineOk.l0 kj1 0 l0_0 a0_1 l0_2 l0_3 l0_4 l0_5 l0_6 a0_7 a0_8 a0_9) = some r := by rw [if_neg (show ¬ (false = true) by decide)] at H; exact H
        clear H
        have H := H1
        clear H1
        have H' := Aside0.mk H
        clear H
        go_wp2
        go_loopg [3] kj1 (fun kq v3 w' => ∃ (x3_2 : Int), v3 = .int .i64 x3_2 ∧ Aside0 (spec_MachineOk.l0 kq x3_2 l0_0 a0_1 l0_2 l0_3 l0_4 l0_5 l0_6 a0_7 a0_8 a0_9 = some r) ∧ Aside0 (kq ≤ kj1) ∧ Aside0 (w'.heap[gb153]? = some (.cells #[(.slice A0_0 l0_0.length c0_0), .int .i64 a0_1, (.slice A0_2 l0_2.length c0_2), (.slice A0_3 l0_3.length c0_3), (.slice A0_4 l0_4.length c0_4), (.slice A0_5 l0_5.length c0_5), (.slice A0_6 l0_6.length c0_6), .int .i64 a0_7, .int .i64 a0_8, .int .i64 a0_9] 36 (0, 0))) ∧ Aside0 (Below w.heap.size w w'))
        case atStart => exact ⟨(0), (by first | rfl | (simp; done) | (simp [*]; done)), H', ⟨Nat.le_refl _⟩, ⟨by (with_reducible repeat (first | refine blk_drewN ?_ _ | refine blk_drew ?_ | refine blk_alloc ?_ _)); exact BK153.out⟩, ⟨by repeat (first | (with_reducible first | exact HB.out | apply below_alloc | apply pw_below_drewN | apply below_drew1 | refine below_set ?_ GE153.out) | exact HB.out)⟩⟩
        case round =>
          clear H'
          try clear c1
          try clear p1
          try clear q1
          try clear hx1
          try clear qi1
          try clear p2
          try clear c4
          try clear c5
          try clear c6
          try clear c6b0
          try clear c6b1
          try clear c9
          try clear c11
          try clear c12
          try clear c12b0
          try clear c12b1
          try clear c13
          try clear c13b0
          try clear c13b1
          try clear p15
          try clear q15
          try clear hx15
          try clear qi15
          try clear c17
          try clear c19
          try clear hcz14_0
          try clear hcz14_1
          try clear hcz14_2
          try clear hcz14_3
          try clear hcz14_4
          try clear hcz14_5
          try clear hcz14_6
          try clear hcz14_7
          try clear hcz14_8
          try clear hcz14_9
          try clear hcz15_0
          try clear hcz15_1
          try clear hcz15_2
          try clear hcz15_3
          try clear hcz15_4
          try clear hcz15_5
          try clear hcz15_6
          try clear hcz15_7
          try clear hcz15_8
          try clear hcz15_9
          try clear hcz16_0
          try clear hcz16_1
          try clear hcz16_2
          try clear hcz16_3
          try clear hcz16_4
          try clear hcz16_5
          try clear hcz16_6
          try clear hcz16_7
          try clear hcz16_8
          try clear hcz16_9
          try clear hcz17_0
          try clear hcz17_1
          try clear hcz17_2
          try clear hcz17_3
          try clear hcz17_4
          try clear hcz17_5
          try clear hcz17_6
          try clear hcz17_7
          try clear hcz17_8
          try clear hcz17_9
          try clear hcz18_0
          try clear hcz18_1
          try clear hcz18_2
          try clear hcz18_3
          try clear hcz18_4
          try clear hcz18_5
          try clear hcz18_6
          try clear hcz18_7
          try clear hcz18_8
          try clear hcz18_9
          try clear hcz7_0
          try clear hcz7_1
          try clear hcz7_2
          try clear hcz7_3
          try clear hcz7_4
          try clear hcz7_5
          try clear hcz7_6
          try clear hcz7_7
          try clear hcz7_8
          try clear hcz7_9
          try clear hfz14_0
          try clear hfz14_1
          try clear hfz14_2
          try clear hfz14_3
          try clear hfz14_4
          try clear hfz14_5
          try clear hfz14_6
          try clear hfz14_7
          try clear hfz14_8
          try clear hfz14_9
          try clear hfz15_0
          try clear hfz15_1
          try clear hfz15_2
          try clear hfz15_3
          try clear hfz15_4
          try clear hfz15_5
          try clear hfz15_6
          try clear hfz15_7
          try clear hfz15_8
          try clear hfz15_9
          try clear hfz16_0
          try clear hfz16_1
          try clear hfz16_2
          try clear hfz16_3
          try clear hfz16_4
          try clear hfz16_5
          try clear hfz16_6
          try clear hfz16_7
          try clear hfz16_8
          try clear hfz16_9
          try clear hfz17_0
          try clear hfz17_1
          try clear hfz17_2
          try clear hfz17_3
          try clear hfz17_4
          try clear hfz17_5
          try clear hfz17_6
          try clear hfz17_7
          try clear hfz17_8
          try clear hfz17_9
          try clear hfz18_0
          try clear hfz18_1
          try clear hfz18_2
          try clear hfz18_3
          try clear hfz18_4
          try clear hfz18_5
          try clear hfz18_6
          try clear hfz18_7
          try clear hfz18_8
          try clear hfz18_9
          try clear hfz7_0
          try clear hfz7_1
          try clear hfz7_2
          try clear hfz7_3
          try clear hfz7_4
          try clear hfz7_5
          try clear hfz7_6
          try clear hfz7_7
          try clear hfz7_8
          try clear hfz7_9
          try clear hx157_0
          try clear p1
          try clear p15
          try clear p157
          try clear p2
          try clear q1
          try clear q15
          try clear q157
          obtain ⟨x3_2, rfl, HA, HK2, BK153, HB⟩ := hrel
          cases gk with
          | zero => exact absurd HA.out (by simp [spec_MachineOk.l0])
          | succ k2 =>
            have H := HA.out
            clear HA
            simp only [spec_MachineOk.l0] at H
            by_cases c20 : x3_2 < 32
            · rw [if_pos c20] at H
              have c20b0 : decide (x3_2 < 32) = true := decide_eq_true c20
              clear c20
              by_cases c21 : 0 ≤ x3_2
              · rw [if_pos c21] at H
                have c21b0 : decide (0 ≤ x3_2) = true := decide_eq_true c21
                clear c21
                by_cases c22 : x3_2 < (l0_2.length : Int)
                · rw [if_pos c22] at H
                  have c22b0 : decide (x3_2 < (l0_2.length : Int)) = true := decide_eq_true c22
                  clear c22
                  replace H := Option.bind_eq_some_iff.mp H
                  obtain ⟨t159, A230, H⟩ := H
                  replace H : (if t159 = true then (spec_MachineOk.l0 k2 (wrap64 (x3_2 + 1)) l0_0 a0_1 l0_2 l0_3 l0_4 l0_5 l0_6 a0_7 a0_8 a0_9) else (some false)) = some r := H
                  have A23 := Aside0.mk A230
                  clear A230
                  by_cases c24 : t159 = true
                  · subst c24
                    have H1 : (spec_MachineOk.l0 k2 (wrap64 (x3_2 + 1)) l0_0 a0_1 l0_2 l0_3 l0_4 l0_5 l0_6 a0_7 a0_8 a0_9) = some r := by rw [if_pos rfl] at H; exact H
                    clear H
                    have H := H1
                    clear H1
                    have H' := Aside0.mk H
                    clear H
                    have hcz25_0 : wr.cell? ⟨gb153, 0, none⟩ = some (.slice A0_0 l0_0.length c0_0) := (blk_cell BK153.out 0).trans rfl
                    have hcz25_1 : wr.cell? ⟨gb153, 1, none⟩ = some (.int .i64 a0_1) := (blk_cell BK153.out 1).trans rfl
                    have hcz25_2 : wr.cell? ⟨gb153, 2, none⟩ = some (.slice A0_2 l0_2.length c0_2) := (blk_cell BK153.out 2).trans rfl
                    have hcz25_3 : wr.cell? ⟨gb153, 3, none⟩ = some (.slice A0_3 l0_3.length c0_3) := (blk_cell BK153.out 3).trans rfl
                    have hcz25_4 : wr.cell? ⟨gb153, 4, none⟩ = some (.slice A0_4 l0_4.length c0_4) := (blk_cell BK153.out 4).trans rfl
                    have hcz25_5 : wr.cell? ⟨gb153, 5, none⟩ = some (.slice A0_5 l0_5.length c0_5) := (blk_cell BK153.out 5).trans rfl
                    have hcz25_6 : wr.cell? ⟨gb153, 6, none⟩ = some (.slice A0_6 l0_6.length c0_6) := (blk_cell BK153.out 6).trans rfl
                    have hcz25_7 : wr.cell? ⟨gb153, 7, none⟩ = some (.int .i64 a0_7) := (blk_cell BK153.out 7).trans rfl
                    have hcz25_8 : wr.cell? ⟨gb153, 8, none⟩ = some (.int .i64 a0_8) := (blk_cell BK153.out 8).trans rfl
                    have hcz25_9 : wr.cell? ⟨gb153, 9, none⟩ = some (.int .i64 a0_9) := (blk_cell BK153.out 9).trans rfl
                    have hfz25_0 := blk_frozen BK153.out 0
                    have hfz25_1 := blk_frozen BK153.out 1
                    have hfz25_2 := blk_frozen BK153.out 2
                    have hfz25_3 := blk_frozen BK153.out 3
                    have hfz25_4 := blk_frozen BK153.out 4
                    have hfz25_5 := blk_frozen BK153.out 5
                    have hfz25_6 := blk_frozen BK153.out 6
                    have hfz25_7 := blk_frozen BK153.out 7
                    have hfz25_8 := blk_frozen BK153.out 8
                    have hfz25_9 := blk_frozen BK153.out 9
                    have p158 : 0 ≤ (x3_2 : Int) := of_decide_eq_true (by first | (with_reducible assumption) | assumption)
                    have q158 : x3_2 < (l0_2.length : Int) := of_decide_eq_true (by first | (with_reducible assumption) | assumption)
                    obtain ⟨ad158, e158, hx158_0⟩ := Kd.at_int HR0_2.out x3_2 p158 q158
                    cases e158
                    replace hx158_0 := (HB.out.cell (World.block_lt_of_cell? w _ hx158_0)).trans hx158_0
                    replace p158 := eq_true p158
                    replace q158 := eq_true q158
                    go_wp2_with (first | ((with_reducible refine gate_callee (f := 55) rfl ?_); refine goesL_ (some 49) rfl rfl Try.func55 (by kernel_rfl) rfl #[.int .i64 (rd l0_2 x3_2)] rfl (by (try simp only [List.map_toArray, List.map_cons, List.map_nil]); first | done | rfl | (simp only [List.length_drop, List.length_take]; rfl)) ?_; (with_reducible refine (spec_l3WordOk.calls (rd l0_2 x3_2) true _ A23.out).mono ?_); rintro e w' ⟨rfl, ⟨nd, rfl⟩⟩; refine ⟨_, rfl, ?_⟩))
                    go_roundg k2
                    case measure => have := HJ1.out; have := HK2.out; omega
                    case rel => exact ⟨(wrap64 (x3_2 + 1)), (by first | rfl | (simp; done) | (simp [*]; done)), H', ⟨by have := HJ1.out; have := HK2.out; omega⟩, ⟨by (with_reducible repeat (first | refine blk_drewN ?_ _ | refine blk_drew ?_ | refine blk_alloc ?_ _)); exact BK153.out⟩, ⟨by repeat (first | (with_reducible first | exact HB.out | apply below_alloc | apply pw_below_drewN | apply below_drew1 | refine below_set ?_ GE153.out) | exact HB.out)⟩⟩
                  · replace c24 := Bool.eq_false_iff.mpr c24
                    subst c24
                    have H1 : (some false) = some r := by rw [if_neg (show ¬ (false = true) by decide)] at H; exact H
                    clear H
                    have H := H1
                    clear H1
                    obtain rfl := Option.some.inj H
                    have hcz26_0 : wr.cell? ⟨gb153, 0, none⟩ = some (.slice A0_0 l0_0.length c0_0) := (blk_cell BK153.out 0).trans rfl
                    have hcz26_1 : wr.cell? ⟨gb153, 1, none⟩ = some (.int .i64 a0_1) := (blk_cell BK153.out 1).trans rfl
                    have hcz26_2 : wr.cell? ⟨gb153, 2, none⟩ = some (.slice A0_2 l0_2.length c0_2) := (blk_cell BK153.out 2).trans rfl
                    have hcz26_3 : wr.cell? ⟨gb153, 3, none⟩ = some (.slice A0_3 l0_3.length c0_3) := (blk_cell BK153.out 3).trans rfl
                    have hcz26_4 : wr.cell? ⟨gb153, 4, none⟩ = some (.slice A0_4 l0_4.length c0_4) := (blk_cell BK153.out 4).trans rfl
                    have hcz26_5 : wr.cell? ⟨gb153, 5, none⟩ = some (.slice A0_5 l0_5.length c0_5) := (blk_cell BK153.out 5).trans rfl
                    have hcz26_6 : wr.cell? ⟨gb153, 6, none⟩ = some (.slice A0_6 l0_6.length c0_6) := (blk_cell BK153.out 6).trans rfl
                    have hcz26_7 : wr.cell? ⟨gb153, 7, none⟩ = some (.int .i64 a0_7) := (blk_cell BK153.out 7).trans rfl
                    have hcz26_8 : wr.cell? ⟨gb153, 8, none⟩ = some (.int .i64 a0_8) := (blk_cell BK153.out 8).trans rfl
                    have hcz26_9 : wr.cell? ⟨gb153, 9, none⟩ = some (.int .i64 a0_9) := (blk_cell BK153.out 9).trans rfl
                    have hfz26_0 := blk_frozen BK153.out 0
                    have hfz26_1 := blk_frozen BK153.out 1
                    have hfz26_2 := blk_frozen BK153.out 2
                    have hfz26_3 := blk_frozen BK153.out 3
                    have hfz26_4 := blk_frozen BK153.out 4
                    have hfz26_5 := blk_frozen BK153.out 5
                    have hfz26_6 := blk_frozen BK153.out 6
                    have hfz26_7 := blk_frozen BK153.out 7
                    have hfz26_8 := blk_frozen BK153.out 8
                    have hfz26_9 := blk_frozen BK153.out 9
                    have p158 : 0 ≤ (x3_2 : Int) := of_decide_eq_true (by first | (with_reducible assumption) | assumption)
                    have q158 : x3_2 < (l0_2.length : Int) := of_decide_eq_true (by first | (with_reducible assumption) | assumption)
                    obtain ⟨ad158, e158, hx158_0⟩ := Kd.at_int HR0_2.out x3_2 p158 q158
                    cases e158
                    replace hx158_0 := (HB.out.cell (World.block_lt_of_cell? w _ hx158_0)).trans hx158_0
                    replace p158 := eq_true p158
                    replace q158 := eq_true q158
                    go_wp2_with (first | ((with_reducible refine gate_callee (f := 55) rfl ?_); refine goesL_ (some 49) rfl rfl Try.func55 (by kernel_rfl) rfl #[.int .i64 (rd l0_2 x3_2)] rfl (by (try simp only [List.map_toArray, List.map_cons, List.map_nil]); first | done | rfl | (simp only [List.length_drop, List.length_take]; rfl)) ?_; (with_reducible refine (spec_l3WordOk.calls (rd l0_2 x3_2) false _ A23.out).mono ?_); rintro e w' ⟨rfl, ⟨nd, rfl⟩⟩; refine ⟨_, rfl, ?_⟩))
                    go_ret
                    exact ⟨by first | rfl | (simp [errW_none, errW_some] <;> rfl) | (simp [*, errW_none, errW_some] <;> rfl), by repeat (first | (with_reducible first | exact HB.out | apply below_alloc | apply pw_below_drewN | apply below_drew1 | refine below_set ?_ GE153.out) | exact HB.out)⟩
                · rw [if_neg c22] at H
                  exact absurd H (by simp)
              · rw [if_neg c21] at H
                exact absurd H (by simp)
            · rw [if_neg c20] at H
              have c20b0 : decide (x3_2 < 32) = false := decide_eq_false c20
              clear c20
              by_cases c27 : (l0_5.length : Int) ≤ 10000
              · rw [if_pos c27] at H
                have c27b0 : decide ((l0_5.length : Int) ≤ 10000) = true := decide_eq_true c27
                have c27b1 : decide (l0_5.length ≤ 10000) = true := decide_eq_true (by omega)
                clear c27
                by_cases c28 : (l0_6.length : Int) ≤ 10000
                · rw [if_pos c28] at H
                  have c28b0 : decide ((l0_6.length : Int) ≤ 10000) = true := decide_eq_true c28
                  have c28b1 : decide (l0_6.length ≤ 10000) = true := decide_eq_true (by omega)
                  clear c28
                  by_cases c29 : a0_7 ≥ 0
                  · rw [if_pos c29] at H
                    have c29b0 : decide (0 ≤ a0_7) = true := decide_eq_true c29
                    clear c29
                    by_cases c30 : a0_7 ≤ 1000000
                    · rw [if_pos c30] at H
                      have c30b0 : decide (a0_7 ≤ 1000000) = true := decide_eq_true c30
                      clear c30
                      by_cases c31 : a0_8 ≥ 0
                      · rw [if_pos c31] at H
                        have c31b0 : decide (0 ≤ a0_8) = true := decide_eq_true c31
                        clear c31
                        by_cases c32 : a0_8 ≤ 3
                        · rw [if_pos c32] at H
                          have c32b0 : decide (a0_8 ≤ 3) = true := decide_eq_true c32
                          clear c32
                          replace H := Option.bind_eq_some_iff.mp H
                          obtain ⟨t160, A330, H⟩ := H
                          replace H : (some t160) = some r := H
                          have A33 := Aside0.mk A330
                          clear A330
                          obtain rfl := Option.some.inj H
                          have hcz34_0 : wr.cell? ⟨gb153, 0, none⟩ = some (.slice A0_0 l0_0.length c0_0) := (blk_cell BK153.out 0).trans rfl
                          have hcz34_1 : wr.cell? ⟨gb153, 1, none⟩ = some (.int .i64 a0_1) := (blk_cell BK153.out 1).trans rfl
                          have hcz34_2 : wr.cell? ⟨gb153, 2, none⟩ = some (.slice A0_2 l0_2.length c0_2) := (blk_cell BK153.out 2).trans rfl
                          have hcz34_3 : wr.cell? ⟨gb153, 3, none⟩ = some (.slice A0_3 l0_3.length c0_3) := (blk_cell BK153.out 3).trans rfl
                          have hcz34_4 : wr.cell? ⟨gb153, 4, none⟩ = some (.slice A0_4 l0_4.length c0_4) := (blk_cell BK153.out 4).trans rfl
                          have hcz34_5 : wr.cell? ⟨gb153, 5, none⟩ = some (.slice A0_5 l0_5.length c0_5) := (blk_cell BK153.out 5).trans rfl
                          have hcz34_6 : wr.cell? ⟨gb153, 6, none⟩ = some (.slice A0_6 l0_6.length c0_6) := (blk_cell BK153.out 6).trans rfl
                          have hcz34_7 : wr.cell? ⟨gb153, 7, none⟩ = some (.int .i64 a0_7) := (blk_cell BK153.out 7).trans rfl
                          have hcz34_8 : wr.cell? ⟨gb153, 8, none⟩ = some (.int .i64 a0_8) := (blk_cell BK153.out 8).trans rfl
                          have hcz34_9 : wr.cell? ⟨gb153, 9, none⟩ = some (.int .i64 a0_9) := (blk_cell BK153.out 9).trans rfl
                          have hfz34_0 := blk_frozen BK153.out 0
                          have hfz34_1 := blk_frozen BK153.out 1
                          have hfz34_2 := blk_frozen BK153.out 2
                          have hfz34_3 := blk_frozen BK153.out 3
                          have hfz34_4 := blk_frozen BK153.out 4
                          have hfz34_5 := blk_frozen BK153.out 5
                          have hfz34_6 := blk_frozen BK153.out 6
                          have hfz34_7 := blk_frozen BK153.out 7
                          have hfz34_8 := blk_frozen BK153.out 8
                          have hfz34_9 := blk_frozen BK153.out 9
                          go_wp2_with (first | (go_at_call 55; (with_reducible refine (spec_l3WordOk.calls a0_9 t160 _ A33.out).mono ?_); rintro e w' ⟨rfl, ⟨nd, rfl⟩⟩))
                          go_ret
                          exact ⟨by first | rfl | (simp [errW_none, errW_some] <;> rfl) | (simp [*, errW_none, errW_some] <;> rfl), by repeat (first | (with_reducible first | exact HB.out | apply below_alloc | apply pw_below_drewN | apply below_drew1 | refine below_set ?_ GE153.out) | exact HB.out)⟩
                        · rw [if_neg c32] at H
                          have c32b0 : decide (a0_8 ≤ 3) = false := decide_eq_false c32
                          clear c32
                          obtain rfl := Option.some.inj H
                          have hcz35_0 : wr.cell? ⟨gb153, 0, none⟩ = some (.slice A0_0 l0_0.length c0_0) := (blk_cell BK153.out 0).trans rfl
                          have hcz35_1 : wr.cell? ⟨gb153, 1, none⟩ = some (.int .i64 a0_1) := (blk_cell BK153.out 1).trans rfl
                          have hcz35_2 : wr.cell? ⟨gb153, 2, none⟩ = some (.slice A0_2 l0_2.length c0_2) := (blk_cell BK153.out 2).trans rfl
                          have hcz35_3 : wr.cell? ⟨gb153, 3, none⟩ = some (.slice A0_3 l0_3.length c0_3) := (blk_cell BK153.out 3).trans rfl
                          have hcz35_4 : wr.cell? ⟨gb153, 4, none⟩ = some (.slice A0_4 l0_4.length c0_4) := (blk_cell BK153.out 4).trans rfl
                          have hcz35_5 : wr.cell? ⟨gb153, 5, none⟩ = some (.slice A0_5 l0_5.length c0_5) := (blk_cell BK153.out 5).trans rfl
                          have hcz35_6 : wr.cell? ⟨gb153, 6, none⟩ = some (.slice A0_6 l0_6.length c0_6) := (blk_cell BK153.out 6).trans rfl
                          have hcz35_7 : wr.cell? ⟨gb153, 7, none⟩ = some (.int .i64 a0_7) := (blk_cell BK153.out 7).trans rfl
                          have hcz35_8 : wr.cell? ⟨gb153, 8, none⟩ = some (.int .i64 a0_8) := (blk_cell BK153.out 8).trans rfl
                          have hcz35_9 : wr.cell? ⟨gb153, 9, none⟩ = some (.int .i64 a0_9) := (blk_cell BK153.out 9).trans rfl
                          have hfz35_0 := blk_frozen BK153.out 0
                          have hfz35_1 := blk_frozen BK153.out 1
                          have hfz35_2 := blk_frozen BK153.out 2
                          have hfz35_3 := blk_frozen BK153.out 3
                          have hfz35_4 := blk_frozen BK153.out 4
                          have hfz35_5 := blk_frozen BK153.out 5
                          have hfz35_6 := blk_frozen BK153.out 6
                          have hfz35_7 := blk_frozen BK153.out 7
                          have hfz35_8 := blk_frozen BK153.out 8
                          have hfz35_9 := blk_frozen BK153.out 9
                          go_wp2
                          go_ret
                          exact ⟨by first | rfl | (simp [errW_none, errW_some] <;> rfl) | (simp [*, errW_none, errW_some] <;> rfl), by repeat (first | (with_reducible first | exact HB.out | apply below_alloc | apply pw_below_drewN | apply below_drew1 | refine below_set ?_ GE153.out) | exact HB.out)⟩
                      · rw [if_neg c31] at H
                        have c31b0 : decide (0 ≤ a0_8) = false := decide_eq_false c31
                        clear c31
                        obtain rfl := Option.some.inj H
                        have hcz36_0 : wr.cell? ⟨gb153, 0, none⟩ = some (.slice A0_0 l0_0.length c0_0) := (blk_cell BK153.out 0).trans rfl
                        have hcz36_1 : wr.cell? ⟨gb153, 1, none⟩ = some (.int .i64 a0_1) := (blk_cell BK153.out 1).trans rfl
                        have hcz36_2 : wr.cell? ⟨gb153, 2, none⟩ = some (.slice A0_2 l0_2.length c0_2) := (blk_cell BK153.out 2).trans rfl
                        have hcz36_3 : wr.cell? ⟨gb153, 3, none⟩ = some (.slice A0_3 l0_3.length c0_3) := (blk_cell BK153.out 3).trans rfl
                        have hcz36_4 : wr.cell? ⟨gb153, 4, none⟩ = some (.slice A0_4 l0_4.length c0_4) := (blk_cell BK153.out 4).trans rfl
                        have hcz36_5 : wr.cell? ⟨gb153, 5, none⟩ = some (.slice A0_5 l0_5.length c0_5) := (blk_cell BK153.out 5).trans rfl
                        have hcz36_6 : wr.cell? ⟨gb153, 6, none⟩ = some (.slice A0_6 l0_6.length c0_6) := (blk_cell BK153.out 6).trans rfl
                        have hcz36_7 : wr.cell? ⟨gb153, 7, none⟩ = some (.int .i64 a0_7) := (blk_cell BK153.out 7).trans rfl
                        have hcz36_8 : wr.cell? ⟨gb153, 8, none⟩ = some (.int .i64 a0_8) := (blk_cell BK153.out 8).trans rfl
                        have hcz36_9 : wr.cell? ⟨gb153, 9, none⟩ = some (.int .i64 a0_9) := (blk_cell BK153.out 9).trans rfl
                        have hfz36_0 := blk_frozen BK153.out 0
                        have hfz36_1 := blk_frozen BK153.out 1
                        have hfz36_2 := blk_frozen BK153.out 2
                        have hfz36_3 := blk_frozen BK153.out 3
                        have hfz36_4 := blk_frozen BK153.out 4
                        have hfz36_5 := blk_frozen BK153.out 5
                        have hfz36_6 := blk_frozen BK153.out 6
                        have hfz36_7 := blk_frozen BK153.out 7
                        have hfz36_8 := blk_frozen BK153.out 8
                        have hfz36_9 := blk_frozen BK153.out 9
                        go_wp2
                        go_ret
                        exact ⟨by first | rfl | (simp [errW_none, errW_some] <;> rfl) | (simp [*, errW_none, errW_some] <;> rfl), by repeat (first | (with_reducible first | exact HB.out | apply below_alloc | apply pw_below_drewN | apply below_drew1 | refine below_set ?_ GE153.out) | exact HB.out)⟩
                    · rw [if_neg c30] at H
                      have c30b0 : decide (a0_7 ≤ 1000000) = false := decide_eq_false c30
                      clear c30
                      obtain rfl := Option.some.inj H
                      have hcz37_0 : wr.cell? ⟨gb153, 0, none⟩ = some (.slice A0_0 l0_0.length c0_0) := (blk_cell BK153.out 0).trans rfl
                      have hcz37_1 : wr.cell? ⟨gb153, 1, none⟩ = some (.int .i64 a0_1) := (blk_cell BK153.out 1).trans rfl
                      have hcz37_2 : wr.cell? ⟨gb153, 2, none⟩ = some (.slice A0_2 l0_2.length c0_2) := (blk_cell BK153.out 2).trans rfl
                      have hcz37_3 : wr.cell? ⟨gb153, 3, none⟩ = some (.slice A0_3 l0_3.length c0_3) := (blk_cell BK153.out 3).trans rfl
                      have hcz37_4 : wr.cell? ⟨gb153, 4, none⟩ = some (.slice A0_4 l0_4.length c0_4) := (blk_cell BK153.out 4).trans rfl
                      have hcz37_5 : wr.cell? ⟨gb153, 5, none⟩ = some (.slice A0_5 l0_5.length c0_5) := (blk_cell BK153.out 5).trans rfl
                      have hcz37_6 : wr.cell? ⟨gb153, 6, none⟩ = some (.slice A0_6 l0_6.length c0_6) := (blk_cell BK153.out 6).trans rfl
                      have hcz37_7 : wr.cell? ⟨gb153, 7, none⟩ = some (.int .i64 a0_7) := (blk_cell BK153.out 7).trans rfl
                      have hcz37_8 : wr.cell? ⟨gb153, 8, none⟩ = some (.int .i64 a0_8) := (blk_cell BK153.out 8).trans rfl
                      have hcz37_9 : wr.cell? ⟨gb153, 9, none⟩ = some (.int .i64 a0_9) := (blk_cell BK153.out 9).trans rfl
                      have hfz37_0 := blk_frozen BK153.out 0
                      have hfz37_1 := blk_frozen BK153.out 1
                      have hfz37_2 := blk_frozen BK153.out 2
                      have hfz37_3 := blk_frozen BK153.out 3
                      have hfz37_4 := blk_frozen BK153.out 4
                      have hfz37_5 := blk_frozen BK153.out 5
                      have hfz37_6 := blk_frozen BK153.out 6
                      have hfz37_7 := blk_frozen BK153.out 7
                      have hfz37_8 := blk_frozen BK153.out 8
                      have hfz37_9 := blk_frozen BK153.out 9
                      go_wp2
                      go_ret
                      exact ⟨by first | rfl | (simp [errW_none, errW_some] <;> rfl) | (simp [*, errW_none, errW_some] <;> rfl), by repeat (first | (with_reducible first | exact HB.out | apply below_alloc | apply pw_below_drewN | apply below_drew1 | refine below_set ?_ GE153.out) | exact HB.out)⟩
                  · rw [if_neg c29] at H
                    have c29b0 : decide (0 ≤ a0_7) = false := decide_eq_false c29
                    clear c29
                    obtain rfl := Option.some.inj H
                    have hcz38_0 : wr.cell? ⟨gb153, 0, none⟩ = some (.slice A0_0 l0_0.length c0_0) := (blk_cell BK153.out 0).trans rfl
                    have hcz38_1 : wr.cell? ⟨gb153, 1, none⟩ = some (.int .i64 a0_1) := (blk_cell BK153.out 1).trans rfl
                    have hcz38_2 : wr.cell? ⟨gb153, 2, none⟩ = some (.slice A0_2 l0_2.length c0_2) := (blk_cell BK153.out 2).trans rfl
                    have hcz38_3 : wr.cell? ⟨gb153, 3, none⟩ = some (.slice A0_3 l0_3.length c0_3) := (blk_cell BK153.out 3).trans rfl
                    have hcz38_4 : wr.cell? ⟨gb153, 4, none⟩ = some (.slice A0_4 l0_4.length c0_4) := (blk_cell BK153.out 4).trans rfl
                    have hcz38_5 : wr.cell? ⟨gb153, 5, none⟩ = some (.slice A0_5 l0_5.length c0_5) := (blk_cell BK153.out 5).trans rfl
                    have hcz38_6 : wr.cell? ⟨gb153, 6, none⟩ = some (.slice A0_6 l0_6.length c0_6) := (blk_cell BK153.out 6).trans rfl
                    have hcz38_7 : wr.cell? ⟨gb153, 7, none⟩ = some (.int .i64 a0_7) := (blk_cell BK153.out 7).trans rfl
                    have hcz38_8 : wr.cell? ⟨gb153, 8, none⟩ = some (.int .i64 a0_8) := (blk_cell BK153.out 8).trans rfl
                    have hcz38_9 : wr.cell? ⟨gb153, 9, none⟩ = some (.int .i64 a0_9) := (blk_cell BK153.out 9).trans rfl
                    have hfz38_0 := blk_frozen BK153.out 0
                    have hfz38_1 := blk_frozen BK153.out 1
                    have hfz38_2 := blk_frozen BK153.out 2
                    have hfz38_3 := blk_frozen BK153.out 3
                    have hfz38_4 := blk_frozen BK153.out 4
                    have hfz38_5 := blk_frozen BK153.out 5
                    have hfz38_6 := blk_frozen BK153.out 6
                    have hfz38_7 := blk_frozen BK153.out 7
                    have hfz38_8 := blk_frozen BK153.out 8
                    have hfz38_9 := blk_frozen BK153.out 9
                    go_wp2
                    go_ret
                    exact ⟨by first | rfl | (simp [errW_none, errW_some] <;> rfl) | (simp [*, errW_none, errW_some] <;> rfl), by repeat (first | (with_reducible first | exact HB.out | apply below_alloc | apply pw_below_drewN | apply below_drew1 | refine below_set ?_ GE153.out) | exact HB.out)⟩
                · rw [if_neg c28] at H
                  have c28b0 : decide ((l0_6.length : Int) ≤ 10000) = false := decide_eq_false c28
                  have c28b1 : decide (l0_6.length ≤ 10000) = false := decide_eq_false (by omega)
                  clear c28
                  obtain rfl := Option.some.inj H
                  have hcz39_0 : wr.cell? ⟨gb153, 0, none⟩ = some (.slice A0_0 l0_0.length c0_0) := (blk_cell BK153.out 0).trans rfl
                  have hcz39_1 : wr.cell? ⟨gb153, 1, none⟩ = some (.int .i64 a0_1) := (blk_cell BK153.out 1).trans rfl
                  have hcz39_2 : wr.cell? ⟨gb153, 2, none⟩ = some (.slice A0_2 l0_2.length c0_2) := (blk_cell BK153.out 2).trans rfl
                  have hcz39_3 : wr.cell? ⟨gb153, 3, none⟩ = some (.slice A0_3 l0_3.length c0_3) := (blk_cell BK153.out 3).trans rfl
                  have hcz39_4 : wr.cell? ⟨gb153, 4, none⟩ = some (.slice A0_4 l0_4.length c0_4) := (blk_cell BK153.out 4).trans rfl
                  have hcz39_5 : wr.cell? ⟨gb153, 5, none⟩ = some (.slice A0_5 l0_5.length c0_5) := (blk_cell BK153.out 5).trans rfl
                  have hcz39_6 : wr.cell? ⟨gb153, 6, none⟩ = some (.slice A0_6 l0_6.length c0_6) := (blk_cell BK153.out 6).trans rfl
                  have hcz39_7 : wr.cell? ⟨gb153, 7, none⟩ = some (.int .i64 a0_7) := (blk_cell BK153.out 7).trans rfl
                  have hcz39_8 : wr.cell? ⟨gb153, 8, none⟩ = some (.int .i64 a0_8) := (blk_cell BK153.out 8).trans rfl
                  have hcz39_9 : wr.cell? ⟨gb153, 9, none⟩ = some (.int .i64 a0_9) := (blk_cell BK153.out 9).trans rfl
                  have hfz39_0 := blk_frozen BK153.out 0
                  have hfz39_1 := blk_frozen BK153.out 1
                  have hfz39_2 := blk_frozen BK153.out 2
                  have hfz39_3 := blk_frozen BK153.out 3
                  have hfz39_4 := blk_frozen BK153.out 4
                  have hfz39_5 := blk_frozen BK153.out 5
                  have hfz39_6 := blk_frozen BK153.out 6
                  have hfz39_7 := blk_frozen BK153.out 7
                  have hfz39_8 := blk_frozen BK153.out 8
                  have hfz39_9 := blk_frozen BK153.out 9
                  go_wp2
                  go_ret
                  exact ⟨by first | rfl | (simp [errW_none, errW_some] <;> rfl) | (simp [*, errW_none, errW_some] <;> rfl), by repeat (first | (with_reducible first | exact HB.out | apply below_alloc | apply pw_below_drewN | apply below_drew1 | refine below_set ?_ GE153.out) | exact HB.out)⟩
              · rw [if_neg c27] at H
                have c27b0 : decide ((l0_5.length : Int) ≤ 10000) = false := decide_eq_false c27
                have c27b1 : decide (l0_5.length ≤ 10000) = false := decide_eq_false (by omega)
                clear c27
                obtain rfl := Option.some.inj H
                have hcz40_0 : wr.cell? ⟨gb153, 0, none⟩ = some (.slice A0_0 l0_0.length c0_0) := (blk_cell BK153.out 0).trans rfl
                have hcz40_1 : wr.cell? ⟨gb153, 1, none⟩ = some (.int .i64 a0_1) := (blk_cell BK153.out 1).trans rfl
                have hcz40_2 : wr.cell? ⟨gb153, 2, none⟩ = some (.slice A0_2 l0_2.length c0_2) := (blk_cell BK153.out 2).trans rfl
                have hcz40_3 : wr.cell? ⟨gb153, 3, none⟩ = some (.slice A0_3 l0_3.length c0_3) := (blk_cell BK153.out 3).trans rfl
                have hcz40_4 : wr.cell? ⟨gb153, 4, none⟩ = some (.slice A0_4 l0_4.length c0_4) := (blk_cell BK153.out 4).trans rfl
                have hcz40_5 : wr.cell? ⟨gb153, 5, none⟩ = some (.slice A0_5 l0_5.length c0_5) := (blk_cell BK153.out 5).trans rfl
                have hcz40_6 : wr.cell? ⟨gb153, 6, none⟩ = some (.slice A0_6 l0_6.length c0_6) := (blk_cell BK153.out 6).trans rfl
                have hcz40_7 : wr.cell? ⟨gb153, 7, none⟩ = some (.int .i64 a0_7) := (blk_cell BK153.out 7).trans rfl
                have hcz40_8 : wr.cell? ⟨gb153, 8, none⟩ = some (.int .i64 a0_8) := (blk_cell BK153.out 8).trans rfl
                have hcz40_9 : wr.cell? ⟨gb153, 9, none⟩ = some (.int .i64 a0_9) := (blk_cell BK153.out 9).trans rfl
                have hfz40_0 := blk_frozen BK153.out 0
                have hfz40_1 := blk_frozen BK153.out 1
                have hfz40_2 := blk_frozen BK153.out 2
                have hfz40_3 := blk_frozen BK153.out 3
                have hfz40_4 := blk_frozen BK153.out 4
                have hfz40_5 := blk_frozen BK153.out 5
                have hfz40_6 := blk_frozen BK153.out 6
                have hfz40_7 := blk_frozen BK153.out 7
                have hfz40_8 := blk_frozen BK153.out 8
                have hfz40_9 := blk_frozen BK153.out 9
                go_wp2
                go_ret
                exact ⟨by first | rfl | (simp [errW_none, errW_some] <;> rfl) | (simp [*, errW_none, errW_some] <;> rfl), by repeat (first | (with_reducible first | exact HB.out | apply below_alloc | apply pw_below_drewN | apply below_drew1 | refine below_set ?_ GE153.out) | exact HB.out)⟩

end Go.Proofs.Ythndggachjdkfaa.PLoadWord
