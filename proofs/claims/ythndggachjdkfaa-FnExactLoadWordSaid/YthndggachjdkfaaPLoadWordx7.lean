-- Lines for this claim, written by the session's own program wip/myprint.py. Not trusted: Lean checks them.
import Derived.Test.YthndggachjdkfaaPLoadWordx0
import Derived.Test.YthndggachjdkfaaPLoadWordx1
import Derived.Test.YthndggachjdkfaaPLoadWordx2
import Derived.Test.YthndggachjdkfaaPLoadWordx5
import Derived.Test.YthndggachjdkfaaPLoadWordx6
namespace Go.Proofs.Ythndggachjdkfaa.PLoadWord
open Go.RowKit Go.Proofs.YthndggachjdkfaaW.PrintWords Go.Proofs.YthndggachjdkfaaW.PrintLast Go.Proofs.YthndggachjdkfaaW.PrintMore
attribute [local go_sem] max2_int min2_int max_two min_two max_three min_three max_four min_four   -- for this text's walks alone
set_option linter.unusedVariables false
set_option linter.unusedSimpArgs false

/-! ### laws_FnExactLoadWord: function 6 -/
def laws_FnExactLoadWord.j0 : Nat → Bool → List Int → Int → List Int → List Int → List Int → List Int → List Int → Int → Int → Int → List Int → Int → List Int → List Int → List Int → List Int → List Int → Int → Int → Int → Option (Bool)
  | 0, _, _, _, _, _, _, _, _, _, _, _, _, _, _, _, _, _, _, _, _, _ => none
  | k + 1, x42, x199000, x199001, x199002, x199003, x199004, x199005, x199006, x199007, x199008, x199009, x247000, x247001, x247002, x247003, x247004, x247005, x247006, x247007, x247008, x247009 => if x42 = true then (some false) else ((laws_toMachine.f k x199000 x199001 x199002 x199003 x199004 x199005 x199006 x199007 x199008 x199009).bind fun bt249 => ((laws_eqMachine.f k x247000 x247001 x247002 x247003 x247004 x247005 x247006 x247007 x247008 x247009 bt249.1 bt249.2.1 bt249.2.2.1 bt249.2.2.2.1 bt249.2.2.2.2.1 bt249.2.2.2.2.2.1 bt249.2.2.2.2.2.2.1 bt249.2.2.2.2.2.2.2.1 bt249.2.2.2.2.2.2.2.2.1 bt249.2.2.2.2.2.2.2.2.2).bind fun t271 => (if t271 = true then (some true) else (some false))))
def laws_FnExactLoadWord.f (k : Nat) (l0_0 : List Int) (a0_1 : Int) (l0_2 : List Int) (l0_3 : List Int) (l0_4 : List Int) (l0_5 : List Int) (l0_6 : List Int) (a0_7 : Int) (a0_8 : Int) (a0_9 : Int) (a1 : Int) (a2 : Int) : Option (Bool) := (laws_szMachine.f l0_0 a0_1 l0_2 l0_3 l0_4 l0_5 l0_6 a0_7 a0_8 a0_9 1048576).bind fun t199 => (if t199 < 0 then (some true) else ((laws_toMachine.f k l0_0 a0_1 l0_2 l0_3 l0_4 l0_5 l0_6 a0_7 a0_8 a0_9).bind fun bt200 => ((spec_LoadWord.f k bt200.1 bt200.2.1 bt200.2.2.1 bt200.2.2.2.1 bt200.2.2.2.2.1 bt200.2.2.2.2.2.1 bt200.2.2.2.2.2.2.1 bt200.2.2.2.2.2.2.2.1 bt200.2.2.2.2.2.2.2.2.1 bt200.2.2.2.2.2.2.2.2.2 a1 a2).bind fun bt222 => ((laws_toMachine.f k l0_0 a0_1 l0_2 l0_3 l0_4 l0_5 l0_6 a0_7 a0_8 a0_9).bind fun bt224 => ((impl_LoadWord.f bt224.1 bt224.2.1 bt224.2.2.1 bt224.2.2.2.1 bt224.2.2.2.2.1 bt224.2.2.2.2.2.1 bt224.2.2.2.2.2.2.1 bt224.2.2.2.2.2.2.2.1 bt224.2.2.2.2.2.2.2.2.1 bt224.2.2.2.2.2.2.2.2.2 a1 a2).bind fun bt247 => (if bt247.1 = bt222.1 then (laws_FnExactLoadWord.j0 k (bt247.2 != bt222.2) l0_0 a0_1 l0_2 l0_3 l0_4 l0_5 l0_6 a0_7 a0_8 a0_9 bt224.1 bt224.2.1 bt224.2.2.1 bt224.2.2.2.1 bt224.2.2.2.2.1 bt224.2.2.2.2.2.1 bt224.2.2.2.2.2.2.1 bt224.2.2.2.2.2.2.2.1 bt224.2.2.2.2.2.2.2.2.1 bt224.2.2.2.2.2.2.2.2.2) else (laws_FnExactLoadWord.j0 k true l0_0 a0_1 l0_2 l0_3 l0_4 l0_5 l0_6 a0_7 a0_8 a0_9 bt224.1 bt224.2.1 bt224.2.2.1 bt224.2.2.2.1 bt224.2.2.2.2.1 bt224.2.2.2.2.2.1 bt224.2.2.2.2.2.2.1 bt224.2.2.2.2.2.2.2.1 bt224.2.2.2.2.2.2.2.2.1 bt224.2.2.2.2.2.2.2.2.2)))))))
theorem laws_FnExactLoadWord.mono_l : ∀ k, (∀ y0 y1 y2 y3 y4 y5 y6 y7 y8 y9 y10 y11 y12 y13 y14 y15 y16 y17 y18 y19 y20, LeO (laws_FnExactLoadWord.j0 k y0 y1 y2 y3 y4 y5 y6 y7 y8 y9 y10 y11 y12 y13 y14 y15 y16 y17 y18 y19 y20) (laws_FnExactLoadWord.j0 (k + 1) y0 y1 y2 y3 y4 y5 y6 y7 y8 y9 y10 y11 y12 y13 y14 y15 y16 y17 y18 y19 y20))
  | 0 => fun _ _ _ _ _ _ _ _ _ _ _ _ _ _ _ _ _ _ _ _ _ r h => by simp [laws_FnExactLoadWord.j0] at h
  | k + 1 => by
    have ih0 := laws_FnExactLoadWord.mono_l k
    · intro y0 y1 y2 y3 y4 y5 y6 y7 y8 y9 y10 y11 y12 y13 y14 y15 y16 y17 y18 y19 y20
      unfold laws_FnExactLoadWord.j0
      repeat' first
      | (with_reducible exact ih0 _ _ _ _ _ _ _ _ _ _ _ _ _ _ _ _ _ _ _ _ _)
      | (with_reducible exact laws_eqMachine.mono _ _ _ _ _ _ _ _ _ _ _ _ _ _ _ _ _ _ _ _ _)
      | (with_reducible exact laws_toMachine.mono _ _ _ _ _ _ _ _ _ _ _)
      | (with_reducible exact spec_LoadWord.mono _ _ _ _ _ _ _ _ _ _ _ _ _)
      | (with_reducible exact LeO.refl _)
      | (with_reducible exact LeO.none _)
      | (with_reducible refine LeO.ite ?_ ?_)
      | (with_reducible refine LeO.bind ?_ (fun _ => ?_))
      | exact ih0 _ _ _ _ _ _ _ _ _ _ _ _ _ _ _ _ _ _ _ _ _
      | exact laws_eqMachine.mono _ _ _ _ _ _ _ _ _ _ _ _ _ _ _ _ _ _ _ _ _
      | exact laws_toMachine.mono _ _ _ _ _ _ _ _ _ _ _
      | exact spec_LoadWord.mono _ _ _ _ _ _ _ _ _ _ _ _ _
      | exact LeO.none _
      | refine LeO.ite ?_ ?_
      | refine LeO.bind ?_ (fun _ => ?_)
theorem laws_FnExactLoadWord.mono : ∀ a0 a1 a2 a3 a4 a5 a6 a7 a8 a9 a10 a11 k, LeO (laws_FnExactLoadWord.f k a0 a1 a2 a3 a4 a5 a6 a7 a8 a9 a10 a11) (laws_FnExactLoadWord.f (k + 1) a0 a1 a2 a3 a4 a5 a6 a7 a8 a9 a10 a11) := by
  intro a0 a1 a2 a3 a4 a5 a6 a7 a8 a9 a10 a11 k
  have ih0 := laws_FnExactLoadWord.mono_l k
  unfold laws_FnExactLoadWord.f
  repeat' first
      | (with_reducible exact ih0 _ _ _ _ _ _ _ _ _ _ _ _ _ _ _ _ _ _ _ _ _)
      | (with_reducible exact laws_eqMachine.mono _ _ _ _ _ _ _ _ _ _ _ _ _ _ _ _ _ _ _ _ _)
      | (with_reducible exact laws_toMachine.mono _ _ _ _ _ _ _ _ _ _ _)
      | (with_reducible exact spec_LoadWord.mono _ _ _ _ _ _ _ _ _ _ _ _ _)
      | (with_reducible exact LeO.refl _)
      | (with_reducible exact LeO.none _)
      | (with_reducible refine LeO.ite ?_ ?_)
      | (with_reducible refine LeO.bind ?_ (fun _ => ?_))
      | exact ih0 _ _ _ _ _ _ _ _ _ _ _ _ _ _ _ _ _ _ _ _ _
      | exact laws_eqMachine.mono _ _ _ _ _ _ _ _ _ _ _ _ _ _ _ _ _ _ _ _ _
      | exact laws_toMachine.mono _ _ _ _ _ _ _ _ _ _ _
      | exact spec_LoadWord.mono _ _ _ _ _ _ _ _ _ _ _ _ _
      | exact LeO.none _
      | refine LeO.ite ?_ ?_
      | refine LeO.bind ?_ (fun _ => ?_)
set_option maxHeartbeats 8000000 in
set_option maxRecDepth 100000 in
theorem laws_FnExactLoadWord.calls (k : Nat) (A0_0 : Option Addr) (c0_0 : Nat) (l0_0 : List Int) (a0_1 : Int) (A0_2 : Option Addr) (c0_2 : Nat) (l0_2 : List Int) (A0_3 : Option Addr) (c0_3 : Nat) (l0_3 : List Int) (A0_4 : Option Addr) (c0_4 : Nat) (l0_4 : List Int) (A0_5 : Option Addr) (c0_5 : Nat) (l0_5 : List Int) (A0_6 : Option Addr) (c0_6 : Nat) (l0_6 : List Int) (a0_7 : Int) (a0_8 : Int) (a0_9 : Int) (a1 : Int) (a2 : Int) (r : Bool) (w : World) (hr0_0 : Kd.C (Kd.int .i64) w A0_0 l0_0.length l0_0) (hc0_0 : l0_0.length ≤ c0_0) (hr0_2 : Kd.C (Kd.int .i64) w A0_2 l0_2.length l0_2) (hc0_2 : l0_2.length ≤ c0_2) (hr0_3 : Kd.C (Kd.int .u8) w A0_3 l0_3.length l0_3) (hc0_3 : l0_3.length ≤ c0_3) (hr0_4 : Kd.C (Kd.int .u8) w A0_4 l0_4.length l0_4) (hc0_4 : l0_4.length ≤ c0_4) (hr0_5 : Kd.C (Kd.int .u8) w A0_5 l0_5.length l0_5) (hc0_5 : l0_5.length ≤ c0_5) (hr0_6 : Kd.C (Kd.int .u8) w A0_6 l0_6.length l0_6) (hc0_6 : l0_6.length ≤ c0_6) (h : laws_FnExactLoadWord.f k l0_0 a0_1 l0_2 l0_3 l0_4 l0_5 l0_6 a0_7 a0_8 a0_9 a1 a2 = some r) :
    Calls Try.prog 6 #[.agg #[.slice A0_0 l0_0.length c0_0, .int .i64 a0_1, .slice A0_2 l0_2.length c0_2, .slice A0_3 l0_3.length c0_3, .slice A0_4 l0_4.length c0_4, .slice A0_5 l0_5.length c0_5, .slice A0_6 l0_6.length c0_6, .int .i64 a0_7, .int .i64 a0_8, .int .i64 a0_9], .int .i64 a1, .int .i64 a2] w fun e w' => e = .returned (.bool r) ∧ Below w.heap.size w w' := by
  have hu33 := Try.underlying33
  have hu36 := Try.underlying36
  have HR0_0 := Aside0.mk hr0_0
  have HC0_0 := Aside0.mk hc0_0
  clear hr0_0 hc0_0
  have HR0_2 := Aside0.mk hr0_2
  have HC0_2 := Aside0.mk hc0_2
  clear hr0_2 hc0_2
  have HR0_3 := Aside0.mk hr0_3
  have HC0_3 := Aside0.mk hc0_3
  clear hr0_3 hc0_3
  have HR0_4 := Aside0.mk hr0_4
  have HC0_4 := Aside0.mk hc0_4
  clear hr0_4 hc0_4
  have HR0_5 := Aside0.mk hr0_5
  have HC0_5 := Aside0.mk hc0_5
  clear hr0_5 hc0_5
  have HR0_6 := Aside0.mk hr0_6
  have HC0_6 := Aside0.mk hc0_6
  clear hr0_6 hc0_6
  have HB := Aside0.mk (Below.refl w.heap.size w)
  have H : ((laws_szMachine.f l0_0 a0_1 l0_2 l0_3 l0_4 l0_5 l0_6 a0_7 a0_8 a0_9 1048576).bind fun t199 => (if t199 < 0 then (some true) else ((laws_toMachine.f k l0_0 a0_1 l0_2 l0_3 l0_4 l0_5 l0_6 a0_7 a0_8 a0_9).bind fun bt200 => ((spec_LoadWord.f k bt200.1 bt200.2.1 bt200.2.2.1 bt200.2.2.2.1 bt200.2.2.2.2.1 bt200.2.2.2.2.2.1 bt200.2.2.2.2.2.2.1 bt200.2.2.2.2.2.2.2.1 bt200.2.2.2.2.2.2.2.2.1 bt200.2.2.2.2.2.2.2.2.2 a1 a2).bind fun bt222 => ((laws_toMachine.f k l0_0 a0_1 l0_2 l0_3 l0_4 l0_5 l0_6 a0_7 a0_8 a0_9).bind fun bt224 => ((impl_LoadWord.f bt224.1 bt224.2.1 bt224.2.2.1 bt224.2.2.2.1 bt224.2.2.2.2.1 bt224.2.2.2.2.2.1 bt224.2.2.2.2.2.2.1 bt224.2.2.2.2.2.2.2.1 bt224.2.2.2.2.2.2.2.2.1 bt224.2.2.2.2.2.2.2.2.2 a1 a2).bind fun bt247 => (if bt247.1 = bt222.1 then (laws_FnExactLoadWord.j0 k (bt247.2 != bt222.2) l0_0 a0_1 l0_2 l0_3 l0_4 l0_5 l0_6 a0_7 a0_8 a0_9 bt224.1 bt224.2.1 bt224.2.2.1 bt224.2.2.2.1 bt224.2.2.2.2.1 bt224.2.2.2.2.2.1 bt224.2.2.2.2.2.2.1 bt224.2.2.2.2.2.2.2.1 bt224.2.2.2.2.2.2.2.2.1 bt224.2.2.2.2.2.2.2.2.2) else (laws_FnExactLoadWord.j0 k true l0_0 a0_1 l0_2 l0_3 l0_4 l0_5 l0_6 a0_7 a0_8 a0_9 bt224.1 bt224.2.1 bt224.2.2.1 bt224.2.2.2.1 bt224.2.2.2.2.1 bt224.2.2.2.2.2.1 bt224.2.2.2.2.2.2.1 bt224.2.2.2.2.2.2.2.1 bt224.2.2.2.2.2.2.2.2.1 bt224.2.2.2.2.2.2.2.2.2)))))))) = some r := h
  clear h
  replace H := Option.bind_eq_some_iff.mp H
  obtain ⟨t199, A40, H⟩ := H
  replace H : (if t199 < 0 then (some true) else ((laws_toMachine.f k l0_0 a0_1 l0_2 l0_3 l0_4 l0_5 l0_6 a0_7 a0_8 a0_9).bind fun bt200 => ((spec_LoadWord.f k bt200.1 bt200.2.1 bt200.2.2.1 bt200.2.2.2.1 bt200.2.2.2.2.1 bt200.2.2.2.2.2.1 bt200.2.2.2.2.2.2.1 bt200.2.2.2.2.2.2.2.1 bt200.2.2.2.2.2.2.2.2.1 bt200.2.2.2.2.2.2.2.2.2 a1 a2).bind fun bt222 => ((laws_toMachine.f k l0_0 a0_1 l0_2 l0_3 l0_4 l0_5 l0_6 a0_7 a0_8 a0_9).bind fun bt224 => ((impl_LoadWord.f bt224.1 bt224.2.1 bt224.2.2.1 bt224.2.2.2.1 bt224.2.2.2.2.1 bt224.2.2.2.2.2.1 bt224.2.2.2.2.2.2.1 bt224.2.2.2.2.2.2.2.1 bt224.2.2.2.2.2.2.2.2.1 bt224.2.2.2.2.2.2.2.2.2 a1 a2).bind fun bt247 => (if bt247.1 = bt222.1 then (laws_FnExactLoadWord.j0 k (bt247.2 != bt222.2) l0_0 a0_1 l0_2 l0_3 l0_4 l0_5 l0_6 a0_7 a0_8 a0_9 bt224.1 bt224.2.1 bt224.2.2.1 bt224.2.2.2.1 bt224.2.2.2.2.1 bt224.2.2.2.2.2.1 bt224.2.2.2.2.2.2.1 bt224.2.2.2.2.2.2.2.1 bt224.2.2.2.2.2.2.2.2.1 bt224.2.2.2.2.2.2.2.2.2) else (laws_FnExactLoadWord.j0 k true l0_0 a0_1 l0_2 l0_3 l0_4 l0_5 l0_6 a0_7 a0_8 a0_9 bt224.1 bt224.2.1 bt224.2.2.1 bt224.2.2.2.1 bt224.2.2.2.2.1 bt224.2.2.2.2.2.1 bt224.2.2.2.2.2.2.1 bt224.2.2.2.2.2.2.2.1 bt224.2.2.2.2.2.2.2.2.1 bt224.2.2.2.2.2.2.2.2.2))))))) = some r := H
  have A4 := Aside0.mk A40
  clear A40
  by_cases c5 : t199 < 0
  · rw [if_pos c5] at H
    have c5b0 : decide (t199 < 0) = true := decide_eq_true c5
    clear c5
    obtain rfl := Option.some.inj H
    go_enter Try.func6, Try.ntmps6
    go_wp2_with (first | ((with_reducible refine gate_dst (N := 3) rfl ?_); refine box_event ?hg (N := 3) ?hd (cs := #[.slice A0_0 l0_0.length c0_0, .int .i64 a0_1, .slice A0_2 l0_2.length c0_2, .slice A0_3 l0_3.length c0_3, .slice A0_4 l0_4.length c0_4, .slice A0_5 l0_5.length c0_5, .slice A0_6 l0_6.length c0_6, .int .i64 a0_7, .int .i64 a0_8, .int .i64 a0_9]) (t := 33) ?hr ?_; (case hd => rfl); (case hg => rfl); (case hr => first | (go_simp; done) | (go_simp; rfl)); intro gb198 hg w6 hbox hb; have n0_ := Aside0.mk (below_step (by repeat (first | (with_reducible first | exact HB.out | apply below_alloc | apply pw_below_drewN | apply below_drew1) | exact HB.out)) hb); have n1_ := Aside0.mk (hbox); have n2_ := Aside0.mk ((by rw [hg]; exact (below_size (by repeat (first | (with_reducible first | exact HB.out | apply below_alloc | apply pw_below_drewN | apply below_drew1) | exact HB.out))) : w.heap.size ≤ gb198)); have n3_ := Aside0.mk ((by rw [hg]; exact (below_size (by repeat (first | (with_reducible first | exact HB.out | apply below_alloc | apply pw_below_drewN | apply below_drew1) | exact HB.out))) : w.heap.size ≤ gb198)); clear HB; have HB := n0_; have BK198 := n1_; have GW198 := n2_; have GE198 := n3_; clear n0_ n1_ n2_ n3_; clear hb hbox hg; have hcz7_0 : w6.cell? ⟨gb198, 0, none⟩ = some (.slice A0_0 l0_0.length c0_0) := (blk_cell BK198.out 0).trans rfl; have hcz7_1 : w6.cell? ⟨gb198, 1, none⟩ = some (.int .i64 a0_1) := (blk_cell BK198.out 1).trans rfl; have hcz7_2 : w6.cell? ⟨gb198, 2, none⟩ = some (.slice A0_2 l0_2.length c0_2) := (blk_cell BK198.out 2).trans rfl; have hcz7_3 : w6.cell? ⟨gb198, 3, none⟩ = some (.slice A0_3 l0_3.length c0_3) := (blk_cell BK198.out 3).trans rfl; have hcz7_4 : w6.cell? ⟨gb198, 4, none⟩ = some (.slice A0_4 l0_4.length c0_4) := (blk_cell BK198.out 4).trans rfl; have hcz7_5 : w6.cell? ⟨gb198, 5, none⟩ = some (.slice A0_5 l0_5.length c0_5) := (blk_cell BK198.out 5).trans rfl; have hcz7_6 : w6.cell? ⟨gb198, 6, none⟩ = some (.slice A0_6 l0_6.length c0_6) := (blk_cell BK198.out 6).trans rfl; have hcz7_7 : w6.cell? ⟨gb198, 7, none⟩ = some (.int .i64 a0_7) := (blk_cell BK198.out 7).trans rfl; have hcz7_8 : w6.cell? ⟨gb198, 8, none⟩ = some (.int .i64 a0_8) := (blk_cell BK198.out 8).trans rfl; have hcz7_9 : w6.cell? ⟨gb198, 9, none⟩ = some (.int .i64 a0_9) := (blk_cell BK198.out 9).trans rfl; have hfz7_0 := blk_frozen BK198.out 0; have hfz7_1 := blk_frozen BK198.out 1; have hfz7_2 := blk_frozen BK198.out 2; have hfz7_3 := blk_frozen BK198.out 3; have hfz7_4 := blk_frozen BK198.out 4; have hfz7_5 := blk_frozen BK198.out 5; have hfz7_6 := blk_frozen BK198.out 6; have hfz7_7 := blk_frozen BK198.out 7; have hfz7_8 := blk_frozen BK198.out 8; have hfz7_9 := blk_frozen BK198.out 9) | ((with_reducible refine gate_callee (f := 16) rfl ?_); refine goesL_ (some 15) rfl rfl Try.func16 (by kernel_rfl) rfl #[.agg #[.slice A0_0 l0_0.length c0_0, .int .i64 a0_1, .slice A0_2 l0_2.length c0_2, .slice A0_3 l0_3.length c0_3, .slice A0_4 l0_4.length c0_4, .slice A0_5 l0_5.length c0_5, .slice A0_6 l0_6.length c0_6, .int .i64 a0_7, .int .i64 a0_8, .int .i64 a0_9], .int .i64 1048576] rfl (by (try simp only [List.map_toArray, List.map_cons, List.map_nil]); first | done | rfl | (simp only [List.length_drop, List.length_take]; rfl)) ?_; (with_reducible refine (laws_szMachine.calls _ _ l0_0 a0_1 _ _ l0_2 _ _ l0_3 _ _ l0_4 _ _ l0_5 _ _ l0_6 a0_7 a0_8 a0_9 1048576 t199 _ ?side1 ?side2 ?side3 ?side4 ?side5 ?side6 ?side7 ?side8 ?side9 ?side10 ?side11 ?side12 A4.out).mono ?_); (case side1 => repeat (first | exact (Kd.C_below HR0_0.out HB.out) | (with_reducible refine Kd.C_alloc ?_ _) | (with_reducible refine Kd.C_drewN ?_ _) | (with_reducible refine Kd.C_drew ?_))); (case side2 => exact HC0_0.out); (case side3 => repeat (first | exact (Kd.C_below HR0_2.out HB.out) | (with_reducible refine Kd.C_alloc ?_ _) | (with_reducible refine Kd.C_drewN ?_ _) | (with_reducible refine Kd.C_drew ?_))); (case side4 => exact HC0_2.out); (case side5 => repeat (first | exact (Kd.C_below HR0_3.out HB.out) | (with_reducible refine Kd.C_alloc ?_ _) | (with_reducible refine Kd.C_drewN ?_ _) | (with_reducible refine Kd.C_drew ?_))); (case side6 => exact HC0_3.out); (case side7 => repeat (first | exact (Kd.C_below HR0_4.out HB.out) | (with_reducible refine Kd.C_alloc ?_ _) | (with_reducible refine Kd.C_drewN ?_ _) | (with_reducible refine Kd.C_drew ?_))); (case side8 => exact HC0_4.out); (case side9 => repeat (first | exact (Kd.C_below HR0_5.out HB.out) | (with_reducible refine Kd.C_alloc ?_ _) | (with_reducible refine Kd.C_drewN ?_ _) | (with_reducible refine Kd.C_drew ?_))); (case side10 => exact HC0_5.out); (case side11 => repeat (first | exact (Kd.C_below HR0_6.out HB.out) | (with_reducible refine Kd.C_alloc ?_ _) | (with_reducible refine Kd.C_drewN ?_ _) | (with_reducible refine Kd.C_drew ?_))); (case side12 => exact HC0_6.out); rintro e w8 ⟨rfl, hb⟩; refine ⟨_, rfl, ?_⟩; have n0_ := Aside0.mk (blk_below (g := gb198) (o := .cells #[.slice A0_0 l0_0.length c0_0, .int .i64 a0_1, .slice A0_2 l0_2.length c0_2, .slice A0_3 l0_3.length c0_3, .slice A0_4 l0_4.length c0_4, .slice A0_5 l0_5.length c0_5, .slice A0_6 l0_6.length c0_6, .int .i64 a0_7, .int .i64 a0_8, .int .i64 a0_9] 33 (0, 0)) (by (with_reducible repeat (first | refine blk_drewN ?_ _ | refine blk_drew ?_ | refine blk_alloc ?_ _)); exact BK198.out) hb); have n1_ := Aside0.mk (below_step (by repeat (first | (with_reducible first | exact HB.out | apply below_alloc | apply pw_below_drewN | apply below_drew1 | refine below_set ?_ GE198.out) | exact HB.out)) hb); clear BK198; clear HB; have BK198 := n0_; have HB := n1_; clear n0_ n1_; (try clear hb); (try clear hb2); (try clear hk); (try clear hi)))
    go_ret
    exact ⟨by first | rfl | (simp [errW_none, errW_some] <;> rfl) | (simp [*, errW_none, errW_some] <;> rfl), by repeat (first | (with_reducible first | exact HB.out | apply below_alloc | apply pw_below_drewN | apply below_drew1 | refine below_set ?_ GE198.out) | exact HB.out)⟩
  · rw [if_neg c5] at H
    have c5b0 : decide (t199 < 0) = false := decide_eq_false c5
    clear c5
    replace H := Option.bind_eq_some_iff.mp H
    obtain ⟨⟨t200, t203, t204, t207, t210, t213, t216, t219, t220, t221⟩, A90, H⟩ := H
    replace H : ((spec_LoadWord.f k t200 t203 t204 t207 t210 t213 t216 t219 t220 t221 a1 a2).bind fun bt222 => ((laws_toMachine.f k l0_0 a0_1 l0_2 l0_3 l0_4 l0_5 l0_6 a0_7 a0_8 a0_9).bind fun bt224 => ((impl_LoadWord.f bt224.1 bt224.2.1 bt224.2.2.1 bt224.2.2.2.1 bt224.2.2.2.2.1 bt224.2.2.2.2.2.1 bt224.2.2.2.2.2.2.1 bt224.2.2.2.2.2.2.2.1 bt224.2.2.2.2.2.2.2.2.1 bt224.2.2.2.2.2.2.2.2.2 a1 a2).bind fun bt247 => (if bt247.1 = bt222.1 then (laws_FnExactLoadWord.j0 k (bt247.2 != bt222.2) l0_0 a0_1 l0_2 l0_3 l0_4 l0_5 l0_6 a0_7 a0_8 a0_9 bt224.1 bt224.2.1 bt224.2.2.1 bt224.2.2.2.1 bt224.2.2.2.2.1 bt224.2.2.2.2.2.1 bt224.2.2.2.2.2.2.1 bt224.2.2.2.2.2.2.2.1 bt224.2.2.2.2.2.2.2.2.1 bt224.2.2.2.2.2.2.2.2.2) else (laws_FnExactLoadWord.j0 k true l0_0 a0_1 l0_2 l0_3 l0_4 l0_5 l0_6 a0_7 a0_8 a0_9 bt224.1 bt224.2.1 bt224.2.2.1 bt224.2.2.2.1 bt224.2.2.2.2.1 bt224.2.2.2.2.2.1 bt224.2.2.2.2.2.2.1 bt224.2.2.2.2.2.2.2.1 bt224.2.2.2.2.2.2.2.2.1 bt224.2.2.2.2.2.2.2.2.2))))) = some r := H
    have A9 := Aside0.mk A90
    clear A90
    replace H := Option.bind_eq_some_iff.mp H
    obtain ⟨⟨t222, t223⟩, A100, H⟩ := H
    replace H : ((laws_toMachine.f k l0_0 a0_1 l0_2 l0_3 l0_4 l0_5 l0_6 a0_7 a0_8 a0_9).bind fun bt224 => ((impl_LoadWord.f bt224.1 bt224.2.1 bt224.2.2.1 bt224.2.2.2.1 bt224.2.2.2.2.1 bt224.2.2.2.2.2.1 bt224.2.2.2.2.2.2.1 bt224.2.2.2.2.2.2.2.1 bt224.2.2.2.2.2.2.2.2.1 bt224.2.2.2.2.2.2.2.2.2 a1 a2).bind fun bt247 => (if bt247.1 = t222 then (laws_FnExactLoadWord.j0 k (bt247.2 != t223) l0_0 a0_1 l0_2 l0_3 l0_4 l0_5 l0_6 a0_7 a0_8 a0_9 bt224.1 bt224.2.1 bt224.2.2.1 bt224.2.2.2.1 bt224.2.2.2.2.1 bt224.2.2.2.2.2.1 bt224.2.2.2.2.2.2.1 bt224.2.2.2.2.2.2.2.1 bt224.2.2.2.2.2.2.2.2.1 bt224.2.2.2.2.2.2.2.2.2) else (laws_FnExactLoadWord.j0 k true l0_0 a0_1 l0_2 l0_3 l0_4 l0_5 l0_6 a0_7 a0_8 a0_9 bt224.1 bt224.2.1 bt224.2.2.1 bt224.2.2.2.1 bt224.2.2.2.2.1 bt224.2.2.2.2.2.1 bt224.2.2.2.2.2.2.1 bt224.2.2.2.2.2.2.2.1 bt224.2.2.2.2.2.2.2.2.1 bt224.2.2.2.2.2.2.2.2.2)))) = some r := H
    have A10 := Aside0.mk A100
    clear A100
    replace H := Option.bind_eq_some_iff.mp H
    obtain ⟨⟨t224, t227, t228, t231, t234, t237, t240, t243, t244, t245⟩, A110, H⟩ := H
    replace H : ((impl_LoadWord.f t224 t227 t228 t231 t234 t237 t240 t243 t244 t245 a1 a2).bind fun bt247 => (if bt247.1 = t222 then (laws_FnExactLoadWord.j0 k (bt247.2 != t223) l0_0 a0_1 l0_2 l0_3 l0_4 l0_5 l0_6 a0_7 a0_8 a0_9 t224 t227 t228 t231 t234 t237 t240 t243 t244 t245) else (laws_FnExactLoadWord.j0 k true l0_0 a0_1 l0_2 l0_3 l0_4 l0_5 l0_6 a0_7 a0_8 a0_9 t224 t227 t228 t231 t234 t237 t240 t243 t244 t245))) = some r := H
    have A11 := Aside0.mk A110
    clear A110
    replace H := Option.bind_eq_some_iff.mp H
    obtain ⟨⟨t247, t248⟩, A120, H⟩ := H
    replace H : (if t247 = t222 then (laws_FnExactLoadWord.j0 k (t248 != t223) l0_0 a0_1 l0_2 l0_3 l0_4 l0_5 l0_6 a0_7 a0_8 a0_9 t224 t227 t228 t231 t234 t237 t240 t243 t244 t245) else (laws_FnExactLoadWord.j0 k true l0_0 a0_1 l0_2 l0_3 l0_4 l0_5 l0_6 a0_7 a0_8 a0_9 t224 t227 t228 t231 t234 t237 t240 t243 t244 t245)) = some r := H
    have A12 := Aside0.mk A120
    clear A120
    have HC13 := Aside0.mk H
    clear H
    go_enter Try.func6, Try.ntmps6
    go_upto_region 8 with (first | ((with_reducible refine gate_dst (N := 3) rfl ?_); refine box_event ?hg (N := 3) ?hd (cs := #[.slice A0_0 l0_0.length c0_0, .int .i64 a0_1, .slice A0_2 l0_2.length c0_2, .slice A0_3 l0_3.length c0_3, .slice A0_4 l0_4.length c0_4, .slice A0_5 l0_5.length c0_5, .slice A0_6 l0_6.length c0_6, .int .i64 a0_7, .int .i64 a0_8, .int .i64 a0_9]) (t := 33) ?hr ?_; (case hd => rfl); (case hg => rfl); (case hr => first | (go_simp; done) | (go_simp; rfl)); intro gb198 hg w14 hbox hb; have n0_ := Aside0.mk (below_step (by repeat (first | (with_reducible first | exact HB.out | apply below_alloc | apply pw_below_drewN | apply below_drew1) | exact HB.out)) hb); have n1_ := Aside0.mk (hbox); have n2_ := Aside0.mk ((by rw [hg]; exact (below_size (by repeat (first | (with_reducible first | exact HB.out | apply below_alloc | apply pw_below_drewN | apply below_drew1) | exact HB.out))) : w.heap.size ≤ gb198)); have n3_ := Aside0.mk ((by rw [hg]; exact (below_size (by repeat (first | (with_reducible first | exact HB.out | apply below_alloc | apply pw_below_drewN | apply below_drew1) | exact HB.out))) : w.heap.size ≤ gb198)); clear HB; have HB := n0_; have BK198 := n1_; have GW198 := n2_; have GE198 := n3_; clear n0_ n1_ n2_ n3_; clear hb hbox hg; have hcz15_0 : w14.cell? ⟨gb198, 0, none⟩ = some (.slice A0_0 l0_0.length c0_0) := (blk_cell BK198.out 0).trans rfl; have hcz15_1 : w14.cell? ⟨gb198, 1, none⟩ = some (.int .i64 a0_1) := (blk_cell BK198.out 1).trans rfl; have hcz15_2 : w14.cell? ⟨gb198, 2, none⟩ = some (.slice A0_2 l0_2.length c0_2) := (blk_cell BK198.out 2).trans rfl; have hcz15_3 : w14.cell? ⟨gb198, 3, none⟩ = some (.slice A0_3 l0_3.length c0_3) := (blk_cell BK198.out 3).trans rfl; have hcz15_4 : w14.cell? ⟨gb198, 4, none⟩ = some (.slice A0_4 l0_4.length c0_4) := (blk_cell BK198.out 4).trans rfl; have hcz15_5 : w14.cell? ⟨gb198, 5, none⟩ = some (.slice A0_5 l0_5.length c0_5) := (blk_cell BK198.out 5).trans rfl; have hcz15_6 : w14.cell? ⟨gb198, 6, none⟩ = some (.slice A0_6 l0_6.length c0_6) := (blk_cell BK198.out 6).trans rfl; have hcz15_7 : w14.cell? ⟨gb198, 7, none⟩ = some (.int .i64 a0_7) := (blk_cell BK198.out 7).trans rfl; have hcz15_8 : w14.cell? ⟨gb198, 8, none⟩ = some (.int .i64 a0_8) := (blk_cell BK198.out 8).trans rfl; have hcz15_9 : w14.cell? ⟨gb198, 9, none⟩ = some (.int .i64 a0_9) := (blk_cell BK198.out 9).trans rfl; have hfz15_0 := blk_frozen BK198.out 0; have hfz15_1 := blk_frozen BK198.out 1; have hfz15_2 := blk_frozen BK198.out 2; have hfz15_3 := blk_frozen BK198.out 3; have hfz15_4 := blk_frozen BK198.out 4; have hfz15_5 := blk_frozen BK198.out 5; have hfz15_6 := blk_frozen BK198.out 6; have hfz15_7 := blk_frozen BK198.out 7; have hfz15_8 := blk_frozen BK198.out 8; have hfz15_9 := blk_frozen BK198.out 9) | ((with_reducible refine gate_callee (f := 16) rfl ?_); refine goesL_ (some 15) rfl rfl Try.func16 (by kernel_rfl) rfl #[.agg #[.slice A0_0 l0_0.length c0_0, .int .i64 a0_1, .slice A0_2 l0_2.length c0_2, .slice A0_3 l0_3.length c0_3, .slice A0_4 l0_4.length c0_4, .slice A0_5 l0_5.length c0_5, .slice A0_6 l0_6.length c0_6, .int .i64 a0_7, .int .i64 a0_8, .int .i64 a0_9], .int .i64 1048576] rfl (by (try simp only [List.map_toArray, List.map_cons, List.map_nil]); first | done | rfl | (simp only [List.length_drop, List.length_take]; rfl)) ?_; (with_reducible refine (laws_szMachine.calls _ _ l0_0 a0_1 _ _ l0_2 _ _ l0_3 _ _ l0_4 _ _ l0_5 _ _ l0_6 a0_7 a0_8 a0_9 1048576 t199 _ ?side1 ?side2 ?side3 ?side4 ?side5 ?side6 ?side7 ?side8 ?side9 ?side10 ?side11 ?side12 A4.out).mono ?_); (case side1 => repeat (first | exact (Kd.C_below HR0_0.out HB.out) | (with_reducible refine Kd.C_alloc ?_ _) | (with_reducible refine Kd.C_drewN ?_ _) | (with_reducible refine Kd.C_drew ?_))); (case side2 => exact HC0_0.out); (case side3 => repeat (first | exact (Kd.C_below HR0_2.out HB.out) | (with_reducible refine Kd.C_alloc ?_ _) | (with_reducible refine Kd.C_drewN ?_ _) | (with_reducible refine Kd.C_drew ?_))); (case side4 => exact HC0_2.out); (case side5 => repeat (first | exact (Kd.C_below HR0_3.out HB.out) | (with_reducible refine Kd.C_alloc ?_ _) | (with_reducible refine Kd.C_drewN ?_ _) | (with_reducible refine Kd.C_drew ?_))); (case side6 => exact HC0_3.out); (case side7 => repeat (first | exact (Kd.C_below HR0_4.out HB.out) | (with_reducible refine Kd.C_alloc ?_ _) | (with_reducible refine Kd.C_drewN ?_ _) | (with_reducible refine Kd.C_drew ?_))); (case side8 => exact HC0_4.out); (case side9 => repeat (first | exact (Kd.C_below HR0_5.out HB.out) | (with_reducible refine Kd.C_alloc ?_ _) | (with_reducible refine Kd.C_drewN ?_ _) | (with_reducible refine Kd.C_drew ?_))); (case side10 => exact HC0_5.out); (case side11 => repeat (first | exact (Kd.C_below HR0_6.out HB.out) | (with_reducible refine Kd.C_alloc ?_ _) | (with_reducible refine Kd.C_drewN ?_ _) | (with_reducible refine Kd.C_drew ?_))); (case side12 => exact HC0_6.out); rintro e w16 ⟨rfl, hb⟩; refine ⟨_, rfl, ?_⟩; have n0_ := Aside0.mk (blk_below (g := gb198) (o := .cells #[.slice A0_0 l0_0.length c0_0, .int .i64 a0_1, .slice A0_2 l0_2.length c0_2, .slice A0_3 l0_3.length c0_3, .slice A0_4 l0_4.length c0_4, .slice A0_5 l0_5.length c0_5, .slice A0_6 l0_6.length c0_6, .int .i64 a0_7, .int .i64 a0_8, .int .i64 a0_9] 33 (0, 0)) (by (with_reducible repeat (first | refine blk_drewN ?_ _ | refine blk_drew ?_ | refine blk_alloc ?_ _)); exact BK198.out) hb); have n1_ := Aside0.mk (below_step (by repeat (first | (with_reducible first | exact HB.out | apply below_alloc | apply pw_below_drewN | apply below_drew1 | refine below_set ?_ GE198.out) | exact HB.out)) hb); clear BK198; clear HB; have BK198 := n0_; have HB := n1_; clear n0_ n1_; (try clear hb); (try clear hb2); (try clear hk); (try clear hi); have hcz17_0 : w16.cell? ⟨gb198, 0, none⟩ = some (.slice A0_0 l0_0.length c0_0) := (blk_cell BK198.out 0).trans rfl; have hcz17_1 : w16.cell? ⟨gb198, 1, none⟩ = some (.int .i64 a0_1) := (blk_cell BK198.out 1).trans rfl; have hcz17_2 : w16.cell? ⟨gb198, 2, none⟩ = some (.slice A0_2 l0_2.length c0_2) := (blk_cell BK198.out 2).trans rfl; have hcz17_3 : w16.cell? ⟨gb198, 3, none⟩ = some (.slice A0_3 l0_3.length c0_3) := (blk_cell BK198.out 3).trans rfl; have hcz17_4 : w16.cell? ⟨gb198, 4, none⟩ = some (.slice A0_4 l0_4.length c0_4) := (blk_cell BK198.out 4).trans rfl; have hcz17_5 : w16.cell? ⟨gb198, 5, none⟩ = some (.slice A0_5 l0_5.length c0_5) := (blk_cell BK198.out 5).trans rfl; have hcz17_6 : w16.cell? ⟨gb198, 6, none⟩ = some (.slice A0_6 l0_6.length c0_6) := (blk_cell BK198.out 6).trans rfl; have hcz17_7 : w16.cell? ⟨gb198, 7, none⟩ = some (.int .i64 a0_7) := (blk_cell BK198.out 7).trans rfl; have hcz17_8 : w16.cell? ⟨gb198, 8, none⟩ = some (.int .i64 a0_8) := (blk_cell BK198.out 8).trans rfl; have hcz17_9 : w16.cell? ⟨gb198, 9, none⟩ = some (.int .i64 a0_9) := (blk_cell BK198.out 9).trans rfl; have hfz17_0 := blk_frozen BK198.out 0; have hfz17_1 := blk_frozen BK198.out 1; have hfz17_2 := blk_frozen BK198.out 2; have hfz17_3 := blk_frozen BK198.out 3; have hfz17_4 := blk_frozen BK198.out 4; have hfz17_5 := blk_frozen BK198.out 5; have hfz17_6 := blk_frozen BK198.out 6; have hfz17_7 := blk_frozen BK198.out 7; have hfz17_8 := blk_frozen BK198.out 8; have hfz17_9 := blk_frozen BK198.out 9) | ((with_reducible refine gate_callee (f := 18) rfl ?_); refine goesL_ (some 20) rfl rfl Try.func18 (by kernel_rfl) rfl #[.agg #[.slice A0_0 l0_0.length c0_0, .int .i64 a0_1, .slice A0_2 l0_2.length c0_2, .slice A0_3 l0_3.length c0_3, .slice A0_4 l0_4.length c0_4, .slice A0_5 l0_5.length c0_5, .slice A0_6 l0_6.length c0_6, .int .i64 a0_7, .int .i64 a0_8, .int .i64 a0_9]] rfl (by (try simp only [List.map_toArray, List.map_cons, List.map_nil]); first | done | rfl | (simp only [List.length_drop, List.length_take]; rfl)) ?_; (with_reducible refine (laws_toMachine.calls k _ _ l0_0 a0_1 _ _ l0_2 _ _ l0_3 _ _ l0_4 _ _ l0_5 _ _ l0_6 a0_7 a0_8 a0_9 t200 t203 t204 t207 t210 t213 t216 t219 t220 t221 _ ?side1 ?side2 ?side3 ?side4 ?side5 ?side6 ?side7 ?side8 ?side9 ?side10 ?side11 ?side12 A9.out).mono ?_); (case side1 => repeat (first | exact (Kd.C_below HR0_0.out HB.out) | (with_reducible refine Kd.C_alloc ?_ _) | (with_reducible refine Kd.C_drewN ?_ _) | (with_reducible refine Kd.C_drew ?_))); (case side2 => exact HC0_0.out); (case side3 => repeat (first | exact (Kd.C_below HR0_2.out HB.out) | (with_reducible refine Kd.C_alloc ?_ _) | (with_reducible refine Kd.C_drewN ?_ _) | (with_reducible refine Kd.C_drew ?_))); (case side4 => exact HC0_2.out); (case side5 => repeat (first | exact (Kd.C_below HR0_3.out HB.out) | (with_reducible refine Kd.C_alloc ?_ _) | (with_reducible refine Kd.C_drewN ?_ _) | (with_reducible refine Kd.C_drew ?_))); (case side6 => exact HC0_3.out); (case side7 => repeat (first | exact (Kd.C_below HR0_4.out HB.out) | (with_reducible refine Kd.C_alloc ?_ _) | (with_reducible refine Kd.C_drewN ?_ _) | (with_reducible refine Kd.C_drew ?_))); (case side8 => exact HC0_4.out); (case side9 => repeat (first | exact (Kd.C_below HR0_5.out HB.out) | (with_reducible refine Kd.C_alloc ?_ _) | (with_reducible refine Kd.C_drewN ?_ _) | (with_reducible refine Kd.C_drew ?_))); (case side10 => exact HC0_5.out); (case side11 => repeat (first | exact (Kd.C_below HR0_6.out HB.out) | (with_reducible refine Kd.C_alloc ?_ _) | (with_reducible refine Kd.C_drewN ?_ _) | (with_reducible refine Kd.C_drew ?_))); (case side12 => exact HC0_6.out); rintro e w18 ⟨v201, v205, v208, v211, v214, v217, rfl, ho0, ho1, ho2, ho3, ho4, ho5, hb⟩; refine ⟨_, rfl, ?_⟩; have n0_ := Aside0.mk (Kd.R_lower ho0 (below_size (by repeat (first | (with_reducible first | exact HB.out | apply below_alloc | apply pw_below_drewN | apply below_drew1 | refine below_set ?_ GE198.out) | exact HB.out)))); have n1_ := Aside0.mk (Kd.R_lower ho1 (below_size (by repeat (first | (with_reducible first | exact HB.out | apply below_alloc | apply pw_below_drewN | apply below_drew1 | refine below_set ?_ GE198.out) | exact HB.out)))); have n2_ := Aside0.mk (Kd.R_lower ho2 (below_size (by repeat (first | (with_reducible first | exact HB.out | apply below_alloc | apply pw_below_drewN | apply below_drew1 | refine below_set ?_ GE198.out) | exact HB.out)))); have n3_ := Aside0.mk (Kd.R_lower ho3 (below_size (by repeat (first | (with_reducible first | exact HB.out | apply below_alloc | apply pw_below_drewN | apply below_drew1 | refine below_set ?_ GE198.out) | exact HB.out)))); have n4_ := Aside0.mk (Kd.R_lower ho4 (below_size (by repeat (first | (with_reducible first | exact HB.out | apply below_alloc | apply pw_below_drewN | apply below_drew1 | refine below_set ?_ GE198.out) | exact HB.out)))); have n5_ := Aside0.mk (Kd.R_lower ho5 (below_size (by repeat (first | (with_reducible first | exact HB.out | apply below_alloc | apply pw_below_drewN | apply below_drew1 | refine below_set ?_ GE198.out) | exact HB.out)))); have n6_ := Aside0.mk (blk_below (g := gb198) (o := .cells #[.slice A0_0 l0_0.length c0_0, .int .i64 a0_1, .slice A0_2 l0_2.length c0_2, .slice A0_3 l0_3.length c0_3, .slice A0_4 l0_4.length c0_4, .slice A0_5 l0_5.length c0_5, .slice A0_6 l0_6.length c0_6, .int .i64 a0_7, .int .i64 a0_8, .int .i64 a0_9] 33 (0, 0)) (by (with_reducible repeat (first | refine blk_drewN ?_ _ | refine blk_drew ?_ | refine blk_alloc ?_ _)); exact BK198.out) hb); have n7_ := Aside0.mk (below_step (by repeat (first | (with_reducible first | exact HB.out | apply below_alloc | apply pw_below_drewN | apply below_drew1 | refine below_set ?_ GE198.out) | exact HB.out)) hb); clear BK198; clear HB; have HO202 := n0_; have HO206 := n1_; have HO209 := n2_; have HO212 := n3_; have HO215 := n4_; have HO218 := n5_; have BK198 := n6_; have HB := n7_; clear n0_ n1_ n2_ n3_ n4_ n5_ n6_ n7_; (try clear hb); (try clear hb2); (try clear hk); (try clear hi); (try clear ho0); (try clear ho1); (try clear ho2); (try clear ho3); (try clear ho4); (try clear ho5); obtain ⟨Ao19, co19, eo19⟩ := Kd.R_slice HO202.out; subst eo19; obtain ⟨Ao20, co20, eo20⟩ := Kd.R_slice HO206.out; subst eo20; obtain ⟨Ao21, co21, eo21⟩ := Kd.R_slice HO209.out; subst eo21; obtain ⟨Ao22, co22, eo22⟩ := Kd.R_slice HO212.out; subst eo22; obtain ⟨Ao23, co23, eo23⟩ := Kd.R_slice HO215.out; subst eo23; obtain ⟨Ao24, co24, eo24⟩ := Kd.R_slice HO218.out; subst eo24) | ((with_reducible refine gate_callee (f := 29) rfl ?_); refine goesL_ (some 23) rfl rfl Try.func29 (by kernel_rfl) rfl #[.agg #[.slice Ao19 t200.length co19, .int .i64 t203, .slice Ao20 t204.length co20, .slice Ao21 t207.length co21, .slice Ao22 t210.length co22, .slice Ao23 t213.length co23, .slice Ao24 t216.length co24, .int .i64 t219, .int .i64 t220, .int .i64 t221], .int .i64 a1, .int .i64 a2] rfl (by (try simp only [List.map_toArray, List.map_cons, List.map_nil]); first | done | rfl | (simp only [List.length_drop, List.length_take]; rfl)) ?_; (with_reducible refine (spec_LoadWord.calls k _ _ t200 t203 _ _ t204 _ _ t207 _ _ t210 _ _ t213 _ _ t216 t219 t220 t221 a1 a2 t222 t223 _ ?side1 ?side2 ?side3 ?side4 ?side5 ?side6 ?side7 ?side8 ?side9 ?side10 ?side11 ?side12 A10.out).mono ?_); (case side1 => repeat (first | exact (Kd.R_reads' HO202.out).2.2 | (with_reducible refine Kd.C_alloc ?_ _) | (with_reducible refine Kd.C_drewN ?_ _) | (with_reducible refine Kd.C_drew ?_))); (case side2 => exact (Kd.R_reads' HO202.out).2.1); (case side3 => repeat (first | exact (Kd.R_reads' HO206.out).2.2 | (with_reducible refine Kd.C_alloc ?_ _) | (with_reducible refine Kd.C_drewN ?_ _) | (with_reducible refine Kd.C_drew ?_))); (case side4 => exact (Kd.R_reads' HO206.out).2.1); (case side5 => repeat (first | exact (Kd.R_reads' HO209.out).2.2 | (with_reducible refine Kd.C_alloc ?_ _) | (with_reducible refine Kd.C_drewN ?_ _) | (with_reducible refine Kd.C_drew ?_))); (case side6 => exact (Kd.R_reads' HO209.out).2.1); (case side7 => repeat (first | exact (Kd.R_reads' HO212.out).2.2 | (with_reducible refine Kd.C_alloc ?_ _) | (with_reducible refine Kd.C_drewN ?_ _) | (with_reducible refine Kd.C_drew ?_))); (case side8 => exact (Kd.R_reads' HO212.out).2.1); (case side9 => repeat (first | exact (Kd.R_reads' HO215.out).2.2 | (with_reducible refine Kd.C_alloc ?_ _) | (with_reducible refine Kd.C_drewN ?_ _) | (with_reducible refine Kd.C_drew ?_))); (case side10 => exact (Kd.R_reads' HO215.out).2.1); (case side11 => repeat (first | exact (Kd.R_reads' HO218.out).2.2 | (with_reducible refine Kd.C_alloc ?_ _) | (with_reducible refine Kd.C_drewN ?_ _) | (with_reducible refine Kd.C_drew ?_))); (case side12 => exact (Kd.R_reads' HO218.out).2.1); rintro e w25 ⟨rfl, hb⟩; refine ⟨_, rfl, ?_⟩; have n0_ := Aside0.mk (Kd.R_below (by (with_reducible repeat (first | apply Kd.R_alloc | apply Kd.R_drewN | apply Kd.R_drew)); exact HO202.out) hb); have n1_ := Aside0.mk (Kd.R_below (by (with_reducible repeat (first | apply Kd.R_alloc | apply Kd.R_drewN | apply Kd.R_drew)); exact HO206.out) hb); have n2_ := Aside0.mk (Kd.R_below (by (with_reducible repeat (first | apply Kd.R_alloc | apply Kd.R_drewN | apply Kd.R_drew)); exact HO209.out) hb); have n3_ := Aside0.mk (Kd.R_below (by (with_reducible repeat (first | apply Kd.R_alloc | apply Kd.R_drewN | apply Kd.R_drew)); exact HO212.out) hb); have n4_ := Aside0.mk (Kd.R_below (by (with_reducible repeat (first | apply Kd.R_alloc | apply Kd.R_drewN | apply Kd.R_drew)); exact HO215.out) hb); have n5_ := Aside0.mk (Kd.R_below (by (with_reducible repeat (first | apply Kd.R_alloc | apply Kd.R_drewN | apply Kd.R_drew)); exact HO218.out) hb); have n6_ := Aside0.mk (blk_below (g := gb198) (o := .cells #[.slice A0_0 l0_0.length c0_0, .int .i64 a0_1, .slice A0_2 l0_2.length c0_2, .slice A0_3 l0_3.length c0_3, .slice A0_4 l0_4.length c0_4, .slice A0_5 l0_5.length c0_5, .slice A0_6 l0_6.length c0_6, .int .i64 a0_7, .int .i64 a0_8, .int .i64 a0_9] 33 (0, 0)) (by (with_reducible repeat (first | refine blk_drewN ?_ _ | refine blk_drew ?_ | refine blk_alloc ?_ _)); exact BK198.out) hb); have n7_ := Aside0.mk (below_step (by repeat (first | (with_reducible first | exact HB.out | apply below_alloc | apply pw_below_drewN | apply below_drew1 | refine below_set ?_ GE198.out) | exact HB.out)) hb); clear HO202; clear HO206; clear HO209; clear HO212; clear HO215; clear HO218; clear BK198; clear HB; have HO202 := n0_; have HO206 := n1_; have HO209 := n2_; have HO212 := n3_; have HO215 := n4_; have HO218 := n5_; have BK198 := n6_; have HB := n7_; clear n0_ n1_ n2_ n3_ n4_ n5_ n6_ n7_; (try clear hb); (try clear hb2); (try clear hk); (try clear hi); have hcz26_0 : w25.cell? ⟨gb198, 0, none⟩ = some (.slice A0_0 l0_0.length c0_0) := (blk_cell BK198.out 0).trans rfl; have hcz26_1 : w25.cell? ⟨gb198, 1, none⟩ = some (.int .i64 a0_1) := (blk_cell BK198.out 1).trans rfl; have hcz26_2 : w25.cell? ⟨gb198, 2, none⟩ = some (.slice A0_2 l0_2.length c0_2) := (blk_cell BK198.out 2).trans rfl; have hcz26_3 : w25.cell? ⟨gb198, 3, none⟩ = some (.slice A0_3 l0_3.length c0_3) := (blk_cell BK198.out 3).trans rfl; have hcz26_4 : w25.cell? ⟨gb198, 4, none⟩ = some (.slice A0_4 l0_4.length c0_4) := (blk_cell BK198.out 4).trans rfl; have hcz26_5 : w25.cell? ⟨gb198, 5, none⟩ = some (.slice A0_5 l0_5.length c0_5) := (blk_cell BK198.out 5).trans rfl; have hcz26_6 : w25.cell? ⟨gb198, 6, none⟩ = some (.slice A0_6 l0_6.length c0_6) := (blk_cell BK198.out 6).trans rfl; have hcz26_7 : w25.cell? ⟨gb198, 7, none⟩ = some (.int .i64 a0_7) := (blk_cell BK198.out 7).trans rfl; have hcz26_8 : w25.cell? ⟨gb198, 8, none⟩ = some (.int .i64 a0_8) := (blk_cell BK198.out 8).trans rfl; have hcz26_9 : w25.cell? ⟨gb198, 9, none⟩ = some (.int .i64 a0_9) := (blk_cell BK198.out 9).trans rfl; have hfz26_0 := blk_frozen BK198.out 0; have hfz26_1 := blk_frozen BK198.out 1; have hfz26_2 := blk_frozen BK198.out 2; have hfz26_3 := blk_frozen BK198.out 3; have hfz26_4 := blk_frozen BK198.out 4; have hfz26_5 := blk_frozen BK198.out 5; have hfz26_6 := blk_frozen BK198.out 6; have hfz26_7 := blk_frozen BK198.out 7; have hfz26_8 := blk_frozen BK198.out 8; have hfz26_9 := blk_frozen BK198.out 9) | ((with_reducible refine gate_callee (f := 18) rfl ?_); refine goesL_ (some 27) rfl rfl Try.func18 (by kernel_rfl) rfl #[.agg #[.slice A0_0 l0_0.length c0_0, .int .i64 a0_1, .slice A0_2 l0_2.length c0_2, .slice A0_3 l0_3.length c0_3, .slice A0_4 l0_4.length c0_4, .slice A0_5 l0_5.length c0_5, .slice A0_6 l0_6.length c0_6, .int .i64 a0_7, .int .i64 a0_8, .int .i64 a0_9]] rfl (by (try simp only [List.map_toArray, List.map_cons, List.map_nil]); first | done | rfl | (simp only [List.length_drop, List.length_take]; rfl)) ?_; (with_reducible refine (laws_toMachine.calls k _ _ l0_0 a0_1 _ _ l0_2 _ _ l0_3 _ _ l0_4 _ _ l0_5 _ _ l0_6 a0_7 a0_8 a0_9 t224 t227 t228 t231 t234 t237 t240 t243 t244 t245 _ ?side1 ?side2 ?side3 ?side4 ?side5 ?side6 ?side7 ?side8 ?side9 ?side10 ?side11 ?side12 A11.out).mono ?_); (case side1 => repeat (first | exact (Kd.C_below HR0_0.out HB.out) | (with_reducible refine Kd.C_alloc ?_ _) | (with_reducible refine Kd.C_drewN ?_ _) | (with_reducible refine Kd.C_drew ?_))); (case side2 => exact HC0_0.out); (case side3 => repeat (first | exact (Kd.C_below HR0_2.out HB.out) | (with_reducible refine Kd.C_alloc ?_ _) | (with_reducible refine Kd.C_drewN ?_ _) | (with_reducible refine Kd.C_drew ?_))); (case side4 => exact HC0_2.out); (case side5 => repeat (first | exact (Kd.C_below HR0_3.out HB.out) | (with_reducible refine Kd.C_alloc ?_ _) | (with_reducible refine Kd.C_drewN ?_ _) | (with_reducible refine Kd.C_drew ?_))); (case side6 => exact HC0_3.out); (case side7 => repeat (first | exact (Kd.C_below HR0_4.out HB.out) | (with_reducible refine Kd.C_alloc ?_ _) | (with_reducible refine Kd.C_drewN ?_ _) | (with_reducible refine Kd.C_drew ?_))); (case side8 => exact HC0_4.out); (case side9 => repeat (first | exact (Kd.C_below HR0_5.out HB.out) | (with_reducible refine Kd.C_alloc ?_ _) | (with_reducible refine Kd.C_drewN ?_ _) | (with_reducible refine Kd.C_drew ?_))); (case side10 => exact HC0_5.out); (case side11 => repeat (first | exact (Kd.C_below HR0_6.out HB.out) | (with_reducible refine Kd.C_alloc ?_ _) | (with_reducible refine Kd.C_drewN ?_ _) | (with_reducible refine Kd.C_drew ?_))); (case side12 => exact HC0_6.out); rintro e w27 ⟨v225, v229, v232, v235, v238, v241, rfl, ho0, ho1, ho2, ho3, ho4, ho5, hb⟩; refine ⟨_, rfl, ?_⟩; have n0_ := Aside0.mk (Kd.R_mono (Kd.R_told (Kd.R_told (Kd.R_old (by (with_reducible repeat (first | apply Kd.R_alloc | apply Kd.R_drewN | apply Kd.R_drew)); exact HO202.out) hb) (Kd.R_base ho0)) (Kd.R_base ho1)) (fun _ h_ => h_.1)); have n1_ := Aside0.mk (Kd.R_mono (Kd.R_told (Kd.R_told (Kd.R_old (by (with_reducible repeat (first | apply Kd.R_alloc | apply Kd.R_drewN | apply Kd.R_drew)); exact HO206.out) hb) (Kd.R_base ho0)) (Kd.R_base ho1)) (fun _ h_ => h_.1)); have n2_ := Aside0.mk (Kd.R_mono (Kd.R_told (Kd.R_told (Kd.R_told (Kd.R_told (Kd.R_old (by (with_reducible repeat (first | apply Kd.R_alloc | apply Kd.R_drewN | apply Kd.R_drew)); exact HO209.out) hb) (Kd.R_base ho2)) (Kd.R_base ho3)) (Kd.R_base ho4)) (Kd.R_base ho5)) (fun _ h_ => h_.1)); have n3_ := Aside0.mk (Kd.R_mono (Kd.R_told (Kd.R_told (Kd.R_told (Kd.R_told (Kd.R_old (by (with_reducible repeat (first | apply Kd.R_alloc | apply Kd.R_drewN | apply Kd.R_drew)); exact HO212.out) hb) (Kd.R_base ho2)) (Kd.R_base ho3)) (Kd.R_base ho4)) (Kd.R_base ho5)) (fun _ h_ => h_.1)); have n4_ := Aside0.mk (Kd.R_mono (Kd.R_told (Kd.R_told (Kd.R_told (Kd.R_told (Kd.R_old (by (with_reducible repeat (first | apply Kd.R_alloc | apply Kd.R_drewN | apply Kd.R_drew)); exact HO215.out) hb) (Kd.R_base ho2)) (Kd.R_base ho3)) (Kd.R_base ho4)) (Kd.R_base ho5)) (fun _ h_ => h_.1)); have n5_ := Aside0.mk (Kd.R_mono (Kd.R_told (Kd.R_told (Kd.R_told (Kd.R_told (Kd.R_old (by (with_reducible repeat (first | apply Kd.R_alloc | apply Kd.R_drewN | apply Kd.R_drew)); exact HO218.out) hb) (Kd.R_base ho2)) (Kd.R_base ho3)) (Kd.R_base ho4)) (Kd.R_base ho5)) (fun _ h_ => h_.1)); have n6_ := Aside0.mk (Kd.R_lower (Kd.R_new' (Kd.R_new' ho0 (Kd.R_lt (by (with_reducible repeat (first | apply Kd.R_alloc | apply Kd.R_drewN | apply Kd.R_drew)); exact HO202.out))) (Kd.R_lt (by (with_reducible repeat (first | apply Kd.R_alloc | apply Kd.R_drewN | apply Kd.R_drew)); exact HO206.out))) (below_size (by repeat (first | (with_reducible first | exact HB.out | apply below_alloc | apply pw_below_drewN | apply below_drew1 | refine below_set ?_ GE198.out) | exact HB.out)))); have n7_ := Aside0.mk (Kd.R_lower (Kd.R_new' (Kd.R_new' ho1 (Kd.R_lt (by (with_reducible repeat (first | apply Kd.R_alloc | apply Kd.R_drewN | apply Kd.R_drew)); exact HO202.out))) (Kd.R_lt (by (with_reducible repeat (first | apply Kd.R_alloc | apply Kd.R_drewN | apply Kd.R_drew)); exact HO206.out))) (below_size (by repeat (first | (with_reducible first | exact HB.out | apply below_alloc | apply pw_below_drewN | apply below_drew1 | refine below_set ?_ GE198.out) | exact HB.out)))); have n8_ := Aside0.mk (Kd.R_lower (Kd.R_new' (Kd.R_new' (Kd.R_new' (Kd.R_new' ho2 (Kd.R_lt (by (with_reducible repeat (first | apply Kd.R_alloc | apply Kd.R_drewN | apply Kd.R_drew)); exact HO209.out))) (Kd.R_lt (by (with_reducible repeat (first | apply Kd.R_alloc | apply Kd.R_drewN | apply Kd.R_drew)); exact HO212.out))) (Kd.R_lt (by (with_reducible repeat (first | apply Kd.R_alloc | apply Kd.R_drewN | apply Kd.R_drew)); exact HO215.out))) (Kd.R_lt (by (with_reducible repeat (first | apply Kd.R_alloc | apply Kd.R_drewN | apply Kd.R_drew)); exact HO218.out))) (below_size (by repeat (first | (with_reducible first | exact HB.out | apply below_alloc | apply pw_below_drewN | apply below_drew1 | refine below_set ?_ GE198.out) | exact HB.out)))); have n9_ := Aside0.mk (Kd.R_lower (Kd.R_new' (Kd.R_new' (Kd.R_new' (Kd.R_new' ho3 (Kd.R_lt (by (with_reducible repeat (first | apply Kd.R_alloc | apply Kd.R_drewN | apply Kd.R_drew)); exact HO209.out))) (Kd.R_lt (by (with_reducible repeat (first | apply Kd.R_alloc | apply Kd.R_drewN | apply Kd.R_drew)); exact HO212.out))) (Kd.R_lt (by (with_reducible repeat (first | apply Kd.R_alloc | apply Kd.R_drewN | apply Kd.R_drew)); exact HO215.out))) (Kd.R_lt (by (with_reducible repeat (first | apply Kd.R_alloc | apply Kd.R_drewN | apply Kd.R_drew)); exact HO218.out))) (below_size (by repeat (first | (with_reducible first | exact HB.out | apply below_alloc | apply pw_below_drewN | apply below_drew1 | refine below_set ?_ GE198.out) | exact HB.out)))); have n10_ := Aside0.mk (Kd.R_lower (Kd.R_new' (Kd.R_new' (Kd.R_new' (Kd.R_new' ho4 (Kd.R_lt (by (with_reducible repeat (first | apply Kd.R_alloc | apply Kd.R_drewN | apply Kd.R_drew)); exact HO209.out))) (Kd.R_lt (by (with_reducible repeat (first | apply Kd.R_alloc | apply Kd.R_drewN | apply Kd.R_drew)); exact HO212.out))) (Kd.R_lt (by (with_reducible repeat (first | apply Kd.R_alloc | apply Kd.R_drewN | apply Kd.R_drew)); exact HO215.out))) (Kd.R_lt (by (with_reducible repeat (first | apply Kd.R_alloc | apply Kd.R_drewN | apply Kd.R_drew)); exact HO218.out))) (below_size (by repeat (first | (with_reducible first | exact HB.out | apply below_alloc | apply pw_below_drewN | apply below_drew1 | refine below_set ?_ GE198.out) | exact HB.out)))); have n11_ := Aside0.mk (Kd.R_lower (Kd.R_new' (Kd.R_new' (Kd.R_new' (Kd.R_new' ho5 (Kd.R_lt (by (with_reducible repeat (first | apply Kd.R_alloc | apply Kd.R_drewN | apply Kd.R_drew)); exact HO209.out))) (Kd.R_lt (by (with_reducible repeat (first | apply Kd.R_alloc | apply Kd.R_drewN | apply Kd.R_drew)); exact HO212.out))) (Kd.R_lt (by (with_reducible repeat (first | apply Kd.R_alloc | apply Kd.R_drewN | apply Kd.R_drew)); exact HO215.out))) (Kd.R_lt (by (with_reducible repeat (first | apply Kd.R_alloc | apply Kd.R_drewN | apply Kd.R_drew)); exact HO218.out))) (below_size (by repeat (first | (with_reducible first | exact HB.out | apply below_alloc | apply pw_below_drewN | apply below_drew1 | refine below_set ?_ GE198.out) | exact HB.out)))); have n12_ := Aside0.mk (blk_below (g := gb198) (o := .cells #[.slice A0_0 l0_0.length c0_0, .int .i64 a0_1, .slice A0_2 l0_2.length c0_2, .slice A0_3 l0_3.length c0_3, .slice A0_4 l0_4.length c0_4, .slice A0_5 l0_5.length c0_5, .slice A0_6 l0_6.length c0_6, .int .i64 a0_7, .int .i64 a0_8, .int .i64 a0_9] 33 (0, 0)) (by (with_reducible repeat (first | refine blk_drewN ?_ _ | refine blk_drew ?_ | refine blk_alloc ?_ _)); exact BK198.out) hb); have n13_ := Aside0.mk (below_step (by repeat (first | (with_reducible first | exact HB.out | apply below_alloc | apply pw_below_drewN | apply below_drew1 | refine below_set ?_ GE198.out) | exact HB.out)) hb); clear HO202; clear HO206; clear HO209; clear HO212; clear HO215; clear HO218; clear BK198; clear HB; have HO202 := n0_; have HO206 := n1_; have HO209 := n2_; have HO212 := n3_; have HO215 := n4_; have HO218 := n5_; have HO226 := n6_; have HO230 := n7_; have HO233 := n8_; have HO236 := n9_; have HO239 := n10_; have HO242 := n11_; have BK198 := n12_; have HB := n13_; clear n0_ n1_ n2_ n3_ n4_ n5_ n6_ n7_ n8_ n9_ n10_ n11_ n12_ n13_; (try clear hb); (try clear hb2); (try clear hk); (try clear hi); (try clear ho0); (try clear ho1); (try clear ho2); (try clear ho3); (try clear ho4); (try clear ho5)) | ((with_reducible refine gate_dst (N := 10) rfl ?_); refine box_event ?hg (N := 10) ?hd (cs := #[.slice none 0 0, .int .i64 0, .slice none 0 0, .slice none 0 0, .slice none 0 0, .slice none 0 0, .slice none 0 0, .int .i64 0, .int .i64 0, .int .i64 0]) (t := 36) ?hr ?_; (case hd => rfl); (case hg => rfl); (case hr => first | (go_simp; done) | (go_simp; rfl)); intro gb246 hg w28 hbox hb; have n0_ := Aside0.mk (Kd.R_below (by (with_reducible repeat (first | apply Kd.R_alloc | apply Kd.R_drewN | apply Kd.R_drew)); exact HO202.out) hb); have n1_ := Aside0.mk (Kd.R_below (by (with_reducible repeat (first | apply Kd.R_alloc | apply Kd.R_drewN | apply Kd.R_drew)); exact HO206.out) hb); have n2_ := Aside0.mk (Kd.R_below (by (with_reducible repeat (first | apply Kd.R_alloc | apply Kd.R_drewN | apply Kd.R_drew)); exact HO209.out) hb); have n3_ := Aside0.mk (Kd.R_below (by (with_reducible repeat (first | apply Kd.R_alloc | apply Kd.R_drewN | apply Kd.R_drew)); exact HO212.out) hb); have n4_ := Aside0.mk (Kd.R_below (by (with_reducible repeat (first | apply Kd.R_alloc | apply Kd.R_drewN | apply Kd.R_drew)); exact HO215.out) hb); have n5_ := Aside0.mk (Kd.R_below (by (with_reducible repeat (first | apply Kd.R_alloc | apply Kd.R_drewN | apply Kd.R_drew)); exact HO218.out) hb); have n6_ := Aside0.mk (Kd.R_below (by (with_reducible repeat (first | apply Kd.R_alloc | apply Kd.R_drewN | apply Kd.R_drew)); exact HO226.out) hb); have n7_ := Aside0.mk (Kd.R_below (by (with_reducible repeat (first | apply Kd.R_alloc | apply Kd.R_drewN | apply Kd.R_drew)); exact HO230.out) hb); have n8_ := Aside0.mk (Kd.R_below (by (with_reducible repeat (first | apply Kd.R_alloc | apply Kd.R_drewN | apply Kd.R_drew)); exact HO233.out) hb); have n9_ := Aside0.mk (Kd.R_below (by (with_reducible repeat (first | apply Kd.R_alloc | apply Kd.R_drewN | apply Kd.R_drew)); exact HO236.out) hb); have n10_ := Aside0.mk (Kd.R_below (by (with_reducible repeat (first | apply Kd.R_alloc | apply Kd.R_drewN | apply Kd.R_drew)); exact HO239.out) hb); have n11_ := Aside0.mk (Kd.R_below (by (with_reducible repeat (first | apply Kd.R_alloc | apply Kd.R_drewN | apply Kd.R_drew)); exact HO242.out) hb); have n12_ := Aside0.mk (blk_below (g := gb198) (o := .cells #[.slice A0_0 l0_0.length c0_0, .int .i64 a0_1, .slice A0_2 l0_2.length c0_2, .slice A0_3 l0_3.length c0_3, .slice A0_4 l0_4.length c0_4, .slice A0_5 l0_5.length c0_5, .slice A0_6 l0_6.length c0_6, .int .i64 a0_7, .int .i64 a0_8, .int .i64 a0_9] 33 (0, 0)) (by (with_reducible repeat (first | refine blk_drewN ?_ _ | refine blk_drew ?_ | refine blk_alloc ?_ _)); exact BK198.out) hb); have n13_ := Aside0.mk (below_step (by repeat (first | (with_reducible first | exact HB.out | apply below_alloc | apply pw_below_drewN | apply below_drew1 | refine below_set ?_ GE198.out) | exact HB.out)) hb); have n14_ := Aside0.mk (hbox); have n15_ := Aside0.mk ((by rw [hg]; exact (below_size (by repeat (first | (with_reducible first | exact HB.out | apply below_alloc | apply pw_below_drewN | apply below_drew1 | refine below_set ?_ GE198.out) | exact HB.out))) : w.heap.size ≤ gb246)); have n16_ := Aside0.mk ((by rw [hg]; exact (below_size (by repeat (first | (with_reducible first | exact HB.out | apply below_alloc | apply pw_below_drewN | apply below_drew1 | refine below_set ?_ GE198.out) | exact HB.out))) : w.heap.size ≤ gb246)); have n17_ := Aside0.mk ((by rw [hg]; exact Nat.ne_of_lt (blk_lt (g := gb198) (o := .cells #[.slice A0_0 l0_0.length c0_0, .int .i64 a0_1, .slice A0_2 l0_2.length c0_2, .slice A0_3 l0_3.length c0_3, .slice A0_4 l0_4.length c0_4, .slice A0_5 l0_5.length c0_5, .slice A0_6 l0_6.length c0_6, .int .i64 a0_7, .int .i64 a0_8, .int .i64 a0_9] 33 (0, 0)) (by (with_reducible repeat (first | refine blk_drewN ?_ _ | refine blk_drew ?_ | refine blk_alloc ?_ _)); exact BK198.out)) : gb198 ≠ gb246)); have n18_ := Aside0.mk ((by rw [hg]; exact Nat.ne_of_gt (blk_lt (g := gb198) (o := .cells #[.slice A0_0 l0_0.length c0_0, .int .i64 a0_1, .slice A0_2 l0_2.length c0_2, .slice A0_3 l0_3.length c0_3, .slice A0_4 l0_4.length c0_4, .slice A0_5 l0_5.length c0_5, .slice A0_6 l0_6.length c0_6, .int .i64 a0_7, .int .i64 a0_8, .int .i64 a0_9] 33 (0, 0)) (by (with_reducible repeat (first | refine blk_drewN ?_ _ | refine blk_drew ?_ | refine blk_alloc ?_ _)); exact BK198.out)) : gb246 ≠ gb198)); clear HO202; clear HO206; clear HO209; clear HO212; clear HO215; clear HO218; clear HO226; clear HO230; clear HO233; clear HO236; clear HO239; clear HO242; clear BK198; clear HB; have HO202 := n0_; have HO206 := n1_; have HO209 := n2_; have HO212 := n3_; have HO215 := n4_; have HO218 := n5_; have HO226 := n6_; have HO230 := n7_; have HO233 := n8_; have HO236 := n9_; have HO239 := n10_; have HO242 := n11_; have BK198 := n12_; have HB := n13_; have BK246 := n14_; have GW246 := n15_; have GE246 := n16_; have NB198_246 := n17_; have NB246_198 := n18_; clear n0_ n1_ n2_ n3_ n4_ n5_ n6_ n7_ n8_ n9_ n10_ n11_ n12_ n13_ n14_ n15_ n16_ n17_ n18_; clear hb hbox hg; obtain ⟨Ao29, co29, eo29⟩ := Kd.R_slice HO226.out; subst eo29; have hnb30 := NB246_198.out; have hnc30 := NB198_246.out; have hcz31_0 : w28.cell? ⟨gb246, 0, none⟩ = some (.slice none 0 0) := (blk_cell BK246.out 0).trans rfl; have hcz31_1 : w28.cell? ⟨gb246, 1, none⟩ = some (.int .i64 0) := (blk_cell BK246.out 1).trans rfl; have hcz31_2 : w28.cell? ⟨gb246, 2, none⟩ = some (.slice none 0 0) := (blk_cell BK246.out 2).trans rfl; have hcz31_3 : w28.cell? ⟨gb246, 3, none⟩ = some (.slice none 0 0) := (blk_cell BK246.out 3).trans rfl; have hcz31_4 : w28.cell? ⟨gb246, 4, none⟩ = some (.slice none 0 0) := (blk_cell BK246.out 4).trans rfl; have hcz31_5 : w28.cell? ⟨gb246, 5, none⟩ = some (.slice none 0 0) := (blk_cell BK246.out 5).trans rfl; have hcz31_6 : w28.cell? ⟨gb246, 6, none⟩ = some (.slice none 0 0) := (blk_cell BK246.out 6).trans rfl; have hcz31_7 : w28.cell? ⟨gb246, 7, none⟩ = some (.int .i64 0) := (blk_cell BK246.out 7).trans rfl; have hcz31_8 : w28.cell? ⟨gb246, 8, none⟩ = some (.int .i64 0) := (blk_cell BK246.out 8).trans rfl; have hcz31_9 : w28.cell? ⟨gb246, 9, none⟩ = some (.int .i64 0) := (blk_cell BK246.out 9).trans rfl; have hfz31_0 := blk_frozen BK246.out 0; have hfz31_1 := blk_frozen BK246.out 1; have hfz31_2 := blk_frozen BK246.out 2; have hfz31_3 := blk_frozen BK246.out 3; have hfz31_4 := blk_frozen BK246.out 4; have hfz31_5 := blk_frozen BK246.out 5; have hfz31_6 := blk_frozen BK246.out 6; have hfz31_7 := blk_frozen BK246.out 7; have hfz31_8 := blk_frozen BK246.out 8; have hfz31_9 := blk_frozen BK246.out 9; obtain ⟨Ao32, co32, eo32⟩ := Kd.R_slice HO230.out; subst eo32; obtain ⟨Ao33, co33, eo33⟩ := Kd.R_slice HO233.out; subst eo33; obtain ⟨Ao34, co34, eo34⟩ := Kd.R_slice HO236.out; subst eo34; obtain ⟨Ao35, co35, eo35⟩ := Kd.R_slice HO239.out; subst eo35; obtain ⟨Ao36, co36, eo36⟩ := Kd.R_slice HO242.out; subst eo36) | ((with_reducible refine gate_callee (f := 30) rfl ?_); refine goesL_ (some 32) rfl rfl Try.func30 (by kernel_rfl) rfl #[.agg #[.slice Ao29 t224.length co29, .int .i64 t227, .slice Ao32 t228.length co32, .slice Ao33 t231.length co33, .slice Ao34 t234.length co34, .slice Ao35 t237.length co35, .slice Ao36 t240.length co36, .int .i64 t243, .int .i64 t244, .int .i64 t245], .int .i64 a1, .int .i64 a2] rfl (by (try simp only [List.map_toArray, List.map_cons, List.map_nil]); first | done | rfl | (simp only [List.length_drop, List.length_take]; rfl)) ?_; (with_reducible refine (impl_LoadWord.calls _ _ t224 t227 _ _ t228 _ _ t231 _ _ t234 _ _ t237 _ _ t240 t243 t244 t245 a1 a2 t247 t248 _ ?side1 ?side2 ?side3 ?side4 ?side5 ?side6 ?side7 ?side8 ?side9 ?side10 ?side11 ?side12 A12.out).mono ?_); (case side1 => refine (Kd.R_reads' (e := 3) (base := w.heap.size) (ok := fun k_ => ((some k_ ≠ (.slice Ao32 t228.length co32 : Value).ownBlock ∧ some k_ ≠ (.slice Ao19 t200.length co19 : Value).ownBlock) ∧ some k_ ≠ (.slice Ao20 t204.length co20 : Value).ownBlock)) (n := t224.length) (c := co29) ?_).2.2; exact (by (with_reducible repeat (first | apply Kd.R_alloc | apply Kd.R_drewN | apply Kd.R_drew)); exact (Kd.R_mono (Kd.R_far (p := ⟨gb246, 9, none⟩) (Kd.R_far (p := ⟨gb246, 8, none⟩) (Kd.R_far (p := ⟨gb246, 7, none⟩) (Kd.R_far (p := ⟨gb246, 6, none⟩) (Kd.R_far (p := ⟨gb246, 5, none⟩) (Kd.R_far (p := ⟨gb246, 4, none⟩) (Kd.R_far (p := ⟨gb246, 3, none⟩) (Kd.R_far (p := ⟨gb246, 2, none⟩) (Kd.R_far (p := ⟨gb246, 1, none⟩) (Kd.R_far (p := ⟨gb246, 0, none⟩) (Kd.R_types HO226.out BK246.out (by decide)) (fun _ hk => hk.2) (.slice Ao29 t224.length co29)) (fun _ hk => hk.2) (.int .i64 t227)) (fun _ hk => hk.2) (.slice Ao32 t228.length co32)) (fun _ hk => hk.2) (.slice Ao33 t231.length co33)) (fun _ hk => hk.2) (.slice Ao34 t234.length co34)) (fun _ hk => hk.2) (.slice Ao35 t237.length co35)) (fun _ hk => hk.2) (.slice Ao36 t240.length co36)) (fun _ hk => hk.2) (.int .i64 t243)) (fun _ hk => hk.2) (.int .i64 t244)) (fun _ hk => hk.2) (.int .i64 t245)) (fun _ h_ => h_.1)))); (case side2 => exact (Kd.R_reads' HO226.out).2.1); (case side3 => refine (Kd.R_reads' (e := 3) (base := w.heap.size) (ok := fun k_ => ((some k_ ≠ (.slice Ao29 t224.length co29 : Value).ownBlock ∧ some k_ ≠ (.slice Ao19 t200.length co19 : Value).ownBlock) ∧ some k_ ≠ (.slice Ao20 t204.length co20 : Value).ownBlock)) (n := t228.length) (c := co32) ?_).2.2; exact (by (with_reducible repeat (first | apply Kd.R_alloc | apply Kd.R_drewN | apply Kd.R_drew)); exact (Kd.R_mono (Kd.R_far (p := ⟨gb246, 9, none⟩) (Kd.R_far (p := ⟨gb246, 8, none⟩) (Kd.R_far (p := ⟨gb246, 7, none⟩) (Kd.R_far (p := ⟨gb246, 6, none⟩) (Kd.R_far (p := ⟨gb246, 5, none⟩) (Kd.R_far (p := ⟨gb246, 4, none⟩) (Kd.R_far (p := ⟨gb246, 3, none⟩) (Kd.R_far (p := ⟨gb246, 2, none⟩) (Kd.R_far (p := ⟨gb246, 1, none⟩) (Kd.R_far (p := ⟨gb246, 0, none⟩) (Kd.R_types HO230.out BK246.out (by decide)) (fun _ hk => hk.2) (.slice Ao29 t224.length co29)) (fun _ hk => hk.2) (.int .i64 t227)) (fun _ hk => hk.2) (.slice Ao32 t228.length co32)) (fun _ hk => hk.2) (.slice Ao33 t231.length co33)) (fun _ hk => hk.2) (.slice Ao34 t234.length co34)) (fun _ hk => hk.2) (.slice Ao35 t237.length co35)) (fun _ hk => hk.2) (.slice Ao36 t240.length co36)) (fun _ hk => hk.2) (.int .i64 t243)) (fun _ hk => hk.2) (.int .i64 t244)) (fun _ hk => hk.2) (.int .i64 t245)) (fun _ h_ => h_.1)))); (case side4 => exact (Kd.R_reads' HO230.out).2.1); (case side5 => refine (Kd.R_reads' (e := 5) (base := w.heap.size) (ok := fun k_ => (((((some k_ ≠ (.slice Ao34 t234.length co34 : Value).ownBlock ∧ (some k_ ≠ (.slice Ao35 t237.length co35 : Value).ownBlock ∧ some k_ ≠ (.slice Ao36 t240.length co36 : Value).ownBlock)) ∧ some k_ ≠ (.slice Ao21 t207.length co21 : Value).ownBlock) ∧ some k_ ≠ (.slice Ao22 t210.length co22 : Value).ownBlock) ∧ some k_ ≠ (.slice Ao23 t213.length co23 : Value).ownBlock) ∧ some k_ ≠ (.slice Ao24 t216.length co24 : Value).ownBlock)) (n := t231.length) (c := co33) ?_).2.2; exact (by (with_reducible repeat (first | apply Kd.R_alloc | apply Kd.R_drewN | apply Kd.R_drew)); exact (Kd.R_mono (Kd.R_far (p := ⟨gb246, 9, none⟩) (Kd.R_far (p := ⟨gb246, 8, none⟩) (Kd.R_far (p := ⟨gb246, 7, none⟩) (Kd.R_far (p := ⟨gb246, 6, none⟩) (Kd.R_far (p := ⟨gb246, 5, none⟩) (Kd.R_far (p := ⟨gb246, 4, none⟩) (Kd.R_far (p := ⟨gb246, 3, none⟩) (Kd.R_far (p := ⟨gb246, 2, none⟩) (Kd.R_far (p := ⟨gb246, 1, none⟩) (Kd.R_far (p := ⟨gb246, 0, none⟩) (Kd.R_types HO233.out BK246.out (by decide)) (fun _ hk => hk.2) (.slice Ao29 t224.length co29)) (fun _ hk => hk.2) (.int .i64 t227)) (fun _ hk => hk.2) (.slice Ao32 t228.length co32)) (fun _ hk => hk.2) (.slice Ao33 t231.length co33)) (fun _ hk => hk.2) (.slice Ao34 t234.length co34)) (fun _ hk => hk.2) (.slice Ao35 t237.length co35)) (fun _ hk => hk.2) (.slice Ao36 t240.length co36)) (fun _ hk => hk.2) (.int .i64 t243)) (fun _ hk => hk.2) (.int .i64 t244)) (fun _ hk => hk.2) (.int .i64 t245)) (fun _ h_ => h_.1)))); (case side6 => exact (Kd.R_reads' HO233.out).2.1); (case side7 => refine (Kd.R_reads' (e := 5) (base := w.heap.size) (ok := fun k_ => (((((some k_ ≠ (.slice Ao33 t231.length co33 : Value).ownBlock ∧ (some k_ ≠ (.slice Ao35 t237.length co35 : Value).ownBlock ∧ some k_ ≠ (.slice Ao36 t240.length co36 : Value).ownBlock)) ∧ some k_ ≠ (.slice Ao21 t207.length co21 : Value).ownBlock) ∧ some k_ ≠ (.slice Ao22 t210.length co22 : Value).ownBlock) ∧ some k_ ≠ (.slice Ao23 t213.length co23 : Value).ownBlock) ∧ some k_ ≠ (.slice Ao24 t216.length co24 : Value).ownBlock)) (n := t234.length) (c := co34) ?_).2.2; exact (by (with_reducible repeat (first | apply Kd.R_alloc | apply Kd.R_drewN | apply Kd.R_drew)); exact (Kd.R_mono (Kd.R_far (p := ⟨gb246, 9, none⟩) (Kd.R_far (p := ⟨gb246, 8, none⟩) (Kd.R_far (p := ⟨gb246, 7, none⟩) (Kd.R_far (p := ⟨gb246, 6, none⟩) (Kd.R_far (p := ⟨gb246, 5, none⟩) (Kd.R_far (p := ⟨gb246, 4, none⟩) (Kd.R_far (p := ⟨gb246, 3, none⟩) (Kd.R_far (p := ⟨gb246, 2, none⟩) (Kd.R_far (p := ⟨gb246, 1, none⟩) (Kd.R_far (p := ⟨gb246, 0, none⟩) (Kd.R_types HO236.out BK246.out (by decide)) (fun _ hk => hk.2) (.slice Ao29 t224.length co29)) (fun _ hk => hk.2) (.int .i64 t227)) (fun _ hk => hk.2) (.slice Ao32 t228.length co32)) (fun _ hk => hk.2) (.slice Ao33 t231.length co33)) (fun _ hk => hk.2) (.slice Ao34 t234.length co34)) (fun _ hk => hk.2) (.slice Ao35 t237.length co35)) (fun _ hk => hk.2) (.slice Ao36 t240.length co36)) (fun _ hk => hk.2) (.int .i64 t243)) (fun _ hk => hk.2) (.int .i64 t244)) (fun _ hk => hk.2) (.int .i64 t245)) (fun _ h_ => h_.1)))); (case side8 => exact (Kd.R_reads' HO236.out).2.1); (case side9 => refine (Kd.R_reads' (e := 5) (base := w.heap.size) (ok := fun k_ => (((((some k_ ≠ (.slice Ao33 t231.length co33 : Value).ownBlock ∧ (some k_ ≠ (.slice Ao34 t234.length co34 : Value).ownBlock ∧ some k_ ≠ (.slice Ao36 t240.length co36 : Value).ownBlock)) ∧ some k_ ≠ (.slice Ao21 t207.length co21 : Value).ownBlock) ∧ some k_ ≠ (.slice Ao22 t210.length co22 : Value).ownBlock) ∧ some k_ ≠ (.slice Ao23 t213.length co23 : Value).ownBlock) ∧ some k_ ≠ (.slice Ao24 t216.length co24 : Value).ownBlock)) (n := t237.length) (c := co35) ?_).2.2; exact (by (with_reducible repeat (first | apply Kd.R_alloc | apply Kd.R_drewN | apply Kd.R_drew)); exact (Kd.R_mono (Kd.R_far (p := ⟨gb246, 9, none⟩) (Kd.R_far (p := ⟨gb246, 8, none⟩) (Kd.R_far (p := ⟨gb246, 7, none⟩) (Kd.R_far (p := ⟨gb246, 6, none⟩) (Kd.R_far (p := ⟨gb246, 5, none⟩) (Kd.R_far (p := ⟨gb246, 4, none⟩) (Kd.R_far (p := ⟨gb246, 3, none⟩) (Kd.R_far (p := ⟨gb246, 2, none⟩) (Kd.R_far (p := ⟨gb246, 1, none⟩) (Kd.R_far (p := ⟨gb246, 0, none⟩) (Kd.R_types HO239.out BK246.out (by decide)) (fun _ hk => hk.2) (.slice Ao29 t224.length co29)) (fun _ hk => hk.2) (.int .i64 t227)) (fun _ hk => hk.2) (.slice Ao32 t228.length co32)) (fun _ hk => hk.2) (.slice Ao33 t231.length co33)) (fun _ hk => hk.2) (.slice Ao34 t234.length co34)) (fun _ hk => hk.2) (.slice Ao35 t237.length co35)) (fun _ hk => hk.2) (.slice Ao36 t240.length co36)) (fun _ hk => hk.2) (.int .i64 t243)) (fun _ hk => hk.2) (.int .i64 t244)) (fun _ hk => hk.2) (.int .i64 t245)) (fun _ h_ => h_.1)))); (case side10 => exact (Kd.R_reads' HO239.out).2.1); (case side11 => refine (Kd.R_reads' (e := 5) (base := w.heap.size) (ok := fun k_ => (((((some k_ ≠ (.slice Ao33 t231.length co33 : Value).ownBlock ∧ (some k_ ≠ (.slice Ao34 t234.length co34 : Value).ownBlock ∧ some k_ ≠ (.slice Ao35 t237.length co35 : Value).ownBlock)) ∧ some k_ ≠ (.slice Ao21 t207.length co21 : Value).ownBlock) ∧ some k_ ≠ (.slice Ao22 t210.length co22 : Value).ownBlock) ∧ some k_ ≠ (.slice Ao23 t213.length co23 : Value).ownBlock) ∧ some k_ ≠ (.slice Ao24 t216.length co24 : Value).ownBlock)) (n := t240.length) (c := co36) ?_).2.2; exact (by (with_reducible repeat (first | apply Kd.R_alloc | apply Kd.R_drewN | apply Kd.R_drew)); exact (Kd.R_mono (Kd.R_far (p := ⟨gb246, 9, none⟩) (Kd.R_far (p := ⟨gb246, 8, none⟩) (Kd.R_far (p := ⟨gb246, 7, none⟩) (Kd.R_far (p := ⟨gb246, 6, none⟩) (Kd.R_far (p := ⟨gb246, 5, none⟩) (Kd.R_far (p := ⟨gb246, 4, none⟩) (Kd.R_far (p := ⟨gb246, 3, none⟩) (Kd.R_far (p := ⟨gb246, 2, none⟩) (Kd.R_far (p := ⟨gb246, 1, none⟩) (Kd.R_far (p := ⟨gb246, 0, none⟩) (Kd.R_types HO242.out BK246.out (by decide)) (fun _ hk => hk.2) (.slice Ao29 t224.length co29)) (fun _ hk => hk.2) (.int .i64 t227)) (fun _ hk => hk.2) (.slice Ao32 t228.length co32)) (fun _ hk => hk.2) (.slice Ao33 t231.length co33)) (fun _ hk => hk.2) (.slice Ao34 t234.length co34)) (fun _ hk => hk.2) (.slice Ao35 t237.length co35)) (fun _ hk => hk.2) (.slice Ao36 t240.length co36)) (fun _ hk => hk.2) (.int .i64 t243)) (fun _ hk => hk.2) (.int .i64 t244)) (fun _ hk => hk.2) (.int .i64 t245)) (fun _ h_ => h_.1)))); (case side12 => exact (Kd.R_reads' HO242.out).2.1); rintro e w37 ⟨rfl, hb⟩; refine ⟨_, rfl, ?_⟩; have n0_ := Aside0.mk (Kd.R_below (by (with_reducible repeat (first | apply Kd.R_alloc | apply Kd.R_drewN | apply Kd.R_drew)); exact (Kd.R_mono (Kd.R_far (p := ⟨gb246, 9, none⟩) (Kd.R_far (p := ⟨gb246, 8, none⟩) (Kd.R_far (p := ⟨gb246, 7, none⟩) (Kd.R_far (p := ⟨gb246, 6, none⟩) (Kd.R_far (p := ⟨gb246, 5, none⟩) (Kd.R_far (p := ⟨gb246, 4, none⟩) (Kd.R_far (p := ⟨gb246, 3, none⟩) (Kd.R_far (p := ⟨gb246, 2, none⟩) (Kd.R_far (p := ⟨gb246, 1, none⟩) (Kd.R_far (p := ⟨gb246, 0, none⟩) (Kd.R_types HO202.out BK246.out (by decide)) (fun _ hk => hk.2) (.slice Ao29 t224.length co29)) (fun _ hk => hk.2) (.int .i64 t227)) (fun _ hk => hk.2) (.slice Ao32 t228.length co32)) (fun _ hk => hk.2) (.slice Ao33 t231.length co33)) (fun _ hk => hk.2) (.slice Ao34 t234.length co34)) (fun _ hk => hk.2) (.slice Ao35 t237.length co35)) (fun _ hk => hk.2) (.slice Ao36 t240.length co36)) (fun _ hk => hk.2) (.int .i64 t243)) (fun _ hk => hk.2) (.int .i64 t244)) (fun _ hk => hk.2) (.int .i64 t245)) (fun _ h_ => h_.1))) hb); have n1_ := Aside0.mk (Kd.R_below (by (with_reducible repeat (first | apply Kd.R_alloc | apply Kd.R_drewN | apply Kd.R_drew)); exact (Kd.R_mono (Kd.R_far (p := ⟨gb246, 9, none⟩) (Kd.R_far (p := ⟨gb246, 8, none⟩) (Kd.R_far (p := ⟨gb246, 7, none⟩) (Kd.R_far (p := ⟨gb246, 6, none⟩) (Kd.R_far (p := ⟨gb246, 5, none⟩) (Kd.R_far (p := ⟨gb246, 4, none⟩) (Kd.R_far (p := ⟨gb246, 3, none⟩) (Kd.R_far (p := ⟨gb246, 2, none⟩) (Kd.R_far (p := ⟨gb246, 1, none⟩) (Kd.R_far (p := ⟨gb246, 0, none⟩) (Kd.R_types HO206.out BK246.out (by decide)) (fun _ hk => hk.2) (.slice Ao29 t224.length co29)) (fun _ hk => hk.2) (.int .i64 t227)) (fun _ hk => hk.2) (.slice Ao32 t228.length co32)) (fun _ hk => hk.2) (.slice Ao33 t231.length co33)) (fun _ hk => hk.2) (.slice Ao34 t234.length co34)) (fun _ hk => hk.2) (.slice Ao35 t237.length co35)) (fun _ hk => hk.2) (.slice Ao36 t240.length co36)) (fun _ hk => hk.2) (.int .i64 t243)) (fun _ hk => hk.2) (.int .i64 t244)) (fun _ hk => hk.2) (.int .i64 t245)) (fun _ h_ => h_.1))) hb); have n2_ := Aside0.mk (Kd.R_below (by (with_reducible repeat (first | apply Kd.R_alloc | apply Kd.R_drewN | apply Kd.R_drew)); exact (Kd.R_mono (Kd.R_far (p := ⟨gb246, 9, none⟩) (Kd.R_far (p := ⟨gb246, 8, none⟩) (Kd.R_far (p := ⟨gb246, 7, none⟩) (Kd.R_far (p := ⟨gb246, 6, none⟩) (Kd.R_far (p := ⟨gb246, 5, none⟩) (Kd.R_far (p := ⟨gb246, 4, none⟩) (Kd.R_far (p := ⟨gb246, 3, none⟩) (Kd.R_far (p := ⟨gb246, 2, none⟩) (Kd.R_far (p := ⟨gb246, 1, none⟩) (Kd.R_far (p := ⟨gb246, 0, none⟩) (Kd.R_types HO209.out BK246.out (by decide)) (fun _ hk => hk.2) (.slice Ao29 t224.length co29)) (fun _ hk => hk.2) (.int .i64 t227)) (fun _ hk => hk.2) (.slice Ao32 t228.length co32)) (fun _ hk => hk.2) (.slice Ao33 t231.length co33)) (fun _ hk => hk.2) (.slice Ao34 t234.length co34)) (fun _ hk => hk.2) (.slice Ao35 t237.length co35)) (fun _ hk => hk.2) (.slice Ao36 t240.length co36)) (fun _ hk => hk.2) (.int .i64 t243)) (fun _ hk => hk.2) (.int .i64 t244)) (fun _ hk => hk.2) (.int .i64 t245)) (fun _ h_ => h_.1))) hb); have n3_ := Aside0.mk (Kd.R_below (by (with_reducible repeat (first | apply Kd.R_alloc | apply Kd.R_drewN | apply Kd.R_drew)); exact (Kd.R_mono (Kd.R_far (p := ⟨gb246, 9, none⟩) (Kd.R_far (p := ⟨gb246, 8, none⟩) (Kd.R_far (p := ⟨gb246, 7, none⟩) (Kd.R_far (p := ⟨gb246, 6, none⟩) (Kd.R_far (p := ⟨gb246, 5, none⟩) (Kd.R_far (p := ⟨gb246, 4, none⟩) (Kd.R_far (p := ⟨gb246, 3, none⟩) (Kd.R_far (p := ⟨gb246, 2, none⟩) (Kd.R_far (p := ⟨gb246, 1, none⟩) (Kd.R_far (p := ⟨gb246, 0, none⟩) (Kd.R_types HO212.out BK246.out (by decide)) (fun _ hk => hk.2) (.slice Ao29 t224.length co29)) (fun _ hk => hk.2) (.int .i64 t227)) (fun _ hk => hk.2) (.slice Ao32 t228.length co32)) (fun _ hk => hk.2) (.slice Ao33 t231.length co33)) (fun _ hk => hk.2) (.slice Ao34 t234.length co34)) (fun _ hk => hk.2) (.slice Ao35 t237.length co35)) (fun _ hk => hk.2) (.slice Ao36 t240.length co36)) (fun _ hk => hk.2) (.int .i64 t243)) (fun _ hk => hk.2) (.int .i64 t244)) (fun _ hk => hk.2) (.int .i64 t245)) (fun _ h_ => h_.1))) hb); have n4_ := Aside0.mk (Kd.R_below (by (with_reducible repeat (first | apply Kd.R_alloc | apply Kd.R_drewN | apply Kd.R_drew)); exact (Kd.R_mono (Kd.R_far (p := ⟨gb246, 9, none⟩) (Kd.R_far (p := ⟨gb246, 8, none⟩) (Kd.R_far (p := ⟨gb246, 7, none⟩) (Kd.R_far (p := ⟨gb246, 6, none⟩) (Kd.R_far (p := ⟨gb246, 5, none⟩) (Kd.R_far (p := ⟨gb246, 4, none⟩) (Kd.R_far (p := ⟨gb246, 3, none⟩) (Kd.R_far (p := ⟨gb246, 2, none⟩) (Kd.R_far (p := ⟨gb246, 1, none⟩) (Kd.R_far (p := ⟨gb246, 0, none⟩) (Kd.R_types HO215.out BK246.out (by decide)) (fun _ hk => hk.2) (.slice Ao29 t224.length co29)) (fun _ hk => hk.2) (.int .i64 t227)) (fun _ hk => hk.2) (.slice Ao32 t228.length co32)) (fun _ hk => hk.2) (.slice Ao33 t231.length co33)) (fun _ hk => hk.2) (.slice Ao34 t234.length co34)) (fun _ hk => hk.2) (.slice Ao35 t237.length co35)) (fun _ hk => hk.2) (.slice Ao36 t240.length co36)) (fun _ hk => hk.2) (.int .i64 t243)) (fun _ hk => hk.2) (.int .i64 t244)) (fun _ hk => hk.2) (.int .i64 t245)) (fun _ h_ => h_.1))) hb); have n5_ := Aside0.mk (Kd.R_below (by (with_reducible repeat (first | apply Kd.R_alloc | apply Kd.R_drewN | apply Kd.R_drew)); exact (Kd.R_mono (Kd.R_far (p := ⟨gb246, 9, none⟩) (Kd.R_far (p := ⟨gb246, 8, none⟩) (Kd.R_far (p := ⟨gb246, 7, none⟩) (Kd.R_far (p := ⟨gb246, 6, none⟩) (Kd.R_far (p := ⟨gb246, 5, none⟩) (Kd.R_far (p := ⟨gb246, 4, none⟩) (Kd.R_far (p := ⟨gb246, 3, none⟩) (Kd.R_far (p := ⟨gb246, 2, none⟩) (Kd.R_far (p := ⟨gb246, 1, none⟩) (Kd.R_far (p := ⟨gb246, 0, none⟩) (Kd.R_types HO218.out BK246.out (by decide)) (fun _ hk => hk.2) (.slice Ao29 t224.length co29)) (fun _ hk => hk.2) (.int .i64 t227)) (fun _ hk => hk.2) (.slice Ao32 t228.length co32)) (fun _ hk => hk.2) (.slice Ao33 t231.length co33)) (fun _ hk => hk.2) (.slice Ao34 t234.length co34)) (fun _ hk => hk.2) (.slice Ao35 t237.length co35)) (fun _ hk => hk.2) (.slice Ao36 t240.length co36)) (fun _ hk => hk.2) (.int .i64 t243)) (fun _ hk => hk.2) (.int .i64 t244)) (fun _ hk => hk.2) (.int .i64 t245)) (fun _ h_ => h_.1))) hb); have n6_ := Aside0.mk (Kd.R_below (by (with_reducible repeat (first | apply Kd.R_alloc | apply Kd.R_drewN | apply Kd.R_drew)); exact (Kd.R_mono (Kd.R_far (p := ⟨gb246, 9, none⟩) (Kd.R_far (p := ⟨gb246, 8, none⟩) (Kd.R_far (p := ⟨gb246, 7, none⟩) (Kd.R_far (p := ⟨gb246, 6, none⟩) (Kd.R_far (p := ⟨gb246, 5, none⟩) (Kd.R_far (p := ⟨gb246, 4, none⟩) (Kd.R_far (p := ⟨gb246, 3, none⟩) (Kd.R_far (p := ⟨gb246, 2, none⟩) (Kd.R_far (p := ⟨gb246, 1, none⟩) (Kd.R_far (p := ⟨gb246, 0, none⟩) (Kd.R_types HO226.out BK246.out (by decide)) (fun _ hk => hk.2) (.slice Ao29 t224.length co29)) (fun _ hk => hk.2) (.int .i64 t227)) (fun _ hk => hk.2) (.slice Ao32 t228.length co32)) (fun _ hk => hk.2) (.slice Ao33 t231.length co33)) (fun _ hk => hk.2) (.slice Ao34 t234.length co34)) (fun _ hk => hk.2) (.slice Ao35 t237.length co35)) (fun _ hk => hk.2) (.slice Ao36 t240.length co36)) (fun _ hk => hk.2) (.int .i64 t243)) (fun _ hk => hk.2) (.int .i64 t244)) (fun _ hk => hk.2) (.int .i64 t245)) (fun _ h_ => h_.1))) hb); have n7_ := Aside0.mk (Kd.R_below (by (with_reducible repeat (first | apply Kd.R_alloc | apply Kd.R_drewN | apply Kd.R_drew)); exact (Kd.R_mono (Kd.R_far (p := ⟨gb246, 9, none⟩) (Kd.R_far (p := ⟨gb246, 8, none⟩) (Kd.R_far (p := ⟨gb246, 7, none⟩) (Kd.R_far (p := ⟨gb246, 6, none⟩) (Kd.R_far (p := ⟨gb246, 5, none⟩) (Kd.R_far (p := ⟨gb246, 4, none⟩) (Kd.R_far (p := ⟨gb246, 3, none⟩) (Kd.R_far (p := ⟨gb246, 2, none⟩) (Kd.R_far (p := ⟨gb246, 1, none⟩) (Kd.R_far (p := ⟨gb246, 0, none⟩) (Kd.R_types HO230.out BK246.out (by decide)) (fun _ hk => hk.2) (.slice Ao29 t224.length co29)) (fun _ hk => hk.2) (.int .i64 t227)) (fun _ hk => hk.2) (.slice Ao32 t228.length co32)) (fun _ hk => hk.2) (.slice Ao33 t231.length co33)) (fun _ hk => hk.2) (.slice Ao34 t234.length co34)) (fun _ hk => hk.2) (.slice Ao35 t237.length co35)) (fun _ hk => hk.2) (.slice Ao36 t240.length co36)) (fun _ hk => hk.2) (.int .i64 t243)) (fun _ hk => hk.2) (.int .i64 t244)) (fun _ hk => hk.2) (.int .i64 t245)) (fun _ h_ => h_.1))) hb); have n8_ := Aside0.mk (Kd.R_below (by (with_reducible repeat (first | apply Kd.R_alloc | apply Kd.R_drewN | apply Kd.R_drew)); exact (Kd.R_mono (Kd.R_far (p := ⟨gb246, 9, none⟩) (Kd.R_far (p := ⟨gb246, 8, none⟩) (Kd.R_far (p := ⟨gb246, 7, none⟩) (Kd.R_far (p := ⟨gb246, 6, none⟩) (Kd.R_far (p := ⟨gb246, 5, none⟩) (Kd.R_far (p := ⟨gb246, 4, none⟩) (Kd.R_far (p := ⟨gb246, 3, none⟩) (Kd.R_far (p := ⟨gb246, 2, none⟩) (Kd.R_far (p := ⟨gb246, 1, none⟩) (Kd.R_far (p := ⟨gb246, 0, none⟩) (Kd.R_types HO233.out BK246.out (by decide)) (fun _ hk => hk.2) (.slice Ao29 t224.length co29)) (fun _ hk => hk.2) (.int .i64 t227)) (fun _ hk => hk.2) (.slice Ao32 t228.length co32)) (fun _ hk => hk.2) (.slice Ao33 t231.length co33)) (fun _ hk => hk.2) (.slice Ao34 t234.length co34)) (fun _ hk => hk.2) (.slice Ao35 t237.length co35)) (fun _ hk => hk.2) (.slice Ao36 t240.length co36)) (fun _ hk => hk.2) (.int .i64 t243)) (fun _ hk => hk.2) (.int .i64 t244)) (fun _ hk => hk.2) (.int .i64 t245)) (fun _ h_ => h_.1))) hb); have n9_ := Aside0.mk (Kd.R_below (by (with_reducible repeat (first | apply Kd.R_alloc | apply Kd.R_drewN | apply Kd.R_drew)); exact (Kd.R_mono (Kd.R_far (p := ⟨gb246, 9, none⟩) (Kd.R_far (p := ⟨gb246, 8, none⟩) (Kd.R_far (p := ⟨gb246, 7, none⟩) (Kd.R_far (p := ⟨gb246, 6, none⟩) (Kd.R_far (p := ⟨gb246, 5, none⟩) (Kd.R_far (p := ⟨gb246, 4, none⟩) (Kd.R_far (p := ⟨gb246, 3, none⟩) (Kd.R_far (p := ⟨gb246, 2, none⟩) (Kd.R_far (p := ⟨gb246, 1, none⟩) (Kd.R_far (p := ⟨gb246, 0, none⟩) (Kd.R_types HO236.out BK246.out (by decide)) (fun _ hk => hk.2) (.slice Ao29 t224.length co29)) (fun _ hk => hk.2) (.int .i64 t227)) (fun _ hk => hk.2) (.slice Ao32 t228.length co32)) (fun _ hk => hk.2) (.slice Ao33 t231.length co33)) (fun _ hk => hk.2) (.slice Ao34 t234.length co34)) (fun _ hk => hk.2) (.slice Ao35 t237.length co35)) (fun _ hk => hk.2) (.slice Ao36 t240.length co36)) (fun _ hk => hk.2) (.int .i64 t243)) (fun _ hk => hk.2) (.int .i64 t244)) (fun _ hk => hk.2) (.int .i64 t245)) (fun _ h_ => h_.1))) hb); have n10_ := Aside0.mk (Kd.R_below (by (with_reducible repeat (first | apply Kd.R_alloc | apply Kd.R_drewN | apply Kd.R_drew)); exact (Kd.R_mono (Kd.R_far (p := ⟨gb246, 9, none⟩) (Kd.R_far (p := ⟨gb246, 8, none⟩) (Kd.R_far (p := ⟨gb246, 7, none⟩) (Kd.R_far (p := ⟨gb246, 6, none⟩) (Kd.R_far (p := ⟨gb246, 5, none⟩) (Kd.R_far (p := ⟨gb246, 4, none⟩) (Kd.R_far (p := ⟨gb246, 3, none⟩) (Kd.R_far (p := ⟨gb246, 2, none⟩) (Kd.R_far (p := ⟨gb246, 1, none⟩) (Kd.R_far (p := ⟨gb246, 0, none⟩) (Kd.R_types HO239.out BK246.out (by decide)) (fun _ hk => hk.2) (.slice Ao29 t224.length co29)) (fun _ hk => hk.2) (.int .i64 t227)) (fun _ hk => hk.2) (.slice Ao32 t228.length co32)) (fun _ hk => hk.2) (.slice Ao33 t231.length co33)) (fun _ hk => hk.2) (.slice Ao34 t234.length co34)) (fun _ hk => hk.2) (.slice Ao35 t237.length co35)) (fun _ hk => hk.2) (.slice Ao36 t240.length co36)) (fun _ hk => hk.2) (.int .i64 t243)) (fun _ hk => hk.2) (.int .i64 t244)) (fun _ hk => hk.2) (.int .i64 t245)) (fun _ h_ => h_.1))) hb); have n11_ := Aside0.mk (Kd.R_below (by (with_reducible repeat (first | apply Kd.R_alloc | apply Kd.R_drewN | apply Kd.R_drew)); exact (Kd.R_mono (Kd.R_far (p := ⟨gb246, 9, none⟩) (Kd.R_far (p := ⟨gb246, 8, none⟩) (Kd.R_far (p := ⟨gb246, 7, none⟩) (Kd.R_far (p := ⟨gb246, 6, none⟩) (Kd.R_far (p := ⟨gb246, 5, none⟩) (Kd.R_far (p := ⟨gb246, 4, none⟩) (Kd.R_far (p := ⟨gb246, 3, none⟩) (Kd.R_far (p := ⟨gb246, 2, none⟩) (Kd.R_far (p := ⟨gb246, 1, none⟩) (Kd.R_far (p := ⟨gb246, 0, none⟩) (Kd.R_types HO242.out BK246.out (by decide)) (fun _ hk => hk.2) (.slice Ao29 t224.length co29)) (fun _ hk => hk.2) (.int .i64 t227)) (fun _ hk => hk.2) (.slice Ao32 t228.length co32)) (fun _ hk => hk.2) (.slice Ao33 t231.length co33)) (fun _ hk => hk.2) (.slice Ao34 t234.length co34)) (fun _ hk => hk.2) (.slice Ao35 t237.length co35)) (fun _ hk => hk.2) (.slice Ao36 t240.length co36)) (fun _ hk => hk.2) (.int .i64 t243)) (fun _ hk => hk.2) (.int .i64 t244)) (fun _ hk => hk.2) (.int .i64 t245)) (fun _ h_ => h_.1))) hb); have n12_ := Aside0.mk (blk_below (g := gb198) (o := .cells #[.slice A0_0 l0_0.length c0_0, .int .i64 a0_1, .slice A0_2 l0_2.length c0_2, .slice A0_3 l0_3.length c0_3, .slice A0_4 l0_4.length c0_4, .slice A0_5 l0_5.length c0_5, .slice A0_6 l0_6.length c0_6, .int .i64 a0_7, .int .i64 a0_8, .int .i64 a0_9] 33 (0, 0)) (by (with_reducible repeat (first | refine blk_drewN ?_ _ | refine blk_drew ?_ | refine blk_alloc ?_ _)); refine blk_far ?_ NB198_246.out _; (with_reducible repeat (first | refine blk_drewN ?_ _ | refine blk_drew ?_ | refine blk_alloc ?_ _)); refine blk_far ?_ NB198_246.out _; (with_reducible repeat (first | refine blk_drewN ?_ _ | refine blk_drew ?_ | refine blk_alloc ?_ _)); refine blk_far ?_ NB198_246.out _; (with_reducible repeat (first | refine blk_drewN ?_ _ | refine blk_drew ?_ | refine blk_alloc ?_ _)); refine blk_far ?_ NB198_246.out _; (with_reducible repeat (first | refine blk_drewN ?_ _ | refine blk_drew ?_ | refine blk_alloc ?_ _)); refine blk_far ?_ NB198_246.out _; (with_reducible repeat (first | refine blk_drewN ?_ _ | refine blk_drew ?_ | refine blk_alloc ?_ _)); refine blk_far ?_ NB198_246.out _; (with_reducible repeat (first | refine blk_drewN ?_ _ | refine blk_drew ?_ | refine blk_alloc ?_ _)); refine blk_far ?_ NB198_246.out _; (with_reducible repeat (first | refine blk_drewN ?_ _ | refine blk_drew ?_ | refine blk_alloc ?_ _)); refine blk_far ?_ NB198_246.out _; (with_reducible repeat (first | refine blk_drewN ?_ _ | refine blk_drew ?_ | refine blk_alloc ?_ _)); refine blk_far ?_ NB198_246.out _; (with_reducible repeat (first | refine blk_drewN ?_ _ | refine blk_drew ?_ | refine blk_alloc ?_ _)); refine blk_far ?_ NB198_246.out _; (with_reducible repeat (first | refine blk_drewN ?_ _ | refine blk_drew ?_ | refine blk_alloc ?_ _)); exact BK198.out) hb); have n13_ := Aside0.mk (blk_below (g := gb246) (o := .cells #[.slice Ao29 t224.length co29, .int .i64 t227, .slice Ao32 t228.length co32, .slice Ao33 t231.length co33, .slice Ao34 t234.length co34, .slice Ao35 t237.length co35, .slice Ao36 t240.length co36, .int .i64 t243, .int .i64 t244, .int .i64 t245] 36 (0, 0)) (by (with_reducible repeat (first | refine blk_drewN ?_ _ | refine blk_drew ?_ | refine blk_alloc ?_ _)); refine blk_put (cs := #[.slice Ao29 t224.length co29, .int .i64 t227, .slice Ao32 t228.length co32, .slice Ao33 t231.length co33, .slice Ao34 t234.length co34, .slice Ao35 t237.length co35, .slice Ao36 t240.length co36, .int .i64 t243, .int .i64 t244, .int .i64 0]) ?_ 9 _ rfl; (with_reducible repeat (first | refine blk_drewN ?_ _ | refine blk_drew ?_ | refine blk_alloc ?_ _)); refine blk_put (cs := #[.slice Ao29 t224.length co29, .int .i64 t227, .slice Ao32 t228.length co32, .slice Ao33 t231.length co33, .slice Ao34 t234.length co34, .slice Ao35 t237.length co35, .slice Ao36 t240.length co36, .int .i64 t243, .int .i64 0, .int .i64 0]) ?_ 8 _ rfl; (with_reducible repeat (first | refine blk_drewN ?_ _ | refine blk_drew ?_ | refine blk_alloc ?_ _)); refine blk_put (cs := #[.slice Ao29 t224.length co29, .int .i64 t227, .slice Ao32 t228.length co32, .slice Ao33 t231.length co33, .slice Ao34 t234.length co34, .slice Ao35 t237.length co35, .slice Ao36 t240.length co36, .int .i64 0, .int .i64 0, .int .i64 0]) ?_ 7 _ rfl; (with_reducible repeat (first | refine blk_drewN ?_ _ | refine blk_drew ?_ | refine blk_alloc ?_ _)); refine blk_put (cs := #[.slice Ao29 t224.length co29, .int .i64 t227, .slice Ao32 t228.length co32, .slice Ao33 t231.length co33, .slice Ao34 t234.length co34, .slice Ao35 t237.length co35, .slice none 0 0, .int .i64 0, .int .i64 0, .int .i64 0]) ?_ 6 _ rfl; (with_reducible repeat (first | refine blk_drewN ?_ _ | refine blk_drew ?_ | refine blk_alloc ?_ _)); refine blk_put (cs := #[.slice Ao29 t224.length co29, .int .i64 t227, .slice Ao32 t228.length co32, .slice Ao33 t231.length co33, .slice Ao34 t234.length co34, .slice none 0 0, .slice none 0 0, .int .i64 0, .int .i64 0, .int .i64 0]) ?_ 5 _ rfl; (with_reducible repeat (first | refine blk_drewN ?_ _ | refine blk_drew ?_ | refine blk_alloc ?_ _)); refine blk_put (cs := #[.slice Ao29 t224.length co29, .int .i64 t227, .slice Ao32 t228.length co32, .slice Ao33 t231.length co33, .slice none 0 0, .slice none 0 0, .slice none 0 0, .int .i64 0, .int .i64 0, .int .i64 0]) ?_ 4 _ rfl; (with_reducible repeat (first | refine blk_drewN ?_ _ | refine blk_drew ?_ | refine blk_alloc ?_ _)); refine blk_put (cs := #[.slice Ao29 t224.length co29, .int .i64 t227, .slice Ao32 t228.length co32, .slice none 0 0, .slice none 0 0, .slice none 0 0, .slice none 0 0, .int .i64 0, .int .i64 0, .int .i64 0]) ?_ 3 _ rfl; (with_reducible repeat (first | refine blk_drewN ?_ _ | refine blk_drew ?_ | refine blk_alloc ?_ _)); refine blk_put (cs := #[.slice Ao29 t224.length co29, .int .i64 t227, .slice none 0 0, .slice none 0 0, .slice none 0 0, .slice none 0 0, .slice none 0 0, .int .i64 0, .int .i64 0, .int .i64 0]) ?_ 2 _ rfl; (with_reducible repeat (first | refine blk_drewN ?_ _ | refine blk_drew ?_ | refine blk_alloc ?_ _)); refine blk_put (cs := #[.slice Ao29 t224.length co29, .int .i64 0, .slice none 0 0, .slice none 0 0, .slice none 0 0, .slice none 0 0, .slice none 0 0, .int .i64 0, .int .i64 0, .int .i64 0]) ?_ 1 _ rfl; (with_reducible repeat (first | refine blk_drewN ?_ _ | refine blk_drew ?_ | refine blk_alloc ?_ _)); refine blk_put (cs := #[.slice none 0 0, .int .i64 0, .slice none 0 0, .slice none 0 0, .slice none 0 0, .slice none 0 0, .slice none 0 0, .int .i64 0, .int .i64 0, .int .i64 0]) ?_ 0 _ rfl; (with_reducible repeat (first | refine blk_drewN ?_ _ | refine blk_drew ?_ | refine blk_alloc ?_ _)); exact BK246.out) hb); have n14_ := Aside0.mk (below_step (by repeat (first | (with_reducible first | exact HB.out | apply below_alloc | apply pw_below_drewN | apply below_drew1 | refine below_set ?_ GE198.out | refine below_set ?_ GE246.out) | exact HB.out)) hb); clear HO202; clear HO206; clear HO209; clear HO212; clear HO215; clear HO218; clear HO226; clear HO230; clear HO233; clear HO236; clear HO239; clear HO242; clear BK198; clear BK246; clear HB; have HO202 := n0_; have HO206 := n1_; have HO209 := n2_; have HO212 := n3_; have HO215 := n4_; have HO218 := n5_; have HO226 := n6_; have HO230 := n7_; have HO233 := n8_; have HO236 := n9_; have HO239 := n10_; have HO242 := n11_; have BK198 := n12_; have BK246 := n13_; have HB := n14_; clear n0_ n1_ n2_ n3_ n4_ n5_ n6_ n7_ n8_ n9_ n10_ n11_ n12_ n13_ n14_; (try clear hb); (try clear hb2); (try clear hk); (try clear hi)))
    (try simp only [Act.put, List.setIfInBounds_toArray, List.set_cons_zero, List.set_cons_succ])
    go_cut [42] (fun v42 wc => ∃ (kq : Nat) (x42_12 : Bool), v42 = .bool x42_12 ∧ Aside0 (laws_FnExactLoadWord.j0 kq x42_12 l0_0 a0_1 l0_2 l0_3 l0_4 l0_5 l0_6 a0_7 a0_8 a0_9 t224 t227 t228 t231 t234 t237 t240 t243 t244 t245 = some r) ∧ Aside0 (kq ≤ k) ∧ Aside0 (Kd.R (Kd.int .i64) 3 wc w.heap.size (fun k_ => some k_ ≠ ((.slice Ao32 t228.length co32) : Value).ownBlock) (.slice Ao29 t224.length co29) t224) ∧ Aside0 (Kd.R (Kd.int .i64) 3 wc w.heap.size (fun k_ => some k_ ≠ ((.slice Ao29 t224.length co29) : Value).ownBlock) (.slice Ao32 t228.length co32) t228) ∧ Aside0 (Kd.R (Kd.int .u8) 5 wc w.heap.size (fun k_ => some k_ ≠ ((.slice Ao34 t234.length co34) : Value).ownBlock ∧ some k_ ≠ ((.slice Ao35 t237.length co35) : Value).ownBlock ∧ some k_ ≠ ((.slice Ao36 t240.length co36) : Value).ownBlock) (.slice Ao33 t231.length co33) t231) ∧ Aside0 (Kd.R (Kd.int .u8) 5 wc w.heap.size (fun k_ => some k_ ≠ ((.slice Ao33 t231.length co33) : Value).ownBlock ∧ some k_ ≠ ((.slice Ao35 t237.length co35) : Value).ownBlock ∧ some k_ ≠ ((.slice Ao36 t240.length co36) : Value).ownBlock) (.slice Ao34 t234.length co34) t234) ∧ Aside0 (Kd.R (Kd.int .u8) 5 wc w.heap.size (fun k_ => some k_ ≠ ((.slice Ao33 t231.length co33) : Value).ownBlock ∧ some k_ ≠ ((.slice Ao34 t234.length co34) : Value).ownBlock ∧ some k_ ≠ ((.slice Ao36 t240.length co36) : Value).ownBlock) (.slice Ao35 t237.length co35) t237) ∧ Aside0 (Kd.R (Kd.int .u8) 5 wc w.heap.size (fun k_ => some k_ ≠ ((.slice Ao33 t231.length co33) : Value).ownBlock ∧ some k_ ≠ ((.slice Ao34 t234.length co34) : Value).ownBlock ∧ some k_ ≠ ((.slice Ao35 t237.length co35) : Value).ownBlock) (.slice Ao36 t240.length co36) t240) ∧ Aside0 (wc.heap[gb198]? = some (.cells #[(.slice A0_0 l0_0.length c0_0), .int .i64 a0_1, (.slice A0_2 l0_2.length c0_2), (.slice A0_3 l0_3.length c0_3), (.slice A0_4 l0_4.length c0_4), (.slice A0_5 l0_5.length c0_5), (.slice A0_6 l0_6.length c0_6), .int .i64 a0_7, .int .i64 a0_8, .int .i64 a0_9] 33 (0, 0))) ∧ Aside0 (wc.heap[gb246]? = some (.cells #[(.slice Ao29 t224.length co29), .int .i64 t227, (.slice Ao32 t228.length co32), (.slice Ao33 t231.length co33), (.slice Ao34 t234.length co34), (.slice Ao35 t237.length co35), (.slice Ao36 t240.length co36), .int .i64 t243, .int .i64 t244, .int .i64 t245] 36 (0, 0))) ∧ Aside0 (Below w.heap.size w wc))
    case first =>
      have H := HC13.out
      clear HC13
      by_cases c38 : t247 = t222
      · rw [if_pos c38] at H
        have c38b0 : (t247 == t222) = true := beq_iff_eq.mpr c38
        have c38b1 : (t247 != t222) = false := bne_eq_false_iff_eq.mpr c38
        clear c38
        (first | rw [c38b0] | (simp only [i64_w, i32_w]; rw [c38b0]) | skip)
        have H' := Aside0.mk H
        clear H
        go_wp2
        go_meet
        case rel => exact ⟨_, ((t248 != t223)), (by first | rfl | (simp; done) | (simp [*]; done)), H', ⟨by first | omega | exact Nat.le_refl _⟩, ⟨by (with_reducible repeat (first | apply Kd.R_alloc | apply Kd.R_drewN | apply Kd.R_drew)); exact Kd.R_mono HO226.out (fun _ hk => hk.1.1)⟩, ⟨by (with_reducible repeat (first | apply Kd.R_alloc | apply Kd.R_drewN | apply Kd.R_drew)); exact Kd.R_mono HO230.out (fun _ hk => hk.1.1)⟩, ⟨by (with_reducible repeat (first | apply Kd.R_alloc | apply Kd.R_drewN | apply Kd.R_drew)); exact Kd.R_mono HO233.out (fun _ hk => ⟨hk.1.1.1.1.1, ⟨hk.1.1.1.1.2.1, hk.1.1.1.1.2.2⟩⟩)⟩, ⟨by (with_reducible repeat (first | apply Kd.R_alloc | apply Kd.R_drewN | apply Kd.R_drew)); exact Kd.R_mono HO236.out (fun _ hk => ⟨hk.1.1.1.1.1, ⟨hk.1.1.1.1.2.1, hk.1.1.1.1.2.2⟩⟩)⟩, ⟨by (with_reducible repeat (first | apply Kd.R_alloc | apply Kd.R_drewN | apply Kd.R_drew)); exact Kd.R_mono HO239.out (fun _ hk => ⟨hk.1.1.1.1.1, ⟨hk.1.1.1.1.2.1, hk.1.1.1.1.2.2⟩⟩)⟩, ⟨by (with_reducible repeat (first | apply Kd.R_alloc | apply Kd.R_drewN | apply Kd.R_drew)); exact Kd.R_mono HO242.out (fun _ hk => ⟨hk.1.1.1.1.1, ⟨hk.1.1.1.1.2.1, hk.1.1.1.1.2.2⟩⟩)⟩, ⟨by (with_reducible repeat (first | refine blk_drewN ?_ _ | refine blk_drew ?_ | refine blk_alloc ?_ _)); exact BK198.out⟩, ⟨by (with_reducible repeat (first | refine blk_drewN ?_ _ | refine blk_drew ?_ | refine blk_alloc ?_ _)); exact BK246.out⟩, ⟨by repeat (first | (with_reducible first | exact HB.out | apply below_alloc | apply pw_below_drewN | apply below_drew1 | refine below_set ?_ GE198.out | refine below_set ?_ GE246.out) | exact HB.out)⟩⟩
      · rw [if_neg c38] at H
        have c38b0 : (t247 == t222) = false := beq_eq_false_iff_ne.mpr c38
        have c38b1 : (t247 != t222) = true := bne_iff_ne.mpr c38
        (first | rw [c38b0] | (simp only [i64_w, i32_w]; rw [c38b0]) | skip)
        have H' := Aside0.mk H
        clear H
        go_wp2
        go_meet
        case rel => exact ⟨_, (true), (by first | rfl | (simp; done) | (simp [*]; done)), H', ⟨by first | omega | exact Nat.le_refl _⟩, ⟨by (with_reducible repeat (first | apply Kd.R_alloc | apply Kd.R_drewN | apply Kd.R_drew)); exact Kd.R_mono HO226.out (fun _ hk => hk.1.1)⟩, ⟨by (with_reducible repeat (first | apply Kd.R_alloc | apply Kd.R_drewN | apply Kd.R_drew)); exact Kd.R_mono HO230.out (fun _ hk => hk.1.1)⟩, ⟨by (with_reducible repeat (first | apply Kd.R_alloc | apply Kd.R_drewN | apply Kd.R_drew)); exact Kd.R_mono HO233.out (fun _ hk => ⟨hk.1.1.1.1.1, ⟨hk.1.1.1.1.2.1, hk.1.1.1.1.2.2⟩⟩)⟩, ⟨by (with_reducible repeat (first | apply Kd.R_alloc | apply Kd.R_drewN | apply Kd.R_drew)); exact Kd.R_mono HO236.out (fun _ hk => ⟨hk.1.1.1.1.1, ⟨hk.1.1.1.1.2.1, hk.1.1.1.1.2.2⟩⟩)⟩, ⟨by (with_reducible repeat (first | apply Kd.R_alloc | apply Kd.R_drewN | apply Kd.R_drew)); exact Kd.R_mono HO239.out (fun _ hk => ⟨hk.1.1.1.1.1, ⟨hk.1.1.1.1.2.1, hk.1.1.1.1.2.2⟩⟩)⟩, ⟨by (with_reducible repeat (first | apply Kd.R_alloc | apply Kd.R_drewN | apply Kd.R_drew)); exact Kd.R_mono HO242.out (fun _ hk => ⟨hk.1.1.1.1.1, ⟨hk.1.1.1.1.2.1, hk.1.1.1.1.2.2⟩⟩)⟩, ⟨by (with_reducible repeat (first | refine blk_drewN ?_ _ | refine blk_drew ?_ | refine blk_alloc ?_ _)); exact BK198.out⟩, ⟨by (with_reducible repeat (first | refine blk_drewN ?_ _ | refine blk_drew ?_ | refine blk_alloc ?_ _)); exact BK246.out⟩, ⟨by repeat (first | (with_reducible first | exact HB.out | apply below_alloc | apply pw_below_drewN | apply below_drew1 | refine below_set ?_ GE198.out | refine below_set ?_ GE246.out) | exact HB.out)⟩⟩
    case rest =>
      clear HC13
      try clear c1
      try clear c2
      try clear p2
      try clear c3
      try clear c5
      try clear c5b0
      try clear c6
      try clear c16
      try clear c18
      try clear c29
      try clear c30
      try clear c38
      try clear c38b0
      try clear c38b1
      try clear hcz15_0
      try clear hcz15_1
      try clear hcz15_2
      try clear hcz15_3
      try clear hcz15_4
      try clear hcz15_5
      try clear hcz15_6
      try clear hcz15_7
      try clear hcz15_8
      try clear hcz15_9
      try clear hcz17_0
      try clear hcz17_1
      try clear hcz17_2
      try clear hcz17_3
      try clear hcz17_4
      try clear hcz17_5
      try clear hcz17_6
      try clear hcz17_7
      try clear hcz17_8
      try clear hcz17_9
      try clear hcz26_0
      try clear hcz26_1
      try clear hcz26_2
      try clear hcz26_3
      try clear hcz26_4
      try clear hcz26_5
      try clear hcz26_6
      try clear hcz26_7
      try clear hcz26_8
      try clear hcz26_9
      try clear hcz31_0
      try clear hcz31_1
      try clear hcz31_2
      try clear hcz31_3
      try clear hcz31_4
      try clear hcz31_5
      try clear hcz31_6
      try clear hcz31_7
      try clear hcz31_8
      try clear hcz31_9
      try clear hcz7_0
      try clear hcz7_1
      try clear hcz7_2
      try clear hcz7_3
      try clear hcz7_4
      try clear hcz7_5
      try clear hcz7_6
      try clear hcz7_7
      try clear hcz7_8
      try clear hcz7_9
      try clear hfz15_0
      try clear hfz15_1
      try clear hfz15_2
      try clear hfz15_3
      try clear hfz15_4
      try clear hfz15_5
      try clear hfz15_6
      try clear hfz15_7
      try clear hfz15_8
      try clear hfz15_9
      try clear hfz17_0
      try clear hfz17_1
      try clear hfz17_2
      try clear hfz17_3
      try clear hfz17_4
      try clear hfz17_5
      try clear hfz17_6
      try clear hfz17_7
      try clear hfz17_8
      try clear hfz17_9
      try clear hfz26_0
      try clear hfz26_1
      try clear hfz26_2
      try clear hfz26_3
      try clear hfz26_4
      try clear hfz26_5
      try clear hfz26_6
      try clear hfz26_7
      try clear hfz26_8
      try clear hfz26_9
      try clear hfz31_0
      try clear hfz31_1
      try clear hfz31_2
      try clear hfz31_3
      try clear hfz31_4
      try clear hfz31_5
      try clear hfz31_6
      try clear hfz31_7
      try clear hfz31_8
      try clear hfz31_9
      try clear hfz7_0
      try clear hfz7_1
      try clear hfz7_2
      try clear hfz7_3
      try clear hfz7_4
      try clear hfz7_5
      try clear hfz7_6
      try clear hfz7_7
      try clear hfz7_8
      try clear hfz7_9
      obtain ⟨kq, x42_12, rfl, HA, HJ12, HO_247000, HO_247002, HO_247003, HO_247004, HO_247005, HO_247006, BK198, BK246, HB⟩ := hcut
      cases kq with
      | zero => exact absurd HA.out (by simp [laws_FnExactLoadWord.j0])
      | succ kj12 =>
        have H := HA.out
        clear HA
        simp only [laws_FnExactLoadWord.j0] at H
        by_cases c39 : x42_12 = true
        · subst c39
          have H1 : (some false) = some r := by rw [if_pos rfl] at H; exact H
          clear H
          have H := H1
          clear H1
          obtain rfl := Option.some.inj H
          go_wp2
          go_ret
          exact ⟨by first | rfl | (simp [errW_none, errW_some] <;> rfl) | (simp [*, errW_none, errW_some] <;> rfl), by repeat (first | (with_reducible first | exact HB.out | apply below_alloc | apply pw_below_drewN | apply below_drew1 | refine below_set ?_ GE198.out | refine below_set ?_ GE246.out) | exact HB.out)⟩
        · replace c39 := Bool.eq_false_iff.mpr c39
          subst c39
          have H1 : ((laws_toMachine.f kj12 l0_0 a0_1 l0_2 l0_3 l0_4 l0_5 l0_6 a0_7 a0_8 a0_9).bind fun bt249 => ((laws_eqMachine.f kj12 t224 t227 t228 t231 t234 t237 t240 t243 t244 t245 bt249.1 bt249.2.1 bt249.2.2.1 bt249.2.2.2.1 bt249.2.2.2.2.1 bt249.2.2.2.2.2.1 bt249.2.2.2.2.2.2.1 bt249.2.2.2.2.2.2.2.1 bt249.2.2.2.2.2.2.2.2.1 bt249.2.2.2.2.2.2.2.2.2).bind fun t271 => (if t271 = true then (some true) else (some false)))) = some r := by rw [if_neg (show ¬ (false = true) by decide)] at H; exact H
          clear H
          have H := H1
          clear H1
          replace H := Option.bind_eq_some_iff.mp H
          obtain ⟨⟨t249, t252, t253, t256, t259, t262, t265, t268, t269, t270⟩, A400, H⟩ := H
          replace H : ((laws_eqMachine.f kj12 t224 t227 t228 t231 t234 t237 t240 t243 t244 t245 t249 t252 t253 t256 t259 t262 t265 t268 t269 t270).bind fun t271 => (if t271 = true then (some true) else (some false))) = some r := H
          have A40 := Aside0.mk A400
          clear A400
          replace H := Option.bind_eq_some_iff.mp H
          obtain ⟨t271, A410, H⟩ := H
          replace H : (if t271 = true then (some true) else (some false)) = some r := H
          have A41 := Aside0.mk A410
          clear A410
          by_cases c42 : t271 = true
          · subst c42
            have H1 : (some true) = some r := by rw [if_pos rfl] at H; exact H
            clear H
            have H := H1
            clear H1
            obtain rfl := Option.some.inj H
            try go_wp2
            have n0_ := Aside0.mk (Kd.R_drew HO_247000.out)
            have n1_ := Aside0.mk (Kd.R_drew HO_247002.out)
            have n2_ := Aside0.mk (Kd.R_drew HO_247003.out)
            have n3_ := Aside0.mk (Kd.R_drew HO_247004.out)
            have n4_ := Aside0.mk (Kd.R_drew HO_247005.out)
            have n5_ := Aside0.mk (Kd.R_drew HO_247006.out)
            have n6_ := Aside0.mk (blk_drew BK198.out)
            have n7_ := Aside0.mk (blk_drew BK246.out)
            have n8_ := Aside0.mk (below_drew1 HB.out)
            clear HO_247000
            clear HO_247002
            clear HO_247003
            clear HO_247004
            clear HO_247005
            clear HO_247006
            clear BK198
            clear BK246
            clear HB
            have HO_247000 := n0_
            have HO_247002 := n1_
            have HO_247003 := n2_
            have HO_247004 := n3_
            have HO_247005 := n4_
            have HO_247006 := n5_
            have BK198 := n6_
            have BK246 := n7_
            have HB := n8_
            clear n0_ n1_ n2_ n3_ n4_ n5_ n6_ n7_ n8_
            refine start_ (n := 5) (S := fun w' => w'.cell? ⟨gb246, 0, none⟩ = some (.slice Ao29 t224.length co29) ∧ w'.cell? ⟨gb246, 1, none⟩ = some (.int .i64 t227) ∧ w'.cell? ⟨gb246, 2, none⟩ = some (.slice Ao32 t228.length co32) ∧ w'.cell? ⟨gb246, 3, none⟩ = some (.slice Ao33 t231.length co33) ∧ w'.cell? ⟨gb246, 4, none⟩ = some (.slice Ao34 t234.length co34) ∧ w'.cell? ⟨gb246, 5, none⟩ = some (.slice Ao35 t237.length co35) ∧ w'.cell? ⟨gb246, 6, none⟩ = some (.slice Ao36 t240.length co36) ∧ w'.cell? ⟨gb246, 7, none⟩ = some (.int .i64 t243) ∧ w'.cell? ⟨gb246, 8, none⟩ = some (.int .i64 t244) ∧ w'.cell? ⟨gb246, 9, none⟩ = some (.int .i64 t245) ∧ w'.cell? ⟨gb198, 0, none⟩ = some (.slice A0_0 l0_0.length c0_0) ∧ w'.cell? ⟨gb198, 1, none⟩ = some (.int .i64 a0_1) ∧ w'.cell? ⟨gb198, 2, none⟩ = some (.slice A0_2 l0_2.length c0_2) ∧ w'.cell? ⟨gb198, 3, none⟩ = some (.slice A0_3 l0_3.length c0_3) ∧ w'.cell? ⟨gb198, 4, none⟩ = some (.slice A0_4 l0_4.length c0_4) ∧ w'.cell? ⟨gb198, 5, none⟩ = some (.slice A0_5 l0_5.length c0_5) ∧ w'.cell? ⟨gb198, 6, none⟩ = some (.slice A0_6 l0_6.length c0_6) ∧ w'.cell? ⟨gb198, 7, none⟩ = some (.int .i64 a0_7) ∧ w'.cell? ⟨gb198, 8, none⟩ = some (.int .i64 a0_8) ∧ w'.cell? ⟨gb198, 9, none⟩ = some (.int .i64 a0_9)) (ds := []) #[false, false, false, false, false] (by kernel_rfl) rfl rfl ⟨(blk_cell BK246.out 0).trans rfl, (blk_cell BK246.out 1).trans rfl, (blk_cell BK246.out 2).trans rfl, (blk_cell BK246.out 3).trans rfl, (blk_cell BK246.out 4).trans rfl, (blk_cell BK246.out 5).trans rfl, (blk_cell BK246.out 6).trans rfl, (blk_cell BK246.out 7).trans rfl, (blk_cell BK246.out 8).trans rfl, (blk_cell BK246.out 9).trans rfl, (blk_cell BK198.out 0).trans rfl, (blk_cell BK198.out 1).trans rfl, (blk_cell BK198.out 2).trans rfl, (blk_cell BK198.out 3).trans rfl, (blk_cell BK198.out 4).trans rfl, (blk_cell BK198.out 5).trans rfl, (blk_cell BK198.out 6).trans rfl, (blk_cell BK198.out 7).trans rfl, (blk_cell BK198.out 8).trans rfl, (blk_cell BK198.out 9).trans rfl⟩ (fun hHeld => ?_)
            generalize wc.drew = w43 at HO_247000 HO_247002 HO_247003 HO_247004 HO_247005 HO_247006 BK198 BK246 HB hHeld ⊢
            refine take_ (i := 0) (N := some 43) (v := ?_) (a' := ?_) #[true, false, false, false, false] rfl rfl (by kernel_rfl) (fun _ _ _ h => h) (Or.inl ⟨by rfl, ?_⟩) hHeld ?_ ?_
            rotate_left
            · rintro w' ⟨s0, s1, s2, s3, s4, s5, s6, s7, s8, s9, s10, s11, s12, s13, s14, s15, s16, s17, s18, s19⟩
              go_simp
              with_reducible rfl
            rotate_left
            · simp only [Act.put, List.setIfInBounds_toArray, List.set_cons_zero, List.set_cons_succ, i64_w, i32_w]
              rfl
            refine take_ (i := 1) (N := some 44) (v := ?_) (a' := ?_) #[true, true, false, false, false] rfl rfl (by kernel_rfl) (fun _ _ _ h => h) (Or.inl ⟨by rfl, ?_⟩) hHeld ?_ ?_
            rotate_left
            · rintro w' ⟨s0, s1, s2, s3, s4, s5, s6, s7, s8, s9, s10, s11, s12, s13, s14, s15, s16, s17, s18, s19⟩
              go_simp
              with_reducible rfl
            rotate_left
            · simp only [Act.put, List.setIfInBounds_toArray, List.set_cons_zero, List.set_cons_succ, i64_w, i32_w]
              rfl
            refine one_ (i := 2) (N := some 45) #[true, true, true, false, false] rfl rfl (by kernel_rfl) (by decide) (fun K hK => ?_)
            refine goes_ Try.func18 (by kernel_rfl) rfl #[.agg #[.slice A0_0 l0_0.length c0_0, .int .i64 a0_1, .slice A0_2 l0_2.length c0_2, .slice A0_3 l0_3.length c0_3, .slice A0_4 l0_4.length c0_4, .slice A0_5 l0_5.length c0_5, .slice A0_6 l0_6.length c0_6, .int .i64 a0_7, .int .i64 a0_8, .int .i64 a0_9]] (by rfl) rfl rfl (by (try simp only [List.map_toArray, List.map_cons, List.map_nil]); first | done | rfl | (simp only [List.length_drop, List.length_take]; rfl)) ?_
            with_reducible refine (laws_toMachine.calls kj12 _ _ l0_0 a0_1 _ _ l0_2 _ _ l0_3 _ _ l0_4 _ _ l0_5 _ _ l0_6 a0_7 a0_8 a0_9 t249 t252 t253 t256 t259 t262 t265 t268 t269 t270 _ ?side1 ?side2 ?side3 ?side4 ?side5 ?side6 ?side7 ?side8 ?side9 ?side10 ?side11 ?side12 A40.out).mono ?_
            (case side1 => repeat (first | exact (Kd.C_below HR0_0.out HB.out) | (with_reducible refine Kd.C_alloc ?_ _) | (with_reducible refine Kd.C_drewN ?_ _) | (with_reducible refine Kd.C_drew ?_)))
            (case side2 => exact HC0_0.out)
            (case side3 => repeat (first | exact (Kd.C_below HR0_2.out HB.out) | (with_reducible refine Kd.C_alloc ?_ _) | (with_reducible refine Kd.C_drewN ?_ _) | (with_reducible refine Kd.C_drew ?_)))
            (case side4 => exact HC0_2.out)
            (case side5 => repeat (first | exact (Kd.C_below HR0_3.out HB.out) | (with_reducible refine Kd.C_alloc ?_ _) | (with_reducible refine Kd.C_drewN ?_ _) | (with_reducible refine Kd.C_drew ?_)))
            (case side6 => exact HC0_3.out)
            (case side7 => repeat (first | exact (Kd.C_below HR0_4.out HB.out) | (with_reducible refine Kd.C_alloc ?_ _) | (with_reducible refine Kd.C_drewN ?_ _) | (with_reducible refine Kd.C_drew ?_)))
            (case side8 => exact HC0_4.out)
            (case side9 => repeat (first | exact (Kd.C_below HR0_5.out HB.out) | (with_reducible refine Kd.C_alloc ?_ _) | (with_reducible refine Kd.C_drewN ?_ _) | (with_reducible refine Kd.C_drew ?_)))
            (case side10 => exact HC0_5.out)
            (case side11 => repeat (first | exact (Kd.C_below HR0_6.out HB.out) | (with_reducible refine Kd.C_alloc ?_ _) | (with_reducible refine Kd.C_drewN ?_ _) | (with_reducible refine Kd.C_drew ?_)))
            (case side12 => exact HC0_6.out)
            rintro e w44 ⟨v250, v254, v257, v260, v263, v266, rfl, ho0, ho1, ho2, ho3, ho4, ho5, hb⟩
            refine ⟨_, rfl, ?_⟩
            have n0_ := Aside0.mk (Kd.R_mono (Kd.R_told (Kd.R_told (Kd.R_old (by (with_reducible repeat (first | apply Kd.R_alloc | apply Kd.R_drewN | apply Kd.R_drew)); exact HO_247000.out) hb) (Kd.R_base ho0)) (Kd.R_base ho1)) (fun _ h_ => h_.1))
            have n1_ := Aside0.mk (Kd.R_mono (Kd.R_told (Kd.R_told (Kd.R_old (by (with_reducible repeat (first | apply Kd.R_alloc | apply Kd.R_drewN | apply Kd.R_drew)); exact HO_247002.out) hb) (Kd.R_base ho0)) (Kd.R_base ho1)) (fun _ h_ => h_.1))
            have n2_ := Aside0.mk (Kd.R_mono (Kd.R_told (Kd.R_told (Kd.R_told (Kd.R_told (Kd.R_old (by (with_reducible repeat (first | apply Kd.R_alloc | apply Kd.R_drewN | apply Kd.R_drew)); exact HO_247003.out) hb) (Kd.R_base ho2)) (Kd.R_base ho3)) (Kd.R_base ho4)) (Kd.R_base ho5)) (fun _ h_ => h_.1))
            have n3_ := Aside0.mk (Kd.R_mono (Kd.R_told (Kd.R_told (Kd.R_told (Kd.R_told (Kd.R_old (by (with_reducible repeat (first | apply Kd.R_alloc | apply Kd.R_drewN | apply Kd.R_drew)); exact HO_247004.out) hb) (Kd.R_base ho2)) (Kd.R_base ho3)) (Kd.R_base ho4)) (Kd.R_base ho5)) (fun _ h_ => h_.1))
            have n4_ := Aside0.mk (Kd.R_mono (Kd.R_told (Kd.R_told (Kd.R_told (Kd.R_told (Kd.R_old (by (with_reducible repeat (first | apply Kd.R_alloc | apply Kd.R_drewN | apply Kd.R_drew)); exact HO_247005.out) hb) (Kd.R_base ho2)) (Kd.R_base ho3)) (Kd.R_base ho4)) (Kd.R_base ho5)) (fun _ h_ => h_.1))
            have n5_ := Aside0.mk (Kd.R_mono (Kd.R_told (Kd.R_told (Kd.R_told (Kd.R_told (Kd.R_old (by (with_reducible repeat (first | apply Kd.R_alloc | apply Kd.R_drewN | apply Kd.R_drew)); exact HO_247006.out) hb) (Kd.R_base ho2)) (Kd.R_base ho3)) (Kd.R_base ho4)) (Kd.R_base ho5)) (fun _ h_ => h_.1))
            have n6_ := Aside0.mk (Kd.R_lower (Kd.R_new' (Kd.R_new' ho0 (Kd.R_lt (by (with_reducible repeat (first | apply Kd.R_alloc | apply Kd.R_drewN | apply Kd.R_drew)); exact HO_247000.out))) (Kd.R_lt (by (with_reducible repeat (first | apply Kd.R_alloc | apply Kd.R_drewN | apply Kd.R_drew)); exact HO_247002.out))) (below_size (by repeat (first | (with_reducible first | exact HB.out | apply below_alloc | apply pw_below_drewN | apply below_drew1 | refine below_set ?_ GE198.out | refine below_set ?_ GE246.out) | exact HB.out))))
            have n7_ := Aside0.mk (Kd.R_lower (Kd.R_new' (Kd.R_new' ho1 (Kd.R_lt (by (with_reducible repeat (first | apply Kd.R_alloc | apply Kd.R_drewN | apply Kd.R_drew)); exact HO_247000.out))) (Kd.R_lt (by (with_reducible repeat (first | apply Kd.R_alloc | apply Kd.R_drewN | apply Kd.R_drew)); exact HO_247002.out))) (below_size (by repeat (first | (with_reducible first | exact HB.out | apply below_alloc | apply pw_below_drewN | apply below_drew1 | refine below_set ?_ GE198.out | refine below_set ?_ GE246.out) | exact HB.out))))
            have n8_ := Aside0.mk (Kd.R_lower (Kd.R_new' (Kd.R_new' (Kd.R_new' (Kd.R_new' ho2 (Kd.R_lt (by (with_reducible repeat (first | apply Kd.R_alloc | apply Kd.R_drewN | apply Kd.R_drew)); exact HO_247003.out))) (Kd.R_lt (by (with_reducible repeat (first | apply Kd.R_alloc | apply Kd.R_drewN | apply Kd.R_drew)); exact HO_247004.out))) (Kd.R_lt (by (with_reducible repeat (first | apply Kd.R_alloc | apply Kd.R_drewN | apply Kd.R_drew)); exact HO_247005.out))) (Kd.R_lt (by (with_reducible repeat (first | apply Kd.R_alloc | apply Kd.R_drewN | apply Kd.R_drew)); exact HO_247006.out))) (below_size (by repeat (first | (with_reducible first | exact HB.out | apply below_alloc | apply pw_below_drewN | apply below_drew1 | refine below_set ?_ GE198.out | refine below_set ?_ GE246.out) | exact HB.out))))
            have n9_ := Aside0.mk (Kd.R_lower (Kd.R_new' (Kd.R_new' (Kd.R_new' (Kd.R_new' ho3 (Kd.R_lt (by (with_reducible repeat (first | apply Kd.R_alloc | apply Kd.R_drewN | apply Kd.R_drew)); exact HO_247003.out))) (Kd.R_lt (by (with_reducible repeat (first | apply Kd.R_alloc | apply Kd.R_drewN | apply Kd.R_drew)); exact HO_247004.out))) (Kd.R_lt (by (with_reducible repeat (first | apply Kd.R_alloc | apply Kd.R_drewN | apply Kd.R_drew)); exact HO_247005.out))) (Kd.R_lt (by (with_reducible repeat (first | apply Kd.R_alloc | apply Kd.R_drewN | apply Kd.R_drew)); exact HO_247006.out))) (below_size (by repeat (first | (with_reducible first | exact HB.out | apply below_alloc | apply pw_below_drewN | apply below_drew1 | refine below_set ?_ GE198.out | refine below_set ?_ GE246.out) | exact HB.out))))
            have n10_ := Aside0.mk (Kd.R_lower (Kd.R_new' (Kd.R_new' (Kd.R_new' (Kd.R_new' ho4 (Kd.R_lt (by (with_reducible repeat (first | apply Kd.R_alloc | apply Kd.R_drewN | apply Kd.R_drew)); exact HO_247003.out))) (Kd.R_lt (by (with_reducible repeat (first | apply Kd.R_alloc | apply Kd.R_drewN | apply Kd.R_drew)); exact HO_247004.out))) (Kd.R_lt (by (with_reducible repeat (first | apply Kd.R_alloc | apply Kd.R_drewN | apply Kd.R_drew)); exact HO_247005.out))) (Kd.R_lt (by (with_reducible repeat (first | apply Kd.R_alloc | apply Kd.R_drewN | apply Kd.R_drew)); exact HO_247006.out))) (below_size (by repeat (first | (with_reducible first | exact HB.out | apply below_alloc | apply pw_below_drewN | apply below_drew1 | refine below_set ?_ GE198.out | refine below_set ?_ GE246.out) | exact HB.out))))
            have n11_ := Aside0.mk (Kd.R_lower (Kd.R_new' (Kd.R_new' (Kd.R_new' (Kd.R_new' ho5 (Kd.R_lt (by (with_reducible repeat (first | apply Kd.R_alloc | apply Kd.R_drewN | apply Kd.R_drew)); exact HO_247003.out))) (Kd.R_lt (by (with_reducible repeat (first | apply Kd.R_alloc | apply Kd.R_drewN | apply Kd.R_drew)); exact HO_247004.out))) (Kd.R_lt (by (with_reducible repeat (first | apply Kd.R_alloc | apply Kd.R_drewN | apply Kd.R_drew)); exact HO_247005.out))) (Kd.R_lt (by (with_reducible repeat (first | apply Kd.R_alloc | apply Kd.R_drewN | apply Kd.R_drew)); exact HO_247006.out))) (below_size (by repeat (first | (with_reducible first | exact HB.out | apply below_alloc | apply pw_below_drewN | apply below_drew1 | refine below_set ?_ GE198.out | refine below_set ?_ GE246.out) | exact HB.out))))
            have n12_ := Aside0.mk (blk_below (g := gb198) (o := .cells #[.slice A0_0 l0_0.length c0_0, .int .i64 a0_1, .slice A0_2 l0_2.length c0_2, .slice A0_3 l0_3.length c0_3, .slice A0_4 l0_4.length c0_4, .slice A0_5 l0_5.length c0_5, .slice A0_6 l0_6.length c0_6, .int .i64 a0_7, .int .i64 a0_8, .int .i64 a0_9] 33 (0, 0)) (by (with_reducible repeat (first | refine blk_drewN ?_ _ | refine blk_drew ?_ | refine blk_alloc ?_ _)); exact BK198.out) hb)
            have n13_ := Aside0.mk (blk_below (g := gb246) (o := .cells #[.slice Ao29 t224.length co29, .int .i64 t227, .slice Ao32 t228.length co32, .slice Ao33 t231.length co33, .slice Ao34 t234.length co34, .slice Ao35 t237.length co35, .slice Ao36 t240.length co36, .int .i64 t243, .int .i64 t244, .int .i64 t245] 36 (0, 0)) (by (with_reducible repeat (first | refine blk_drewN ?_ _ | refine blk_drew ?_ | refine blk_alloc ?_ _)); exact BK246.out) hb)
            have n14_ := Aside0.mk (below_step (by repeat (first | (with_reducible first | exact HB.out | apply below_alloc | apply pw_below_drewN | apply below_drew1 | refine below_set ?_ GE198.out | refine below_set ?_ GE246.out) | exact HB.out)) hb)
            clear HO_247000
            clear HO_247002
            clear HO_247003
            clear HO_247004
            clear HO_247005
            clear HO_247006
            clear BK198
            clear BK246
            clear HB
            have HO_247000 := n0_
            have HO_247002 := n1_
            have HO_247003 := n2_
            have HO_247004 := n3_
            have HO_247005 := n4_
            have HO_247006 := n5_
            have HO251 := n6_
            have HO255 := n7_
            have HO258 := n8_
            have HO261 := n9_
            have HO264 := n10_
            have HO267 := n11_
            have BK198 := n12_
            have BK246 := n13_
            have HB := n14_
            clear n0_ n1_ n2_ n3_ n4_ n5_ n6_ n7_ n8_ n9_ n10_ n11_ n12_ n13_ n14_
            (try clear hb)
            (try clear hb2)
            (try clear hk)
            (try clear hi)
            (try clear ho0)
            (try clear ho1)
            (try clear ho2)
            (try clear ho3)
            (try clear ho4)
            (try clear ho5)
            obtain ⟨Ao45, co45, eo45⟩ := Kd.R_slice HO251.out
            (first | subst eo45 | (injection eo45 with f1_ f2_ f3_; have f4_ := f1_.symm; have f5_ := f3_.symm; clear f1_ f2_ f3_; subst f4_; subst f5_))
            obtain ⟨Ao46, co46, eo46⟩ := Kd.R_slice HO255.out
            (first | subst eo46 | (injection eo46 with f1_ f2_ f3_; have f4_ := f1_.symm; have f5_ := f3_.symm; clear f1_ f2_ f3_; subst f4_; subst f5_))
            obtain ⟨Ao47, co47, eo47⟩ := Kd.R_slice HO258.out
            (first | subst eo47 | (injection eo47 with f1_ f2_ f3_; have f4_ := f1_.symm; have f5_ := f3_.symm; clear f1_ f2_ f3_; subst f4_; subst f5_))
            obtain ⟨Ao48, co48, eo48⟩ := Kd.R_slice HO261.out
            (first | subst eo48 | (injection eo48 with f1_ f2_ f3_; have f4_ := f1_.symm; have f5_ := f3_.symm; clear f1_ f2_ f3_; subst f4_; subst f5_))
            obtain ⟨Ao49, co49, eo49⟩ := Kd.R_slice HO264.out
            (first | subst eo49 | (injection eo49 with f1_ f2_ f3_; have f4_ := f1_.symm; have f5_ := f3_.symm; clear f1_ f2_ f3_; subst f4_; subst f5_))
            obtain ⟨Ao50, co50, eo50⟩ := Kd.R_slice HO267.out
            (first | subst eo50 | (injection eo50 with f1_ f2_ f3_; have f4_ := f1_.symm; have f5_ := f3_.symm; clear f1_ f2_ f3_; subst f4_; subst f5_))
            refine hK.out _ _ ⟨(blk_cell BK246.out 0).trans rfl, (blk_cell BK246.out 1).trans rfl, (blk_cell BK246.out 2).trans rfl, (blk_cell BK246.out 3).trans rfl, (blk_cell BK246.out 4).trans rfl, (blk_cell BK246.out 5).trans rfl, (blk_cell BK246.out 6).trans rfl, (blk_cell BK246.out 7).trans rfl, (blk_cell BK246.out 8).trans rfl, (blk_cell BK246.out 9).trans rfl, (blk_cell BK198.out 0).trans rfl, (blk_cell BK198.out 1).trans rfl, (blk_cell BK198.out 2).trans rfl, (blk_cell BK198.out 3).trans rfl, (blk_cell BK198.out 4).trans rfl, (blk_cell BK198.out 5).trans rfl, (blk_cell BK198.out 6).trans rfl, (blk_cell BK198.out 7).trans rfl, (blk_cell BK198.out 8).trans rfl, (blk_cell BK198.out 9).trans rfl⟩ (fun hHeld => ?_)
            clear hK K
            refine norm_ (a' := ?_) ?_ ?_
            rotate_left
            · show Act.put _ (some 45) _ = _
              simp only [Act.put, List.setIfInBounds_toArray, List.set_cons_zero, List.set_cons_succ, i64_w, i32_w]
              rfl
            refine one_ (i := 3) (N := some 46) #[true, true, true, true, false] rfl rfl (by kernel_rfl) (by decide) (fun K hK => ?_)
            refine goes_ Try.func20 (by kernel_rfl) rfl #[.agg #[.slice Ao29 t224.length co29, .int .i64 t227, .slice Ao32 t228.length co32, .slice Ao33 t231.length co33, .slice Ao34 t234.length co34, .slice Ao35 t237.length co35, .slice Ao36 t240.length co36, .int .i64 t243, .int .i64 t244, .int .i64 t245], .agg #[.slice Ao45 t249.length co45, .int .i64 t252, .slice Ao46 t253.length co46, .slice Ao47 t256.length co47, .slice Ao48 t259.length co48, .slice Ao49 t262.length co49, .slice Ao50 t265.length co50, .int .i64 t268, .int .i64 t269, .int .i64 t270]] (by rfl) rfl rfl (by (try simp only [List.map_toArray, List.map_cons, List.map_nil]); first | done | rfl | (simp only [List.length_drop, List.length_take]; rfl)) ?_
            with_reducible refine (laws_eqMachine.calls kj12 _ _ t224 t227 _ _ t228 _ _ t231 _ _ t234 _ _ t237 _ _ t240 t243 t244 t245 _ _ t249 t252 _ _ t253 _ _ t256 _ _ t259 _ _ t262 _ _ t265 t268 t269 t270 true _ ?side1 ?side2 ?side3 ?side4 ?side5 ?side6 ?side7 ?side8 ?side9 ?side10 ?side11 ?side12 ?side13 ?side14 ?side15 ?side16 ?side17 ?side18 ?side19 ?side20 ?side21 ?side22 ?side23 ?side24 A41.out).mono ?_
            (case side1 => repeat (first | exact (Kd.R_reads' HO_247000.out).2.2 | (with_reducible refine Kd.C_alloc ?_ _) | (with_reducible refine Kd.C_drewN ?_ _) | (with_reducible refine Kd.C_drew ?_)))
            (case side2 => exact (Kd.R_reads' HO_247000.out).2.1)
            (case side3 => repeat (first | exact (Kd.R_reads' HO_247002.out).2.2 | (with_reducible refine Kd.C_alloc ?_ _) | (with_reducible refine Kd.C_drewN ?_ _) | (with_reducible refine Kd.C_drew ?_)))
            (case side4 => exact (Kd.R_reads' HO_247002.out).2.1)
            (case side5 => repeat (first | exact (Kd.R_reads' HO_247003.out).2.2 | (with_reducible refine Kd.C_alloc ?_ _) | (with_reducible refine Kd.C_drewN ?_ _) | (with_reducible refine Kd.C_drew ?_)))
            (case side6 => exact (Kd.R_reads' HO_247003.out).2.1)
            (case side7 => repeat (first | exact (Kd.R_reads' HO_247004.out).2.2 | (with_reducible refine Kd.C_alloc ?_ _) | (with_reducible refine Kd.C_drewN ?_ _) | (with_reducible refine Kd.C_drew ?_)))
            (case side8 => exact (Kd.R_reads' HO_247004.out).2.1)
            (case side9 => repeat (first | exact (Kd.R_reads' HO_247005.out).2.2 | (with_reducible refine Kd.C_alloc ?_ _) | (with_reducible refine Kd.C_drewN ?_ _) | (with_reducible refine Kd.C_drew ?_)))
            (case side10 => exact (Kd.R_reads' HO_247005.out).2.1)
            (case side11 => repeat (first | exact (Kd.R_reads' HO_247006.out).2.2 | (with_reducible refine Kd.C_alloc ?_ _) | (with_reducible refine Kd.C_drewN ?_ _) | (with_reducible refine Kd.C_drew ?_)))
            (case side12 => exact (Kd.R_reads' HO_247006.out).2.1)
            (case side13 => repeat (first | exact (Kd.R_reads' HO251.out).2.2 | (with_reducible refine Kd.C_alloc ?_ _) | (with_reducible refine Kd.C_drewN ?_ _) | (with_reducible refine Kd.C_drew ?_)))
            (case side14 => exact (Kd.R_reads' HO251.out).2.1)
            (case side15 => repeat (first | exact (Kd.R_reads' HO255.out).2.2 | (with_reducible refine Kd.C_alloc ?_ _) | (with_reducible refine Kd.C_drewN ?_ _) | (with_reducible refine Kd.C_drew ?_)))
            (case side16 => exact (Kd.R_reads' HO255.out).2.1)
            (case side17 => repeat (first | exact (Kd.R_reads' HO258.out).2.2 | (with_reducible refine Kd.C_alloc ?_ _) | (with_reducible refine Kd.C_drewN ?_ _) | (with_reducible refine Kd.C_drew ?_)))
            (case side18 => exact (Kd.R_reads' HO258.out).2.1)
            (case side19 => repeat (first | exact (Kd.R_reads' HO261.out).2.2 | (with_reducible refine Kd.C_alloc ?_ _) | (with_reducible refine Kd.C_drewN ?_ _) | (with_reducible refine Kd.C_drew ?_)))
            (case side20 => exact (Kd.R_reads' HO261.out).2.1)
            (case side21 => repeat (first | exact (Kd.R_reads' HO264.out).2.2 | (with_reducible refine Kd.C_alloc ?_ _) | (with_reducible refine Kd.C_drewN ?_ _) | (with_reducible refine Kd.C_drew ?_)))
            (case side22 => exact (Kd.R_reads' HO264.out).2.1)
            (case side23 => repeat (first | exact (Kd.R_reads' HO267.out).2.2 | (with_reducible refine Kd.C_alloc ?_ _) | (with_reducible refine Kd.C_drewN ?_ _) | (with_reducible refine Kd.C_drew ?_)))
            (case side24 => exact (Kd.R_reads' HO267.out).2.1)
            rintro e w51 ⟨rfl, hb⟩
            refine ⟨_, rfl, ?_⟩
            have n0_ := Aside0.mk (Kd.R_below (by (with_reducible repeat (first | apply Kd.R_alloc | apply Kd.R_drewN | apply Kd.R_drew)); exact HO_247000.out) hb)
            have n1_ := Aside0.mk (Kd.R_below (by (with_reducible repeat (first | apply Kd.R_alloc | apply Kd.R_drewN | apply Kd.R_drew)); exact HO_247002.out) hb)
            have n2_ := Aside0.mk (Kd.R_below (by (with_reducible repeat (first | apply Kd.R_alloc | apply Kd.R_drewN | apply Kd.R_drew)); exact HO_247003.out) hb)
            have n3_ := Aside0.mk (Kd.R_below (by (with_reducible repeat (first | apply Kd.R_alloc | apply Kd.R_drewN | apply Kd.R_drew)); exact HO_247004.out) hb)
            have n4_ := Aside0.mk (Kd.R_below (by (with_reducible repeat (first | apply Kd.R_alloc | apply Kd.R_drewN | apply Kd.R_drew)); exact HO_247005.out) hb)
            have n5_ := Aside0.mk (Kd.R_below (by (with_reducible repeat (first | apply Kd.R_alloc | apply Kd.R_drewN | apply Kd.R_drew)); exact HO_247006.out) hb)
            have n6_ := Aside0.mk (Kd.R_below (by (with_reducible repeat (first | apply Kd.R_alloc | apply Kd.R_drewN | apply Kd.R_drew)); exact HO251.out) hb)
            have n7_ := Aside0.mk (Kd.R_below (by (with_reducible repeat (first | apply Kd.R_alloc | apply Kd.R_drewN | apply Kd.R_drew)); exact HO255.out) hb)
            have n8_ := Aside0.mk (Kd.R_below (by (with_reducible repeat (first | apply Kd.R_alloc | apply Kd.R_drewN | apply Kd.R_drew)); exact HO258.out) hb)
            have n9_ := Aside0.mk (Kd.R_below (by (with_reducible repeat (first | apply Kd.R_alloc | apply Kd.R_drewN | apply Kd.R_drew)); exact HO261.out) hb)
            have n10_ := Aside0.mk (Kd.R_below (by (with_reducible repeat (first | apply Kd.R_alloc | apply Kd.R_drewN | apply Kd.R_drew)); exact HO264.out) hb)
            have n11_ := Aside0.mk (Kd.R_below (by (with_reducible repeat (first | apply Kd.R_alloc | apply Kd.R_drewN | apply Kd.R_drew)); exact HO267.out) hb)
            have n12_ := Aside0.mk (blk_below (g := gb198) (o := .cells #[.slice A0_0 l0_0.length c0_0, .int .i64 a0_1, .slice A0_2 l0_2.length c0_2, .slice A0_3 l0_3.length c0_3, .slice A0_4 l0_4.length c0_4, .slice A0_5 l0_5.length c0_5, .slice A0_6 l0_6.length c0_6, .int .i64 a0_7, .int .i64 a0_8, .int .i64 a0_9] 33 (0, 0)) (by (with_reducible repeat (first | refine blk_drewN ?_ _ | refine blk_drew ?_ | refine blk_alloc ?_ _)); exact BK198.out) hb)
            have n13_ := Aside0.mk (blk_below (g := gb246) (o := .cells #[.slice Ao29 t224.length co29, .int .i64 t227, .slice Ao32 t228.length co32, .slice Ao33 t231.length co33, .slice Ao34 t234.length co34, .slice Ao35 t237.length co35, .slice Ao36 t240.length co36, .int .i64 t243, .int .i64 t244, .int .i64 t245] 36 (0, 0)) (by (with_reducible repeat (first | refine blk_drewN ?_ _ | refine blk_drew ?_ | refine blk_alloc ?_ _)); exact BK246.out) hb)
            have n14_ := Aside0.mk (below_step (by repeat (first | (with_reducible first | exact HB.out | apply below_alloc | apply pw_below_drewN | apply below_drew1 | refine below_set ?_ GE198.out | refine below_set ?_ GE246.out) | exact HB.out)) hb)
            clear HO_247000
            clear HO_247002
            clear HO_247003
            clear HO_247004
            clear HO_247005
            clear HO_247006
            clear HO251
            clear HO255
            clear HO258
            clear HO261
            clear HO264
            clear HO267
            clear BK198
            clear BK246
            clear HB
            have HO_247000 := n0_
            have HO_247002 := n1_
            have HO_247003 := n2_
            have HO_247004 := n3_
            have HO_247005 := n4_
            have HO_247006 := n5_
            have HO251 := n6_
            have HO255 := n7_
            have HO258 := n8_
            have HO261 := n9_
            have HO264 := n10_
            have HO267 := n11_
            have BK198 := n12_
            have BK246 := n13_
            have HB := n14_
            clear n0_ n1_ n2_ n3_ n4_ n5_ n6_ n7_ n8_ n9_ n10_ n11_ n12_ n13_ n14_
            (try clear hb)
            (try clear hb2)
            (try clear hk)
            (try clear hi)
            refine hK.out _ _ ⟨(blk_cell BK246.out 0).trans rfl, (blk_cell BK246.out 1).trans rfl, (blk_cell BK246.out 2).trans rfl, (blk_cell BK246.out 3).trans rfl, (blk_cell BK246.out 4).trans rfl, (blk_cell BK246.out 5).trans rfl, (blk_cell BK246.out 6).trans rfl, (blk_cell BK246.out 7).trans rfl, (blk_cell BK246.out 8).trans rfl, (blk_cell BK246.out 9).trans rfl, (blk_cell BK198.out 0).trans rfl, (blk_cell BK198.out 1).trans rfl, (blk_cell BK198.out 2).trans rfl, (blk_cell BK198.out 3).trans rfl, (blk_cell BK198.out 4).trans rfl, (blk_cell BK198.out 5).trans rfl, (blk_cell BK198.out 6).trans rfl, (blk_cell BK198.out 7).trans rfl, (blk_cell BK198.out 8).trans rfl, (blk_cell BK198.out 9).trans rfl⟩ (fun hHeld => ?_)
            clear hK K
            refine norm_ (a' := ?_) ?_ ?_
            rotate_left
            · show Act.put _ (some 46) _ = _
              simp only [Act.put, List.setIfInBounds_toArray, List.set_cons_zero, List.set_cons_succ, i64_w, i32_w]
              rfl
            refine pure_ (i := 4) (N := some 47) (v := ?_) (a' := ?_) #[true, true, true, true, true] rfl rfl (by kernel_rfl) (fun _ _ _ h => h) (Or.inl ⟨by rfl, ?_⟩) ?_ ?_
            rotate_left
            · intro w'
              go_simp
              with_reducible rfl
            rotate_left
            · simp only [Act.put, List.setIfInBounds_toArray, List.set_cons_zero, List.set_cons_succ, i64_w, i32_w]
              rfl
            refine done_ (by kernel_rfl) ?_
            try go_wp2
            go_ret
            exact ⟨by first | rfl | (simp [errW_none, errW_some] <;> rfl) | (simp [*, errW_none, errW_some] <;> rfl), by repeat (first | (with_reducible first | exact HB.out | apply below_alloc | apply pw_below_drewN | apply below_drew1 | refine below_set ?_ GE198.out | refine below_set ?_ GE246.out) | exact HB.out)⟩
          · replace c42 := Bool.eq_false_iff.mpr c42
            subst c42
            have H1 : (some false) = some r := by rw [if_neg (show ¬ (false = true) by decide)] at H; exact H
            clear H
            have H := H1
            clear H1
            obtain rfl := Option.some.inj H
            try go_wp2
            have n0_ := Aside0.mk (Kd.R_drew HO_247000.out)
            have n1_ := Aside0.mk (Kd.R_drew HO_247002.out)
            have n2_ := Aside0.mk (Kd.R_drew HO_247003.out)
            have n3_ := Aside0.mk (Kd.R_drew HO_247004.out)
            have n4_ := Aside0.mk (Kd.R_drew HO_247005.out)
            have n5_ := Aside0.mk (Kd.R_drew HO_247006.out)
            have n6_ := Aside0.mk (blk_drew BK198.out)
            have n7_ := Aside0.mk (blk_drew BK246.out)
            have n8_ := Aside0.mk (below_drew1 HB.out)
            clear HO_247000
            clear HO_247002
            clear HO_247003
            clear HO_247004
            clear HO_247005
            clear HO_247006
            clear BK198
            clear BK246
            clear HB
            have HO_247000 := n0_
            have HO_247002 := n1_
            have HO_247003 := n2_
            have HO_247004 := n3_
            have HO_247005 := n4_
            have HO_247006 := n5_
            have BK198 := n6_
            have BK246 := n7_
            have HB := n8_
            clear n0_ n1_ n2_ n3_ n4_ n5_ n6_ n7_ n8_
            refine start_ (n := 5) (S := fun w' => w'.cell? ⟨gb246, 0, none⟩ = some (.slice Ao29 t224.length co29) ∧ w'.cell? ⟨gb246, 1, none⟩ = some (.int .i64 t227) ∧ w'.cell? ⟨gb246, 2, none⟩ = some (.slice Ao32 t228.length co32) ∧ w'.cell? ⟨gb246, 3, none⟩ = some (.slice Ao33 t231.length co33) ∧ w'.cell? ⟨gb246, 4, none⟩ = some (.slice Ao34 t234.length co34) ∧ w'.cell? ⟨gb246, 5, none⟩ = some (.slice Ao35 t237.length co35) ∧ w'.cell? ⟨gb246, 6, none⟩ = some (.slice Ao36 t240.length co36) ∧ w'.cell? ⟨gb246, 7, none⟩ = some (.int .i64 t243) ∧ w'.cell? ⟨gb246, 8, none⟩ = some (.int .i64 t244) ∧ w'.cell? ⟨gb246, 9, none⟩ = some (.int .i64 t245) ∧ w'.cell? ⟨gb198, 0, none⟩ = some (.slice A0_0 l0_0.length c0_0) ∧ w'.cell? ⟨gb198, 1, none⟩ = some (.int .i64 a0_1) ∧ w'.cell? ⟨gb198, 2, none⟩ = some (.slice A0_2 l0_2.length c0_2) ∧ w'.cell? ⟨gb198, 3, none⟩ = some (.slice A0_3 l0_3.length c0_3) ∧ w'.cell? ⟨gb198, 4, none⟩ = some (.slice A0_4 l0_4.length c0_4) ∧ w'.cell? ⟨gb198, 5, none⟩ = some (.slice A0_5 l0_5.length c0_5) ∧ w'.cell? ⟨gb198, 6, none⟩ = some (.slice A0_6 l0_6.length c0_6) ∧ w'.cell? ⟨gb198, 7, none⟩ = some (.int .i64 a0_7) ∧ w'.cell? ⟨gb198, 8, none⟩ = some (.int .i64 a0_8) ∧ w'.cell? ⟨gb198, 9, none⟩ = some (.int .i64 a0_9)) (ds := []) #[false, false, false, false, false] (by kernel_rfl) rfl rfl ⟨(blk_cell BK246.out 0).trans rfl, (blk_cell BK246.out 1).trans rfl, (blk_cell BK246.out 2).trans rfl, (blk_cell BK246.out 3).trans rfl, (blk_cell BK246.out 4).trans rfl, (blk_cell BK246.out 5).trans rfl, (blk_cell BK246.out 6).trans rfl, (blk_cell BK246.out 7).trans rfl, (blk_cell BK246.out 8).trans rfl, (blk_cell BK246.out 9).trans rfl, (blk_cell BK198.out 0).trans rfl, (blk_cell BK198.out 1).trans rfl, (blk_cell BK198.out 2).trans rfl, (blk_cell BK198.out 3).trans rfl, (blk_cell BK198.out 4).trans rfl, (blk_cell BK198.out 5).trans rfl, (blk_cell BK198.out 6).trans rfl, (blk_cell BK198.out 7).trans rfl, (blk_cell BK198.out 8).trans rfl, (blk_cell BK198.out 9).trans rfl⟩ (fun hHeld => ?_)
            generalize wc.drew = w52 at HO_247000 HO_247002 HO_247003 HO_247004 HO_247005 HO_247006 BK198 BK246 HB hHeld ⊢
            refine take_ (i := 0) (N := some 43) (v := ?_) (a' := ?_) #[true, false, false, false, false] rfl rfl (by kernel_rfl) (fun _ _ _ h => h) (Or.inl ⟨by rfl, ?_⟩) hHeld ?_ ?_
            rotate_left
            · rintro w' ⟨s0, s1, s2, s3, s4, s5, s6, s7, s8, s9, s10, s11, s12, s13, s14, s15, s16, s17, s18, s19⟩
              go_simp
              with_reducible rfl
            rotate_left
            · simp only [Act.put, List.setIfInBounds_toArray, List.set_cons_zero, List.set_cons_succ, i64_w, i32_w]
              rfl
            refine take_ (i := 1) (N := some 44) (v := ?_) (a' := ?_) #[true, true, false, false, false] rfl rfl (by kernel_rfl) (fun _ _ _ h => h) (Or.inl ⟨by rfl, ?_⟩) hHeld ?_ ?_
            rotate_left
            · rintro w' ⟨s0, s1, s2, s3, s4, s5, s6, s7, s8, s9, s10, s11, s12, s13, s14, s15, s16, s17, s18, s19⟩
              go_simp
              with_reducible rfl
            rotate_left
            · simp only [Act.put, List.setIfInBounds_toArray, List.set_cons_zero, List.set_cons_succ, i64_w, i32_w]
              rfl
            refine one_ (i := 2) (N := some 45) #[true, true, true, false, false] rfl rfl (by kernel_rfl) (by decide) (fun K hK => ?_)
            refine goes_ Try.func18 (by kernel_rfl) rfl #[.agg #[.slice A0_0 l0_0.length c0_0, .int .i64 a0_1, .slice A0_2 l0_2.length c0_2, .slice A0_3 l0_3.length c0_3, .slice A0_4 l0_4.length c0_4, .slice A0_5 l0_5.length c0_5, .slice A0_6 l0_6.length c0_6, .int .i64 a0_7, .int .i64 a0_8, .int .i64 a0_9]] (by rfl) rfl rfl (by (try simp only [List.map_toArray, List.map_cons, List.map_nil]); first | done | rfl | (simp only [List.length_drop, List.length_take]; rfl)) ?_
            with_reducible refine (laws_toMachine.calls kj12 _ _ l0_0 a0_1 _ _ l0_2 _ _ l0_3 _ _ l0_4 _ _ l0_5 _ _ l0_6 a0_7 a0_8 a0_9 t249 t252 t253 t256 t259 t262 t265 t268 t269 t270 _ ?side1 ?side2 ?side3 ?side4 ?side5 ?side6 ?side7 ?side8 ?side9 ?side10 ?side11 ?side12 A40.out).mono ?_
            (case side1 => repeat (first | exact (Kd.C_below HR0_0.out HB.out) | (with_reducible refine Kd.C_alloc ?_ _) | (with_reducible refine Kd.C_drewN ?_ _) | (with_reducible refine Kd.C_drew ?_)))
            (case side2 => exact HC0_0.out)
            (case side3 => repeat (first | exact (Kd.C_below HR0_2.out HB.out) | (with_reducible refine Kd.C_alloc ?_ _) | (with_reducible refine Kd.C_drewN ?_ _) | (with_reducible refine Kd.C_drew ?_)))
            (case side4 => exact HC0_2.out)
            (case side5 => repeat (first | exact (Kd.C_below HR0_3.out HB.out) | (with_reducible refine Kd.C_alloc ?_ _) | (with_reducible refine Kd.C_drewN ?_ _) | (with_reducible refine Kd.C_drew ?_)))
            (case side6 => exact HC0_3.out)
            (case side7 => repeat (first | exact (Kd.C_below HR0_4.out HB.out) | (with_reducible refine Kd.C_alloc ?_ _) | (with_reducible refine Kd.C_drewN ?_ _) | (with_reducible refine Kd.C_drew ?_)))
            (case side8 => exact HC0_4.out)
            (case side9 => repeat (first | exact (Kd.C_below HR0_5.out HB.out) | (with_reducible refine Kd.C_alloc ?_ _) | (with_reducible refine Kd.C_drewN ?_ _) | (with_reducible refine Kd.C_drew ?_)))
            (case side10 => exact HC0_5.out)
            (case side11 => repeat (first | exact (Kd.C_below HR0_6.out HB.out) | (with_reducible refine Kd.C_alloc ?_ _) | (with_reducible refine Kd.C_drewN ?_ _) | (with_reducible refine Kd.C_drew ?_)))
            (case side12 => exact HC0_6.out)
            rintro e w53 ⟨v250, v254, v257, v260, v263, v266, rfl, ho0, ho1, ho2, ho3, ho4, ho5, hb⟩
            refine ⟨_, rfl, ?_⟩
            have n0_ := Aside0.mk (Kd.R_mono (Kd.R_told (Kd.R_told (Kd.R_old (by (with_reducible repeat (first | apply Kd.R_alloc | apply Kd.R_drewN | apply Kd.R_drew)); exact HO_247000.out) hb) (Kd.R_base ho0)) (Kd.R_base ho1)) (fun _ h_ => h_.1))
            have n1_ := Aside0.mk (Kd.R_mono (Kd.R_told (Kd.R_told (Kd.R_old (by (with_reducible repeat (first | apply Kd.R_alloc | apply Kd.R_drewN | apply Kd.R_drew)); exact HO_247002.out) hb) (Kd.R_base ho0)) (Kd.R_base ho1)) (fun _ h_ => h_.1))
            have n2_ := Aside0.mk (Kd.R_mono (Kd.R_told (Kd.R_told (Kd.R_told (Kd.R_told (Kd.R_old (by (with_reducible repeat (first | apply Kd.R_alloc | apply Kd.R_drewN | apply Kd.R_drew)); exact HO_247003.out) hb) (Kd.R_base ho2)) (Kd.R_base ho3)) (Kd.R_base ho4)) (Kd.R_base ho5)) (fun _ h_ => h_.1))
            have n3_ := Aside0.mk (Kd.R_mono (Kd.R_told (Kd.R_told (Kd.R_told (Kd.R_told (Kd.R_old (by (with_reducible repeat (first | apply Kd.R_alloc | apply Kd.R_drewN | apply Kd.R_drew)); exact HO_247004.out) hb) (Kd.R_base ho2)) (Kd.R_base ho3)) (Kd.R_base ho4)) (Kd.R_base ho5)) (fun _ h_ => h_.1))
            have n4_ := Aside0.mk (Kd.R_mono (Kd.R_told (Kd.R_told (Kd.R_told (Kd.R_told (Kd.R_old (by (with_reducible repeat (first | apply Kd.R_alloc | apply Kd.R_drewN | apply Kd.R_drew)); exact HO_247005.out) hb) (Kd.R_base ho2)) (Kd.R_base ho3)) (Kd.R_base ho4)) (Kd.R_base ho5)) (fun _ h_ => h_.1))
            have n5_ := Aside0.mk (Kd.R_mono (Kd.R_told (Kd.R_told (Kd.R_told (Kd.R_told (Kd.R_old (by (with_reducible repeat (first | apply Kd.R_alloc | apply Kd.R_drewN | apply Kd.R_drew)); exact HO_247006.out) hb) (Kd.R_base ho2)) (Kd.R_base ho3)) (Kd.R_base ho4)) (Kd.R_base ho5)) (fun _ h_ => h_.1))
            have n6_ := Aside0.mk (Kd.R_lower (Kd.R_new' (Kd.R_new' ho0 (Kd.R_lt (by (with_reducible repeat (first | apply Kd.R_alloc | apply Kd.R_drewN | apply Kd.R_drew)); exact HO_247000.out))) (Kd.R_lt (by (with_reducible repeat (first | apply Kd.R_alloc | apply Kd.R_drewN | apply Kd.R_drew)); exact HO_247002.out))) (below_size (by repeat (first | (with_reducible first | exact HB.out | apply below_alloc | apply pw_below_drewN | apply below_drew1 | refine below_set ?_ GE198.out | refine below_set ?_ GE246.out) | exact HB.out))))
            have n7_ := Aside0.mk (Kd.R_lower (Kd.R_new' (Kd.R_new' ho1 (Kd.R_lt (by (with_reducible repeat (first | apply Kd.R_alloc | apply Kd.R_drewN | apply Kd.R_drew)); exact HO_247000.out))) (Kd.R_lt (by (with_reducible repeat (first | apply Kd.R_alloc | apply Kd.R_drewN | apply Kd.R_drew)); exact HO_247002.out))) (below_size (by repeat (first | (with_reducible first | exact HB.out | apply below_alloc | apply pw_below_drewN | apply below_drew1 | refine below_set ?_ GE198.out | refine below_set ?_ GE246.out) | exact HB.out))))
            have n8_ := Aside0.mk (Kd.R_lower (Kd.R_new' (Kd.R_new' (Kd.R_new' (Kd.R_new' ho2 (Kd.R_lt (by (with_reducible repeat (first | apply Kd.R_alloc | apply Kd.R_drewN | apply Kd.R_drew)); exact HO_247003.out))) (Kd.R_lt (by (with_reducible repeat (first | apply Kd.R_alloc | apply Kd.R_drewN | apply Kd.R_drew)); exact HO_247004.out))) (Kd.R_lt (by (with_reducible repeat (first | apply Kd.R_alloc | apply Kd.R_drewN | apply Kd.R_drew)); exact HO_247005.out))) (Kd.R_lt (by (with_reducible repeat (first | apply Kd.R_alloc | apply Kd.R_drewN | apply Kd.R_drew)); exact HO_247006.out))) (below_size (by repeat (first | (with_reducible first | exact HB.out | apply below_alloc | apply pw_below_drewN | apply below_drew1 | refine below_set ?_ GE198.out | refine below_set ?_ GE246.out) | exact HB.out))))
            have n9_ := Aside0.mk (Kd.R_lower (Kd.R_new' (Kd.R_new' (Kd.R_new' (Kd.R_new' ho3 (Kd.R_lt (by (with_reducible repeat (first | apply Kd.R_alloc | apply Kd.R_drewN | apply Kd.R_drew)); exact HO_247003.out))) (Kd.R_lt (by (with_reducible repeat (first | apply Kd.R_alloc | apply Kd.R_drewN | apply Kd.R_drew)); exact HO_247004.out))) (Kd.R_lt (by (with_reducible repeat (first | apply Kd.R_alloc | apply Kd.R_drewN | apply Kd.R_drew)); exact HO_247005.out))) (Kd.R_lt (by (with_reducible repeat (first | apply Kd.R_alloc | apply Kd.R_drewN | apply Kd.R_drew)); exact HO_247006.out))) (below_size (by repeat (first | (with_reducible first | exact HB.out | apply below_alloc | apply pw_below_drewN | apply below_drew1 | refine below_set ?_ GE198.out | refine below_set ?_ GE246.out) | exact HB.out))))
            have n10_ := Aside0.mk (Kd.R_lower (Kd.R_new' (Kd.R_new' (Kd.R_new' (Kd.R_new' ho4 (Kd.R_lt (by (with_reducible repeat (first | apply Kd.R_alloc | apply Kd.R_drewN | apply Kd.R_drew)); exact HO_247003.out))) (Kd.R_lt (by (with_reducible repeat (first | apply Kd.R_alloc | apply Kd.R_drewN | apply Kd.R_drew)); exact HO_247004.out))) (Kd.R_lt (by (with_reducible repeat (first | apply Kd.R_alloc | apply Kd.R_drewN | apply Kd.R_drew)); exact HO_247005.out))) (Kd.R_lt (by (with_reducible repeat (first | apply Kd.R_alloc | apply Kd.R_drewN | apply Kd.R_drew)); exact HO_247006.out))) (below_size (by repeat (first | (with_reducible first | exact HB.out | apply below_alloc | apply pw_below_drewN | apply below_drew1 | refine below_set ?_ GE198.out | refine below_set ?_ GE246.out) | exact HB.out))))
            have n11_ := Aside0.mk (Kd.R_lower (Kd.R_new' (Kd.R_new' (Kd.R_new' (Kd.R_new' ho5 (Kd.R_lt (by (with_reducible repeat (first | apply Kd.R_alloc | apply Kd.R_drewN | apply Kd.R_drew)); exact HO_247003.out))) (Kd.R_lt (by (with_reducible repeat (first | apply Kd.R_alloc | apply Kd.R_drewN | apply Kd.R_drew)); exact HO_247004.out))) (Kd.R_lt (by (with_reducible repeat (first | apply Kd.R_alloc | apply Kd.R_drewN | apply Kd.R_drew)); exact HO_247005.out))) (Kd.R_lt (by (with_reducible repeat (first | apply Kd.R_alloc | apply Kd.R_drewN | apply Kd.R_drew)); exact HO_247006.out))) (below_size (by repeat (first | (with_reducible first | exact HB.out | apply below_alloc | apply pw_below_drewN | apply below_drew1 | refine below_set ?_ GE198.out | refine below_set ?_ GE246.out) | exact HB.out))))
            have n12_ := Aside0.mk (blk_below (g := gb198) (o := .cells #[.slice A0_0 l0_0.length c0_0, .int .i64 a0_1, .slice A0_2 l0_2.length c0_2, .slice A0_3 l0_3.length c0_3, .slice A0_4 l0_4.length c0_4, .slice A0_5 l0_5.length c0_5, .slice A0_6 l0_6.length c0_6, .int .i64 a0_7, .int .i64 a0_8, .int .i64 a0_9] 33 (0, 0)) (by (with_reducible repeat (first | refine blk_drewN ?_ _ | refine blk_drew ?_ | refine blk_alloc ?_ _)); exact BK198.out) hb)
            have n13_ := Aside0.mk (blk_below (g := gb246) (o := .cells #[.slice Ao29 t224.length co29, .int .i64 t227, .slice Ao32 t228.length co32, .slice Ao33 t231.length co33, .slice Ao34 t234.length co34, .slice Ao35 t237.length co35, .slice Ao36 t240.length co36, .int .i64 t243, .int .i64 t244, .int .i64 t245] 36 (0, 0)) (by (with_reducible repeat (first | refine blk_drewN ?_ _ | refine blk_drew ?_ | refine blk_alloc ?_ _)); exact BK246.out) hb)
            have n14_ := Aside0.mk (below_step (by repeat (first | (with_reducible first | exact HB.out | apply below_alloc | apply pw_below_drewN | apply below_drew1 | refine below_set ?_ GE198.out | refine below_set ?_ GE246.out) | exact HB.out)) hb)
            clear HO_247000
            clear HO_247002
            clear HO_247003
            clear HO_247004
            clear HO_247005
            clear HO_247006
            clear BK198
            clear BK246
            clear HB
            have HO_247000 := n0_
            have HO_247002 := n1_
            have HO_247003 := n2_
            have HO_247004 := n3_
            have HO_247005 := n4_
            have HO_247006 := n5_
            have HO251 := n6_
            have HO255 := n7_
            have HO258 := n8_
            have HO261 := n9_
            have HO264 := n10_
            have HO267 := n11_
            have BK198 := n12_
            have BK246 := n13_
            have HB := n14_
            clear n0_ n1_ n2_ n3_ n4_ n5_ n6_ n7_ n8_ n9_ n10_ n11_ n12_ n13_ n14_
            (try clear hb)
            (try clear hb2)
            (try clear hk)
            (try clear hi)
            (try clear ho0)
            (try clear ho1)
            (try clear ho2)
            (try clear ho3)
            (try clear ho4)
            (try clear ho5)
            obtain ⟨Ao54, co54, eo54⟩ := Kd.R_slice HO251.out
            (first | subst eo54 | (injection eo54 with f1_ f2_ f3_; have f4_ := f1_.symm; have f5_ := f3_.symm; clear f1_ f2_ f3_; subst f4_; subst f5_))
            obtain ⟨Ao55, co55, eo55⟩ := Kd.R_slice HO255.out
            (first | subst eo55 | (injection eo55 with f1_ f2_ f3_; have f4_ := f1_.symm; have f5_ := f3_.symm; clear f1_ f2_ f3_; subst f4_; subst f5_))
            obtain ⟨Ao56, co56, eo56⟩ := Kd.R_slice HO258.out
            (first | subst eo56 | (injection eo56 with f1_ f2_ f3_; have f4_ := f1_.symm; have f5_ := f3_.symm; clear f1_ f2_ f3_; subst f4_; subst f5_))
            obtain ⟨Ao57, co57, eo57⟩ := Kd.R_slice HO261.out
            (first | subst eo57 | (injection eo57 with f1_ f2_ f3_; have f4_ := f1_.symm; have f5_ := f3_.symm; clear f1_ f2_ f3_; subst f4_; subst f5_))
            obtain ⟨Ao58, co58, eo58⟩ := Kd.R_slice HO264.out
            (first | subst eo58 | (injection eo58 with f1_ f2_ f3_; have f4_ := f1_.symm; have f5_ := f3_.symm; clear f1_ f2_ f3_; subst f4_; subst f5_))
            obtain ⟨Ao59, co59, eo59⟩ := Kd.R_slice HO267.out
            (first | subst eo59 | (injection eo59 with f1_ f2_ f3_; have f4_ := f1_.symm; have f5_ := f3_.symm; clear f1_ f2_ f3_; subst f4_; subst f5_))
            refine hK.out _ _ ⟨(blk_cell BK246.out 0).trans rfl, (blk_cell BK246.out 1).trans rfl, (blk_cell BK246.out 2).trans rfl, (blk_cell BK246.out 3).trans rfl, (blk_cell BK246.out 4).trans rfl, (blk_cell BK246.out 5).trans rfl, (blk_cell BK246.out 6).trans rfl, (blk_cell BK246.out 7).trans rfl, (blk_cell BK246.out 8).trans rfl, (blk_cell BK246.out 9).trans rfl, (blk_cell BK198.out 0).trans rfl, (blk_cell BK198.out 1).trans rfl, (blk_cell BK198.out 2).trans rfl, (blk_cell BK198.out 3).trans rfl, (blk_cell BK198.out 4).trans rfl, (blk_cell BK198.out 5).trans rfl, (blk_cell BK198.out 6).trans rfl, (blk_cell BK198.out 7).trans rfl, (blk_cell BK198.out 8).trans rfl, (blk_cell BK198.out 9).trans rfl⟩ (fun hHeld => ?_)
            clear hK K
            refine norm_ (a' := ?_) ?_ ?_
            rotate_left
            · show Act.put _ (some 45) _ = _
              simp only [Act.put, List.setIfInBounds_toArray, List.set_cons_zero, List.set_cons_succ, i64_w, i32_w]
              rfl
            refine one_ (i := 3) (N := some 46) #[true, true, true, true, false] rfl rfl (by kernel_rfl) (by decide) (fun K hK => ?_)
            refine goes_ Try.func20 (by kernel_rfl) rfl #[.agg #[.slice Ao29 t224.length co29, .int .i64 t227, .slice Ao32 t228.length co32, .slice Ao33 t231.length co33, .slice Ao34 t234.length co34, .slice Ao35 t237.length co35, .slice Ao36 t240.length co36, .int .i64 t243, .int .i64 t244, .int .i64 t245], .agg #[.slice Ao54 t249.length co54, .int .i64 t252, .slice Ao55 t253.length co55, .slice Ao56 t256.length co56, .slice Ao57 t259.length co57, .slice Ao58 t262.length co58, .slice Ao59 t265.length co59, .int .i64 t268, .int .i64 t269, .int .i64 t270]] (by rfl) rfl rfl (by (try simp only [List.map_toArray, List.map_cons, List.map_nil]); first | done | rfl | (simp only [List.length_drop, List.length_take]; rfl)) ?_
            with_reducible refine (laws_eqMachine.calls kj12 _ _ t224 t227 _ _ t228 _ _ t231 _ _ t234 _ _ t237 _ _ t240 t243 t244 t245 _ _ t249 t252 _ _ t253 _ _ t256 _ _ t259 _ _ t262 _ _ t265 t268 t269 t270 false _ ?side1 ?side2 ?side3 ?side4 ?side5 ?side6 ?side7 ?side8 ?side9 ?side10 ?side11 ?side12 ?side13 ?side14 ?side15 ?side16 ?side17 ?side18 ?side19 ?side20 ?side21 ?side22 ?side23 ?side24 A41.out).mono ?_
            (case side1 => repeat (first | exact (Kd.R_reads' HO_247000.out).2.2 | (with_reducible refine Kd.C_alloc ?_ _) | (with_reducible refine Kd.C_drewN ?_ _) | (with_reducible refine Kd.C_drew ?_)))
            (case side2 => exact (Kd.R_reads' HO_247000.out).2.1)
            (case side3 => repeat (first | exact (Kd.R_reads' HO_247002.out).2.2 | (with_reducible refine Kd.C_alloc ?_ _) | (with_reducible refine Kd.C_drewN ?_ _) | (with_reducible refine Kd.C_drew ?_)))
            (case side4 => exact (Kd.R_reads' HO_247002.out).2.1)
            (case side5 => repeat (first | exact (Kd.R_reads' HO_247003.out).2.2 | (with_reducible refine Kd.C_alloc ?_ _) | (with_reducible refine Kd.C_drewN ?_ _) | (with_reducible refine Kd.C_drew ?_)))
            (case side6 => exact (Kd.R_reads' HO_247003.out).2.1)
            (case side7 => repeat (first | exact (Kd.R_reads' HO_247004.out).2.2 | (with_reducible refine Kd.C_alloc ?_ _) | (with_reducible refine Kd.C_drewN ?_ _) | (with_reducible refine Kd.C_drew ?_)))
            (case side8 => exact (Kd.R_reads' HO_247004.out).2.1)
            (case side9 => repeat (first | exact (Kd.R_reads' HO_247005.out).2.2 | (with_reducible refine Kd.C_alloc ?_ _) | (with_reducible refine Kd.C_drewN ?_ _) | (with_reducible refine Kd.C_drew ?_)))
            (case side10 => exact (Kd.R_reads' HO_247005.out).2.1)
            (case side11 => repeat (first | exact (Kd.R_reads' HO_247006.out).2.2 | (with_reducible refine Kd.C_alloc ?_ _) | (with_reducible refine Kd.C_drewN ?_ _) | (with_reducible refine Kd.C_drew ?_)))
            (case side12 => exact (Kd.R_reads' HO_247006.out).2.1)
            (case side13 => repeat (first | exact (Kd.R_reads' HO251.out).2.2 | (with_reducible refine Kd.C_alloc ?_ _) | (with_reducible refine Kd.C_drewN ?_ _) | (with_reducible refine Kd.C_drew ?_)))
            (case side14 => exact (Kd.R_reads' HO251.out).2.1)
            (case side15 => repeat (first | exact (Kd.R_reads' HO255.out).2.2 | (with_reducible refine Kd.C_alloc ?_ _) | (with_reducible refine Kd.C_drewN ?_ _) | (with_reducible refine Kd.C_drew ?_)))
            (case side16 => exact (Kd.R_reads' HO255.out).2.1)
            (case side17 => repeat (first | exact (Kd.R_reads' HO258.out).2.2 | (with_reducible refine Kd.C_alloc ?_ _) | (with_reducible refine Kd.C_drewN ?_ _) | (with_reducible refine Kd.C_drew ?_)))
            (case side18 => exact (Kd.R_reads' HO258.out).2.1)
            (case side19 => repeat (first | exact (Kd.R_reads' HO261.out).2.2 | (with_reducible refine Kd.C_alloc ?_ _) | (with_reducible refine Kd.C_drewN ?_ _) | (with_reducible refine Kd.C_drew ?_)))
            (case side20 => exact (Kd.R_reads' HO261.out).2.1)
            (case side21 => repeat (first | exact (Kd.R_reads' HO264.out).2.2 | (with_reducible refine Kd.C_alloc ?_ _) | (with_reducible refine Kd.C_drewN ?_ _) | (with_reducible refine Kd.C_drew ?_)))
            (case side22 => exact (Kd.R_reads' HO264.out).2.1)
            (case side23 => repeat (first | exact (Kd.R_reads' HO267.out).2.2 | (with_reducible refine Kd.C_alloc ?_ _) | (with_reducible refine Kd.C_drewN ?_ _) | (with_reducible refine Kd.C_drew ?_)))
            (case side24 => exact (Kd.R_reads' HO267.out).2.1)
            rintro e w60 ⟨rfl, hb⟩
            refine ⟨_, rfl, ?_⟩
            have n0_ := Aside0.mk (Kd.R_below (by (with_reducible repeat (first | apply Kd.R_alloc | apply Kd.R_drewN | apply Kd.R_drew)); exact HO_247000.out) hb)
            have n1_ := Aside0.mk (Kd.R_below (by (with_reducible repeat (first | apply Kd.R_alloc | apply Kd.R_drewN | apply Kd.R_drew)); exact HO_247002.out) hb)
            have n2_ := Aside0.mk (Kd.R_below (by (with_reducible repeat (first | apply Kd.R_alloc | apply Kd.R_drewN | apply Kd.R_drew)); exact HO_247003.out) hb)
            have n3_ := Aside0.mk (Kd.R_below (by (with_reducible repeat (first | apply Kd.R_alloc | apply Kd.R_drewN | apply Kd.R_drew)); exact HO_247004.out) hb)
            have n4_ := Aside0.mk (Kd.R_below (by (with_reducible repeat (first | apply Kd.R_alloc | apply Kd.R_drewN | apply Kd.R_drew)); exact HO_247005.out) hb)
            have n5_ := Aside0.mk (Kd.R_below (by (with_reducible repeat (first | apply Kd.R_alloc | apply Kd.R_drewN | apply Kd.R_drew)); exact HO_247006.out) hb)
            have n6_ := Aside0.mk (Kd.R_below (by (with_reducible repeat (first | apply Kd.R_alloc | apply Kd.R_drewN | apply Kd.R_drew)); exact HO251.out) hb)
            have n7_ := Aside0.mk (Kd.R_below (by (with_reducible repeat (first | apply Kd.R_alloc | apply Kd.R_drewN | apply Kd.R_drew)); exact HO255.out) hb)
            have n8_ := Aside0.mk (Kd.R_below (by (with_reducible repeat (first | apply Kd.R_alloc | apply Kd.R_drewN | apply Kd.R_drew)); exact HO258.out) hb)
            have n9_ := Aside0.mk (Kd.R_below (by (with_reducible repeat (first | apply Kd.R_alloc | apply Kd.R_drewN | apply Kd.R_drew)); exact HO261.out) hb)
            have n10_ := Aside0.mk (Kd.R_below (by (with_reducible repeat (first | apply Kd.R_alloc | apply Kd.R_drewN | apply Kd.R_drew)); exact HO264.out) hb)
            have n11_ := Aside0.mk (Kd.R_below (by (with_reducible repeat (first | apply Kd.R_alloc | apply Kd.R_drewN | apply Kd.R_drew)); exact HO267.out) hb)
            have n12_ := Aside0.mk (blk_below (g := gb198) (o := .cells #[.slice A0_0 l0_0.length c0_0, .int .i64 a0_1, .slice A0_2 l0_2.length c0_2, .slice A0_3 l0_3.length c0_3, .slice A0_4 l0_4.length c0_4, .slice A0_5 l0_5.length c0_5, .slice A0_6 l0_6.length c0_6, .int .i64 a0_7, .int .i64 a0_8, .int .i64 a0_9] 33 (0, 0)) (by (with_reducible repeat (first | refine blk_drewN ?_ _ | refine blk_drew ?_ | refine blk_alloc ?_ _)); exact BK198.out) hb)
            have n13_ := Aside0.mk (blk_below (g := gb246) (o := .cells #[.slice Ao29 t224.length co29, .int .i64 t227, .slice Ao32 t228.length co32, .slice Ao33 t231.length co33, .slice Ao34 t234.length co34, .slice Ao35 t237.length co35, .slice Ao36 t240.length co36, .int .i64 t243, .int .i64 t244, .int .i64 t245] 36 (0, 0)) (by (with_reducible repeat (first | refine blk_drewN ?_ _ | refine blk_drew ?_ | refine blk_alloc ?_ _)); exact BK246.out) hb)
            have n14_ := Aside0.mk (below_step (by repeat (first | (with_reducible first | exact HB.out | apply below_alloc | apply pw_below_drewN | apply below_drew1 | refine below_set ?_ GE198.out | refine below_set ?_ GE246.out) | exact HB.out)) hb)
            clear HO_247000
            clear HO_247002
            clear HO_247003
            clear HO_247004
            clear HO_247005
            clear HO_247006
            clear HO251
            clear HO255
            clear HO258
            clear HO261
            clear HO264
            clear HO267
            clear BK198
            clear BK246
            clear HB
            have HO_247000 := n0_
            have HO_247002 := n1_
            have HO_247003 := n2_
            have HO_247004 := n3_
            have HO_247005 := n4_
            have HO_247006 := n5_
            have HO251 := n6_
            have HO255 := n7_
            have HO258 := n8_
            have HO261 := n9_
            have HO264 := n10_
            have HO267 := n11_
            have BK198 := n12_
            have BK246 := n13_
            have HB := n14_
            clear n0_ n1_ n2_ n3_ n4_ n5_ n6_ n7_ n8_ n9_ n10_ n11_ n12_ n13_ n14_
            (try clear hb)
            (try clear hb2)
            (try clear hk)
            (try clear hi)
            refine hK.out _ _ ⟨(blk_cell BK246.out 0).trans rfl, (blk_cell BK246.out 1).trans rfl, (blk_cell BK246.out 2).trans rfl, (blk_cell BK246.out 3).trans rfl, (blk_cell BK246.out 4).trans rfl, (blk_cell BK246.out 5).trans rfl, (blk_cell BK246.out 6).trans rfl, (blk_cell BK246.out 7).trans rfl, (blk_cell BK246.out 8).trans rfl, (blk_cell BK246.out 9).trans rfl, (blk_cell BK198.out 0).trans rfl, (blk_cell BK198.out 1).trans rfl, (blk_cell BK198.out 2).trans rfl, (blk_cell BK198.out 3).trans rfl, (blk_cell BK198.out 4).trans rfl, (blk_cell BK198.out 5).trans rfl, (blk_cell BK198.out 6).trans rfl, (blk_cell BK198.out 7).trans rfl, (blk_cell BK198.out 8).trans rfl, (blk_cell BK198.out 9).trans rfl⟩ (fun hHeld => ?_)
            clear hK K
            refine norm_ (a' := ?_) ?_ ?_
            rotate_left
            · show Act.put _ (some 46) _ = _
              simp only [Act.put, List.setIfInBounds_toArray, List.set_cons_zero, List.set_cons_succ, i64_w, i32_w]
              rfl
            refine pure_ (i := 4) (N := some 47) (v := ?_) (a' := ?_) #[true, true, true, true, true] rfl rfl (by kernel_rfl) (fun _ _ _ h => h) (Or.inl ⟨by rfl, ?_⟩) ?_ ?_
            rotate_left
            · intro w'
              go_simp
              with_reducible rfl
            rotate_left
            · simp only [Act.put, List.setIfInBounds_toArray, List.set_cons_zero, List.set_cons_succ, i64_w, i32_w]
              rfl
            refine done_ (by kernel_rfl) ?_
            try go_wp2
            go_ret
            exact ⟨by first | rfl | (simp [errW_none, errW_some] <;> rfl) | (simp [*, errW_none, errW_some] <;> rfl), by repeat (first | (with_reducible first | exact HB.out | apply below_alloc | apply pw_below_drewN | apply below_drew1 | refine below_set ?_ GE198.out | refine below_set ?_ GE246.out) | exact HB.out)⟩

end Go.Proofs.Ythndggachjdkfaa.PLoadWord
