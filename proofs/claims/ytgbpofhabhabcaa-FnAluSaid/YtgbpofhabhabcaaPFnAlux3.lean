-- Lines for this claim, written by the session's own program wip/myprint.py. Not trusted: Lean checks them.
import Derived.Test.YtgbpofhabhabcaaPFnAlux0
import Derived.Test.YtgbpofhabhabcaaPFnAlux1
import Derived.Test.YtgbpofhabhabcaaPFnAlux2
namespace Go.Proofs.Ytgbpofhabhabcaa.PFnAlu
open Go.RowKit Go.Proofs.YtgbpofhabhabcaaW.PrintWords Go.Proofs.YtgbpofhabhabcaaW.PrintLast Go.Proofs.YtgbpofhabhabcaaW.PrintMore
attribute [local go_sem] max2_int min2_int max_two min_two max_three min_three max_four min_four   -- for this text's walks alone
set_option linter.unusedVariables false
set_option linter.unusedSimpArgs false

/-! ### spec_Alu: function 27 -/
mutual
def spec_Alu.j0 : Nat → Int → Int → Int → Bool → Option (Int × Bool)
  | 0, _, _, _, _ => none
  | k + 1, x0, x1, x2, x13 => if x13 = true then (some (0, false)) else ((spec_Word.f x1).bind fun t120 => ((spec_Word.f x2).bind fun t121 => (if x0 = 1 then ((spec_Word.f (wrap64 (t120 + t121))).bind fun t122 => (some (t122, true))) else (if x0 = 2 then ((spec_Word.f (wrap64 (t120 - t121))).bind fun t123 => (some (t123, true))) else (if x0 = 3 then (spec_Alu.j1 k x0 t120 t121 true) else (if x0 = 7 then (spec_Alu.j1 k x0 t120 t121 true) else (spec_Alu.j1 k x0 t120 t121 (x0 == 8))))))))
def spec_Alu.j1 : Nat → Int → Int → Int → Bool → Option (Int × Bool)
  | 0, _, _, _, _ => none
  | k + 1, x0, x1, x2, x39 => if x39 = true then ((spec_l1Shift.f k x0 x1 (Int.tmod x2 32)).bind fun t124 => (some (t124, true))) else (if x0 = 4 then (spec_Alu.j2 k x0 x1 x2 true) else (spec_Alu.j2 k x0 x1 x2 (x0 == 5)))
def spec_Alu.j2 : Nat → Int → Int → Int → Bool → Option (Int × Bool)
  | 0, _, _, _, _ => none
  | k + 1, x0, x1, x2, x50 => if x50 = true then (if x0 = 4 then ((spec_Signed.f x1).bind fun t125 => ((spec_Signed.f x2).bind fun t126 => (if t125 < t126 then (some (1, true)) else (if x0 = 5 then (if x1 < x2 then (some (1, true)) else (some (0, true))) else (some (0, true)))))) else (if x0 = 5 then (if x1 < x2 then (some (1, true)) else (some (0, true))) else (some (0, true)))) else (if x0 = 10 then ((spec_l1Bits.f k 1 x1 x2).bind fun t127 => (some (t127, true))) else (if x0 = 9 then ((spec_l1Bits.f k 2 x1 x2).bind fun t128 => (some (t128, true))) else (if x0 = 6 then ((spec_l1Bits.f k 3 x1 x2).bind fun t129 => (some (t129, true))) else (if x0 = 11 then ((spec_Word.f (wrap64 ((wrap64 ((Int.tmod x1 65536) * x2)) + (wrap64 ((Int.tmod (wrap64 ((wrap64 (Int.tdiv x1 65536)) * (Int.tmod x2 65536))) 65536) * 65536))))).bind fun t130 => (some (t130, true))) else (if x0 = 12 then ((spec_Signed.f x1).bind fun t131 => ((spec_Signed.f x2).bind fun t132 => ((spec_l1High.f t131 t132).bind fun t133 => ((spec_Word.f t133).bind fun t134 => (some (t134, true)))))) else (if x0 = 13 then ((spec_Signed.f x1).bind fun t135 => ((spec_l1High.f t135 x2).bind fun t136 => ((spec_Word.f t136).bind fun t137 => (some (t137, true))))) else (if x0 = 14 then ((spec_l1High.f x1 x2).bind fun t138 => ((spec_Word.f t138).bind fun t139 => (some (t139, true)))) else ((spec_l1Quotients.f k x0 x1 x2).bind fun t140 => (some (t140, true))))))))))
end
def spec_Alu.f (k : Nat) (a0 : Int) (a1 : Int) (a2 : Int) : Option (Int × Bool) := if a0 < 1 then (spec_Alu.j0 k a0 a1 a2 true) else (spec_Alu.j0 k a0 a1 a2 (decide (a0 > 18)))
theorem spec_Alu.mono_l : ∀ k, (∀ y0 y1 y2 y3, LeO (spec_Alu.j0 k y0 y1 y2 y3) (spec_Alu.j0 (k + 1) y0 y1 y2 y3)) ∧ (∀ y0 y1 y2 y3, LeO (spec_Alu.j1 k y0 y1 y2 y3) (spec_Alu.j1 (k + 1) y0 y1 y2 y3)) ∧ (∀ y0 y1 y2 y3, LeO (spec_Alu.j2 k y0 y1 y2 y3) (spec_Alu.j2 (k + 1) y0 y1 y2 y3))
  | 0 => ⟨fun _ _ _ _ r h => by simp [spec_Alu.j0] at h, fun _ _ _ _ r h => by simp [spec_Alu.j1] at h, fun _ _ _ _ r h => by simp [spec_Alu.j2] at h⟩
  | k + 1 => by
    obtain ⟨ih0, ih1, ih2⟩ := spec_Alu.mono_l k
    refine ⟨?_, ?_, ?_⟩
    · intro y0 y1 y2 y3
      unfold spec_Alu.j0
      repeat' first
      | (with_reducible exact ih0 _ _ _ _)
      | (with_reducible exact ih1 _ _ _ _)
      | (with_reducible exact ih2 _ _ _ _)
      | (with_reducible exact spec_l1Bits.mono _ _ _ _)
      | (with_reducible exact spec_l1Quotients.mono _ _ _ _)
      | (with_reducible exact spec_l1Shift.mono _ _ _ _)
      | (with_reducible exact LeO.refl _)
      | (with_reducible exact LeO.none _)
      | (with_reducible refine LeO.ite ?_ ?_)
      | (with_reducible refine LeO.bind ?_ (fun _ => ?_))
      | exact ih0 _ _ _ _
      | exact ih1 _ _ _ _
      | exact ih2 _ _ _ _
      | exact spec_l1Bits.mono _ _ _ _
      | exact spec_l1Quotients.mono _ _ _ _
      | exact spec_l1Shift.mono _ _ _ _
      | exact LeO.none _
      | refine LeO.ite ?_ ?_
      | refine LeO.bind ?_ (fun _ => ?_)
    · intro y0 y1 y2 y3
      unfold spec_Alu.j1
      repeat' first
      | (with_reducible exact ih0 _ _ _ _)
      | (with_reducible exact ih1 _ _ _ _)
      | (with_reducible exact ih2 _ _ _ _)
      | (with_reducible exact spec_l1Bits.mono _ _ _ _)
      | (with_reducible exact spec_l1Quotients.mono _ _ _ _)
      | (with_reducible exact spec_l1Shift.mono _ _ _ _)
      | (with_reducible exact LeO.refl _)
      | (with_reducible exact LeO.none _)
      | (with_reducible refine LeO.ite ?_ ?_)
      | (with_reducible refine LeO.bind ?_ (fun _ => ?_))
      | exact ih0 _ _ _ _
      | exact ih1 _ _ _ _
      | exact ih2 _ _ _ _
      | exact spec_l1Bits.mono _ _ _ _
      | exact spec_l1Quotients.mono _ _ _ _
      | exact spec_l1Shift.mono _ _ _ _
      | exact LeO.none _
      | refine LeO.ite ?_ ?_
      | refine LeO.bind ?_ (fun _ => ?_)
    · intro y0 y1 y2 y3
      unfold spec_Alu.j2
      repeat' first
      | (with_reducible exact ih0 _ _ _ _)
      | (with_reducible exact ih1 _ _ _ _)
      | (with_reducible exact ih2 _ _ _ _)
      | (with_reducible exact spec_l1Bits.mono _ _ _ _)
      | (with_reducible exact spec_l1Quotients.mono _ _ _ _)
      | (with_reducible exact spec_l1Shift.mono _ _ _ _)
      | (with_reducible exact LeO.refl _)
      | (with_reducible exact LeO.none _)
      | (with_reducible refine LeO.ite ?_ ?_)
      | (with_reducible refine LeO.bind ?_ (fun _ => ?_))
      | exact ih0 _ _ _ _
      | exact ih1 _ _ _ _
      | exact ih2 _ _ _ _
      | exact spec_l1Bits.mono _ _ _ _
      | exact spec_l1Quotients.mono _ _ _ _
      | exact spec_l1Shift.mono _ _ _ _
      | exact LeO.none _
      | refine LeO.ite ?_ ?_
      | refine LeO.bind ?_ (fun _ => ?_)
theorem spec_Alu.mono : ∀ a0 a1 a2 k, LeO (spec_Alu.f k a0 a1 a2) (spec_Alu.f (k + 1) a0 a1 a2) := by
  intro a0 a1 a2 k
  obtain ⟨ih0, ih1, ih2⟩ := spec_Alu.mono_l k
  unfold spec_Alu.f
  repeat' first
      | (with_reducible exact ih0 _ _ _ _)
      | (with_reducible exact ih1 _ _ _ _)
      | (with_reducible exact ih2 _ _ _ _)
      | (with_reducible exact spec_l1Bits.mono _ _ _ _)
      | (with_reducible exact spec_l1Quotients.mono _ _ _ _)
      | (with_reducible exact spec_l1Shift.mono _ _ _ _)
      | (with_reducible exact LeO.refl _)
      | (with_reducible exact LeO.none _)
      | (with_reducible refine LeO.ite ?_ ?_)
      | (with_reducible refine LeO.bind ?_ (fun _ => ?_))
      | exact ih0 _ _ _ _
      | exact ih1 _ _ _ _
      | exact ih2 _ _ _ _
      | exact spec_l1Bits.mono _ _ _ _
      | exact spec_l1Quotients.mono _ _ _ _
      | exact spec_l1Shift.mono _ _ _ _
      | exact LeO.none _
      | refine LeO.ite ?_ ?_
      | refine LeO.bind ?_ (fun _ => ?_)
set_option maxHeartbeats 8000000 in
set_option maxRecDepth 100000 in
theorem spec_Alu.calls (k : Nat) (a0 : Int) (a1 : Int) (a2 : Int) (r1 : Int) (r2 : Bool) (w : World) (h : spec_Alu.f k a0 a1 a2 = some (r1, r2)) :
    Calls Try.prog 27 #[.int .i64 a0, .int .i64 a1, .int .i64 a2] w fun e w' => e = .returned (.tuple #[.int .i64 r1, .bool r2]) ∧ Drawn0 w w' := by
  have H : (if a0 < 1 then (spec_Alu.j0 k a0 a1 a2 true) else (spec_Alu.j0 k a0 a1 a2 (decide (a0 > 18)))) = some (r1, r2) := h
  clear h
  have HC4 := Aside0.mk H
  clear H
  go_enter Try.func27, Try.ntmps27
  go_upto_region 1 with (fail)
  go_cut [13] (fun v13 wc => ∃ (kq : Nat) (x13_3 : Bool), v13 = .bool x13_3 ∧ Aside0 (spec_Alu.j0 kq a0 a1 a2 x13_3 = some (r1, r2)) ∧ Aside0 (kq ≤ k) ∧ Drawn0 w wc)
  case first =>
    have H := HC4.out
    clear HC4
    by_cases c5 : a0 < 1
    · rw [if_pos c5] at H
      have c5b0 : decide (a0 < 1) = true := decide_eq_true c5
      clear c5
      (first | rw [c5b0] | (simp only [i64_w, i32_w]; rw [c5b0]) | skip)
      have H' := Aside0.mk H
      clear H
      go_wp2
      go_meet
      case rel => exact ⟨_, (true), (by first | rfl | (simp; done) | (simp [*]; done)), H', ⟨by first | omega | exact Nat.le_refl _⟩, by repeat (first | exact Drawn0.refl _ | apply Drawn0.step)⟩
    · rw [if_neg c5] at H
      have c5b0 : decide (a0 < 1) = false := decide_eq_false c5
      clear c5
      (first | rw [c5b0] | (simp only [i64_w, i32_w]; rw [c5b0]) | skip)
      have H' := Aside0.mk H
      clear H
      go_wp2
      go_meet
      case rel => exact ⟨_, (decide (a0 > 18)), (by first | rfl | (simp; done) | (simp [*]; done)), H', ⟨by first | omega | exact Nat.le_refl _⟩, by repeat (first | exact Drawn0.refl _ | apply Drawn0.step)⟩
  case rest =>
    clear HC4
    try clear c2
    try clear p2
    try clear c5
    try clear c5b0
    obtain ⟨kq, x13_3, rfl, HA, HJ3, ⟨mc3, rfl⟩⟩ := hcut
    cases kq with
    | zero => exact absurd HA.out (by simp [spec_Alu.j0])
    | succ kj3 =>
      have H := HA.out
      clear HA
      simp only [spec_Alu.j0] at H
      by_cases c6 : x13_3 = true
      · subst c6
        have H1 : (some (0, false)) = some (r1, r2) := by rw [if_pos rfl] at H; exact H
        clear H
        have H := H1
        clear H1
        simp only [Option.some.injEq, Prod.mk.injEq] at H
        obtain ⟨rfl, rfl⟩ := H
        go_wp2
        go_ret2
        exact ⟨by first | rfl | (simp; done) | (simp [*]; done), by repeat (first | exact Drawn0.refl _ | apply Drawn0.step)⟩
      · replace c6 := Bool.eq_false_iff.mpr c6
        subst c6
        have H1 : ((spec_Word.f a1).bind fun t120 => ((spec_Word.f a2).bind fun t121 => (if a0 = 1 then ((spec_Word.f (wrap64 (t120 + t121))).bind fun t122 => (some (t122, true))) else (if a0 = 2 then ((spec_Word.f (wrap64 (t120 - t121))).bind fun t123 => (some (t123, true))) else (if a0 = 3 then (spec_Alu.j1 kj3 a0 t120 t121 true) else (if a0 = 7 then (spec_Alu.j1 kj3 a0 t120 t121 true) else (spec_Alu.j1 kj3 a0 t120 t121 (a0 == 8)))))))) = some (r1, r2) := by rw [if_neg (show ¬ (false = true) by decide)] at H; exact H
        clear H
        have H := H1
        clear H1
        replace H := Option.bind_eq_some_iff.mp H
        obtain ⟨t120, A70, H⟩ := H
        replace H : ((spec_Word.f a2).bind fun t121 => (if a0 = 1 then ((spec_Word.f (wrap64 (t120 + t121))).bind fun t122 => (some (t122, true))) else (if a0 = 2 then ((spec_Word.f (wrap64 (t120 - t121))).bind fun t123 => (some (t123, true))) else (if a0 = 3 then (spec_Alu.j1 kj3 a0 t120 t121 true) else (if a0 = 7 then (spec_Alu.j1 kj3 a0 t120 t121 true) else (spec_Alu.j1 kj3 a0 t120 t121 (a0 == 8))))))) = some (r1, r2) := H
        have A7 := Aside0.mk A70
        clear A70
        replace H := Option.bind_eq_some_iff.mp H
        obtain ⟨t121, A80, H⟩ := H
        replace H : (if a0 = 1 then ((spec_Word.f (wrap64 (t120 + t121))).bind fun t122 => (some (t122, true))) else (if a0 = 2 then ((spec_Word.f (wrap64 (t120 - t121))).bind fun t123 => (some (t123, true))) else (if a0 = 3 then (spec_Alu.j1 kj3 a0 t120 t121 true) else (if a0 = 7 then (spec_Alu.j1 kj3 a0 t120 t121 true) else (spec_Alu.j1 kj3 a0 t120 t121 (a0 == 8)))))) = some (r1, r2) := H
        have A8 := Aside0.mk A80
        clear A80
        by_cases c9 : a0 = 1
        · rw [if_pos c9] at H
          have c9b0 : (a0 == 1) = true := beq_iff_eq.mpr c9
          have c9b1 : (a0 != 1) = false := bne_eq_false_iff_eq.mpr c9
          clear c9
          replace H := Option.bind_eq_some_iff.mp H
          obtain ⟨t122, A100, H⟩ := H
          replace H : (some (t122, true)) = some (r1, r2) := H
          have A10 := Aside0.mk A100
          clear A100
          simp only [Option.some.injEq, Prod.mk.injEq] at H
          obtain ⟨rfl, rfl⟩ := H
          go_wp2_with (first | ((with_reducible refine gate_callee (f := 15) rfl ?_); refine goesL_ (some 15) rfl rfl Try.func15 (by kernel_rfl) rfl #[.int .i64 a1] rfl (by (try simp only [List.map_toArray, List.map_cons, List.map_nil]); first | done | rfl | (simp only [List.length_drop, List.length_take]; rfl)) ?_; (with_reducible refine (spec_Word.calls a1 t120 _ A7.out).mono ?_); rintro e w' ⟨rfl, ⟨nd, rfl⟩⟩; refine ⟨_, rfl, ?_⟩) | ((with_reducible refine gate_callee (f := 15) rfl ?_); refine goesL_ (some 17) rfl rfl Try.func15 (by kernel_rfl) rfl #[.int .i64 a2] rfl (by (try simp only [List.map_toArray, List.map_cons, List.map_nil]); first | done | rfl | (simp only [List.length_drop, List.length_take]; rfl)) ?_; (with_reducible refine (spec_Word.calls a2 t121 _ A8.out).mono ?_); rintro e w' ⟨rfl, ⟨nd, rfl⟩⟩; refine ⟨_, rfl, ?_⟩) | ((with_reducible refine gate_callee (f := 15) rfl ?_); refine goesL_ (some 23) rfl rfl Try.func15 (by kernel_rfl) rfl #[.int .i64 (wrap64 (t120 + t121))] rfl (by (try simp only [List.map_toArray, List.map_cons, List.map_nil]); first | done | rfl | (simp only [List.length_drop, List.length_take]; rfl)) ?_; (with_reducible refine (spec_Word.calls (wrap64 (t120 + t121)) t122 _ A10.out).mono ?_); rintro e w' ⟨rfl, ⟨nd, rfl⟩⟩; refine ⟨_, rfl, ?_⟩))
          go_ret2
          exact ⟨by first | rfl | (simp; done) | (simp [*]; done), by repeat (first | exact Drawn0.refl _ | apply Drawn0.step)⟩
        · rw [if_neg c9] at H
          have c9b0 : (a0 == 1) = false := beq_eq_false_iff_ne.mpr c9
          have c9b1 : (a0 != 1) = true := bne_iff_ne.mpr c9
          by_cases c11 : a0 = 2
          · rw [if_pos c11] at H
            have c11b0 : (a0 == 2) = true := beq_iff_eq.mpr c11
            have c11b1 : (a0 != 2) = false := bne_eq_false_iff_eq.mpr c11
            clear c11
            replace H := Option.bind_eq_some_iff.mp H
            obtain ⟨t123, A120, H⟩ := H
            replace H : (some (t123, true)) = some (r1, r2) := H
            have A12 := Aside0.mk A120
            clear A120
            simp only [Option.some.injEq, Prod.mk.injEq] at H
            obtain ⟨rfl, rfl⟩ := H
            go_wp2_with (first | ((with_reducible refine gate_callee (f := 15) rfl ?_); refine goesL_ (some 15) rfl rfl Try.func15 (by kernel_rfl) rfl #[.int .i64 a1] rfl (by (try simp only [List.map_toArray, List.map_cons, List.map_nil]); first | done | rfl | (simp only [List.length_drop, List.length_take]; rfl)) ?_; (with_reducible refine (spec_Word.calls a1 t120 _ A7.out).mono ?_); rintro e w' ⟨rfl, ⟨nd, rfl⟩⟩; refine ⟨_, rfl, ?_⟩) | ((with_reducible refine gate_callee (f := 15) rfl ?_); refine goesL_ (some 17) rfl rfl Try.func15 (by kernel_rfl) rfl #[.int .i64 a2] rfl (by (try simp only [List.map_toArray, List.map_cons, List.map_nil]); first | done | rfl | (simp only [List.length_drop, List.length_take]; rfl)) ?_; (with_reducible refine (spec_Word.calls a2 t121 _ A8.out).mono ?_); rintro e w' ⟨rfl, ⟨nd, rfl⟩⟩; refine ⟨_, rfl, ?_⟩) | ((with_reducible refine gate_callee (f := 15) rfl ?_); refine goesL_ (some 29) rfl rfl Try.func15 (by kernel_rfl) rfl #[.int .i64 (wrap64 (t120 - t121))] rfl (by (try simp only [List.map_toArray, List.map_cons, List.map_nil]); first | done | rfl | (simp only [List.length_drop, List.length_take]; rfl)) ?_; (with_reducible refine (spec_Word.calls (wrap64 (t120 - t121)) t123 _ A12.out).mono ?_); rintro e w' ⟨rfl, ⟨nd, rfl⟩⟩; refine ⟨_, rfl, ?_⟩))
            go_ret2
            exact ⟨by first | rfl | (simp; done) | (simp [*]; done), by repeat (first | exact Drawn0.refl _ | apply Drawn0.step)⟩
          · rw [if_neg c11] at H
            have c11b0 : (a0 == 2) = false := beq_eq_false_iff_ne.mpr c11
            have c11b1 : (a0 != 2) = true := bne_iff_ne.mpr c11
            have HC13 := Aside0.mk H
            clear H
            go_upto_region 9 with (first | ((with_reducible refine gate_callee (f := 15) rfl ?_); refine goesL_ (some 15) rfl rfl Try.func15 (by kernel_rfl) rfl #[.int .i64 a1] rfl (by (try simp only [List.map_toArray, List.map_cons, List.map_nil]); first | done | rfl | (simp only [List.length_drop, List.length_take]; rfl)) ?_; (with_reducible refine (spec_Word.calls a1 t120 _ A7.out).mono ?_); rintro e w' ⟨rfl, ⟨nd, rfl⟩⟩; refine ⟨_, rfl, ?_⟩) | ((with_reducible refine gate_callee (f := 15) rfl ?_); refine goesL_ (some 17) rfl rfl Try.func15 (by kernel_rfl) rfl #[.int .i64 a2] rfl (by (try simp only [List.map_toArray, List.map_cons, List.map_nil]); first | done | rfl | (simp only [List.length_drop, List.length_take]; rfl)) ?_; (with_reducible refine (spec_Word.calls a2 t121 _ A8.out).mono ?_); rintro e w' ⟨rfl, ⟨nd, rfl⟩⟩; refine ⟨_, rfl, ?_⟩))
            (try simp only [Act.put, List.setIfInBounds_toArray, List.set_cons_zero, List.set_cons_succ])
            go_cut [39] (fun v39 wc => ∃ (kq : Nat) (x39_12 : Bool), v39 = .bool x39_12 ∧ Aside0 (spec_Alu.j1 kq a0 t120 t121 x39_12 = some (r1, r2)) ∧ Aside0 (kq ≤ kj3) ∧ Drawn0 w wc)
            case first =>
              have H := HC13.out
              clear HC13
              by_cases c14 : a0 = 3
              · rw [if_pos c14] at H
                have c14b0 : (a0 == 3) = true := beq_iff_eq.mpr c14
                have c14b1 : (a0 != 3) = false := bne_eq_false_iff_eq.mpr c14
                clear c14
                (first | rw [c14b0] | (simp only [i64_w, i32_w]; rw [c14b0]) | skip)
                have H' := Aside0.mk H
                clear H
                go_wp2
                go_meet
                case rel => exact ⟨_, (true), (by first | rfl | (simp; done) | (simp [*]; done)), H', ⟨by have := HJ3.out; first | omega | exact Nat.le_refl _⟩, by repeat (first | exact Drawn0.refl _ | apply Drawn0.step)⟩
              · rw [if_neg c14] at H
                have c14b0 : (a0 == 3) = false := beq_eq_false_iff_ne.mpr c14
                have c14b1 : (a0 != 3) = true := bne_iff_ne.mpr c14
                (first | rw [c14b0] | (simp only [i64_w, i32_w]; rw [c14b0]) | skip)
                by_cases c15 : a0 = 7
                · rw [if_pos c15] at H
                  have c15b0 : (a0 == 7) = true := beq_iff_eq.mpr c15
                  have c15b1 : (a0 != 7) = false := bne_eq_false_iff_eq.mpr c15
                  clear c15
                  have H' := Aside0.mk H
                  clear H
                  go_wp2
                  go_meet
                  case rel => exact ⟨_, (true), (by first | rfl | (simp; done) | (simp [*]; done)), H', ⟨by have := HJ3.out; first | omega | exact Nat.le_refl _⟩, by repeat (first | exact Drawn0.refl _ | apply Drawn0.step)⟩
                · rw [if_neg c15] at H
                  have c15b0 : (a0 == 7) = false := beq_eq_false_iff_ne.mpr c15
                  have c15b1 : (a0 != 7) = true := bne_iff_ne.mpr c15
                  have H' := Aside0.mk H
                  clear H
                  go_wp2
                  go_meet
                  case rel => exact ⟨_, ((a0 == 8)), (by first | rfl | (simp; done) | (simp [*]; done)), H', ⟨by have := HJ3.out; first | omega | exact Nat.le_refl _⟩, by repeat (first | exact Drawn0.refl _ | apply Drawn0.step)⟩
            case rest =>
              clear HC13
              try clear c1
              try clear c2
              try clear p2
              try clear c3
              try clear c5
              try clear c5b0
              try clear c6
              try clear p6
              try clear c9
              try clear c9b0
              try clear c9b1
              try clear c11
              try clear c11b0
              try clear c11b1
              try clear c14
              try clear c14b0
              try clear c14b1
              try clear c15
              try clear c15b0
              try clear c15b1
              try clear p2
              obtain ⟨kq, x39_12, rfl, HA, HJ12, ⟨mc12, rfl⟩⟩ := hcut
              cases kq with
              | zero => exact absurd HA.out (by simp [spec_Alu.j1])
              | succ kj12 =>
                have H := HA.out
                clear HA
                simp only [spec_Alu.j1] at H
                by_cases c16 : x39_12 = true
                · subst c16
                  have H1 : ((spec_l1Shift.f kj12 a0 t120 (Int.tmod t121 32)).bind fun t124 => (some (t124, true))) = some (r1, r2) := by rw [if_pos rfl] at H; exact H
                  clear H
                  have H := H1
                  clear H1
                  replace H := Option.bind_eq_some_iff.mp H
                  obtain ⟨t124, A170, H⟩ := H
                  replace H : (some (t124, true)) = some (r1, r2) := H
                  have A17 := Aside0.mk A170
                  clear A170
                  simp only [Option.some.injEq, Prod.mk.injEq] at H
                  obtain ⟨rfl, rfl⟩ := H
                  go_wp2_with (first | ((with_reducible refine gate_callee (f := 49) rfl ?_); refine goesL_ (some 44) rfl rfl Try.func49 (by kernel_rfl) rfl #[.int .i64 a0, .int .i64 t120, .int .i64 (Int.tmod t121 32)] rfl (by (try simp only [List.map_toArray, List.map_cons, List.map_nil]); first | done | rfl | (simp only [List.length_drop, List.length_take]; rfl)) ?_; (with_reducible refine (spec_l1Shift.calls kj12 a0 t120 (Int.tmod t121 32) t124 _ A17.out).mono ?_); rintro e w' ⟨rfl, ⟨nd, rfl⟩⟩; refine ⟨_, rfl, ?_⟩))
                  go_ret2
                  exact ⟨by first | rfl | (simp; done) | (simp [*]; done), by repeat (first | exact Drawn0.refl _ | apply Drawn0.step)⟩
                · replace c16 := Bool.eq_false_iff.mpr c16
                  subst c16
                  have H1 : (if a0 = 4 then (spec_Alu.j2 kj12 a0 t120 t121 true) else (spec_Alu.j2 kj12 a0 t120 t121 (a0 == 5))) = some (r1, r2) := by rw [if_neg (show ¬ (false = true) by decide)] at H; exact H
                  clear H
                  have H := H1
                  clear H1
                  have HC18 := Aside0.mk H
                  clear H
                  go_upto_region 11 with (fail)
                  go_cut [50] (fun v50 wc => ∃ (kq : Nat) (x50_17 : Bool), v50 = .bool x50_17 ∧ Aside0 (spec_Alu.j2 kq a0 t120 t121 x50_17 = some (r1, r2)) ∧ Aside0 (kq ≤ kj12) ∧ Drawn0 w wc)
                  case first =>
                    have H := HC18.out
                    clear HC18
                    by_cases c19 : a0 = 4
                    · rw [if_pos c19] at H
                      have c19b0 : (a0 == 4) = true := beq_iff_eq.mpr c19
                      have c19b1 : (a0 != 4) = false := bne_eq_false_iff_eq.mpr c19
                      clear c19
                      (first | rw [c19b0] | (simp only [i64_w, i32_w]; rw [c19b0]) | skip)
                      have H' := Aside0.mk H
                      clear H
                      go_wp2
                      go_meet
                      case rel => exact ⟨_, (true), (by first | rfl | (simp; done) | (simp [*]; done)), H', ⟨by have := HJ3.out; have := HJ12.out; first | omega | exact Nat.le_refl _⟩, by repeat (first | exact Drawn0.refl _ | apply Drawn0.step)⟩
                    · rw [if_neg c19] at H
                      have c19b0 : (a0 == 4) = false := beq_eq_false_iff_ne.mpr c19
                      have c19b1 : (a0 != 4) = true := bne_iff_ne.mpr c19
                      (first | rw [c19b0] | (simp only [i64_w, i32_w]; rw [c19b0]) | skip)
                      have H' := Aside0.mk H
                      clear H
                      go_wp2
                      go_meet
                      case rel => exact ⟨_, ((a0 == 5)), (by first | rfl | (simp; done) | (simp [*]; done)), H', ⟨by have := HJ3.out; have := HJ12.out; first | omega | exact Nat.le_refl _⟩, by repeat (first | exact Drawn0.refl _ | apply Drawn0.step)⟩
                  case rest =>
                    clear HC18
                    try clear c1
                    try clear c2
                    try clear p2
                    try clear c3
                    try clear c4
                    try clear c5
                    try clear c5b0
                    try clear c6
                    try clear p6
                    try clear c9
                    try clear c9b0
                    try clear c9b1
                    try clear c11
                    try clear c11b0
                    try clear c11b1
                    try clear c12
                    try clear c14
                    try clear c14b0
                    try clear c14b1
                    try clear c15
                    try clear c15b0
                    try clear c15b1
                    try clear c16
                    try clear c19
                    try clear c19b0
                    try clear c19b1
                    try clear p2
                    try clear p6
                    obtain ⟨kq, x50_17, rfl, HA, HJ17, ⟨mc17, rfl⟩⟩ := hcut
                    cases kq with
                    | zero => exact absurd HA.out (by simp [spec_Alu.j2])
                    | succ kj17 =>
                      have H := HA.out
                      clear HA
                      simp only [spec_Alu.j2] at H
                      by_cases c20 : x50_17 = true
                      · subst c20
                        have H1 : (if a0 = 4 then ((spec_Signed.f t120).bind fun t125 => ((spec_Signed.f t121).bind fun t126 => (if t125 < t126 then (some (1, true)) else (if a0 = 5 then (if t120 < t121 then (some (1, true)) else (some (0, true))) else (some (0, true)))))) else (if a0 = 5 then (if t120 < t121 then (some (1, true)) else (some (0, true))) else (some (0, true)))) = some (r1, r2) := by rw [if_pos rfl] at H; exact H
                        clear H
                        have H := H1
                        clear H1
                        by_cases c21 : a0 = 4
                        · rw [if_pos c21] at H
                          have c21b0 : (a0 == 4) = true := beq_iff_eq.mpr c21
                          have c21b1 : (a0 != 4) = false := bne_eq_false_iff_eq.mpr c21
                          clear c21
                          replace H := Option.bind_eq_some_iff.mp H
                          obtain ⟨t125, A220, H⟩ := H
                          replace H : ((spec_Signed.f t121).bind fun t126 => (if t125 < t126 then (some (1, true)) else (if a0 = 5 then (if t120 < t121 then (some (1, true)) else (some (0, true))) else (some (0, true))))) = some (r1, r2) := H
                          have A22 := Aside0.mk A220
                          clear A220
                          replace H := Option.bind_eq_some_iff.mp H
                          obtain ⟨t126, A230, H⟩ := H
                          replace H : (if t125 < t126 then (some (1, true)) else (if a0 = 5 then (if t120 < t121 then (some (1, true)) else (some (0, true))) else (some (0, true)))) = some (r1, r2) := H
                          have A23 := Aside0.mk A230
                          clear A230
                          by_cases c24 : t125 < t126
                          · rw [if_pos c24] at H
                            have c24b0 : decide (t125 < t126) = true := decide_eq_true c24
                            clear c24
                            simp only [Option.some.injEq, Prod.mk.injEq] at H
                            obtain ⟨rfl, rfl⟩ := H
                            go_wp2_with (first | (go_at_call 17; (with_reducible refine (spec_Signed.calls t120 t125 _ A22.out).mono ?_); rintro e w' ⟨rfl, ⟨nd, rfl⟩⟩) | (go_at_call 17; (with_reducible refine (spec_Signed.calls t121 t126 _ A23.out).mono ?_); rintro e w' ⟨rfl, ⟨nd, rfl⟩⟩))
                            go_ret2
                            exact ⟨by first | rfl | (simp; done) | (simp [*]; done), by repeat (first | exact Drawn0.refl _ | apply Drawn0.step)⟩
                          · rw [if_neg c24] at H
                            have c24b0 : decide (t125 < t126) = false := decide_eq_false c24
                            clear c24
                            by_cases c25 : a0 = 5
                            · rw [if_pos c25] at H
                              have c25b0 : (a0 == 5) = true := beq_iff_eq.mpr c25
                              have c25b1 : (a0 != 5) = false := bne_eq_false_iff_eq.mpr c25
                              clear c25
                              by_cases c26 : t120 < t121
                              · rw [if_pos c26] at H
                                have c26b0 : decide (t120 < t121) = true := decide_eq_true c26
                                clear c26
                                simp only [Option.some.injEq, Prod.mk.injEq] at H
                                obtain ⟨rfl, rfl⟩ := H
                                go_wp2_with (first | (go_at_call 17; (with_reducible refine (spec_Signed.calls t120 t125 _ A22.out).mono ?_); rintro e w' ⟨rfl, ⟨nd, rfl⟩⟩) | (go_at_call 17; (with_reducible refine (spec_Signed.calls t121 t126 _ A23.out).mono ?_); rintro e w' ⟨rfl, ⟨nd, rfl⟩⟩))
                                go_ret2
                                exact ⟨by first | rfl | (simp; done) | (simp [*]; done), by repeat (first | exact Drawn0.refl _ | apply Drawn0.step)⟩
                              · rw [if_neg c26] at H
                                have c26b0 : decide (t120 < t121) = false := decide_eq_false c26
                                clear c26
                                simp only [Option.some.injEq, Prod.mk.injEq] at H
                                obtain ⟨rfl, rfl⟩ := H
                                go_wp2_with (first | (go_at_call 17; (with_reducible refine (spec_Signed.calls t120 t125 _ A22.out).mono ?_); rintro e w' ⟨rfl, ⟨nd, rfl⟩⟩) | (go_at_call 17; (with_reducible refine (spec_Signed.calls t121 t126 _ A23.out).mono ?_); rintro e w' ⟨rfl, ⟨nd, rfl⟩⟩))
                                go_ret2
                                exact ⟨by first | rfl | (simp; done) | (simp [*]; done), by repeat (first | exact Drawn0.refl _ | apply Drawn0.step)⟩
                            · rw [if_neg c25] at H
                              have c25b0 : (a0 == 5) = false := beq_eq_false_iff_ne.mpr c25
                              have c25b1 : (a0 != 5) = true := bne_iff_ne.mpr c25
                              simp only [Option.some.injEq, Prod.mk.injEq] at H
                              obtain ⟨rfl, rfl⟩ := H
                              go_wp2_with (first | (go_at_call 17; (with_reducible refine (spec_Signed.calls t120 t125 _ A22.out).mono ?_); rintro e w' ⟨rfl, ⟨nd, rfl⟩⟩) | (go_at_call 17; (with_reducible refine (spec_Signed.calls t121 t126 _ A23.out).mono ?_); rintro e w' ⟨rfl, ⟨nd, rfl⟩⟩))
                              go_ret2
                              exact ⟨by first | rfl | (simp; done) | (simp [*]; done), by repeat (first | exact Drawn0.refl _ | apply Drawn0.step)⟩
                        · rw [if_neg c21] at H
                          have c21b0 : (a0 == 4) = false := beq_eq_false_iff_ne.mpr c21
                          have c21b1 : (a0 != 4) = true := bne_iff_ne.mpr c21
                          by_cases c27 : a0 = 5
                          · rw [if_pos c27] at H
                            have c27b0 : (a0 == 5) = true := beq_iff_eq.mpr c27
                            have c27b1 : (a0 != 5) = false := bne_eq_false_iff_eq.mpr c27
                            clear c27
                            by_cases c28 : t120 < t121
                            · rw [if_pos c28] at H
                              have c28b0 : decide (t120 < t121) = true := decide_eq_true c28
                              clear c28
                              simp only [Option.some.injEq, Prod.mk.injEq] at H
                              obtain ⟨rfl, rfl⟩ := H
                              go_wp2
                              go_ret2
                              exact ⟨by first | rfl | (simp; done) | (simp [*]; done), by repeat (first | exact Drawn0.refl _ | apply Drawn0.step)⟩
                            · rw [if_neg c28] at H
                              have c28b0 : decide (t120 < t121) = false := decide_eq_false c28
                              clear c28
                              simp only [Option.some.injEq, Prod.mk.injEq] at H
                              obtain ⟨rfl, rfl⟩ := H
                              go_wp2
                              go_ret2
                              exact ⟨by first | rfl | (simp; done) | (simp [*]; done), by repeat (first | exact Drawn0.refl _ | apply Drawn0.step)⟩
                          · rw [if_neg c27] at H
                            have c27b0 : (a0 == 5) = false := beq_eq_false_iff_ne.mpr c27
                            have c27b1 : (a0 != 5) = true := bne_iff_ne.mpr c27
                            simp only [Option.some.injEq, Prod.mk.injEq] at H
                            obtain ⟨rfl, rfl⟩ := H
                            go_wp2
                            go_ret2
                            exact ⟨by first | rfl | (simp; done) | (simp [*]; done), by repeat (first | exact Drawn0.refl _ | apply Drawn0.step)⟩
                      · replace c20 := Bool.eq_false_iff.mpr c20
                        subst c20
                        have H1 : (if a0 = 10 then ((spec_l1Bits.f kj17 1 t120 t121).bind fun t127 => (some (t127, true))) else (if a0 = 9 then ((spec_l1Bits.f kj17 2 t120 t121).bind fun t128 => (some (t128, true))) else (if a0 = 6 then ((spec_l1Bits.f kj17 3 t120 t121).bind fun t129 => (some (t129, true))) else (if a0 = 11 then ((spec_Word.f (wrap64 ((wrap64 ((Int.tmod t120 65536) * t121)) + (wrap64 ((Int.tmod (wrap64 ((wrap64 (Int.tdiv t120 65536)) * (Int.tmod t121 65536))) 65536) * 65536))))).bind fun t130 => (some (t130, true))) else (if a0 = 12 then ((spec_Signed.f t120).bind fun t131 => ((spec_Signed.f t121).bind fun t132 => ((spec_l1High.f t131 t132).bind fun t133 => ((spec_Word.f t133).bind fun t134 => (some (t134, true)))))) else (if a0 = 13 then ((spec_Signed.f t120).bind fun t135 => ((spec_l1High.f t135 t121).bind fun t136 => ((spec_Word.f t136).bind fun t137 => (some (t137, true))))) else (if a0 = 14 then ((spec_l1High.f t120 t121).bind fun t138 => ((spec_Word.f t138).bind fun t139 => (some (t139, true)))) else ((spec_l1Quotients.f kj17 a0 t120 t121).bind fun t140 => (some (t140, true)))))))))) = some (r1, r2) := by rw [if_neg (show ¬ (false = true) by decide)] at H; exact H
                        clear H
                        have H := H1
                        clear H1
                        by_cases c29 : a0 = 10
                        · rw [if_pos c29] at H
                          have c29b0 : (a0 == 10) = true := beq_iff_eq.mpr c29
                          have c29b1 : (a0 != 10) = false := bne_eq_false_iff_eq.mpr c29
                          clear c29
                          replace H := Option.bind_eq_some_iff.mp H
                          obtain ⟨t127, A300, H⟩ := H
                          replace H : (some (t127, true)) = some (r1, r2) := H
                          have A30 := Aside0.mk A300
                          clear A300
                          simp only [Option.some.injEq, Prod.mk.injEq] at H
                          obtain ⟨rfl, rfl⟩ := H
                          go_wp2_with (first | ((with_reducible refine gate_callee (f := 50) rfl ?_); refine goesL_ (some 73) rfl rfl Try.func50 (by kernel_rfl) rfl #[.int .i64 1, .int .i64 t120, .int .i64 t121] rfl (by (try simp only [List.map_toArray, List.map_cons, List.map_nil]); first | done | rfl | (simp only [List.length_drop, List.length_take]; rfl)) ?_; (with_reducible refine (spec_l1Bits.calls kj17 1 t120 t121 t127 _ A30.out).mono ?_); rintro e w' ⟨rfl, ⟨nd, rfl⟩⟩; refine ⟨_, rfl, ?_⟩))
                          go_ret2
                          exact ⟨by first | rfl | (simp; done) | (simp [*]; done), by repeat (first | exact Drawn0.refl _ | apply Drawn0.step)⟩
                        · rw [if_neg c29] at H
                          have c29b0 : (a0 == 10) = false := beq_eq_false_iff_ne.mpr c29
                          have c29b1 : (a0 != 10) = true := bne_iff_ne.mpr c29
                          by_cases c31 : a0 = 9
                          · rw [if_pos c31] at H
                            have c31b0 : (a0 == 9) = true := beq_iff_eq.mpr c31
                            have c31b1 : (a0 != 9) = false := bne_eq_false_iff_eq.mpr c31
                            clear c31
                            replace H := Option.bind_eq_some_iff.mp H
                            obtain ⟨t128, A320, H⟩ := H
                            replace H : (some (t128, true)) = some (r1, r2) := H
                            have A32 := Aside0.mk A320
                            clear A320
                            simp only [Option.some.injEq, Prod.mk.injEq] at H
                            obtain ⟨rfl, rfl⟩ := H
                            go_wp2_with (first | ((with_reducible refine gate_callee (f := 50) rfl ?_); refine goesL_ (some 78) rfl rfl Try.func50 (by kernel_rfl) rfl #[.int .i64 2, .int .i64 t120, .int .i64 t121] rfl (by (try simp only [List.map_toArray, List.map_cons, List.map_nil]); first | done | rfl | (simp only [List.length_drop, List.length_take]; rfl)) ?_; (with_reducible refine (spec_l1Bits.calls kj17 2 t120 t121 t128 _ A32.out).mono ?_); rintro e w' ⟨rfl, ⟨nd, rfl⟩⟩; refine ⟨_, rfl, ?_⟩))
                            go_ret2
                            exact ⟨by first | rfl | (simp; done) | (simp [*]; done), by repeat (first | exact Drawn0.refl _ | apply Drawn0.step)⟩
                          · rw [if_neg c31] at H
                            have c31b0 : (a0 == 9) = false := beq_eq_false_iff_ne.mpr c31
                            have c31b1 : (a0 != 9) = true := bne_iff_ne.mpr c31
                            by_cases c33 : a0 = 6
                            · rw [if_pos c33] at H
                              have c33b0 : (a0 == 6) = true := beq_iff_eq.mpr c33
                              have c33b1 : (a0 != 6) = false := bne_eq_false_iff_eq.mpr c33
                              clear c33
                              replace H := Option.bind_eq_some_iff.mp H
                              obtain ⟨t129, A340, H⟩ := H
                              replace H : (some (t129, true)) = some (r1, r2) := H
                              have A34 := Aside0.mk A340
                              clear A340
                              simp only [Option.some.injEq, Prod.mk.injEq] at H
                              obtain ⟨rfl, rfl⟩ := H
                              go_wp2_with (first | ((with_reducible refine gate_callee (f := 50) rfl ?_); refine goesL_ (some 83) rfl rfl Try.func50 (by kernel_rfl) rfl #[.int .i64 3, .int .i64 t120, .int .i64 t121] rfl (by (try simp only [List.map_toArray, List.map_cons, List.map_nil]); first | done | rfl | (simp only [List.length_drop, List.length_take]; rfl)) ?_; (with_reducible refine (spec_l1Bits.calls kj17 3 t120 t121 t129 _ A34.out).mono ?_); rintro e w' ⟨rfl, ⟨nd, rfl⟩⟩; refine ⟨_, rfl, ?_⟩))
                              go_ret2
                              exact ⟨by first | rfl | (simp; done) | (simp [*]; done), by repeat (first | exact Drawn0.refl _ | apply Drawn0.step)⟩
                            · rw [if_neg c33] at H
                              have c33b0 : (a0 == 6) = false := beq_eq_false_iff_ne.mpr c33
                              have c33b1 : (a0 != 6) = true := bne_iff_ne.mpr c33
                              by_cases c35 : a0 = 11
                              · rw [if_pos c35] at H
                                have c35b0 : (a0 == 11) = true := beq_iff_eq.mpr c35
                                have c35b1 : (a0 != 11) = false := bne_eq_false_iff_eq.mpr c35
                                clear c35
                                replace H := Option.bind_eq_some_iff.mp H
                                obtain ⟨t130, A360, H⟩ := H
                                replace H : (some (t130, true)) = some (r1, r2) := H
                                have A36 := Aside0.mk A360
                                clear A360
                                simp only [Option.some.injEq, Prod.mk.injEq] at H
                                obtain ⟨rfl, rfl⟩ := H
                                go_wp2_with (first | ((with_reducible refine gate_callee (f := 15) rfl ?_); refine goesL_ (some 98) rfl rfl Try.func15 (by kernel_rfl) rfl #[.int .i64 (wrap64 ((wrap64 ((Int.tmod t120 65536) * t121)) + (wrap64 ((Int.tmod (wrap64 ((wrap64 (Int.tdiv t120 65536)) * (Int.tmod t121 65536))) 65536) * 65536))))] rfl (by (try simp only [List.map_toArray, List.map_cons, List.map_nil]); first | done | rfl | (simp only [List.length_drop, List.length_take]; rfl)) ?_; (with_reducible refine (spec_Word.calls (wrap64 ((wrap64 ((Int.tmod t120 65536) * t121)) + (wrap64 ((Int.tmod (wrap64 ((wrap64 (Int.tdiv t120 65536)) * (Int.tmod t121 65536))) 65536) * 65536)))) t130 _ A36.out).mono ?_); rintro e w' ⟨rfl, ⟨nd, rfl⟩⟩; refine ⟨_, rfl, ?_⟩))
                                go_ret2
                                exact ⟨by first | rfl | (simp; done) | (simp [*]; done), by repeat (first | exact Drawn0.refl _ | apply Drawn0.step)⟩
                              · rw [if_neg c35] at H
                                have c35b0 : (a0 == 11) = false := beq_eq_false_iff_ne.mpr c35
                                have c35b1 : (a0 != 11) = true := bne_iff_ne.mpr c35
                                by_cases c37 : a0 = 12
                                · rw [if_pos c37] at H
                                  have c37b0 : (a0 == 12) = true := beq_iff_eq.mpr c37
                                  have c37b1 : (a0 != 12) = false := bne_eq_false_iff_eq.mpr c37
                                  clear c37
                                  replace H := Option.bind_eq_some_iff.mp H
                                  obtain ⟨t131, A380, H⟩ := H
                                  replace H : ((spec_Signed.f t121).bind fun t132 => ((spec_l1High.f t131 t132).bind fun t133 => ((spec_Word.f t133).bind fun t134 => (some (t134, true))))) = some (r1, r2) := H
                                  have A38 := Aside0.mk A380
                                  clear A380
                                  replace H := Option.bind_eq_some_iff.mp H
                                  obtain ⟨t132, A390, H⟩ := H
                                  replace H : ((spec_l1High.f t131 t132).bind fun t133 => ((spec_Word.f t133).bind fun t134 => (some (t134, true)))) = some (r1, r2) := H
                                  have A39 := Aside0.mk A390
                                  clear A390
                                  replace H := Option.bind_eq_some_iff.mp H
                                  obtain ⟨t133, A400, H⟩ := H
                                  replace H : ((spec_Word.f t133).bind fun t134 => (some (t134, true))) = some (r1, r2) := H
                                  have A40 := Aside0.mk A400
                                  clear A400
                                  replace H := Option.bind_eq_some_iff.mp H
                                  obtain ⟨t134, A410, H⟩ := H
                                  replace H : (some (t134, true)) = some (r1, r2) := H
                                  have A41 := Aside0.mk A410
                                  clear A410
                                  simp only [Option.some.injEq, Prod.mk.injEq] at H
                                  obtain ⟨rfl, rfl⟩ := H
                                  go_wp2_with (first | ((with_reducible refine gate_callee (f := 17) rfl ?_); refine goesL_ (some 102) rfl rfl Try.func17 (by kernel_rfl) rfl #[.int .i64 t120] rfl (by (try simp only [List.map_toArray, List.map_cons, List.map_nil]); first | done | rfl | (simp only [List.length_drop, List.length_take]; rfl)) ?_; (with_reducible refine (spec_Signed.calls t120 t131 _ A38.out).mono ?_); rintro e w' ⟨rfl, ⟨nd, rfl⟩⟩; refine ⟨_, rfl, ?_⟩) | ((with_reducible refine gate_callee (f := 17) rfl ?_); refine goesL_ (some 104) rfl rfl Try.func17 (by kernel_rfl) rfl #[.int .i64 t121] rfl (by (try simp only [List.map_toArray, List.map_cons, List.map_nil]); first | done | rfl | (simp only [List.length_drop, List.length_take]; rfl)) ?_; (with_reducible refine (spec_Signed.calls t121 t132 _ A39.out).mono ?_); rintro e w' ⟨rfl, ⟨nd, rfl⟩⟩; refine ⟨_, rfl, ?_⟩) | ((with_reducible refine gate_callee (f := 51) rfl ?_); refine goesL_ (some 105) rfl rfl Try.func51 (by kernel_rfl) rfl #[.int .i64 t131, .int .i64 t132] rfl (by (try simp only [List.map_toArray, List.map_cons, List.map_nil]); first | done | rfl | (simp only [List.length_drop, List.length_take]; rfl)) ?_; (with_reducible refine (spec_l1High.calls t131 t132 t133 _ A40.out).mono ?_); rintro e w' ⟨rfl, ⟨nd, rfl⟩⟩; refine ⟨_, rfl, ?_⟩) | ((with_reducible refine gate_callee (f := 15) rfl ?_); refine goesL_ (some 106) rfl rfl Try.func15 (by kernel_rfl) rfl #[.int .i64 t133] rfl (by (try simp only [List.map_toArray, List.map_cons, List.map_nil]); first | done | rfl | (simp only [List.length_drop, List.length_take]; rfl)) ?_; (with_reducible refine (spec_Word.calls t133 t134 _ A41.out).mono ?_); rintro e w' ⟨rfl, ⟨nd, rfl⟩⟩; refine ⟨_, rfl, ?_⟩))
                                  go_ret2
                                  exact ⟨by first | rfl | (simp; done) | (simp [*]; done), by repeat (first | exact Drawn0.refl _ | apply Drawn0.step)⟩
                                · rw [if_neg c37] at H
                                  have c37b0 : (a0 == 12) = false := beq_eq_false_iff_ne.mpr c37
                                  have c37b1 : (a0 != 12) = true := bne_iff_ne.mpr c37
                                  by_cases c42 : a0 = 13
                                  · rw [if_pos c42] at H
                                    have c42b0 : (a0 == 13) = true := beq_iff_eq.mpr c42
                                    have c42b1 : (a0 != 13) = false := bne_eq_false_iff_eq.mpr c42
                                    clear c42
                                    replace H := Option.bind_eq_some_iff.mp H
                                    obtain ⟨t135, A430, H⟩ := H
                                    replace H : ((spec_l1High.f t135 t121).bind fun t136 => ((spec_Word.f t136).bind fun t137 => (some (t137, true)))) = some (r1, r2) := H
                                    have A43 := Aside0.mk A430
                                    clear A430
                                    replace H := Option.bind_eq_some_iff.mp H
                                    obtain ⟨t136, A440, H⟩ := H
                                    replace H : ((spec_Word.f t136).bind fun t137 => (some (t137, true))) = some (r1, r2) := H
                                    have A44 := Aside0.mk A440
                                    clear A440
                                    replace H := Option.bind_eq_some_iff.mp H
                                    obtain ⟨t137, A450, H⟩ := H
                                    replace H : (some (t137, true)) = some (r1, r2) := H
                                    have A45 := Aside0.mk A450
                                    clear A450
                                    simp only [Option.some.injEq, Prod.mk.injEq] at H
                                    obtain ⟨rfl, rfl⟩ := H
                                    go_wp2_with (first | ((with_reducible refine gate_callee (f := 17) rfl ?_); refine goesL_ (some 110) rfl rfl Try.func17 (by kernel_rfl) rfl #[.int .i64 t120] rfl (by (try simp only [List.map_toArray, List.map_cons, List.map_nil]); first | done | rfl | (simp only [List.length_drop, List.length_take]; rfl)) ?_; (with_reducible refine (spec_Signed.calls t120 t135 _ A43.out).mono ?_); rintro e w' ⟨rfl, ⟨nd, rfl⟩⟩; refine ⟨_, rfl, ?_⟩) | ((with_reducible refine gate_callee (f := 51) rfl ?_); refine goesL_ (some 112) rfl rfl Try.func51 (by kernel_rfl) rfl #[.int .i64 t135, .int .i64 t121] rfl (by (try simp only [List.map_toArray, List.map_cons, List.map_nil]); first | done | rfl | (simp only [List.length_drop, List.length_take]; rfl)) ?_; (with_reducible refine (spec_l1High.calls t135 t121 t136 _ A44.out).mono ?_); rintro e w' ⟨rfl, ⟨nd, rfl⟩⟩; refine ⟨_, rfl, ?_⟩) | ((with_reducible refine gate_callee (f := 15) rfl ?_); refine goesL_ (some 113) rfl rfl Try.func15 (by kernel_rfl) rfl #[.int .i64 t136] rfl (by (try simp only [List.map_toArray, List.map_cons, List.map_nil]); first | done | rfl | (simp only [List.length_drop, List.length_take]; rfl)) ?_; (with_reducible refine (spec_Word.calls t136 t137 _ A45.out).mono ?_); rintro e w' ⟨rfl, ⟨nd, rfl⟩⟩; refine ⟨_, rfl, ?_⟩))
                                    go_ret2
                                    exact ⟨by first | rfl | (simp; done) | (simp [*]; done), by repeat (first | exact Drawn0.refl _ | apply Drawn0.step)⟩
                                  · rw [if_neg c42] at H
                                    have c42b0 : (a0 == 13) = false := beq_eq_false_iff_ne.mpr c42
                                    have c42b1 : (a0 != 13) = true := bne_iff_ne.mpr c42
                                    by_cases c46 : a0 = 14
                                    · rw [if_pos c46] at H
                                      have c46b0 : (a0 == 14) = true := beq_iff_eq.mpr c46
                                      have c46b1 : (a0 != 14) = false := bne_eq_false_iff_eq.mpr c46
                                      clear c46
                                      replace H := Option.bind_eq_some_iff.mp H
                                      obtain ⟨t138, A470, H⟩ := H
                                      replace H : ((spec_Word.f t138).bind fun t139 => (some (t139, true))) = some (r1, r2) := H
                                      have A47 := Aside0.mk A470
                                      clear A470
                                      replace H := Option.bind_eq_some_iff.mp H
                                      obtain ⟨t139, A480, H⟩ := H
                                      replace H : (some (t139, true)) = some (r1, r2) := H
                                      have A48 := Aside0.mk A480
                                      clear A480
                                      simp only [Option.some.injEq, Prod.mk.injEq] at H
                                      obtain ⟨rfl, rfl⟩ := H
                                      go_wp2_with (first | ((with_reducible refine gate_callee (f := 51) rfl ?_); refine goesL_ (some 118) rfl rfl Try.func51 (by kernel_rfl) rfl #[.int .i64 t120, .int .i64 t121] rfl (by (try simp only [List.map_toArray, List.map_cons, List.map_nil]); first | done | rfl | (simp only [List.length_drop, List.length_take]; rfl)) ?_; (with_reducible refine (spec_l1High.calls t120 t121 t138 _ A47.out).mono ?_); rintro e w' ⟨rfl, ⟨nd, rfl⟩⟩; refine ⟨_, rfl, ?_⟩) | ((with_reducible refine gate_callee (f := 15) rfl ?_); refine goesL_ (some 119) rfl rfl Try.func15 (by kernel_rfl) rfl #[.int .i64 t138] rfl (by (try simp only [List.map_toArray, List.map_cons, List.map_nil]); first | done | rfl | (simp only [List.length_drop, List.length_take]; rfl)) ?_; (with_reducible refine (spec_Word.calls t138 t139 _ A48.out).mono ?_); rintro e w' ⟨rfl, ⟨nd, rfl⟩⟩; refine ⟨_, rfl, ?_⟩))
                                      go_ret2
                                      exact ⟨by first | rfl | (simp; done) | (simp [*]; done), by repeat (first | exact Drawn0.refl _ | apply Drawn0.step)⟩
                                    · rw [if_neg c46] at H
                                      have c46b0 : (a0 == 14) = false := beq_eq_false_iff_ne.mpr c46
                                      have c46b1 : (a0 != 14) = true := bne_iff_ne.mpr c46
                                      replace H := Option.bind_eq_some_iff.mp H
                                      obtain ⟨t140, A490, H⟩ := H
                                      replace H : (some (t140, true)) = some (r1, r2) := H
                                      have A49 := Aside0.mk A490
                                      clear A490
                                      simp only [Option.some.injEq, Prod.mk.injEq] at H
                                      obtain ⟨rfl, rfl⟩ := H
                                      go_wp2_with (first | ((with_reducible refine gate_callee (f := 52) rfl ?_); refine goesL_ (some 123) rfl rfl Try.func52 (by kernel_rfl) rfl #[.int .i64 a0, .int .i64 t120, .int .i64 t121] rfl (by (try simp only [List.map_toArray, List.map_cons, List.map_nil]); first | done | rfl | (simp only [List.length_drop, List.length_take]; rfl)) ?_; (with_reducible refine (spec_l1Quotients.calls kj17 a0 t120 t121 t140 _ A49.out).mono ?_); rintro e w' ⟨rfl, ⟨nd, rfl⟩⟩; refine ⟨_, rfl, ?_⟩))
                                      go_ret2
                                      exact ⟨by first | rfl | (simp; done) | (simp [*]; done), by repeat (first | exact Drawn0.refl _ | apply Drawn0.step)⟩

/-! ### impl_truth: function 53 -/
def impl_truth.f (a0 : Bool) : Option (Int) := if a0 = true then (some 1) else (some 0)
set_option maxHeartbeats 8000000 in
set_option maxRecDepth 100000 in
theorem impl_truth.calls (a0 : Bool) (r : Int) (w : World) (h : impl_truth.f a0 = some r) :
    Calls Try.prog 53 #[.bool a0] w fun e w' => e = .returned (.int .i64 r) ∧ Drawn0 w w' := by
  have H : (if a0 = true then (some 1) else (some 0)) = some r := h
  clear h
  by_cases c2 : a0 = true
  · subst c2
    have H1 : (some 1) = some r := by rw [if_pos rfl] at H; exact H
    clear H
    have H := H1
    clear H1
    obtain rfl := Option.some.inj H
    go_enter Try.func53, Try.ntmps53
    go_wp2
    go_ret
    exact ⟨by first | rfl | (simp; done) | (simp [*]; done), by repeat (first | exact Drawn0.refl _ | apply Drawn0.step)⟩
  · replace c2 := Bool.eq_false_iff.mpr c2
    subst c2
    have H1 : (some 0) = some r := by rw [if_neg (show ¬ (false = true) by decide)] at H; exact H
    clear H
    have H := H1
    clear H1
    obtain rfl := Option.some.inj H
    go_enter Try.func53, Try.ntmps53
    go_wp2
    go_ret
    exact ⟨by first | rfl | (simp; done) | (simp [*]; done), by repeat (first | exact Drawn0.refl _ | apply Drawn0.step)⟩

/-! ### bits_Mul64: function 54 -/
def bits_Mul64.f (a0 : Int) (a1 : Int) : Option (Int × Int) := some (IntKind.u64.wrap ((IntKind.u64.wrap ((IntKind.u64.wrap ((a0 / 4294967296) * (a1 / 4294967296))) + ((IntKind.u64.wrap ((IntKind.u64.wrap ((a0 / 4294967296) * (Go.bits .and .u64 a1 4294967295))) + ((IntKind.u64.wrap ((Go.bits .and .u64 a0 4294967295) * (Go.bits .and .u64 a1 4294967295))) / 4294967296))) / 4294967296))) + ((IntKind.u64.wrap ((Go.bits .and .u64 (IntKind.u64.wrap ((IntKind.u64.wrap ((a0 / 4294967296) * (Go.bits .and .u64 a1 4294967295))) + ((IntKind.u64.wrap ((Go.bits .and .u64 a0 4294967295) * (Go.bits .and .u64 a1 4294967295))) / 4294967296))) 4294967295) + (IntKind.u64.wrap ((Go.bits .and .u64 a0 4294967295) * (a1 / 4294967296))))) / 4294967296)), IntKind.u64.wrap (a0 * a1))
set_option maxHeartbeats 8000000 in
set_option maxRecDepth 100000 in
theorem bits_Mul64.calls (a0 : Int) (a1 : Int) (r1 : Int) (r2 : Int) (w : World) (h : bits_Mul64.f a0 a1 = some (r1, r2)) :
    Calls Try.prog 54 #[.int .u64 a0, .int .u64 a1] w fun e w' => e = .returned (.tuple #[.int .u64 r1, .int .u64 r2]) ∧ Drawn0 w w' := by
  have H : (some (IntKind.u64.wrap ((IntKind.u64.wrap ((IntKind.u64.wrap ((a0 / 4294967296) * (a1 / 4294967296))) + ((IntKind.u64.wrap ((IntKind.u64.wrap ((a0 / 4294967296) * (Go.bits .and .u64 a1 4294967295))) + ((IntKind.u64.wrap ((Go.bits .and .u64 a0 4294967295) * (Go.bits .and .u64 a1 4294967295))) / 4294967296))) / 4294967296))) + ((IntKind.u64.wrap ((Go.bits .and .u64 (IntKind.u64.wrap ((IntKind.u64.wrap ((a0 / 4294967296) * (Go.bits .and .u64 a1 4294967295))) + ((IntKind.u64.wrap ((Go.bits .and .u64 a0 4294967295) * (Go.bits .and .u64 a1 4294967295))) / 4294967296))) 4294967295) + (IntKind.u64.wrap ((Go.bits .and .u64 a0 4294967295) * (a1 / 4294967296))))) / 4294967296)), IntKind.u64.wrap (a0 * a1))) = some (r1, r2) := h
  clear h
  simp only [Option.some.injEq, Prod.mk.injEq] at H
  obtain ⟨rfl, rfl⟩ := H
  go_enter Try.func54, Try.ntmps54
  go_wp2
  go_ret2
  exact ⟨by first | rfl | (simp; done) | (simp [*]; done), by repeat (first | exact Drawn0.refl _ | apply Drawn0.step)⟩

end Go.Proofs.Ytgbpofhabhabcaa.PFnAlu
