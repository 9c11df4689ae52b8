-- Lines for this claim, written by the session's own program wip/myprint.py. Not trusted: Lean checks them.
import Derived.Test.YtgbpofhabhabcaaPFnAlux0
namespace Go.Proofs.Ytgbpofhabhabcaa.PFnAlu
open Go.RowKit Go.Proofs.YtgbpofhabhabcaaW.PrintWords Go.Proofs.YtgbpofhabhabcaaW.PrintLast Go.Proofs.YtgbpofhabhabcaaW.PrintMore
attribute [local go_sem] max2_int min2_int max_two min_two max_three min_three max_four min_four   -- for this text's walks alone
set_option linter.unusedVariables false
set_option linter.unusedSimpArgs false

/-! ### impl_Word: function 16 -/
def impl_Word.f (a0 : Int) : Option (Int) := some (Go.bits .and .i64 a0 4294967295)
set_option maxHeartbeats 8000000 in
set_option maxRecDepth 100000 in
theorem impl_Word.calls (a0 : Int) (r : Int) (w : World) (h : impl_Word.f a0 = some r) :
    Calls Try.prog 16 #[.int .i64 a0] w fun e w' => e = .returned (.int .i64 r) ∧ Drawn0 w w' := by
  have H : (some (Go.bits .and .i64 a0 4294967295)) = some r := h
  clear h
  obtain rfl := Option.some.inj H
  go_enter Try.func16, Try.ntmps16
  go_wp2
  go_ret
  exact ⟨by first | rfl | (simp; done) | (simp [*]; done), by repeat (first | exact Drawn0.refl _ | apply Drawn0.step)⟩

/-! ### impl_Signed: function 18 -/
def impl_Signed.f (a0 : Int) : Option (Int) := some (wrap64 (wrap32 ((a0) % 4294967296)))
set_option maxHeartbeats 8000000 in
set_option maxRecDepth 100000 in
theorem impl_Signed.calls (a0 : Int) (r : Int) (w : World) (h : impl_Signed.f a0 = some r) :
    Calls Try.prog 18 #[.int .i64 a0] w fun e w' => e = .returned (.int .i64 r) ∧ Drawn0 w w' := by
  have H : (some (wrap64 (wrap32 ((a0) % 4294967296)))) = some r := h
  clear h
  obtain rfl := Option.some.inj H
  go_enter Try.func18, Try.ntmps18
  go_wp2
  go_ret
  exact ⟨by first | rfl | (simp; done) | (simp [*]; done), by repeat (first | exact Drawn0.refl _ | apply Drawn0.step)⟩

/-! ### spec_Word: function 15 -/
def spec_Word.f (a0 : Int) : Option (Int) := some (Int.tmod (wrap64 ((Int.tmod a0 4294967296) + 4294967296)) 4294967296)
set_option maxHeartbeats 8000000 in
set_option maxRecDepth 100000 in
theorem spec_Word.calls (a0 : Int) (r : Int) (w : World) (h : spec_Word.f a0 = some r) :
    Calls Try.prog 15 #[.int .i64 a0] w fun e w' => e = .returned (.int .i64 r) ∧ Drawn0 w w' := by
  have H : (some (Int.tmod (wrap64 ((Int.tmod a0 4294967296) + 4294967296)) 4294967296)) = some r := h
  clear h
  obtain rfl := Option.some.inj H
  go_enter Try.func15, Try.ntmps15
  go_wp2
  go_ret
  exact ⟨by first | rfl | (simp; done) | (simp [*]; done), by repeat (first | exact Drawn0.refl _ | apply Drawn0.step)⟩

/-! ### spec_Signed: function 17 -/
def spec_Signed.f (a0 : Int) : Option (Int) := (spec_Word.f a0).bind fun t101 => (if t101 ≥ 2147483648 then (some (wrap64 (t101 - 4294967296))) else (some t101))
set_option maxHeartbeats 8000000 in
set_option maxRecDepth 100000 in
theorem spec_Signed.calls (a0 : Int) (r : Int) (w : World) (h : spec_Signed.f a0 = some r) :
    Calls Try.prog 17 #[.int .i64 a0] w fun e w' => e = .returned (.int .i64 r) ∧ Drawn0 w w' := by
  have H : ((spec_Word.f a0).bind fun t101 => (if t101 ≥ 2147483648 then (some (wrap64 (t101 - 4294967296))) else (some t101))) = some r := h
  clear h
  replace H := Option.bind_eq_some_iff.mp H
  obtain ⟨t101, A20, H⟩ := H
  replace H : (if t101 ≥ 2147483648 then (some (wrap64 (t101 - 4294967296))) else (some t101)) = some r := H
  have A2 := Aside0.mk A20
  clear A20
  by_cases c3 : t101 ≥ 2147483648
  · rw [if_pos c3] at H
    have c3b0 : decide (2147483648 ≤ t101) = true := decide_eq_true c3
    clear c3
    obtain rfl := Option.some.inj H
    go_enter Try.func17, Try.ntmps17
    go_wp2_with (first | ((with_reducible refine gate_callee (f := 15) rfl ?_); refine goesL_ (some 5) rfl rfl Try.func15 (by kernel_rfl) rfl #[.int .i64 a0] rfl (by (try simp only [List.map_toArray, List.map_cons, List.map_nil]); first | done | rfl | (simp only [List.length_drop, List.length_take]; rfl)) ?_; (with_reducible refine (spec_Word.calls a0 t101 _ A2.out).mono ?_); rintro e w' ⟨rfl, ⟨nd, rfl⟩⟩; refine ⟨_, rfl, ?_⟩))
    go_ret
    exact ⟨by first | rfl | (simp; done) | (simp [*]; done), by repeat (first | exact Drawn0.refl _ | apply Drawn0.step)⟩
  · rw [if_neg c3] at H
    have c3b0 : decide (2147483648 ≤ t101) = false := decide_eq_false c3
    clear c3
    obtain rfl := Option.some.inj H
    go_enter Try.func17, Try.ntmps17
    go_wp2_with (first | ((with_reducible refine gate_callee (f := 15) rfl ?_); refine goesL_ (some 5) rfl rfl Try.func15 (by kernel_rfl) rfl #[.int .i64 a0] rfl (by (try simp only [List.map_toArray, List.map_cons, List.map_nil]); first | done | rfl | (simp only [List.length_drop, List.length_take]; rfl)) ?_; (with_reducible refine (spec_Word.calls a0 t101 _ A2.out).mono ?_); rintro e w' ⟨rfl, ⟨nd, rfl⟩⟩; refine ⟨_, rfl, ?_⟩))
    go_ret
    exact ⟨by first | rfl | (simp; done) | (simp [*]; done), by repeat (first | exact Drawn0.refl _ | apply Drawn0.step)⟩

/-! ### spec_l1Power: function 39 -/
def spec_l1Power.l0 : Nat → Int → Int → Int → Option (Int)
  | 0, _, _, _ => none
  | k + 1, x0, x3, x4 => if x4 < x0 then (spec_l1Power.l0 k x0 (wrap64 (x3 * 2)) (wrap64 (x4 + 1))) else (some x3)
def spec_l1Power.f (k : Nat) (a0 : Int) : Option (Int) := spec_l1Power.l0 k a0 1 0
theorem spec_l1Power.mono_l : ∀ k, (∀ y0 y1 y2, LeO (spec_l1Power.l0 k y0 y1 y2) (spec_l1Power.l0 (k + 1) y0 y1 y2))
  | 0 => fun _ _ _ r h => by simp [spec_l1Power.l0] at h
  | k + 1 => by
    have ih0 := spec_l1Power.mono_l k
    · intro y0 y1 y2
      unfold spec_l1Power.l0
      repeat' first
      | (with_reducible exact ih0 _ _ _)
      | (with_reducible exact LeO.refl _)
      | (with_reducible exact LeO.none _)
      | (with_reducible refine LeO.ite ?_ ?_)
      | (with_reducible refine LeO.bind ?_ (fun _ => ?_))
      | exact ih0 _ _ _
      | exact LeO.none _
      | refine LeO.ite ?_ ?_
      | refine LeO.bind ?_ (fun _ => ?_)
theorem spec_l1Power.mono : ∀ a0 k, LeO (spec_l1Power.f k a0) (spec_l1Power.f (k + 1) a0) := by
  intro a0 k
  have ih0 := spec_l1Power.mono_l k
  unfold spec_l1Power.f
  repeat' first
      | (with_reducible exact ih0 _ _ _)
      | (with_reducible exact LeO.refl _)
      | (with_reducible exact LeO.none _)
      | (with_reducible refine LeO.ite ?_ ?_)
      | (with_reducible refine LeO.bind ?_ (fun _ => ?_))
      | exact ih0 _ _ _
      | exact LeO.none _
      | refine LeO.ite ?_ ?_
      | refine LeO.bind ?_ (fun _ => ?_)
set_option maxHeartbeats 8000000 in
set_option maxRecDepth 100000 in
theorem spec_l1Power.calls (k : Nat) (a0 : Int) (r : Int) (w : World) (h : spec_l1Power.f k a0 = some r) :
    Calls Try.prog 39 #[.int .i64 a0] w fun e w' => e = .returned (.int .i64 r) ∧ Drawn0 w w' := by
  have H : (spec_l1Power.l0 k a0 1 0) = some r := h
  clear h
  have H' := Aside0.mk H
  clear H
  go_enter Try.func39, Try.ntmps39
  go_wp2
  go_loopg [3, 4] k (fun kq v3 v4 w' => ∃ (x3_1 : Int) (x4_1 : Int), v3 = .int .i64 x3_1 ∧ v4 = .int .i64 x4_1 ∧ Aside0 (spec_l1Power.l0 kq a0 x3_1 x4_1 = some r) ∧ Aside0 (kq ≤ k) ∧ Drawn0 w w')
  case atStart => exact ⟨(1), (0), (by first | rfl | (simp; done) | (simp [*]; done)), (by first | rfl | (simp; done) | (simp [*]; done)), H', ⟨Nat.le_refl _⟩, by repeat (first | exact Drawn0.refl _ | apply Drawn0.step)⟩
  case round =>
    clear H'
    obtain ⟨x3_1, x4_1, rfl, rfl, HA, HK1, ⟨m1, rfl⟩⟩ := hrel
    cases gk with
    | zero => exact absurd HA.out (by simp [spec_l1Power.l0])
    | succ k1 =>
      have H := HA.out
      clear HA
      simp only [spec_l1Power.l0] at H
      by_cases c2 : x4_1 < a0
      · rw [if_pos c2] at H
        have c2b0 : decide (x4_1 < a0) = true := decide_eq_true c2
        clear c2
        have H' := Aside0.mk H
        clear H
        go_wp2
        go_roundg k1
        case measure => have := HK1.out; omega
        case rel => exact ⟨(wrap64 (x3_1 * 2)), (wrap64 (x4_1 + 1)), (by first | rfl | (simp; done) | (simp [*]; done)), (by first | rfl | (simp; done) | (simp [*]; done)), H', ⟨by have := HK1.out; omega⟩, by repeat (first | exact Drawn0.refl _ | apply Drawn0.step)⟩
      · rw [if_neg c2] at H
        have c2b0 : decide (x4_1 < a0) = false := decide_eq_false c2
        clear c2
        obtain rfl := Option.some.inj H
        go_wp2
        go_ret
        exact ⟨by first | rfl | (simp; done) | (simp [*]; done), by repeat (first | exact Drawn0.refl _ | apply Drawn0.step)⟩

/-! ### spec_l1Floor: function 71 -/
def spec_l1Floor.f (a0 : Int) (a1 : Int) : Option (Int) := if a1 = 0 then (none) else (if (Int.tmod a0 a1) < 0 then (some (wrap64 ((wrap64 (Int.tdiv a0 a1)) - 1))) else (some (wrap64 (Int.tdiv a0 a1))))
set_option maxHeartbeats 8000000 in
set_option maxRecDepth 100000 in
theorem spec_l1Floor.calls (a0 : Int) (a1 : Int) (r : Int) (w : World) (h : spec_l1Floor.f a0 a1 = some r) :
    Calls Try.prog 71 #[.int .i64 a0, .int .i64 a1] w fun e w' => e = .returned (.int .i64 r) ∧ Drawn0 w w' := by
  have H : (if a1 = 0 then (none) else (if (Int.tmod a0 a1) < 0 then (some (wrap64 ((wrap64 (Int.tdiv a0 a1)) - 1))) else (some (wrap64 (Int.tdiv a0 a1))))) = some r := h
  clear h
  by_cases c3 : a1 = 0
  · rw [if_pos c3] at H
    exact absurd H (by simp)
  · rw [if_neg c3] at H
    have c3b0 : (a1 == 0) = false := beq_eq_false_iff_ne.mpr c3
    have c3b1 : (a1 != 0) = true := bne_iff_ne.mpr c3
    by_cases c4 : (Int.tmod a0 a1) < 0
    · rw [if_pos c4] at H
      have c4b0 : decide ((Int.tmod a0 a1) < 0) = true := decide_eq_true c4
      clear c4
      obtain rfl := Option.some.inj H
      go_enter Try.func71, Try.ntmps71
      go_wp2
      go_ret
      exact ⟨by first | rfl | (simp; done) | (simp [*]; done), by repeat (first | exact Drawn0.refl _ | apply Drawn0.step)⟩
    · rw [if_neg c4] at H
      have c4b0 : decide ((Int.tmod a0 a1) < 0) = false := decide_eq_false c4
      clear c4
      obtain rfl := Option.some.inj H
      go_enter Try.func71, Try.ntmps71
      go_wp2
      go_ret
      exact ⟨by first | rfl | (simp; done) | (simp [*]; done), by repeat (first | exact Drawn0.refl _ | apply Drawn0.step)⟩

/-! ### spec_l1Shift: function 49 -/
def spec_l1Shift.f (k : Nat) (a0 : Int) (a1 : Int) (a2 : Int) : Option (Int) := if a0 = 3 then ((spec_l1Power.f k (wrap64 (32 - a2))).bind fun t102 => (if t102 = 0 then (none) else ((spec_l1Power.f k a2).bind fun t103 => (some (wrap64 ((Int.tmod a1 t102) * t103)))))) else (if a0 = 7 then ((spec_l1Power.f k a2).bind fun t104 => (if t104 = 0 then (none) else (some (wrap64 (Int.tdiv a1 t104))))) else ((spec_Signed.f a1).bind fun t105 => ((spec_l1Power.f k a2).bind fun t106 => ((spec_l1Floor.f t105 t106).bind fun t107 => ((spec_Word.f t107).bind fun t108 => (some t108))))))
theorem spec_l1Shift.mono : ∀ a0 a1 a2 k, LeO (spec_l1Shift.f k a0 a1 a2) (spec_l1Shift.f (k + 1) a0 a1 a2) := by
  intro a0 a1 a2 k
  unfold spec_l1Shift.f
  repeat' first
      | (with_reducible exact spec_l1Power.mono _ _)
      | (with_reducible exact LeO.refl _)
      | (with_reducible exact LeO.none _)
      | (with_reducible refine LeO.ite ?_ ?_)
      | (with_reducible refine LeO.bind ?_ (fun _ => ?_))
      | exact spec_l1Power.mono _ _
      | exact LeO.none _
      | refine LeO.ite ?_ ?_
      | refine LeO.bind ?_ (fun _ => ?_)
set_option maxHeartbeats 8000000 in
set_option maxRecDepth 100000 in
theorem spec_l1Shift.calls (k : Nat) (a0 : Int) (a1 : Int) (a2 : Int) (r : Int) (w : World) (h : spec_l1Shift.f k a0 a1 a2 = some r) :
    Calls Try.prog 49 #[.int .i64 a0, .int .i64 a1, .int .i64 a2] w fun e w' => e = .returned (.int .i64 r) ∧ Drawn0 w w' := by
  have H : (if a0 = 3 then ((spec_l1Power.f k (wrap64 (32 - a2))).bind fun t102 => (if t102 = 0 then (none) else ((spec_l1Power.f k a2).bind fun t103 => (some (wrap64 ((Int.tmod a1 t102) * t103)))))) else (if a0 = 7 then ((spec_l1Power.f k a2).bind fun t104 => (if t104 = 0 then (none) else (some (wrap64 (Int.tdiv a1 t104))))) else ((spec_Signed.f a1).bind fun t105 => ((spec_l1Power.f k a2).bind fun t106 => ((spec_l1Floor.f t105 t106).bind fun t107 => ((spec_Word.f t107).bind fun t108 => (some t108))))))) = some r := h
  clear h
  by_cases c4 : a0 = 3
  · rw [if_pos c4] at H
    have c4b0 : (a0 == 3) = true := beq_iff_eq.mpr c4
    have c4b1 : (a0 != 3) = false := bne_eq_false_iff_eq.mpr c4
    clear c4
    replace H := Option.bind_eq_some_iff.mp H
    obtain ⟨t102, A50, H⟩ := H
    replace H : (if t102 = 0 then (none) else ((spec_l1Power.f k a2).bind fun t103 => (some (wrap64 ((Int.tmod a1 t102) * t103))))) = some r := H
    have A5 := Aside0.mk A50
    clear A50
    by_cases c6 : t102 = 0
    · rw [if_pos c6] at H
      exact absurd H (by simp)
    · rw [if_neg c6] at H
      have c6b0 : (t102 == 0) = false := beq_eq_false_iff_ne.mpr c6
      have c6b1 : (t102 != 0) = true := bne_iff_ne.mpr c6
      replace H := Option.bind_eq_some_iff.mp H
      obtain ⟨t103, A70, H⟩ := H
      replace H : (some (wrap64 ((Int.tmod a1 t102) * t103))) = some r := H
      have A7 := Aside0.mk A70
      clear A70
      obtain rfl := Option.some.inj H
      go_enter Try.func49, Try.ntmps49
      go_wp2_with (first | (go_at_call 39; (with_reducible refine (spec_l1Power.calls k (wrap64 (32 - a2)) t102 _ A5.out).mono ?_); rintro e w' ⟨rfl, ⟨nd, rfl⟩⟩; (try first | exact ⟨rfl, _, World.drewN_drewN _ _ _⟩ | exact ⟨rfl, _, Eq.trans (World.drewN_drewN _ _ _) (congrArg (World.drewN _) (Nat.add_assoc _ _ _))⟩)) | (go_at_call 39; (with_reducible refine (spec_l1Power.calls k a2 t103 _ A7.out).mono ?_); rintro e w' ⟨rfl, ⟨nd, rfl⟩⟩; (try first | exact ⟨rfl, _, World.drewN_drewN _ _ _⟩ | exact ⟨rfl, _, Eq.trans (World.drewN_drewN _ _ _) (congrArg (World.drewN _) (Nat.add_assoc _ _ _))⟩)))
      repeat (go_quiet (first | (go_at_call 39; (with_reducible refine (spec_l1Power.calls k (wrap64 (32 - a2)) t102 _ A5.out).mono ?_); rintro e w' ⟨rfl, ⟨nd, rfl⟩⟩; (try first | exact ⟨rfl, _, World.drewN_drewN _ _ _⟩ | exact ⟨rfl, _, Eq.trans (World.drewN_drewN _ _ _) (congrArg (World.drewN _) (Nat.add_assoc _ _ _))⟩)) | (go_at_call 39; (with_reducible refine (spec_l1Power.calls k a2 t103 _ A7.out).mono ?_); rintro e w' ⟨rfl, ⟨nd, rfl⟩⟩; (try first | exact ⟨rfl, _, World.drewN_drewN _ _ _⟩ | exact ⟨rfl, _, Eq.trans (World.drewN_drewN _ _ _) (congrArg (World.drewN _) (Nat.add_assoc _ _ _))⟩))); try go_wp2_with (first | (go_at_call 39; (with_reducible refine (spec_l1Power.calls k (wrap64 (32 - a2)) t102 _ A5.out).mono ?_); rintro e w' ⟨rfl, ⟨nd, rfl⟩⟩; (try first | exact ⟨rfl, _, World.drewN_drewN _ _ _⟩ | exact ⟨rfl, _, Eq.trans (World.drewN_drewN _ _ _) (congrArg (World.drewN _) (Nat.add_assoc _ _ _))⟩)) | (go_at_call 39; (with_reducible refine (spec_l1Power.calls k a2 t103 _ A7.out).mono ?_); rintro e w' ⟨rfl, ⟨nd, rfl⟩⟩; (try first | exact ⟨rfl, _, World.drewN_drewN _ _ _⟩ | exact ⟨rfl, _, Eq.trans (World.drewN_drewN _ _ _) (congrArg (World.drewN _) (Nat.add_assoc _ _ _))⟩))))
      go_ret
      exact ⟨by first | rfl | (simp; done) | (simp [*]; done), by repeat (first | exact Drawn0.refl _ | apply Drawn0.step)⟩
  · rw [if_neg c4] at H
    have c4b0 : (a0 == 3) = false := beq_eq_false_iff_ne.mpr c4
    have c4b1 : (a0 != 3) = true := bne_iff_ne.mpr c4
    by_cases c8 : a0 = 7
    · rw [if_pos c8] at H
      have c8b0 : (a0 == 7) = true := beq_iff_eq.mpr c8
      have c8b1 : (a0 != 7) = false := bne_eq_false_iff_eq.mpr c8
      clear c8
      replace H := Option.bind_eq_some_iff.mp H
      obtain ⟨t104, A90, H⟩ := H
      replace H : (if t104 = 0 then (none) else (some (wrap64 (Int.tdiv a1 t104)))) = some r := H
      have A9 := Aside0.mk A90
      clear A90
      by_cases c10 : t104 = 0
      · rw [if_pos c10] at H
        exact absurd H (by simp)
      · rw [if_neg c10] at H
        have c10b0 : (t104 == 0) = false := beq_eq_false_iff_ne.mpr c10
        have c10b1 : (t104 != 0) = true := bne_iff_ne.mpr c10
        obtain rfl := Option.some.inj H
        go_enter Try.func49, Try.ntmps49
        go_wp2_with (first | (go_at_call 39; (with_reducible refine (spec_l1Power.calls k a2 t104 _ A9.out).mono ?_); rintro e w' ⟨rfl, ⟨nd, rfl⟩⟩; (try first | exact ⟨rfl, _, World.drewN_drewN _ _ _⟩ | exact ⟨rfl, _, Eq.trans (World.drewN_drewN _ _ _) (congrArg (World.drewN _) (Nat.add_assoc _ _ _))⟩)))
        repeat (go_quiet (first | (go_at_call 39; (with_reducible refine (spec_l1Power.calls k a2 t104 _ A9.out).mono ?_); rintro e w' ⟨rfl, ⟨nd, rfl⟩⟩; (try first | exact ⟨rfl, _, World.drewN_drewN _ _ _⟩ | exact ⟨rfl, _, Eq.trans (World.drewN_drewN _ _ _) (congrArg (World.drewN _) (Nat.add_assoc _ _ _))⟩))); try go_wp2_with (first | (go_at_call 39; (with_reducible refine (spec_l1Power.calls k a2 t104 _ A9.out).mono ?_); rintro e w' ⟨rfl, ⟨nd, rfl⟩⟩; (try first | exact ⟨rfl, _, World.drewN_drewN _ _ _⟩ | exact ⟨rfl, _, Eq.trans (World.drewN_drewN _ _ _) (congrArg (World.drewN _) (Nat.add_assoc _ _ _))⟩))))
        go_ret
        exact ⟨by first | rfl | (simp; done) | (simp [*]; done), by repeat (first | exact Drawn0.refl _ | apply Drawn0.step)⟩
    · rw [if_neg c8] at H
      have c8b0 : (a0 == 7) = false := beq_eq_false_iff_ne.mpr c8
      have c8b1 : (a0 != 7) = true := bne_iff_ne.mpr c8
      replace H := Option.bind_eq_some_iff.mp H
      obtain ⟨t105, A110, H⟩ := H
      replace H : ((spec_l1Power.f k a2).bind fun t106 => ((spec_l1Floor.f t105 t106).bind fun t107 => ((spec_Word.f t107).bind fun t108 => (some t108)))) = some r := H
      have A11 := Aside0.mk A110
      clear A110
      replace H := Option.bind_eq_some_iff.mp H
      obtain ⟨t106, A120, H⟩ := H
      replace H : ((spec_l1Floor.f t105 t106).bind fun t107 => ((spec_Word.f t107).bind fun t108 => (some t108))) = some r := H
      have A12 := Aside0.mk A120
      clear A120
      replace H := Option.bind_eq_some_iff.mp H
      obtain ⟨t107, A130, H⟩ := H
      replace H : ((spec_Word.f t107).bind fun t108 => (some t108)) = some r := H
      have A13 := Aside0.mk A130
      clear A130
      replace H := Option.bind_eq_some_iff.mp H
      obtain ⟨t108, A140, H⟩ := H
      replace H : (some t108) = some r := H
      have A14 := Aside0.mk A140
      clear A140
      obtain rfl := Option.some.inj H
      go_enter Try.func49, Try.ntmps49
      go_wp2_with (first | (go_at_call 17; (with_reducible refine (spec_Signed.calls a1 t105 _ A11.out).mono ?_); rintro e w' ⟨rfl, ⟨nd, rfl⟩⟩; (try first | exact ⟨rfl, _, World.drewN_drewN _ _ _⟩ | exact ⟨rfl, _, Eq.trans (World.drewN_drewN _ _ _) (congrArg (World.drewN _) (Nat.add_assoc _ _ _))⟩)) | (go_at_call 39; (with_reducible refine (spec_l1Power.calls k a2 t106 _ A12.out).mono ?_); rintro e w' ⟨rfl, ⟨nd, rfl⟩⟩; (try first | exact ⟨rfl, _, World.drewN_drewN _ _ _⟩ | exact ⟨rfl, _, Eq.trans (World.drewN_drewN _ _ _) (congrArg (World.drewN _) (Nat.add_assoc _ _ _))⟩)) | (go_at_call 71; (with_reducible refine (spec_l1Floor.calls t105 t106 t107 _ A13.out).mono ?_); rintro e w' ⟨rfl, ⟨nd, rfl⟩⟩; (try first | exact ⟨rfl, _, World.drewN_drewN _ _ _⟩ | exact ⟨rfl, _, Eq.trans (World.drewN_drewN _ _ _) (congrArg (World.drewN _) (Nat.add_assoc _ _ _))⟩)) | (go_at_call 15; (with_reducible refine (spec_Word.calls t107 t108 _ A14.out).mono ?_); rintro e w' ⟨rfl, ⟨nd, rfl⟩⟩; (try first | exact ⟨rfl, _, World.drewN_drewN _ _ _⟩ | exact ⟨rfl, _, Eq.trans (World.drewN_drewN _ _ _) (congrArg (World.drewN _) (Nat.add_assoc _ _ _))⟩)))
      repeat (go_quiet (first | (go_at_call 17; (with_reducible refine (spec_Signed.calls a1 t105 _ A11.out).mono ?_); rintro e w' ⟨rfl, ⟨nd, rfl⟩⟩; (try first | exact ⟨rfl, _, World.drewN_drewN _ _ _⟩ | exact ⟨rfl, _, Eq.trans (World.drewN_drewN _ _ _) (congrArg (World.drewN _) (Nat.add_assoc _ _ _))⟩)) | (go_at_call 39; (with_reducible refine (spec_l1Power.calls k a2 t106 _ A12.out).mono ?_); rintro e w' ⟨rfl, ⟨nd, rfl⟩⟩; (try first | exact ⟨rfl, _, World.drewN_drewN _ _ _⟩ | exact ⟨rfl, _, Eq.trans (World.drewN_drewN _ _ _) (congrArg (World.drewN _) (Nat.add_assoc _ _ _))⟩)) | (go_at_call 71; (with_reducible refine (spec_l1Floor.calls t105 t106 t107 _ A13.out).mono ?_); rintro e w' ⟨rfl, ⟨nd, rfl⟩⟩; (try first | exact ⟨rfl, _, World.drewN_drewN _ _ _⟩ | exact ⟨rfl, _, Eq.trans (World.drewN_drewN _ _ _) (congrArg (World.drewN _) (Nat.add_assoc _ _ _))⟩)) | (go_at_call 15; (with_reducible refine (spec_Word.calls t107 t108 _ A14.out).mono ?_); rintro e w' ⟨rfl, ⟨nd, rfl⟩⟩; (try first | exact ⟨rfl, _, World.drewN_drewN _ _ _⟩ | exact ⟨rfl, _, Eq.trans (World.drewN_drewN _ _ _) (congrArg (World.drewN _) (Nat.add_assoc _ _ _))⟩))); try go_wp2_with (first | (go_at_call 17; (with_reducible refine (spec_Signed.calls a1 t105 _ A11.out).mono ?_); rintro e w' ⟨rfl, ⟨nd, rfl⟩⟩; (try first | exact ⟨rfl, _, World.drewN_drewN _ _ _⟩ | exact ⟨rfl, _, Eq.trans (World.drewN_drewN _ _ _) (congrArg (World.drewN _) (Nat.add_assoc _ _ _))⟩)) | (go_at_call 39; (with_reducible refine (spec_l1Power.calls k a2 t106 _ A12.out).mono ?_); rintro e w' ⟨rfl, ⟨nd, rfl⟩⟩; (try first | exact ⟨rfl, _, World.drewN_drewN _ _ _⟩ | exact ⟨rfl, _, Eq.trans (World.drewN_drewN _ _ _) (congrArg (World.drewN _) (Nat.add_assoc _ _ _))⟩)) | (go_at_call 71; (with_reducible refine (spec_l1Floor.calls t105 t106 t107 _ A13.out).mono ?_); rintro e w' ⟨rfl, ⟨nd, rfl⟩⟩; (try first | exact ⟨rfl, _, World.drewN_drewN _ _ _⟩ | exact ⟨rfl, _, Eq.trans (World.drewN_drewN _ _ _) (congrArg (World.drewN _) (Nat.add_assoc _ _ _))⟩)) | (go_at_call 15; (with_reducible refine (spec_Word.calls t107 t108 _ A14.out).mono ?_); rintro e w' ⟨rfl, ⟨nd, rfl⟩⟩; (try first | exact ⟨rfl, _, World.drewN_drewN _ _ _⟩ | exact ⟨rfl, _, Eq.trans (World.drewN_drewN _ _ _) (congrArg (World.drewN _) (Nat.add_assoc _ _ _))⟩))))
      go_ret
      exact ⟨by first | rfl | (simp; done) | (simp [*]; done), by repeat (first | exact Drawn0.refl _ | apply Drawn0.step)⟩

/-! ### spec_l1Bits: function 50 -/
def spec_l1Bits.l0 : Nat → Int → Int → Int → Int → Int → Int → Option (Int)
  | 0, _, _, _, _, _, _ => none
  | k + 1, x0, x1, x2, x7, x8, x9 => if x9 < 32 then (if x8 = 0 then (none) else (if x0 = 1 then (if (wrap64 ((Int.tmod (wrap64 (Int.tdiv x1 x8)) 2) + (Int.tmod (wrap64 (Int.tdiv x2 x8)) 2))) = 2 then (spec_l1Bits.l0 k x0 x1 x2 (wrap64 (x7 + x8)) (wrap64 (x8 * 2)) (wrap64 (x9 + 1))) else (if x0 = 2 then (if (wrap64 ((Int.tmod (wrap64 (Int.tdiv x1 x8)) 2) + (Int.tmod (wrap64 (Int.tdiv x2 x8)) 2))) > 0 then (spec_l1Bits.l0 k x0 x1 x2 (wrap64 (x7 + x8)) (wrap64 (x8 * 2)) (wrap64 (x9 + 1))) else (if x0 = 3 then (if (Int.tmod (wrap64 (Int.tdiv x1 x8)) 2) = (Int.tmod (wrap64 (Int.tdiv x2 x8)) 2) then (spec_l1Bits.l0 k x0 x1 x2 x7 (wrap64 (x8 * 2)) (wrap64 (x9 + 1))) else (spec_l1Bits.l0 k x0 x1 x2 (wrap64 (x7 + x8)) (wrap64 (x8 * 2)) (wrap64 (x9 + 1)))) else (spec_l1Bits.l0 k x0 x1 x2 x7 (wrap64 (x8 * 2)) (wrap64 (x9 + 1))))) else (if x0 = 3 then (if (Int.tmod (wrap64 (Int.tdiv x1 x8)) 2) = (Int.tmod (wrap64 (Int.tdiv x2 x8)) 2) then (spec_l1Bits.l0 k x0 x1 x2 x7 (wrap64 (x8 * 2)) (wrap64 (x9 + 1))) else (spec_l1Bits.l0 k x0 x1 x2 (wrap64 (x7 + x8)) (wrap64 (x8 * 2)) (wrap64 (x9 + 1)))) else (spec_l1Bits.l0 k x0 x1 x2 x7 (wrap64 (x8 * 2)) (wrap64 (x9 + 1)))))) else (if x0 = 2 then (if (wrap64 ((Int.tmod (wrap64 (Int.tdiv x1 x8)) 2) + (Int.tmod (wrap64 (Int.tdiv x2 x8)) 2))) > 0 then (spec_l1Bits.l0 k x0 x1 x2 (wrap64 (x7 + x8)) (wrap64 (x8 * 2)) (wrap64 (x9 + 1))) else (if x0 = 3 then (if (Int.tmod (wrap64 (Int.tdiv x1 x8)) 2) = (Int.tmod (wrap64 (Int.tdiv x2 x8)) 2) then (spec_l1Bits.l0 k x0 x1 x2 x7 (wrap64 (x8 * 2)) (wrap64 (x9 + 1))) else (spec_l1Bits.l0 k x0 x1 x2 (wrap64 (x7 + x8)) (wrap64 (x8 * 2)) (wrap64 (x9 + 1)))) else (spec_l1Bits.l0 k x0 x1 x2 x7 (wrap64 (x8 * 2)) (wrap64 (x9 + 1))))) else (if x0 = 3 then (if (Int.tmod (wrap64 (Int.tdiv x1 x8)) 2) = (Int.tmod (wrap64 (Int.tdiv x2 x8)) 2) then (spec_l1Bits.l0 k x0 x1 x2 x7 (wrap64 (x8 * 2)) (wrap64 (x9 + 1))) else (spec_l1Bits.l0 k x0 x1 x2 (wrap64 (x7 + x8)) (wrap64 (x8 * 2)) (wrap64 (x9 + 1)))) else (spec_l1Bits.l0 k x0 x1 x2 x7 (wrap64 (x8 * 2)) (wrap64 (x9 + 1))))))) else (some x7)
def spec_l1Bits.f (k : Nat) (a0 : Int) (a1 : Int) (a2 : Int) : Option (Int) := spec_l1Bits.l0 k a0 a1 a2 0 1 0
theorem spec_l1Bits.mono_l : ∀ k, (∀ y0 y1 y2 y3 y4 y5, LeO (spec_l1Bits.l0 k y0 y1 y2 y3 y4 y5) (spec_l1Bits.l0 (k + 1) y0 y1 y2 y3 y4 y5))
  | 0 => fun _ _ _ _ _ _ r h => by simp [spec_l1Bits.l0] at h
  | k + 1 => by
    have ih0 := spec_l1Bits.mono_l k
    · intro y0 y1 y2 y3 y4 y5
      unfold spec_l1Bits.l0
      repeat' first
      | (with_reducible exact ih0 _ _ _ _ _ _)
      | (with_reducible exact LeO.refl _)
      | (with_reducible exact LeO.none _)
      | (with_reducible refine LeO.ite ?_ ?_)
      | (with_reducible refine LeO.bind ?_ (fun _ => ?_))
      | exact ih0 _ _ _ _ _ _
      | exact LeO.none _
      | refine LeO.ite ?_ ?_
      | refine LeO.bind ?_ (fun _ => ?_)
theorem spec_l1Bits.mono : ∀ a0 a1 a2 k, LeO (spec_l1Bits.f k a0 a1 a2) (spec_l1Bits.f (k + 1) a0 a1 a2) := by
  intro a0 a1 a2 k
  have ih0 := spec_l1Bits.mono_l k
  unfold spec_l1Bits.f
  repeat' first
      | (with_reducible exact ih0 _ _ _ _ _ _)
      | (with_reducible exact LeO.refl _)
      | (with_reducible exact LeO.none _)
      | (with_reducible refine LeO.ite ?_ ?_)
      | (with_reducible refine LeO.bind ?_ (fun _ => ?_))
      | exact ih0 _ _ _ _ _ _
      | exact LeO.none _
      | refine LeO.ite ?_ ?_
      | refine LeO.bind ?_ (fun _ => ?_)
set_option maxHeartbeats 8000000 in
set_option maxRecDepth 100000 in
theorem spec_l1Bits.calls (k : Nat) (a0 : Int) (a1 : Int) (a2 : Int) (r : Int) (w : World) (h : spec_l1Bits.f k a0 a1 a2 = some r) :
    Calls Try.prog 50 #[.int .i64 a0, .int .i64 a1, .int .i64 a2] w fun e w' => e = .returned (.int .i64 r) ∧ Drawn0 w w' := by
  have H : (spec_l1Bits.l0 k a0 a1 a2 0 1 0) = some r := h
  clear h
  have H' := Aside0.mk H
  clear H
  go_enter Try.func50, Try.ntmps50
  go_wp2
  go_loopg [7, 8, 9] k (fun kq v7 v8 v9 w' => ∃ (x7_1 : Int) (x8_1 : Int) (x9_1 : Int), v7 = .int .i64 x7_1 ∧ v8 = .int .i64 x8_1 ∧ v9 = .int .i64 x9_1 ∧ Aside0 (spec_l1Bits.l0 kq a0 a1 a2 x7_1 x8_1 x9_1 = some r) ∧ Aside0 (kq ≤ k) ∧ Drawn0 w w')
  case atStart => exact ⟨(0), (1), (0), (by first | rfl | (simp; done) | (simp [*]; done)), (by first | rfl | (simp; done) | (simp [*]; done)), (by first | rfl | (simp; done) | (simp [*]; done)), H', ⟨Nat.le_refl _⟩, by repeat (first | exact Drawn0.refl _ | apply Drawn0.step)⟩
  case round =>
    clear H'
    try clear p2
    obtain ⟨x7_1, x8_1, x9_1, rfl, rfl, rfl, HA, HK1, ⟨m1, rfl⟩⟩ := hrel
    cases gk with
    | zero => exact absurd HA.out (by simp [spec_l1Bits.l0])
    | succ k1 =>
      have H := HA.out
      clear HA
      simp only [spec_l1Bits.l0] at H
      by_cases c4 : x9_1 < 32
      · rw [if_pos c4] at H
        have c4b0 : decide (x9_1 < 32) = true := decide_eq_true c4
        clear c4
        by_cases c5 : x8_1 = 0
        · rw [if_pos c5] at H
          exact absurd H (by simp)
        · rw [if_neg c5] at H
          have c5b0 : (x8_1 == 0) = false := beq_eq_false_iff_ne.mpr c5
          have c5b1 : (x8_1 != 0) = true := bne_iff_ne.mpr c5
          by_cases c6 : a0 = 1
          · rw [if_pos c6] at H
            have c6b0 : (a0 == 1) = true := beq_iff_eq.mpr c6
            have c6b1 : (a0 != 1) = false := bne_eq_false_iff_eq.mpr c6
            clear c6
            by_cases c7 : (wrap64 ((Int.tmod (wrap64 (Int.tdiv a1 x8_1)) 2) + (Int.tmod (wrap64 (Int.tdiv a2 x8_1)) 2))) = 2
            · rw [if_pos c7] at H
              have c7b0 : ((wrap64 ((Int.tmod (wrap64 (Int.tdiv a1 x8_1)) 2) + (Int.tmod (wrap64 (Int.tdiv a2 x8_1)) 2))) == 2) = true := beq_iff_eq.mpr c7
              have c7b1 : ((wrap64 ((Int.tmod (wrap64 (Int.tdiv a1 x8_1)) 2) + (Int.tmod (wrap64 (Int.tdiv a2 x8_1)) 2))) != 2) = false := bne_eq_false_iff_eq.mpr c7
              clear c7
              have H' := Aside0.mk H
              clear H
              go_wp2
              go_roundg k1
              case measure => have := HK1.out; omega
              case rel => exact ⟨(wrap64 (x7_1 + x8_1)), (wrap64 (x8_1 * 2)), (wrap64 (x9_1 + 1)), (by first | rfl | (simp; done) | (simp [*]; done)), (by first | rfl | (simp; done) | (simp [*]; done)), (by first | rfl | (simp; done) | (simp [*]; done)), H', ⟨by have := HK1.out; omega⟩, by repeat (first | exact Drawn0.refl _ | apply Drawn0.step)⟩
            · rw [if_neg c7] at H
              have c7b0 : ((wrap64 ((Int.tmod (wrap64 (Int.tdiv a1 x8_1)) 2) + (Int.tmod (wrap64 (Int.tdiv a2 x8_1)) 2))) == 2) = false := beq_eq_false_iff_ne.mpr c7
              have c7b1 : ((wrap64 ((Int.tmod (wrap64 (Int.tdiv a1 x8_1)) 2) + (Int.tmod (wrap64 (Int.tdiv a2 x8_1)) 2))) != 2) = true := bne_iff_ne.mpr c7
              by_cases c8 : a0 = 2
              · rw [if_pos c8] at H
                have c8b0 : (a0 == 2) = true := beq_iff_eq.mpr c8
                have c8b1 : (a0 != 2) = false := bne_eq_false_iff_eq.mpr c8
                clear c8
                by_cases c9 : (wrap64 ((Int.tmod (wrap64 (Int.tdiv a1 x8_1)) 2) + (Int.tmod (wrap64 (Int.tdiv a2 x8_1)) 2))) > 0
                · rw [if_pos c9] at H
                  have c9b0 : decide (0 < (wrap64 ((Int.tmod (wrap64 (Int.tdiv a1 x8_1)) 2) + (Int.tmod (wrap64 (Int.tdiv a2 x8_1)) 2)))) = true := decide_eq_true c9
                  clear c9
                  have H' := Aside0.mk H
                  clear H
                  go_wp2
                  go_roundg k1
                  case measure => have := HK1.out; omega
                  case rel => exact ⟨(wrap64 (x7_1 + x8_1)), (wrap64 (x8_1 * 2)), (wrap64 (x9_1 + 1)), (by first | rfl | (simp; done) | (simp [*]; done)), (by first | rfl | (simp; done) | (simp [*]; done)), (by first | rfl | (simp; done) | (simp [*]; done)), H', ⟨by have := HK1.out; omega⟩, by repeat (first | exact Drawn0.refl _ | apply Drawn0.step)⟩
                · rw [if_neg c9] at H
                  have c9b0 : decide (0 < (wrap64 ((Int.tmod (wrap64 (Int.tdiv a1 x8_1)) 2) + (Int.tmod (wrap64 (Int.tdiv a2 x8_1)) 2)))) = false := decide_eq_false c9
                  clear c9
                  by_cases c10 : a0 = 3
                  · rw [if_pos c10] at H
                    have c10b0 : (a0 == 3) = true := beq_iff_eq.mpr c10
                    have c10b1 : (a0 != 3) = false := bne_eq_false_iff_eq.mpr c10
                    clear c10
                    by_cases c11 : (Int.tmod (wrap64 (Int.tdiv a1 x8_1)) 2) = (Int.tmod (wrap64 (Int.tdiv a2 x8_1)) 2)
                    · rw [if_pos c11] at H
                      have c11b0 : ((Int.tmod (wrap64 (Int.tdiv a1 x8_1)) 2) == (Int.tmod (wrap64 (Int.tdiv a2 x8_1)) 2)) = true := beq_iff_eq.mpr c11
                      have c11b1 : ((Int.tmod (wrap64 (Int.tdiv a1 x8_1)) 2) != (Int.tmod (wrap64 (Int.tdiv a2 x8_1)) 2)) = false := bne_eq_false_iff_eq.mpr c11
                      clear c11
                      have H' := Aside0.mk H
                      clear H
                      go_wp2
                      go_roundg k1
                      case measure => have := HK1.out; omega
                      case rel => exact ⟨(x7_1), (wrap64 (x8_1 * 2)), (wrap64 (x9_1 + 1)), (by first | rfl | (simp; done) | (simp [*]; done)), (by first | rfl | (simp; done) | (simp [*]; done)), (by first | rfl | (simp; done) | (simp [*]; done)), H', ⟨by have := HK1.out; omega⟩, by repeat (first | exact Drawn0.refl _ | apply Drawn0.step)⟩
                    · rw [if_neg c11] at H
                      have c11b0 : ((Int.tmod (wrap64 (Int.tdiv a1 x8_1)) 2) == (Int.tmod (wrap64 (Int.tdiv a2 x8_1)) 2)) = false := beq_eq_false_iff_ne.mpr c11
                      have c11b1 : ((Int.tmod (wrap64 (Int.tdiv a1 x8_1)) 2) != (Int.tmod (wrap64 (Int.tdiv a2 x8_1)) 2)) = true := bne_iff_ne.mpr c11
                      have H' := Aside0.mk H
                      clear H
                      go_wp2
                      go_roundg k1
                      case measure => have := HK1.out; omega
                      case rel => exact ⟨(wrap64 (x7_1 + x8_1)), (wrap64 (x8_1 * 2)), (wrap64 (x9_1 + 1)), (by first | rfl | (simp; done) | (simp [*]; done)), (by first | rfl | (simp; done) | (simp [*]; done)), (by first | rfl | (simp; done) | (simp [*]; done)), H', ⟨by have := HK1.out; omega⟩, by repeat (first | exact Drawn0.refl _ | apply Drawn0.step)⟩
                  · rw [if_neg c10] at H
                    have c10b0 : (a0 == 3) = false := beq_eq_false_iff_ne.mpr c10
                    have c10b1 : (a0 != 3) = true := bne_iff_ne.mpr c10
                    have H' := Aside0.mk H
                    clear H
                    go_wp2
                    go_roundg k1
                    case measure => have := HK1.out; omega
                    case rel => exact ⟨(x7_1), (wrap64 (x8_1 * 2)), (wrap64 (x9_1 + 1)), (by first | rfl | (simp; done) | (simp [*]; done)), (by first | rfl | (simp; done) | (simp [*]; done)), (by first | rfl | (simp; done) | (simp [*]; done)), H', ⟨by have := HK1.out; omega⟩, by repeat (first | exact Drawn0.refl _ | apply Drawn0.step)⟩
              · rw [if_neg c8] at H
                have c8b0 : (a0 == 2) = false := beq_eq_false_iff_ne.mpr c8
                have c8b1 : (a0 != 2) = true := bne_iff_ne.mpr c8
                by_cases c12 : a0 = 3
                · rw [if_pos c12] at H
                  have c12b0 : (a0 == 3) = true := beq_iff_eq.mpr c12
                  have c12b1 : (a0 != 3) = false := bne_eq_false_iff_eq.mpr c12
                  clear c12
                  by_cases c13 : (Int.tmod (wrap64 (Int.tdiv a1 x8_1)) 2) = (Int.tmod (wrap64 (Int.tdiv a2 x8_1)) 2)
                  · rw [if_pos c13] at H
                    have c13b0 : ((Int.tmod (wrap64 (Int.tdiv a1 x8_1)) 2) == (Int.tmod (wrap64 (Int.tdiv a2 x8_1)) 2)) = true := beq_iff_eq.mpr c13
                    have c13b1 : ((Int.tmod (wrap64 (Int.tdiv a1 x8_1)) 2) != (Int.tmod (wrap64 (Int.tdiv a2 x8_1)) 2)) = false := bne_eq_false_iff_eq.mpr c13
                    clear c13
                    have H' := Aside0.mk H
                    clear H
                    go_wp2
                    go_roundg k1
                    case measure => have := HK1.out; omega
                    case rel => exact ⟨(x7_1), (wrap64 (x8_1 * 2)), (wrap64 (x9_1 + 1)), (by first | rfl | (simp; done) | (simp [*]; done)), (by first | rfl | (simp; done) | (simp [*]; done)), (by first | rfl | (simp; done) | (simp [*]; done)), H', ⟨by have := HK1.out; omega⟩, by repeat (first | exact Drawn0.refl _ | apply Drawn0.step)⟩
                  · rw [if_neg c13] at H
                    have c13b0 : ((Int.tmod (wrap64 (Int.tdiv a1 x8_1)) 2) == (Int.tmod (wrap64 (Int.tdiv a2 x8_1)) 2)) = false := beq_eq_false_iff_ne.mpr c13
                    have c13b1 : ((Int.tmod (wrap64 (Int.tdiv a1 x8_1)) 2) != (Int.tmod (wrap64 (Int.tdiv a2 x8_1)) 2)) = true := bne_iff_ne.mpr c13
                    have H' := Aside0.mk H
                    clear H
                    go_wp2
                    go_roundg k1
                    case measure => have := HK1.out; omega
                    case rel => exact ⟨(wrap64 (x7_1 + x8_1)), (wrap64 (x8_1 * 2)), (wrap64 (x9_1 + 1)), (by first | rfl | (simp; done) | (simp [*]; done)), (by first | rfl | (simp; done) | (simp [*]; done)), (by first | rfl | (simp; done) | (simp [*]; done)), H', ⟨by have := HK1.out; omega⟩, by repeat (first | exact Drawn0.refl _ | apply Drawn0.step)⟩
                · rw [if_neg c12] at H
                  have c12b0 : (a0 == 3) = false := beq_eq_false_iff_ne.mpr c12
                  have c12b1 : (a0 != 3) = true := bne_iff_ne.mpr c12
                  have H' := Aside0.mk H
                  clear H
                  go_wp2
                  go_roundg k1
                  case measure => have := HK1.out; omega
                  case rel => exact ⟨(x7_1), (wrap64 (x8_1 * 2)), (wrap64 (x9_1 + 1)), (by first | rfl | (simp; done) | (simp [*]; done)), (by first | rfl | (simp; done) | (simp [*]; done)), (by first | rfl | (simp; done) | (simp [*]; done)), H', ⟨by have := HK1.out; omega⟩, by repeat (first | exact Drawn0.refl _ | apply Drawn0.step)⟩
          · rw [if_neg c6] at H
            have c6b0 : (a0 == 1) = false := beq_eq_false_iff_ne.mpr c6
            have c6b1 : (a0 != 1) = true := bne_iff_ne.mpr c6
            by_cases c14 : a0 = 2
            · rw [if_pos c14] at H
              have c14b0 : (a0 == 2) = true := beq_iff_eq.mpr c14
              have c14b1 : (a0 != 2) = false := bne_eq_false_iff_eq.mpr c14
              clear c14
              by_cases c15 : (wrap64 ((Int.tmod (wrap64 (Int.tdiv a1 x8_1)) 2) + (Int.tmod (wrap64 (Int.tdiv a2 x8_1)) 2))) > 0
              · rw [if_pos c15] at H
                have c15b0 : decide (0 < (wrap64 ((Int.tmod (wrap64 (Int.tdiv a1 x8_1)) 2) + (Int.tmod (wrap64 (Int.tdiv a2 x8_1)) 2)))) = true := decide_eq_true c15
                clear c15
                have H' := Aside0.mk H
                clear H
                go_wp2
                go_roundg k1
                case measure => have := HK1.out; omega
                case rel => exact ⟨(wrap64 (x7_1 + x8_1)), (wrap64 (x8_1 * 2)), (wrap64 (x9_1 + 1)), (by first | rfl | (simp; done) | (simp [*]; done)), (by first | rfl | (simp; done) | (simp [*]; done)), (by first | rfl | (simp; done) | (simp [*]; done)), H', ⟨by have := HK1.out; omega⟩, by repeat (first | exact Drawn0.refl _ | apply Drawn0.step)⟩
              · rw [if_neg c15] at H
                have c15b0 : decide (0 < (wrap64 ((Int.tmod (wrap64 (Int.tdiv a1 x8_1)) 2) + (Int.tmod (wrap64 (Int.tdiv a2 x8_1)) 2)))) = false := decide_eq_false c15
                clear c15
                by_cases c16 : a0 = 3
                · rw [if_pos c16] at H
                  have c16b0 : (a0 == 3) = true := beq_iff_eq.mpr c16
                  have c16b1 : (a0 != 3) = false := bne_eq_false_iff_eq.mpr c16
                  clear c16
                  by_cases c17 : (Int.tmod (wrap64 (Int.tdiv a1 x8_1)) 2) = (Int.tmod (wrap64 (Int.tdiv a2 x8_1)) 2)
                  · rw [if_pos c17] at H
                    have c17b0 : ((Int.tmod (wrap64 (Int.tdiv a1 x8_1)) 2) == (Int.tmod (wrap64 (Int.tdiv a2 x8_1)) 2)) = true := beq_iff_eq.mpr c17
                    have c17b1 : ((Int.tmod (wrap64 (Int.tdiv a1 x8_1)) 2) != (Int.tmod (wrap64 (Int.tdiv a2 x8_1)) 2)) = false := bne_eq_false_iff_eq.mpr c17
                    clear c17
                    have H' := Aside0.mk H
                    clear H
                    go_wp2
                    go_roundg k1
                    case measure => have := HK1.out; omega
                    case rel => exact ⟨(x7_1), (wrap64 (x8_1 * 2)), (wrap64 (x9_1 + 1)), (by first | rfl | (simp; done) | (simp [*]; done)), (by first | rfl | (simp; done) | (simp [*]; done)), (by first | rfl | (simp; done) | (simp [*]; done)), H', ⟨by have := HK1.out; omega⟩, by repeat (first | exact Drawn0.refl _ | apply Drawn0.step)⟩
                  · rw [if_neg c17] at H
                    have c17b0 : ((Int.tmod (wrap64 (Int.tdiv a1 x8_1)) 2) == (Int.tmod (wrap64 (Int.tdiv a2 x8_1)) 2)) = false := beq_eq_false_iff_ne.mpr c17
                    have c17b1 : ((Int.tmod (wrap64 (Int.tdiv a1 x8_1)) 2) != (Int.tmod (wrap64 (Int.tdiv a2 x8_1)) 2)) = true := bne_iff_ne.mpr c17
                    have H' := Aside0.mk H
                    clear H
                    go_wp2
                    go_roundg k1
                    case measure => have := HK1.out; omega
                    case rel => exact ⟨(wrap64 (x7_1 + x8_1)), (wrap64 (x8_1 * 2)), (wrap64 (x9_1 + 1)), (by first | rfl | (simp; done) | (simp [*]; done)), (by first | rfl | (simp; done) | (simp [*]; done)), (by first | rfl | (simp; done) | (simp [*]; done)), H', ⟨by have := HK1.out; omega⟩, by repeat (first | exact Drawn0.refl _ | apply Drawn0.step)⟩
                · rw [if_neg c16] at H
                  have c16b0 : (a0 == 3) = false := beq_eq_false_iff_ne.mpr c16
                  have c16b1 : (a0 != 3) = true := bne_iff_ne.mpr c16
                  have H' := Aside0.mk H
                  clear H
                  go_wp2
                  go_roundg k1
                  case measure => have := HK1.out; omega
                  case rel => exact ⟨(x7_1), (wrap64 (x8_1 * 2)), (wrap64 (x9_1 + 1)), (by first | rfl | (simp; done) | (simp [*]; done)), (by first | rfl | (simp; done) | (simp [*]; done)), (by first | rfl | (simp; done) | (simp [*]; done)), H', ⟨by have := HK1.out; omega⟩, by repeat (first | exact Drawn0.refl _ | apply Drawn0.step)⟩
            · rw [if_neg c14] at H
              have c14b0 : (a0 == 2) = false := beq_eq_false_iff_ne.mpr c14
              have c14b1 : (a0 != 2) = true := bne_iff_ne.mpr c14
              by_cases c18 : a0 = 3
              · rw [if_pos c18] at H
                have c18b0 : (a0 == 3) = true := beq_iff_eq.mpr c18
                have c18b1 : (a0 != 3) = false := bne_eq_false_iff_eq.mpr c18
                clear c18
                by_cases c19 : (Int.tmod (wrap64 (Int.tdiv a1 x8_1)) 2) = (Int.tmod (wrap64 (Int.tdiv a2 x8_1)) 2)
                · rw [if_pos c19] at H
                  have c19b0 : ((Int.tmod (wrap64 (Int.tdiv a1 x8_1)) 2) == (Int.tmod (wrap64 (Int.tdiv a2 x8_1)) 2)) = true := beq_iff_eq.mpr c19
                  have c19b1 : ((Int.tmod (wrap64 (Int.tdiv a1 x8_1)) 2) != (Int.tmod (wrap64 (Int.tdiv a2 x8_1)) 2)) = false := bne_eq_false_iff_eq.mpr c19
                  clear c19
                  have H' := Aside0.mk H
                  clear H
                  go_wp2
                  go_roundg k1
                  case measure => have := HK1.out; omega
                  case rel => exact ⟨(x7_1), (wrap64 (x8_1 * 2)), (wrap64 (x9_1 + 1)), (by first | rfl | (simp; done) | (simp [*]; done)), (by first | rfl | (simp; done) | (simp [*]; done)), (by first | rfl | (simp; done) | (simp [*]; done)), H', ⟨by have := HK1.out; omega⟩, by repeat (first | exact Drawn0.refl _ | apply Drawn0.step)⟩
                · rw [if_neg c19] at H
                  have c19b0 : ((Int.tmod (wrap64 (Int.tdiv a1 x8_1)) 2) == (Int.tmod (wrap64 (Int.tdiv a2 x8_1)) 2)) = false := beq_eq_false_iff_ne.mpr c19
                  have c19b1 : ((Int.tmod (wrap64 (Int.tdiv a1 x8_1)) 2) != (Int.tmod (wrap64 (Int.tdiv a2 x8_1)) 2)) = true := bne_iff_ne.mpr c19
                  have H' := Aside0.mk H
                  clear H
                  go_wp2
                  go_roundg k1
                  case measure => have := HK1.out; omega
                  case rel => exact ⟨(wrap64 (x7_1 + x8_1)), (wrap64 (x8_1 * 2)), (wrap64 (x9_1 + 1)), (by first | rfl | (simp; done) | (simp [*]; done)), (by first | rfl | (simp; done) | (simp [*]; done)), (by first | rfl | (simp; done) | (simp [*]; done)), H', ⟨by have := HK1.out; omega⟩, by repeat (first | exact Drawn0.refl _ | apply Drawn0.step)⟩
              · rw [if_neg c18] at H
                have c18b0 : (a0 == 3) = false := beq_eq_false_iff_ne.mpr c18
                have c18b1 : (a0 != 3) = true := bne_iff_ne.mpr c18
                have H' := Aside0.mk H
                clear H
                go_wp2
                go_roundg k1
                case measure => have := HK1.out; omega
                case rel => exact ⟨(x7_1), (wrap64 (x8_1 * 2)), (wrap64 (x9_1 + 1)), (by first | rfl | (simp; done) | (simp [*]; done)), (by first | rfl | (simp; done) | (simp [*]; done)), (by first | rfl | (simp; done) | (simp [*]; done)), H', ⟨by have := HK1.out; omega⟩, by repeat (first | exact Drawn0.refl _ | apply Drawn0.step)⟩
      · rw [if_neg c4] at H
        have c4b0 : decide (x9_1 < 32) = false := decide_eq_false c4
        clear c4
        obtain rfl := Option.some.inj H
        go_wp2
        go_ret
        exact ⟨by first | rfl | (simp; done) | (simp [*]; done), by repeat (first | exact Drawn0.refl _ | apply Drawn0.step)⟩

/-! ### spec_l1High: function 51 -/
def spec_l1High.f (a0 : Int) (a1 : Int) : Option (Int) := (spec_l1Floor.f (wrap64 (a1 - (Go.bits .and .i64 a1 65535))) 65536).bind fun t109 => ((spec_l1Floor.f (wrap64 (a0 * (Go.bits .and .i64 a1 65535))) 65536).bind fun t110 => ((spec_l1Floor.f (wrap64 ((wrap64 (a0 * t109)) + t110)) 65536).bind fun t111 => (some t111)))
set_option maxHeartbeats 8000000 in
set_option maxRecDepth 100000 in
theorem spec_l1High.calls (a0 : Int) (a1 : Int) (r : Int) (w : World) (h : spec_l1High.f a0 a1 = some r) :
    Calls Try.prog 51 #[.int .i64 a0, .int .i64 a1] w fun e w' => e = .returned (.int .i64 r) ∧ Drawn0 w w' := by
  have H : ((spec_l1Floor.f (wrap64 (a1 - (Go.bits .and .i64 a1 65535))) 65536).bind fun t109 => ((spec_l1Floor.f (wrap64 (a0 * (Go.bits .and .i64 a1 65535))) 65536).bind fun t110 => ((spec_l1Floor.f (wrap64 ((wrap64 (a0 * t109)) + t110)) 65536).bind fun t111 => (some t111)))) = some r := h
  clear h
  replace H := Option.bind_eq_some_iff.mp H
  obtain ⟨t109, A30, H⟩ := H
  replace H : ((spec_l1Floor.f (wrap64 (a0 * (Go.bits .and .i64 a1 65535))) 65536).bind fun t110 => ((spec_l1Floor.f (wrap64 ((wrap64 (a0 * t109)) + t110)) 65536).bind fun t111 => (some t111))) = some r := H
  have A3 := Aside0.mk A30
  clear A30
  replace H := Option.bind_eq_some_iff.mp H
  obtain ⟨t110, A40, H⟩ := H
  replace H : ((spec_l1Floor.f (wrap64 ((wrap64 (a0 * t109)) + t110)) 65536).bind fun t111 => (some t111)) = some r := H
  have A4 := Aside0.mk A40
  clear A40
  replace H := Option.bind_eq_some_iff.mp H
  obtain ⟨t111, A50, H⟩ := H
  replace H : (some t111) = some r := H
  have A5 := Aside0.mk A50
  clear A50
  obtain rfl := Option.some.inj H
  go_enter Try.func51, Try.ntmps51
  go_wp2_with (first | ((with_reducible refine gate_callee (f := 71) rfl ?_); refine goesL_ (some 15) rfl rfl Try.func71 (by kernel_rfl) rfl #[.int .i64 (wrap64 (a1 - (Go.bits .and .i64 a1 65535))), .int .i64 65536] rfl (by (try simp only [List.map_toArray, List.map_cons, List.map_nil]); first | done | rfl | (simp only [List.length_drop, List.length_take]; rfl)) ?_; (with_reducible refine (spec_l1Floor.calls (wrap64 (a1 - (Go.bits .and .i64 a1 65535))) 65536 t109 _ A3.out).mono ?_); rintro e w' ⟨rfl, ⟨nd, rfl⟩⟩; refine ⟨_, rfl, ?_⟩) | ((with_reducible refine gate_callee (f := 71) rfl ?_); refine goesL_ (some 24) rfl rfl Try.func71 (by kernel_rfl) rfl #[.int .i64 (wrap64 (a0 * (Go.bits .and .i64 a1 65535))), .int .i64 65536] rfl (by (try simp only [List.map_toArray, List.map_cons, List.map_nil]); first | done | rfl | (simp only [List.length_drop, List.length_take]; rfl)) ?_; (with_reducible refine (spec_l1Floor.calls (wrap64 (a0 * (Go.bits .and .i64 a1 65535))) 65536 t110 _ A4.out).mono ?_); rintro e w' ⟨rfl, ⟨nd, rfl⟩⟩; refine ⟨_, rfl, ?_⟩) | ((with_reducible refine gate_callee (f := 71) rfl ?_); refine goesL_ (some 27) rfl rfl Try.func71 (by kernel_rfl) rfl #[.int .i64 (wrap64 ((wrap64 (a0 * t109)) + t110)), .int .i64 65536] rfl (by (try simp only [List.map_toArray, List.map_cons, List.map_nil]); first | done | rfl | (simp only [List.length_drop, List.length_take]; rfl)) ?_; (with_reducible refine (spec_l1Floor.calls (wrap64 ((wrap64 (a0 * t109)) + t110)) 65536 t111 _ A5.out).mono ?_); rintro e w' ⟨rfl, ⟨nd, rfl⟩⟩; refine ⟨_, rfl, ?_⟩))
  go_ret
  exact ⟨by first | rfl | (simp; done) | (simp [*]; done), by repeat (first | exact Drawn0.refl _ | apply Drawn0.step)⟩

/-! ### spec_l1Divide: function 72 -/
def spec_l1Divide.f (a0 : Int) (a1 : Int) : Option (Int × Int) := if a1 = 0 then (none) else (some (wrap64 (Int.tdiv a0 a1), wrap64 (a0 - (wrap64 ((wrap64 (Int.tdiv a0 a1)) * a1)))))
set_option maxHeartbeats 8000000 in
set_option maxRecDepth 100000 in
theorem spec_l1Divide.calls (a0 : Int) (a1 : Int) (r1 : Int) (r2 : Int) (w : World) (h : spec_l1Divide.f a0 a1 = some (r1, r2)) :
    Calls Try.prog 72 #[.int .i64 a0, .int .i64 a1] w fun e w' => e = .returned (.tuple #[.int .i64 r1, .int .i64 r2]) ∧ Drawn0 w w' := by
  have H : (if a1 = 0 then (none) else (some (wrap64 (Int.tdiv a0 a1), wrap64 (a0 - (wrap64 ((wrap64 (Int.tdiv a0 a1)) * a1)))))) = some (r1, r2) := h
  clear h
  by_cases c3 : a1 = 0
  · rw [if_pos c3] at H
    exact absurd H (by simp)
  · rw [if_neg c3] at H
    have c3b0 : (a1 == 0) = false := beq_eq_false_iff_ne.mpr c3
    have c3b1 : (a1 != 0) = true := bne_iff_ne.mpr c3
    simp only [Option.some.injEq, Prod.mk.injEq] at H
    obtain ⟨rfl, rfl⟩ := H
    go_enter Try.func72, Try.ntmps72
    go_wp2
    go_ret2
    exact ⟨by first | rfl | (simp; done) | (simp [*]; done), by repeat (first | exact Drawn0.refl _ | apply Drawn0.step)⟩

end Go.Proofs.Ytgbpofhabhabcaa.PFnAlu
