-- Lines for this claim, written by the session's own program wip/myprint.py. Not trusted: Lean checks them.
import Derived.Test.YthndggachjdkfaaPLoadWordx0
namespace Go.Proofs.Ythndggachjdkfaa.PLoadWord
open Go.RowKit Go.Proofs.YthndggachjdkfaaW.PrintWords Go.Proofs.YthndggachjdkfaaW.PrintLast Go.Proofs.YthndggachjdkfaaW.PrintMore
attribute [local go_sem] max2_int min2_int max_two min_two max_three min_three max_four min_four   -- for this text's walks alone
set_option linter.unusedVariables false
set_option linter.unusedSimpArgs false

/-! ### spec_KindSize: function 64 -/
mutual
def spec_KindSize.j0 : Nat → Int → Bool → Option (Int)
  | 0, _, _ => none
  | k + 1, x0, x8 => if x8 = true then (some 1) else (if x0 = 3 then (spec_KindSize.j1 k x0 true) else (spec_KindSize.j1 k x0 (x0 == 4)))
def spec_KindSize.j1 : Nat → Int → Bool → Option (Int)
  | 0, _, _ => none
  | k + 1, x0, x14 => if x14 = true then (some 2) else (if x0 = 5 then (some 4) else (some 0))
end
def spec_KindSize.f (k : Nat) (a0 : Int) : Option (Int) := if a0 = 1 then (spec_KindSize.j0 k a0 true) else (spec_KindSize.j0 k a0 (a0 == 2))
theorem spec_KindSize.mono_l : ∀ k, (∀ y0 y1, LeO (spec_KindSize.j0 k y0 y1) (spec_KindSize.j0 (k + 1) y0 y1)) ∧ (∀ y0 y1, LeO (spec_KindSize.j1 k y0 y1) (spec_KindSize.j1 (k + 1) y0 y1))
  | 0 => ⟨fun _ _ r h => by simp [spec_KindSize.j0] at h, fun _ _ r h => by simp [spec_KindSize.j1] at h⟩
  | k + 1 => by
    obtain ⟨ih0, ih1⟩ := spec_KindSize.mono_l k
    refine ⟨?_, ?_⟩
    · intro y0 y1
      unfold spec_KindSize.j0
      repeat' first
      | (with_reducible exact ih0 _ _)
      | (with_reducible exact ih1 _ _)
      | (with_reducible exact LeO.refl _)
      | (with_reducible exact LeO.none _)
      | (with_reducible refine LeO.ite ?_ ?_)
      | (with_reducible refine LeO.bind ?_ (fun _ => ?_))
      | exact ih0 _ _
      | exact ih1 _ _
      | exact LeO.none _
      | refine LeO.ite ?_ ?_
      | refine LeO.bind ?_ (fun _ => ?_)
    · intro y0 y1
      unfold spec_KindSize.j1
      repeat' first
      | (with_reducible exact ih0 _ _)
      | (with_reducible exact ih1 _ _)
      | (with_reducible exact LeO.refl _)
      | (with_reducible exact LeO.none _)
      | (with_reducible refine LeO.ite ?_ ?_)
      | (with_reducible refine LeO.bind ?_ (fun _ => ?_))
      | exact ih0 _ _
      | exact ih1 _ _
      | exact LeO.none _
      | refine LeO.ite ?_ ?_
      | refine LeO.bind ?_ (fun _ => ?_)
theorem spec_KindSize.mono : ∀ a0 k, LeO (spec_KindSize.f k a0) (spec_KindSize.f (k + 1) a0) := by
  intro a0 k
  obtain ⟨ih0, ih1⟩ := spec_KindSize.mono_l k
  unfold spec_KindSize.f
  repeat' first
      | (with_reducible exact ih0 _ _)
      | (with_reducible exact ih1 _ _)
      | (with_reducible exact LeO.refl _)
      | (with_reducible exact LeO.none _)
      | (with_reducible refine LeO.ite ?_ ?_)
      | (with_reducible refine LeO.bind ?_ (fun _ => ?_))
      | exact ih0 _ _
      | exact ih1 _ _
      | exact LeO.none _
      | refine LeO.ite ?_ ?_
      | refine LeO.bind ?_ (fun _ => ?_)
set_option maxHeartbeats 8000000 in
set_option maxRecDepth 100000 in
theorem spec_KindSize.calls (k : Nat) (a0 : Int) (r : Int) (w : World) (h : spec_KindSize.f k a0 = some r) :
    Calls Try.prog 64 #[.int .i64 a0] w fun e w' => e = .returned (.int .i64 r) ∧ Drawn0 w w' := by
  have H : (if a0 = 1 then (spec_KindSize.j0 k a0 true) else (spec_KindSize.j0 k a0 (a0 == 2))) = some r := h
  clear h
  have HC2 := Aside0.mk H
  clear H
  go_enter Try.func64, Try.ntmps64
  go_upto_region 1 with (fail)
  go_cut [8] (fun v8 wc => ∃ (kq : Nat) (x8_1 : Bool), v8 = .bool x8_1 ∧ Aside0 (spec_KindSize.j0 kq a0 x8_1 = some r) ∧ Aside0 (kq ≤ k) ∧ Drawn0 w wc)
  case first =>
    have H := HC2.out
    clear HC2
    by_cases c3 : a0 = 1
    · rw [if_pos c3] at H
      have c3b0 : (a0 == 1) = true := beq_iff_eq.mpr c3
      have c3b1 : (a0 != 1) = false := bne_eq_false_iff_eq.mpr c3
      clear c3
      (first | rw [c3b0] | (simp only [i64_w, i32_w]; rw [c3b0]) | skip)
      have H' := Aside0.mk H
      clear H
      go_wp2
      go_meet
      case rel => exact ⟨_, (true), (by first | rfl | (simp; done) | (simp [*]; done)), H', ⟨by first | omega | exact Nat.le_refl _⟩, by repeat (first | exact Drawn0.refl _ | apply Drawn0.step)⟩
    · rw [if_neg c3] at H
      have c3b0 : (a0 == 1) = false := beq_eq_false_iff_ne.mpr c3
      have c3b1 : (a0 != 1) = true := bne_iff_ne.mpr c3
      (first | rw [c3b0] | (simp only [i64_w, i32_w]; rw [c3b0]) | skip)
      have H' := Aside0.mk H
      clear H
      go_wp2
      go_meet
      case rel => exact ⟨_, ((a0 == 2)), (by first | rfl | (simp; done) | (simp [*]; done)), H', ⟨by first | omega | exact Nat.le_refl _⟩, by repeat (first | exact Drawn0.refl _ | apply Drawn0.step)⟩
  case rest =>
    clear HC2
    try clear p2
    try clear c3
    try clear c3b0
    try clear c3b1
    obtain ⟨kq, x8_1, rfl, HA, HJ1, ⟨mc1, rfl⟩⟩ := hcut
    cases kq with
    | zero => exact absurd HA.out (by simp [spec_KindSize.j0])
    | succ kj1 =>
      have H := HA.out
      clear HA
      simp only [spec_KindSize.j0] at H
      by_cases c4 : x8_1 = true
      · subst c4
        have H1 : (some 1) = some r := by rw [if_pos rfl] at H; exact H
        clear H
        have H := H1
        clear H1
        obtain rfl := Option.some.inj H
        go_wp2
        go_ret
        exact ⟨by first | rfl | (simp; done) | (simp [*]; done), by repeat (first | exact Drawn0.refl _ | apply Drawn0.step)⟩
      · replace c4 := Bool.eq_false_iff.mpr c4
        subst c4
        have H1 : (if a0 = 3 then (spec_KindSize.j1 kj1 a0 true) else (spec_KindSize.j1 kj1 a0 (a0 == 4))) = some r := by rw [if_neg (show ¬ (false = true) by decide)] at H; exact H
        clear H
        have H := H1
        clear H1
        have HC5 := Aside0.mk H
        clear H
        go_upto_region 3 with (fail)
        go_cut [14] (fun v14 wc => ∃ (kq : Nat) (x14_4 : Bool), v14 = .bool x14_4 ∧ Aside0 (spec_KindSize.j1 kq a0 x14_4 = some r) ∧ Aside0 (kq ≤ kj1) ∧ Drawn0 w wc)
        case first =>
          have H := HC5.out
          clear HC5
          by_cases c6 : a0 = 3
          · rw [if_pos c6] at H
            have c6b0 : (a0 == 3) = true := beq_iff_eq.mpr c6
            have c6b1 : (a0 != 3) = false := bne_eq_false_iff_eq.mpr c6
            clear c6
            (first | rw [c6b0] | (simp only [i64_w, i32_w]; rw [c6b0]) | skip)
            have H' := Aside0.mk H
            clear H
            go_wp2
            go_meet
            case rel => exact ⟨_, (true), (by first | rfl | (simp; done) | (simp [*]; done)), H', ⟨by have := HJ1.out; first | omega | exact Nat.le_refl _⟩, by repeat (first | exact Drawn0.refl _ | apply Drawn0.step)⟩
          · rw [if_neg c6] at H
            have c6b0 : (a0 == 3) = false := beq_eq_false_iff_ne.mpr c6
            have c6b1 : (a0 != 3) = true := bne_iff_ne.mpr c6
            (first | rw [c6b0] | (simp only [i64_w, i32_w]; rw [c6b0]) | skip)
            have H' := Aside0.mk H
            clear H
            go_wp2
            go_meet
            case rel => exact ⟨_, ((a0 == 4)), (by first | rfl | (simp; done) | (simp [*]; done)), H', ⟨by have := HJ1.out; first | omega | exact Nat.le_refl _⟩, by repeat (first | exact Drawn0.refl _ | apply Drawn0.step)⟩
        case rest =>
          clear HC5
          try clear c1
          try clear p2
          try clear c3
          try clear c3b0
          try clear c3b1
          try clear c4
          try clear c6
          try clear c6b0
          try clear c6b1
          try clear p2
          obtain ⟨kq, x14_4, rfl, HA, HJ4, ⟨mc4, rfl⟩⟩ := hcut
          cases kq with
          | zero => exact absurd HA.out (by simp [spec_KindSize.j1])
          | succ kj4 =>
            have H := HA.out
            clear HA
            simp only [spec_KindSize.j1] at H
            by_cases c7 : x14_4 = true
            · subst c7
              have H1 : (some 2) = some r := by rw [if_pos rfl] at H; exact H
              clear H
              have H := H1
              clear H1
              obtain rfl := Option.some.inj H
              go_wp2
              go_ret
              exact ⟨by first | rfl | (simp; done) | (simp [*]; done), by repeat (first | exact Drawn0.refl _ | apply Drawn0.step)⟩
            · replace c7 := Bool.eq_false_iff.mpr c7
              subst c7
              have H1 : (if a0 = 5 then (some 4) else (some 0)) = some r := by rw [if_neg (show ¬ (false = true) by decide)] at H; exact H
              clear H
              have H := H1
              clear H1
              by_cases c8 : a0 = 5
              · rw [if_pos c8] at H
                have c8b0 : (a0 == 5) = true := beq_iff_eq.mpr c8
                have c8b1 : (a0 != 5) = false := bne_eq_false_iff_eq.mpr c8
                clear c8
                obtain rfl := Option.some.inj H
                go_wp2
                go_ret
                exact ⟨by first | rfl | (simp; done) | (simp [*]; done), by repeat (first | exact Drawn0.refl _ | apply Drawn0.step)⟩
              · rw [if_neg c8] at H
                have c8b0 : (a0 == 5) = false := beq_eq_false_iff_ne.mpr c8
                have c8b1 : (a0 != 5) = true := bne_iff_ne.mpr c8
                obtain rfl := Option.some.inj H
                go_wp2
                go_ret
                exact ⟨by first | rfl | (simp; done) | (simp [*]; done), by repeat (first | exact Drawn0.refl _ | apply Drawn0.step)⟩

/-! ### spec_l1Power: function 77 -/
def spec_l1Power.l0 : Nat → Int → Int → Int → Option (Int)
  | 0, _, _, _ => none
  | k + 1, x0, x3, x4 => if x4 < x0 then (spec_l1Power.l0 k x0 (wrap64 (x3 * 2)) (wrap64 (x4 + 1))) else (some x3)
def spec_l1Power.f (k : Nat) (a0 : Int) : Option (Int) := spec_l1Power.l0 k a0 1 0
theorem spec_l1Power.mono_l : ∀ k, (∀ y0 y1 y2, LeO (spec_l1Power.l0 k y0 y1 y2) (spec_l1Power.l0 (k + 1) y0 y1 y2))
  | 0 => fun _ _ _ r h => by simp [spec_l1Power.l0] at h
  | k + 1 => by
    have ih0 := spec_l1Power.mono_l k
    · intro y0 y1 y2
      unfold spec_l1Power.l0
      repeat' first
      | (with_reducible exact ih0 _ _ _)
      | (with_reducible exact LeO.refl _)
      | (with_reducible exact LeO.none _)
      | (with_reducible refine LeO.ite ?_ ?_)
      | (with_reducible refine LeO.bind ?_ (fun _ => ?_))
      | exact ih0 _ _ _
      | exact LeO.none _
      | refine LeO.ite ?_ ?_
      | refine LeO.bind ?_ (fun _ => ?_)
theorem spec_l1Power.mono : ∀ a0 k, LeO (spec_l1Power.f k a0) (spec_l1Power.f (k + 1) a0) := by
  intro a0 k
  have ih0 := spec_l1Power.mono_l k
  unfold spec_l1Power.f
  repeat' first
      | (with_reducible exact ih0 _ _ _)
      | (with_reducible exact LeO.refl _)
      | (with_reducible exact LeO.none _)
      | (with_reducible refine LeO.ite ?_ ?_)
      | (with_reducible refine LeO.bind ?_ (fun _ => ?_))
      | exact ih0 _ _ _
      | exact LeO.none _
      | refine LeO.ite ?_ ?_
      | refine LeO.bind ?_ (fun _ => ?_)
set_option maxHeartbeats 8000000 in
set_option maxRecDepth 100000 in
theorem spec_l1Power.calls (k : Nat) (a0 : Int) (r : Int) (w : World) (h : spec_l1Power.f k a0 = some r) :
    Calls Try.prog 77 #[.int .i64 a0] w fun e w' => e = .returned (.int .i64 r) ∧ Drawn0 w w' := by
  have H : (spec_l1Power.l0 k a0 1 0) = some r := h
  clear h
  have H' := Aside0.mk H
  clear H
  go_enter Try.func77, Try.ntmps77
  go_wp2
  go_loopg [3, 4] k (fun kq v3 v4 w' => ∃ (x3_1 : Int) (x4_1 : Int), v3 = .int .i64 x3_1 ∧ v4 = .int .i64 x4_1 ∧ Aside0 (spec_l1Power.l0 kq a0 x3_1 x4_1 = some r) ∧ Aside0 (kq ≤ k) ∧ Drawn0 w w')
  case atStart => exact ⟨(1), (0), (by first | rfl | (simp; done) | (simp [*]; done)), (by first | rfl | (simp; done) | (simp [*]; done)), H', ⟨Nat.le_refl _⟩, by repeat (first | exact Drawn0.refl _ | apply Drawn0.step)⟩
  case round =>
    clear H'
    obtain ⟨x3_1, x4_1, rfl, rfl, HA, HK1, ⟨m1, rfl⟩⟩ := hrel
    cases gk with
    | zero => exact absurd HA.out (by simp [spec_l1Power.l0])
    | succ k1 =>
      have H := HA.out
      clear HA
      simp only [spec_l1Power.l0] at H
      by_cases c2 : x4_1 < a0
      · rw [if_pos c2] at H
        have c2b0 : decide (x4_1 < a0) = true := decide_eq_true c2
        clear c2
        have H' := Aside0.mk H
        clear H
        go_wp2
        go_roundg k1
        case measure => have := HK1.out; omega
        case rel => exact ⟨(wrap64 (x3_1 * 2)), (wrap64 (x4_1 + 1)), (by first | rfl | (simp; done) | (simp [*]; done)), (by first | rfl | (simp; done) | (simp [*]; done)), H', ⟨by have := HK1.out; omega⟩, by repeat (first | exact Drawn0.refl _ | apply Drawn0.step)⟩
      · rw [if_neg c2] at H
        have c2b0 : decide (x4_1 < a0) = false := decide_eq_false c2
        clear c2
        obtain rfl := Option.some.inj H
        go_wp2
        go_ret
        exact ⟨by first | rfl | (simp; done) | (simp [*]; done), by repeat (first | exact Drawn0.refl _ | apply Drawn0.step)⟩

/-! ### spec_Word: function 78 -/
def spec_Word.f (a0 : Int) : Option (Int) := some (Int.tmod (wrap64 ((Int.tmod a0 4294967296) + 4294967296)) 4294967296)
set_option maxHeartbeats 8000000 in
set_option maxRecDepth 100000 in
theorem spec_Word.calls (a0 : Int) (r : Int) (w : World) (h : spec_Word.f a0 = some r) :
    Calls Try.prog 78 #[.int .i64 a0] w fun e w' => e = .returned (.int .i64 r) ∧ Drawn0 w w' := by
  have H : (some (Int.tmod (wrap64 ((Int.tmod a0 4294967296) + 4294967296)) 4294967296)) = some r := h
  clear h
  obtain rfl := Option.some.inj H
  go_enter Try.func78, Try.ntmps78
  go_wp2
  go_ret
  exact ⟨by first | rfl | (simp; done) | (simp [*]; done), by repeat (first | exact Drawn0.refl _ | apply Drawn0.step)⟩

/-! ### spec_Narrow: function 35 -/
def spec_Narrow.f (k : Nat) (a0 : Int) (a1 : Int) : Option (Int × Bool) := (spec_KindSize.f k a0).bind fun t161 => (if t161 = 0 then (some (0, false)) else ((spec_l1Power.f k (wrap64 (8 * t161))).bind fun t162 => ((spec_Word.f a1).bind fun t163 => (if t162 = 0 then (none) else (if a0 = 1 then (if (Int.tmod t163 t162) ≥ (wrap64 (Int.tdiv t162 2)) then ((spec_Word.f (wrap64 ((Int.tmod t163 t162) - t162))).bind fun t164 => (some (t164, true))) else ((spec_Word.f (Int.tmod t163 t162)).bind fun t165 => (some (t165, true)))) else (if a0 = 3 then (if (Int.tmod t163 t162) ≥ (wrap64 (Int.tdiv t162 2)) then ((spec_Word.f (wrap64 ((Int.tmod t163 t162) - t162))).bind fun t166 => (some (t166, true))) else ((spec_Word.f (Int.tmod t163 t162)).bind fun t167 => (some (t167, true)))) else ((spec_Word.f (Int.tmod t163 t162)).bind fun t168 => (some (t168, true)))))))))
theorem spec_Narrow.mono : ∀ a0 a1 k, LeO (spec_Narrow.f k a0 a1) (spec_Narrow.f (k + 1) a0 a1) := by
  intro a0 a1 k
  unfold spec_Narrow.f
  repeat' first
      | (with_reducible exact spec_KindSize.mono _ _)
      | (with_reducible exact spec_l1Power.mono _ _)
      | (with_reducible exact LeO.refl _)
      | (with_reducible exact LeO.none _)
      | (with_reducible refine LeO.ite ?_ ?_)
      | (with_reducible refine LeO.bind ?_ (fun _ => ?_))
      | exact spec_KindSize.mono _ _
      | exact spec_l1Power.mono _ _
      | exact LeO.none _
      | refine LeO.ite ?_ ?_
      | refine LeO.bind ?_ (fun _ => ?_)
set_option maxHeartbeats 8000000 in
set_option maxRecDepth 100000 in
theorem spec_Narrow.calls (k : Nat) (a0 : Int) (a1 : Int) (r1 : Int) (r2 : Bool) (w : World) (h : spec_Narrow.f k a0 a1 = some (r1, r2)) :
    Calls Try.prog 35 #[.int .i64 a0, .int .i64 a1] w fun e w' => e = .returned (.tuple #[.int .i64 r1, .bool r2]) ∧ Drawn0 w w' := by
  have H : ((spec_KindSize.f k a0).bind fun t161 => (if t161 = 0 then (some (0, false)) else ((spec_l1Power.f k (wrap64 (8 * t161))).bind fun t162 => ((spec_Word.f a1).bind fun t163 => (if t162 = 0 then (none) else (if a0 = 1 then (if (Int.tmod t163 t162) ≥ (wrap64 (Int.tdiv t162 2)) then ((spec_Word.f (wrap64 ((Int.tmod t163 t162) - t162))).bind fun t164 => (some (t164, true))) else ((spec_Word.f (Int.tmod t163 t162)).bind fun t165 => (some (t165, true)))) else (if a0 = 3 then (if (Int.tmod t163 t162) ≥ (wrap64 (Int.tdiv t162 2)) then ((spec_Word.f (wrap64 ((Int.tmod t163 t162) - t162))).bind fun t166 => (some (t166, true))) else ((spec_Word.f (Int.tmod t163 t162)).bind fun t167 => (some (t167, true)))) else ((spec_Word.f (Int.tmod t163 t162)).bind fun t168 => (some (t168, true)))))))))) = some (r1, r2) := h
  clear h
  replace H := Option.bind_eq_some_iff.mp H
  obtain ⟨t161, A30, H⟩ := H
  replace H : (if t161 = 0 then (some (0, false)) else ((spec_l1Power.f k (wrap64 (8 * t161))).bind fun t162 => ((spec_Word.f a1).bind fun t163 => (if t162 = 0 then (none) else (if a0 = 1 then (if (Int.tmod t163 t162) ≥ (wrap64 (Int.tdiv t162 2)) then ((spec_Word.f (wrap64 ((Int.tmod t163 t162) - t162))).bind fun t164 => (some (t164, true))) else ((spec_Word.f (Int.tmod t163 t162)).bind fun t165 => (some (t165, true)))) else (if a0 = 3 then (if (Int.tmod t163 t162) ≥ (wrap64 (Int.tdiv t162 2)) then ((spec_Word.f (wrap64 ((Int.tmod t163 t162) - t162))).bind fun t166 => (some (t166, true))) else ((spec_Word.f (Int.tmod t163 t162)).bind fun t167 => (some (t167, true)))) else ((spec_Word.f (Int.tmod t163 t162)).bind fun t168 => (some (t168, true))))))))) = some (r1, r2) := H
  have A3 := Aside0.mk A30
  clear A30
  by_cases c4 : t161 = 0
  · rw [if_pos c4] at H
    have c4b0 : (t161 == 0) = true := beq_iff_eq.mpr c4
    have c4b1 : (t161 != 0) = false := bne_eq_false_iff_eq.mpr c4
    clear c4
    simp only [Option.some.injEq, Prod.mk.injEq] at H
    obtain ⟨rfl, rfl⟩ := H
    go_enter Try.func35, Try.ntmps35
    go_wp2_with (first | ((with_reducible refine gate_callee (f := 64) rfl ?_); refine goesL_ (some 10) rfl rfl Try.func64 (by kernel_rfl) rfl #[.int .i64 a0] rfl (by (try simp only [List.map_toArray, List.map_cons, List.map_nil]); first | done | rfl | (simp only [List.length_drop, List.length_take]; rfl)) ?_; (with_reducible refine (spec_KindSize.calls k a0 t161 _ A3.out).mono ?_); rintro e w' ⟨rfl, ⟨nd, rfl⟩⟩; refine ⟨_, rfl, ?_⟩))
    go_ret2
    exact ⟨by first | rfl | (simp; done) | (simp [*]; done), by repeat (first | exact Drawn0.refl _ | apply Drawn0.step)⟩
  · rw [if_neg c4] at H
    have c4b0 : (t161 == 0) = false := beq_eq_false_iff_ne.mpr c4
    have c4b1 : (t161 != 0) = true := bne_iff_ne.mpr c4
    replace H := Option.bind_eq_some_iff.mp H
    obtain ⟨t162, A50, H⟩ := H
    replace H : ((spec_Word.f a1).bind fun t163 => (if t162 = 0 then (none) else (if a0 = 1 then (if (Int.tmod t163 t162) ≥ (wrap64 (Int.tdiv t162 2)) then ((spec_Word.f (wrap64 ((Int.tmod t163 t162) - t162))).bind fun t164 => (some (t164, true))) else ((spec_Word.f (Int.tmod t163 t162)).bind fun t165 => (some (t165, true)))) else (if a0 = 3 then (if (Int.tmod t163 t162) ≥ (wrap64 (Int.tdiv t162 2)) then ((spec_Word.f (wrap64 ((Int.tmod t163 t162) - t162))).bind fun t166 => (some (t166, true))) else ((spec_Word.f (Int.tmod t163 t162)).bind fun t167 => (some (t167, true)))) else ((spec_Word.f (Int.tmod t163 t162)).bind fun t168 => (some (t168, true))))))) = some (r1, r2) := H
    have A5 := Aside0.mk A50
    clear A50
    replace H := Option.bind_eq_some_iff.mp H
    obtain ⟨t163, A60, H⟩ := H
    replace H : (if t162 = 0 then (none) else (if a0 = 1 then (if (Int.tmod t163 t162) ≥ (wrap64 (Int.tdiv t162 2)) then ((spec_Word.f (wrap64 ((Int.tmod t163 t162) - t162))).bind fun t164 => (some (t164, true))) else ((spec_Word.f (Int.tmod t163 t162)).bind fun t165 => (some (t165, true)))) else (if a0 = 3 then (if (Int.tmod t163 t162) ≥ (wrap64 (Int.tdiv t162 2)) then ((spec_Word.f (wrap64 ((Int.tmod t163 t162) - t162))).bind fun t166 => (some (t166, true))) else ((spec_Word.f (Int.tmod t163 t162)).bind fun t167 => (some (t167, true)))) else ((spec_Word.f (Int.tmod t163 t162)).bind fun t168 => (some (t168, true)))))) = some (r1, r2) := H
    have A6 := Aside0.mk A60
    clear A60
    by_cases c7 : t162 = 0
    · rw [if_pos c7] at H
      exact absurd H (by simp)
    · rw [if_neg c7] at H
      have c7b0 : (t162 == 0) = false := beq_eq_false_iff_ne.mpr c7
      have c7b1 : (t162 != 0) = true := bne_iff_ne.mpr c7
      by_cases c8 : a0 = 1
      · rw [if_pos c8] at H
        have c8b0 : (a0 == 1) = true := beq_iff_eq.mpr c8
        have c8b1 : (a0 != 1) = false := bne_eq_false_iff_eq.mpr c8
        clear c8
        by_cases c9 : (Int.tmod t163 t162) ≥ (wrap64 (Int.tdiv t162 2))
        · rw [if_pos c9] at H
          have c9b0 : decide ((wrap64 (Int.tdiv t162 2)) ≤ (Int.tmod t163 t162)) = true := decide_eq_true c9
          clear c9
          replace H := Option.bind_eq_some_iff.mp H
          obtain ⟨t164, A100, H⟩ := H
          replace H : (some (t164, true)) = some (r1, r2) := H
          have A10 := Aside0.mk A100
          clear A100
          simp only [Option.some.injEq, Prod.mk.injEq] at H
          obtain ⟨rfl, rfl⟩ := H
          go_enter Try.func35, Try.ntmps35
          go_wp2_with (first | ((with_reducible refine gate_callee (f := 64) rfl ?_); refine goesL_ (some 10) rfl rfl Try.func64 (by kernel_rfl) rfl #[.int .i64 a0] rfl (by (try simp only [List.map_toArray, List.map_cons, List.map_nil]); first | done | rfl | (simp only [List.length_drop, List.length_take]; rfl)) ?_; (with_reducible refine (spec_KindSize.calls k a0 t161 _ A3.out).mono ?_); rintro e w' ⟨rfl, ⟨nd, rfl⟩⟩; refine ⟨_, rfl, ?_⟩) | ((with_reducible refine gate_callee (f := 77) rfl ?_); refine goesL_ (some 15) rfl rfl Try.func77 (by kernel_rfl) rfl #[.int .i64 (wrap64 (8 * t161))] rfl (by (try simp only [List.map_toArray, List.map_cons, List.map_nil]); first | done | rfl | (simp only [List.length_drop, List.length_take]; rfl)) ?_; (with_reducible refine (spec_l1Power.calls k (wrap64 (8 * t161)) t162 _ A5.out).mono ?_); rintro e w' ⟨rfl, ⟨nd, rfl⟩⟩; refine ⟨_, rfl, ?_⟩) | ((with_reducible refine gate_callee (f := 78) rfl ?_); refine goesL_ (some 17) rfl rfl Try.func78 (by kernel_rfl) rfl #[.int .i64 a1] rfl (by (try simp only [List.map_toArray, List.map_cons, List.map_nil]); first | done | rfl | (simp only [List.length_drop, List.length_take]; rfl)) ?_; (with_reducible refine (spec_Word.calls a1 t163 _ A6.out).mono ?_); rintro e w' ⟨rfl, ⟨nd, rfl⟩⟩; refine ⟨_, rfl, ?_⟩) | ((with_reducible refine gate_callee (f := 78) rfl ?_); refine goesL_ (some 36) rfl rfl Try.func78 (by kernel_rfl) rfl #[.int .i64 (wrap64 ((Int.tmod t163 t162) - t162))] rfl (by (try simp only [List.map_toArray, List.map_cons, List.map_nil]); first | done | rfl | (simp only [List.length_drop, List.length_take]; rfl)) ?_; (with_reducible refine (spec_Word.calls (wrap64 ((Int.tmod t163 t162) - t162)) t164 _ A10.out).mono ?_); rintro e w' ⟨rfl, ⟨nd, rfl⟩⟩; refine ⟨_, rfl, ?_⟩))
          go_ret2
          exact ⟨by first | rfl | (simp; done) | (simp [*]; done), by repeat (first | exact Drawn0.refl _ | apply Drawn0.step)⟩
        · rw [if_neg c9] at H
          have c9b0 : decide ((wrap64 (Int.tdiv t162 2)) ≤ (Int.tmod t163 t162)) = false := decide_eq_false c9
          clear c9
          replace H := Option.bind_eq_some_iff.mp H
          obtain ⟨t165, A110, H⟩ := H
          replace H : (some (t165, true)) = some (r1, r2) := H
          have A11 := Aside0.mk A110
          clear A110
          simp only [Option.some.injEq, Prod.mk.injEq] at H
          obtain ⟨rfl, rfl⟩ := H
          go_enter Try.func35, Try.ntmps35
          go_wp2_with (first | ((with_reducible refine gate_callee (f := 64) rfl ?_); refine goesL_ (some 10) rfl rfl Try.func64 (by kernel_rfl) rfl #[.int .i64 a0] rfl (by (try simp only [List.map_toArray, List.map_cons, List.map_nil]); first | done | rfl | (simp only [List.length_drop, List.length_take]; rfl)) ?_; (with_reducible refine (spec_KindSize.calls k a0 t161 _ A3.out).mono ?_); rintro e w' ⟨rfl, ⟨nd, rfl⟩⟩; refine ⟨_, rfl, ?_⟩) | ((with_reducible refine gate_callee (f := 77) rfl ?_); refine goesL_ (some 15) rfl rfl Try.func77 (by kernel_rfl) rfl #[.int .i64 (wrap64 (8 * t161))] rfl (by (try simp only [List.map_toArray, List.map_cons, List.map_nil]); first | done | rfl | (simp only [List.length_drop, List.length_take]; rfl)) ?_; (with_reducible refine (spec_l1Power.calls k (wrap64 (8 * t161)) t162 _ A5.out).mono ?_); rintro e w' ⟨rfl, ⟨nd, rfl⟩⟩; refine ⟨_, rfl, ?_⟩) | ((with_reducible refine gate_callee (f := 78) rfl ?_); refine goesL_ (some 17) rfl rfl Try.func78 (by kernel_rfl) rfl #[.int .i64 a1] rfl (by (try simp only [List.map_toArray, List.map_cons, List.map_nil]); first | done | rfl | (simp only [List.length_drop, List.length_take]; rfl)) ?_; (with_reducible refine (spec_Word.calls a1 t163 _ A6.out).mono ?_); rintro e w' ⟨rfl, ⟨nd, rfl⟩⟩; refine ⟨_, rfl, ?_⟩) | ((with_reducible refine gate_callee (f := 78) rfl ?_); refine goesL_ (some 36) rfl rfl Try.func78 (by kernel_rfl) rfl #[.int .i64 (Int.tmod t163 t162)] rfl (by (try simp only [List.map_toArray, List.map_cons, List.map_nil]); first | done | rfl | (simp only [List.length_drop, List.length_take]; rfl)) ?_; (with_reducible refine (spec_Word.calls (Int.tmod t163 t162) t165 _ A11.out).mono ?_); rintro e w' ⟨rfl, ⟨nd, rfl⟩⟩; refine ⟨_, rfl, ?_⟩))
          go_ret2
          exact ⟨by first | rfl | (simp; done) | (simp [*]; done), by repeat (first | exact Drawn0.refl _ | apply Drawn0.step)⟩
      · rw [if_neg c8] at H
        have c8b0 : (a0 == 1) = false := beq_eq_false_iff_ne.mpr c8
        have c8b1 : (a0 != 1) = true := bne_iff_ne.mpr c8
        by_cases c12 : a0 = 3
        · rw [if_pos c12] at H
          have c12b0 : (a0 == 3) = true := beq_iff_eq.mpr c12
          have c12b1 : (a0 != 3) = false := bne_eq_false_iff_eq.mpr c12
          clear c12
          by_cases c13 : (Int.tmod t163 t162) ≥ (wrap64 (Int.tdiv t162 2))
          · rw [if_pos c13] at H
            have c13b0 : decide ((wrap64 (Int.tdiv t162 2)) ≤ (Int.tmod t163 t162)) = true := decide_eq_true c13
            clear c13
            replace H := Option.bind_eq_some_iff.mp H
            obtain ⟨t166, A140, H⟩ := H
            replace H : (some (t166, true)) = some (r1, r2) := H
            have A14 := Aside0.mk A140
            clear A140
            simp only [Option.some.injEq, Prod.mk.injEq] at H
            obtain ⟨rfl, rfl⟩ := H
            go_enter Try.func35, Try.ntmps35
            go_wp2_with (first | ((with_reducible refine gate_callee (f := 64) rfl ?_); refine goesL_ (some 10) rfl rfl Try.func64 (by kernel_rfl) rfl #[.int .i64 a0] rfl (by (try simp only [List.map_toArray, List.map_cons, List.map_nil]); first | done | rfl | (simp only [List.length_drop, List.length_take]; rfl)) ?_; (with_reducible refine (spec_KindSize.calls k a0 t161 _ A3.out).mono ?_); rintro e w' ⟨rfl, ⟨nd, rfl⟩⟩; refine ⟨_, rfl, ?_⟩) | ((with_reducible refine gate_callee (f := 77) rfl ?_); refine goesL_ (some 15) rfl rfl Try.func77 (by kernel_rfl) rfl #[.int .i64 (wrap64 (8 * t161))] rfl (by (try simp only [List.map_toArray, List.map_cons, List.map_nil]); first | done | rfl | (simp only [List.length_drop, List.length_take]; rfl)) ?_; (with_reducible refine (spec_l1Power.calls k (wrap64 (8 * t161)) t162 _ A5.out).mono ?_); rintro e w' ⟨rfl, ⟨nd, rfl⟩⟩; refine ⟨_, rfl, ?_⟩) | ((with_reducible refine gate_callee (f := 78) rfl ?_); refine goesL_ (some 17) rfl rfl Try.func78 (by kernel_rfl) rfl #[.int .i64 a1] rfl (by (try simp only [List.map_toArray, List.map_cons, List.map_nil]); first | done | rfl | (simp only [List.length_drop, List.length_take]; rfl)) ?_; (with_reducible refine (spec_Word.calls a1 t163 _ A6.out).mono ?_); rintro e w' ⟨rfl, ⟨nd, rfl⟩⟩; refine ⟨_, rfl, ?_⟩) | ((with_reducible refine gate_callee (f := 78) rfl ?_); refine goesL_ (some 36) rfl rfl Try.func78 (by kernel_rfl) rfl #[.int .i64 (wrap64 ((Int.tmod t163 t162) - t162))] rfl (by (try simp only [List.map_toArray, List.map_cons, List.map_nil]); first | done | rfl | (simp only [List.length_drop, List.length_take]; rfl)) ?_; (with_reducible refine (spec_Word.calls (wrap64 ((Int.tmod t163 t162) - t162)) t166 _ A14.out).mono ?_); rintro e w' ⟨rfl, ⟨nd, rfl⟩⟩; refine ⟨_, rfl, ?_⟩))
            go_ret2
            exact ⟨by first | rfl | (simp; done) | (simp [*]; done), by repeat (first | exact Drawn0.refl _ | apply Drawn0.step)⟩
          · rw [if_neg c13] at H
            have c13b0 : decide ((wrap64 (Int.tdiv t162 2)) ≤ (Int.tmod t163 t162)) = false := decide_eq_false c13
            clear c13
            replace H := Option.bind_eq_some_iff.mp H
            obtain ⟨t167, A150, H⟩ := H
            replace H : (some (t167, true)) = some (r1, r2) := H
            have A15 := Aside0.mk A150
            clear A150
            simp only [Option.some.injEq, Prod.mk.injEq] at H
            obtain ⟨rfl, rfl⟩ := H
            go_enter Try.func35, Try.ntmps35
            go_wp2_with (first | ((with_reducible refine gate_callee (f := 64) rfl ?_); refine goesL_ (some 10) rfl rfl Try.func64 (by kernel_rfl) rfl #[.int .i64 a0] rfl (by (try simp only [List.map_toArray, List.map_cons, List.map_nil]); first | done | rfl | (simp only [List.length_drop, List.length_take]; rfl)) ?_; (with_reducible refine (spec_KindSize.calls k a0 t161 _ A3.out).mono ?_); rintro e w' ⟨rfl, ⟨nd, rfl⟩⟩; refine ⟨_, rfl, ?_⟩) | ((with_reducible refine gate_callee (f := 77) rfl ?_); refine goesL_ (some 15) rfl rfl Try.func77 (by kernel_rfl) rfl #[.int .i64 (wrap64 (8 * t161))] rfl (by (try simp only [List.map_toArray, List.map_cons, List.map_nil]); first | done | rfl | (simp only [List.length_drop, List.length_take]; rfl)) ?_; (with_reducible refine (spec_l1Power.calls k (wrap64 (8 * t161)) t162 _ A5.out).mono ?_); rintro e w' ⟨rfl, ⟨nd, rfl⟩⟩; refine ⟨_, rfl, ?_⟩) | ((with_reducible refine gate_callee (f := 78) rfl ?_); refine goesL_ (some 17) rfl rfl Try.func78 (by kernel_rfl) rfl #[.int .i64 a1] rfl (by (try simp only [List.map_toArray, List.map_cons, List.map_nil]); first | done | rfl | (simp only [List.length_drop, List.length_take]; rfl)) ?_; (with_reducible refine (spec_Word.calls a1 t163 _ A6.out).mono ?_); rintro e w' ⟨rfl, ⟨nd, rfl⟩⟩; refine ⟨_, rfl, ?_⟩) | ((with_reducible refine gate_callee (f := 78) rfl ?_); refine goesL_ (some 36) rfl rfl Try.func78 (by kernel_rfl) rfl #[.int .i64 (Int.tmod t163 t162)] rfl (by (try simp only [List.map_toArray, List.map_cons, List.map_nil]); first | done | rfl | (simp only [List.length_drop, List.length_take]; rfl)) ?_; (with_reducible refine (spec_Word.calls (Int.tmod t163 t162) t167 _ A15.out).mono ?_); rintro e w' ⟨rfl, ⟨nd, rfl⟩⟩; refine ⟨_, rfl, ?_⟩))
            go_ret2
            exact ⟨by first | rfl | (simp; done) | (simp [*]; done), by repeat (first | exact Drawn0.refl _ | apply Drawn0.step)⟩
        · rw [if_neg c12] at H
          have c12b0 : (a0 == 3) = false := beq_eq_false_iff_ne.mpr c12
          have c12b1 : (a0 != 3) = true := bne_iff_ne.mpr c12
          replace H := Option.bind_eq_some_iff.mp H
          obtain ⟨t168, A160, H⟩ := H
          replace H : (some (t168, true)) = some (r1, r2) := H
          have A16 := Aside0.mk A160
          clear A160
          simp only [Option.some.injEq, Prod.mk.injEq] at H
          obtain ⟨rfl, rfl⟩ := H
          go_enter Try.func35, Try.ntmps35
          go_wp2_with (first | ((with_reducible refine gate_callee (f := 64) rfl ?_); refine goesL_ (some 10) rfl rfl Try.func64 (by kernel_rfl) rfl #[.int .i64 a0] rfl (by (try simp only [List.map_toArray, List.map_cons, List.map_nil]); first | done | rfl | (simp only [List.length_drop, List.length_take]; rfl)) ?_; (with_reducible refine (spec_KindSize.calls k a0 t161 _ A3.out).mono ?_); rintro e w' ⟨rfl, ⟨nd, rfl⟩⟩; refine ⟨_, rfl, ?_⟩) | ((with_reducible refine gate_callee (f := 77) rfl ?_); refine goesL_ (some 15) rfl rfl Try.func77 (by kernel_rfl) rfl #[.int .i64 (wrap64 (8 * t161))] rfl (by (try simp only [List.map_toArray, List.map_cons, List.map_nil]); first | done | rfl | (simp only [List.length_drop, List.length_take]; rfl)) ?_; (with_reducible refine (spec_l1Power.calls k (wrap64 (8 * t161)) t162 _ A5.out).mono ?_); rintro e w' ⟨rfl, ⟨nd, rfl⟩⟩; refine ⟨_, rfl, ?_⟩) | ((with_reducible refine gate_callee (f := 78) rfl ?_); refine goesL_ (some 17) rfl rfl Try.func78 (by kernel_rfl) rfl #[.int .i64 a1] rfl (by (try simp only [List.map_toArray, List.map_cons, List.map_nil]); first | done | rfl | (simp only [List.length_drop, List.length_take]; rfl)) ?_; (with_reducible refine (spec_Word.calls a1 t163 _ A6.out).mono ?_); rintro e w' ⟨rfl, ⟨nd, rfl⟩⟩; refine ⟨_, rfl, ?_⟩) | ((with_reducible refine gate_callee (f := 78) rfl ?_); refine goesL_ (some 36) rfl rfl Try.func78 (by kernel_rfl) rfl #[.int .i64 (Int.tmod t163 t162)] rfl (by (try simp only [List.map_toArray, List.map_cons, List.map_nil]); first | done | rfl | (simp only [List.length_drop, List.length_take]; rfl)) ?_; (with_reducible refine (spec_Word.calls (Int.tmod t163 t162) t168 _ A16.out).mono ?_); rintro e w' ⟨rfl, ⟨nd, rfl⟩⟩; refine ⟨_, rfl, ?_⟩))
          go_ret2
          exact ⟨by first | rfl | (simp; done) | (simp [*]; done), by repeat (first | exact Drawn0.refl _ | apply Drawn0.step)⟩

/-- A state of type 36 at block g of W; what its slices lead to came in by w0. -/
def IsS36 (w0 W : World) (g : Nat) (f0 : List Int) (f1 : Int) (f2 : List Int) (f3 : List Int) (f4 : List Int) (f5 : List Int) (f6 : List Int) (f7 : Int) (f8 : Int) (f9 : Int) : Prop := ∃ A0 c0, ∃ A2 c2, ∃ A3 c3, ∃ A4 c4, ∃ A5 c5, ∃ A6 c6, W.heap[g]? = some (.cells #[.slice A0 f0.length c0, .int .i64 f1, .slice A2 f2.length c2, .slice A3 f3.length c3, .slice A4 f4.length c4, .slice A5 f5.length c5, .slice A6 f6.length c6, .int .i64 f7, .int .i64 f8, .int .i64 f9] 36 (0, 0)) ∧ w0.heap.size ≤ g ∧ Kd.C (Kd.int .i64) w0 A0 f0.length f0 ∧ Kd.C (Kd.int .i64) w0 A2 f2.length f2 ∧ Kd.C (Kd.int .u8) w0 A3 f3.length f3 ∧ Kd.C (Kd.int .u8) w0 A4 f4.length f4 ∧ Kd.C (Kd.int .u8) w0 A5 f5.length f5 ∧ Kd.C (Kd.int .u8) w0 A6 f6.length f6
theorem IsS36.grown {w0 W : World} {g : Nat} {f0 : List Int} {f1 : Int} {f2 : List Int} {f3 : List Int} {f4 : List Int} {f5 : List Int} {f6 : List Int} {f7 : Int} {f8 : Int} {f9 : Int} {W1 : World} {row : Option Nat} (h : IsS36 w0 W g f0 f1 f2 f3 f4 f5 f6 f7 f8 f9) (hw : W.grownBy W1 row) (hne : some g ≠ row) : IsS36 w0 W1 g f0 f1 f2 f3 f4 f5 f6 f7 f8 f9 := by
  obtain ⟨A0, c0, A2, c2, A3, c3, A4, c4, A5, c5, A6, c6, hb, hg, hr0, hr2, hr3, hr4, hr5, hr6⟩ := h
  exact ⟨A0, c0, A2, c2, A3, c3, A4, c4, A5, c5, A6, c6, blk_grown hb hw hne, hg, hr0, hr2, hr3, hr4, hr5, hr6⟩
theorem IsS36.own_neN {w0 W : World} {g : Nat} {f0 : List Int} {f1 : Int} {f2 : List Int} {f3 : List Int} {f4 : List Int} {f5 : List Int} {f6 : List Int} {f7 : Int} {f8 : Int} {f9 : Int} {α : Type} {d : Kd α} {e : Nat} {base : Nat} {ok : Nat → Prop} {v : Value} {xs : List α} (h : IsS36 w0 W g f0 f1 f2 f3 f4 f5 f6 f7 f8 f9) (ho : Kd.N d e W base ok v xs) (ht : e ≠ 36) : some g ≠ v.ownBlock := by
  obtain ⟨A0, c0, A2, c2, A3, c3, A4, c4, A5, c5, A6, c6, hb, hg, hr0, hr2, hr3, hr4, hr5, hr6⟩ := h
  exact Kd.N_ne ho hb ht
theorem IsS36.fresh {w0 W : World} {g : Nat} {f0 : List Int} {f1 : Int} {f2 : List Int} {f3 : List Int} {f4 : List Int} {f5 : List Int} {f6 : List Int} {f7 : Int} {f8 : Int} {f9 : Int} (h : IsS36 w0 W g f0 f1 f2 f3 f4 f5 f6 f7 f8 f9) : ∀ k, W.heap.size ≤ k → k ≠ g := by
  obtain ⟨A0, c0, A2, c2, A3, c3, A4, c4, A5, c5, A6, c6, hb, hg, hr0, hr2, hr3, hr4, hr5, hr6⟩ := h
  exact Kd.freshB hb
theorem IsS36.kept {w0 W : World} {g : Nat} {f0 : List Int} {f1 : Int} {f2 : List Int} {f3 : List Int} {f4 : List Int} {f5 : List Int} {f6 : List Int} {f7 : Int} {f8 : Int} {f9 : Int} {W1 : World} {S : Nat → Prop} (h : IsS36 w0 W g f0 f1 f2 f3 f4 f5 f6 f7 f8 f9) (hk : Kept W W1 S) (hne : ¬ S g) : IsS36 w0 W1 g f0 f1 f2 f3 f4 f5 f6 f7 f8 f9 := by
  obtain ⟨A0, c0, A2, c2, A3, c3, A4, c4, A5, c5, A6, c6, hb, hg, hr0, hr2, hr3, hr4, hr5, hr6⟩ := h
  exact ⟨A0, c0, A2, c2, A3, c3, A4, c4, A5, c5, A6, c6, blk_kept hb hk hne, hg, hr0, hr2, hr3, hr4, hr5, hr6⟩
theorem IsS36.below {w0 W : World} {g : Nat} {f0 : List Int} {f1 : Int} {f2 : List Int} {f3 : List Int} {f4 : List Int} {f5 : List Int} {f6 : List Int} {f7 : Int} {f8 : Int} {f9 : Int} {W1 : World} (h : IsS36 w0 W g f0 f1 f2 f3 f4 f5 f6 f7 f8 f9) (hw : Below W.heap.size W W1) : IsS36 w0 W1 g f0 f1 f2 f3 f4 f5 f6 f7 f8 f9 := h.grown (grown_of_below hw none) (by simp)
theorem IsS36.alloc {w0 W : World} {g : Nat} {f0 : List Int} {f1 : Int} {f2 : List Int} {f3 : List Int} {f4 : List Int} {f5 : List Int} {f6 : List Int} {f7 : Int} {f8 : Int} {f9 : Int} (h : IsS36 w0 W g f0 f1 f2 f3 f4 f5 f6 f7 f8 f9) (o : Obj) : IsS36 w0 (W.alloc o) g f0 f1 f2 f3 f4 f5 f6 f7 f8 f9 := h.below (below_alloc (Below.refl _ _) o)
theorem IsS36.drewN {w0 W : World} {g : Nat} {f0 : List Int} {f1 : Int} {f2 : List Int} {f3 : List Int} {f4 : List Int} {f5 : List Int} {f6 : List Int} {f7 : Int} {f8 : Int} {f9 : Int} (h : IsS36 w0 W g f0 f1 f2 f3 f4 f5 f6 f7 f8 f9) (m : Nat) : IsS36 w0 (W.drewN m) g f0 f1 f2 f3 f4 f5 f6 f7 f8 f9 := h
theorem IsS36.drew {w0 W : World} {g : Nat} {f0 : List Int} {f1 : Int} {f2 : List Int} {f3 : List Int} {f4 : List Int} {f5 : List Int} {f6 : List Int} {f7 : Int} {f8 : Int} {f9 : Int} (h : IsS36 w0 W g f0 f1 f2 f3 f4 f5 f6 f7 f8 f9) : IsS36 w0 W.drew g f0 f1 f2 f3 f4 f5 f6 f7 f8 f9 := h
theorem IsS36.at_ {w0 W : World} {g : Nat} {f0 : List Int} {f1 : Int} {f2 : List Int} {f3 : List Int} {f4 : List Int} {f5 : List Int} {f6 : List Int} {f7 : Int} {f8 : Int} {f9 : Int} {w' : World} {m : Nat} (hq : W.drewN m = w') (h : IsS36 w0 W g f0 f1 f2 f3 f4 f5 f6 f7 f8 f9) : IsS36 w0 w' g f0 f1 f2 f3 f4 f5 f6 f7 f8 f9 := by subst hq; exact IsS36.drewN h m
theorem IsS36.apart {w0 W : World} {g : Nat} {f0 : List Int} {f1 : Int} {f2 : List Int} {f3 : List Int} {f4 : List Int} {f5 : List Int} {f6 : List Int} {f7 : Int} {f8 : Int} {f9 : Int} {α : Type} {d : Kd α} {e : Nat} {base : Nat} {ok : Nat → Prop} {v : Value} {xs : List α} (h : IsS36 w0 W g f0 f1 f2 f3 f4 f5 f6 f7 f8 f9) (ho : d.R e W base ok v xs) (ht : ∀ q, q ∈ e :: d.E → q ≠ 36) : d.R e W base (fun k => ok k ∧ k ≠ g) v xs := by
  obtain ⟨A0, c0, A2, c2, A3, c3, A4, c4, A5, c5, A6, c6, hb, hg, hr0, hr2, hr3, hr4, hr5, hr6⟩ := h
  exact Kd.R_types ho hb ht
theorem IsS36.own_ne {w0 W : World} {g : Nat} {f0 : List Int} {f1 : Int} {f2 : List Int} {f3 : List Int} {f4 : List Int} {f5 : List Int} {f6 : List Int} {f7 : Int} {f8 : Int} {f9 : Int} {α : Type} {d : Kd α} {e : Nat} {base : Nat} {ok : Nat → Prop} {v : Value} {xs : List α} (h : IsS36 w0 W g f0 f1 f2 f3 f4 f5 f6 f7 f8 f9) (ho : d.R e W base ok v xs) (ht : e ≠ 36) : some g ≠ v.ownBlock := by
  obtain ⟨A0, c0, A2, c2, A3, c3, A4, c4, A5, c5, A6, c6, hb, hg, hr0, hr2, hr3, hr4, hr5, hr6⟩ := h
  exact Kd.R_ne ho hb ht
theorem IsS36.apartQ {w0 W : World} {g : Nat} {f0 : List Int} {f1 : Int} {f2 : List Int} {f3 : List Int} {f4 : List Int} {f5 : List Int} {f6 : List Int} {f7 : Int} {f8 : Int} {f9 : Int} {α : Type} {d : Kd α} {e : Nat} {base : Nat} {ok : Nat → Prop} {v : Value} {xs : List α} (h : IsS36 w0 W g f0 f1 f2 f3 f4 f5 f6 f7 f8 f9) (ho : d.Q e W base ok v xs) (ht : ∀ q, q ∈ e :: d.E → q ≠ 36) : d.Q e W base (fun k => ok k ∧ k ≠ g) v xs := by
  obtain ⟨A0, c0, A2, c2, A3, c3, A4, c4, A5, c5, A6, c6, hb, hg, hr0, hr2, hr3, hr4, hr5, hr6⟩ := h
  exact Kd.Q_types ho hb ht
theorem IsS36.own_neQ {w0 W : World} {g : Nat} {f0 : List Int} {f1 : Int} {f2 : List Int} {f3 : List Int} {f4 : List Int} {f5 : List Int} {f6 : List Int} {f7 : Int} {f8 : Int} {f9 : Int} {α : Type} {d : Kd α} {e : Nat} {base : Nat} {ok : Nat → Prop} {v : Value} {xs : List α} (h : IsS36 w0 W g f0 f1 f2 f3 f4 f5 f6 f7 f8 f9) (ho : d.Q e W base ok v xs) (ht : e ≠ 36) : some g ≠ v.ownBlock := by
  obtain ⟨A0, c0, A2, c2, A3, c3, A4, c4, A5, c5, A6, c6, hb, hg, hr0, hr2, hr3, hr4, hr5, hr6⟩ := h
  exact Kd.Q_ne ho hb ht
theorem IsS36.apartS {w0 W : World} {g : Nat} {f0 : List Int} {f1 : Int} {f2 : List Int} {f3 : List Int} {f4 : List Int} {f5 : List Int} {f6 : List Int} {f7 : Int} {f8 : Int} {f9 : Int} {α : Type} {d : Kd α} {e : Nat} {base : Nat} {ok : Nat → Prop} {v : Value} {xs : List α} (h : IsS36 w0 W g f0 f1 f2 f3 f4 f5 f6 f7 f8 f9) (ho : d.S e W base ok v xs) (ht : ∀ q, q ∈ e :: d.E → q ≠ 36) : d.S e W base (fun k => ok k ∧ k ≠ g) v xs := by
  obtain ⟨A0, c0, A2, c2, A3, c3, A4, c4, A5, c5, A6, c6, hb, hg, hr0, hr2, hr3, hr4, hr5, hr6⟩ := h
  exact Kd.S_types ho hb ht
theorem IsS36.own_neS {w0 W : World} {g : Nat} {f0 : List Int} {f1 : Int} {f2 : List Int} {f3 : List Int} {f4 : List Int} {f5 : List Int} {f6 : List Int} {f7 : Int} {f8 : Int} {f9 : Int} {α : Type} {d : Kd α} {e : Nat} {base : Nat} {ok : Nat → Prop} {v : Value} {xs : List α} (h : IsS36 w0 W g f0 f1 f2 f3 f4 f5 f6 f7 f8 f9) (ho : d.S e W base ok v xs) (ht : e ≠ 36) : some g ≠ v.ownBlock := by
  obtain ⟨A0, c0, A2, c2, A3, c3, A4, c4, A5, c5, A6, c6, hb, hg, hr0, hr2, hr3, hr4, hr5, hr6⟩ := h
  exact Kd.S_ne ho hb ht
theorem IsS36.lt {w0 W : World} {g : Nat} {f0 : List Int} {f1 : Int} {f2 : List Int} {f3 : List Int} {f4 : List Int} {f5 : List Int} {f6 : List Int} {f7 : Int} {f8 : Int} {f9 : Int} (h : IsS36 w0 W g f0 f1 f2 f3 f4 f5 f6 f7 f8 f9) : g < W.heap.size := by
  obtain ⟨A0, c0, A2, c2, A3, c3, A4, c4, A5, c5, A6, c6, hb, hg, hr0, hr2, hr3, hr4, hr5, hr6⟩ := h
  exact blk_lt hb
theorem IsS36.ge {w0 W : World} {g : Nat} {f0 : List Int} {f1 : Int} {f2 : List Int} {f3 : List Int} {f4 : List Int} {f5 : List Int} {f6 : List Int} {f7 : Int} {f8 : Int} {f9 : Int} (h : IsS36 w0 W g f0 f1 f2 f3 f4 f5 f6 f7 f8 f9) : w0.heap.size ≤ g := by
  obtain ⟨A0, c0, A2, c2, A3, c3, A4, c4, A5, c5, A6, c6, hb, hg, hr0, hr2, hr3, hr4, hr5, hr6⟩ := h
  exact hg
theorem IsS36.ne_blk {w0 W : World} {g : Nat} {f0 : List Int} {f1 : Int} {f2 : List Int} {f3 : List Int} {f4 : List Int} {f5 : List Int} {f6 : List Int} {f7 : Int} {f8 : Int} {f9 : Int} {a : Nat} {cs : Array Value} {t : TypeId} {fr : Nat × Nat} (h : IsS36 w0 W g f0 f1 f2 f3 f4 f5 f6 f7 f8 f9) (hb2 : W.heap[a]? = some (.cells cs t fr)) (ht : t ≠ 36) : g ≠ a := by
  obtain ⟨A0, c0, A2, c2, A3, c3, A4, c4, A5, c5, A6, c6, hb, hg, hr0, hr2, hr3, hr4, hr5, hr6⟩ := h
  rintro rfl
  rw [hb] at hb2
  injection hb2 with hb2
  injection hb2 with _ ht2
  exact ht ht2.symm
theorem IsS36.far {w0 W : World} {g : Nat} {f0 : List Int} {f1 : Int} {f2 : List Int} {f3 : List Int} {f4 : List Int} {f5 : List Int} {f6 : List Int} {f7 : Int} {f8 : Int} {f9 : Int} {p : Addr} (h : IsS36 w0 W g f0 f1 f2 f3 f4 f5 f6 f7 f8 f9) (hne : g ≠ p.block) (u : Value) : IsS36 w0 (W.setCell p u) g f0 f1 f2 f3 f4 f5 f6 f7 f8 f9 := by
  obtain ⟨A0, c0, A2, c2, A3, c3, A4, c4, A5, c5, A6, c6, hb, hg, hr0, hr2, hr3, hr4, hr5, hr6⟩ := h
  exact ⟨A0, c0, A2, c2, A3, c3, A4, c4, A5, c5, A6, c6, blk_far hb hne u, hg, hr0, hr2, hr3, hr4, hr5, hr6⟩
theorem cellS36_0 {W : World} {g : Nat} {A0 : Option Addr} {c0 : Nat} {A2 : Option Addr} {c2 : Nat} {A3 : Option Addr} {c3 : Nat} {A4 : Option Addr} {c4 : Nat} {A5 : Option Addr} {c5 : Nat} {A6 : Option Addr} {c6 : Nat} {f0 : List Int} {f1 : Int} {f2 : List Int} {f3 : List Int} {f4 : List Int} {f5 : List Int} {f6 : List Int} {f7 : Int} {f8 : Int} {f9 : Int} (h : W.heap[g]? = some (.cells #[.slice A0 f0.length c0, .int .i64 f1, .slice A2 f2.length c2, .slice A3 f3.length c3, .slice A4 f4.length c4, .slice A5 f5.length c5, .slice A6 f6.length c6, .int .i64 f7, .int .i64 f8, .int .i64 f9] 36 (0, 0))) : W.cell? ⟨g, 0, none⟩ = some (.slice A0 f0.length c0) := (blk_cell h 0).trans rfl
theorem cellS36_1 {W : World} {g : Nat} {A0 : Option Addr} {c0 : Nat} {A2 : Option Addr} {c2 : Nat} {A3 : Option Addr} {c3 : Nat} {A4 : Option Addr} {c4 : Nat} {A5 : Option Addr} {c5 : Nat} {A6 : Option Addr} {c6 : Nat} {f0 : List Int} {f1 : Int} {f2 : List Int} {f3 : List Int} {f4 : List Int} {f5 : List Int} {f6 : List Int} {f7 : Int} {f8 : Int} {f9 : Int} (h : W.heap[g]? = some (.cells #[.slice A0 f0.length c0, .int .i64 f1, .slice A2 f2.length c2, .slice A3 f3.length c3, .slice A4 f4.length c4, .slice A5 f5.length c5, .slice A6 f6.length c6, .int .i64 f7, .int .i64 f8, .int .i64 f9] 36 (0, 0))) : W.cell? ⟨g, 1, none⟩ = some (.int .i64 f1) := (blk_cell h 1).trans rfl
theorem IsS36.set_1 {w0 W : World} {g : Nat} {f0 : List Int} {f1 : Int} {f2 : List Int} {f3 : List Int} {f4 : List Int} {f5 : List Int} {f6 : List Int} {f7 : Int} {f8 : Int} {f9 : Int} (h : IsS36 w0 W g f0 f1 f2 f3 f4 f5 f6 f7 f8 f9) (x : Int) : IsS36 w0 (W.setCell ⟨g, 1, none⟩ (.int .i64 x)) g f0 x f2 f3 f4 f5 f6 f7 f8 f9 := by
  obtain ⟨A0, c0, A2, c2, A3, c3, A4, c4, A5, c5, A6, c6, hb, hg, hr0, hr2, hr3, hr4, hr5, hr6⟩ := h
  exact ⟨A0, c0, A2, c2, A3, c3, A4, c4, A5, c5, A6, c6, by simpa using blk_set hb 1 (.int .i64 x), hg, hr0, hr2, hr3, hr4, hr5, hr6⟩
theorem cellS36_2 {W : World} {g : Nat} {A0 : Option Addr} {c0 : Nat} {A2 : Option Addr} {c2 : Nat} {A3 : Option Addr} {c3 : Nat} {A4 : Option Addr} {c4 : Nat} {A5 : Option Addr} {c5 : Nat} {A6 : Option Addr} {c6 : Nat} {f0 : List Int} {f1 : Int} {f2 : List Int} {f3 : List Int} {f4 : List Int} {f5 : List Int} {f6 : List Int} {f7 : Int} {f8 : Int} {f9 : Int} (h : W.heap[g]? = some (.cells #[.slice A0 f0.length c0, .int .i64 f1, .slice A2 f2.length c2, .slice A3 f3.length c3, .slice A4 f4.length c4, .slice A5 f5.length c5, .slice A6 f6.length c6, .int .i64 f7, .int .i64 f8, .int .i64 f9] 36 (0, 0))) : W.cell? ⟨g, 2, none⟩ = some (.slice A2 f2.length c2) := (blk_cell h 2).trans rfl
theorem cellS36_3 {W : World} {g : Nat} {A0 : Option Addr} {c0 : Nat} {A2 : Option Addr} {c2 : Nat} {A3 : Option Addr} {c3 : Nat} {A4 : Option Addr} {c4 : Nat} {A5 : Option Addr} {c5 : Nat} {A6 : Option Addr} {c6 : Nat} {f0 : List Int} {f1 : Int} {f2 : List Int} {f3 : List Int} {f4 : List Int} {f5 : List Int} {f6 : List Int} {f7 : Int} {f8 : Int} {f9 : Int} (h : W.heap[g]? = some (.cells #[.slice A0 f0.length c0, .int .i64 f1, .slice A2 f2.length c2, .slice A3 f3.length c3, .slice A4 f4.length c4, .slice A5 f5.length c5, .slice A6 f6.length c6, .int .i64 f7, .int .i64 f8, .int .i64 f9] 36 (0, 0))) : W.cell? ⟨g, 3, none⟩ = some (.slice A3 f3.length c3) := (blk_cell h 3).trans rfl
theorem cellS36_4 {W : World} {g : Nat} {A0 : Option Addr} {c0 : Nat} {A2 : Option Addr} {c2 : Nat} {A3 : Option Addr} {c3 : Nat} {A4 : Option Addr} {c4 : Nat} {A5 : Option Addr} {c5 : Nat} {A6 : Option Addr} {c6 : Nat} {f0 : List Int} {f1 : Int} {f2 : List Int} {f3 : List Int} {f4 : List Int} {f5 : List Int} {f6 : List Int} {f7 : Int} {f8 : Int} {f9 : Int} (h : W.heap[g]? = some (.cells #[.slice A0 f0.length c0, .int .i64 f1, .slice A2 f2.length c2, .slice A3 f3.length c3, .slice A4 f4.length c4, .slice A5 f5.length c5, .slice A6 f6.length c6, .int .i64 f7, .int .i64 f8, .int .i64 f9] 36 (0, 0))) : W.cell? ⟨g, 4, none⟩ = some (.slice A4 f4.length c4) := (blk_cell h 4).trans rfl
theorem cellS36_5 {W : World} {g : Nat} {A0 : Option Addr} {c0 : Nat} {A2 : Option Addr} {c2 : Nat} {A3 : Option Addr} {c3 : Nat} {A4 : Option Addr} {c4 : Nat} {A5 : Option Addr} {c5 : Nat} {A6 : Option Addr} {c6 : Nat} {f0 : List Int} {f1 : Int} {f2 : List Int} {f3 : List Int} {f4 : List Int} {f5 : List Int} {f6 : List Int} {f7 : Int} {f8 : Int} {f9 : Int} (h : W.heap[g]? = some (.cells #[.slice A0 f0.length c0, .int .i64 f1, .slice A2 f2.length c2, .slice A3 f3.length c3, .slice A4 f4.length c4, .slice A5 f5.length c5, .slice A6 f6.length c6, .int .i64 f7, .int .i64 f8, .int .i64 f9] 36 (0, 0))) : W.cell? ⟨g, 5, none⟩ = some (.slice A5 f5.length c5) := (blk_cell h 5).trans rfl
theorem cellS36_6 {W : World} {g : Nat} {A0 : Option Addr} {c0 : Nat} {A2 : Option Addr} {c2 : Nat} {A3 : Option Addr} {c3 : Nat} {A4 : Option Addr} {c4 : Nat} {A5 : Option Addr} {c5 : Nat} {A6 : Option Addr} {c6 : Nat} {f0 : List Int} {f1 : Int} {f2 : List Int} {f3 : List Int} {f4 : List Int} {f5 : List Int} {f6 : List Int} {f7 : Int} {f8 : Int} {f9 : Int} (h : W.heap[g]? = some (.cells #[.slice A0 f0.length c0, .int .i64 f1, .slice A2 f2.length c2, .slice A3 f3.length c3, .slice A4 f4.length c4, .slice A5 f5.length c5, .slice A6 f6.length c6, .int .i64 f7, .int .i64 f8, .int .i64 f9] 36 (0, 0))) : W.cell? ⟨g, 6, none⟩ = some (.slice A6 f6.length c6) := (blk_cell h 6).trans rfl
theorem cellS36_7 {W : World} {g : Nat} {A0 : Option Addr} {c0 : Nat} {A2 : Option Addr} {c2 : Nat} {A3 : Option Addr} {c3 : Nat} {A4 : Option Addr} {c4 : Nat} {A5 : Option Addr} {c5 : Nat} {A6 : Option Addr} {c6 : Nat} {f0 : List Int} {f1 : Int} {f2 : List Int} {f3 : List Int} {f4 : List Int} {f5 : List Int} {f6 : List Int} {f7 : Int} {f8 : Int} {f9 : Int} (h : W.heap[g]? = some (.cells #[.slice A0 f0.length c0, .int .i64 f1, .slice A2 f2.length c2, .slice A3 f3.length c3, .slice A4 f4.length c4, .slice A5 f5.length c5, .slice A6 f6.length c6, .int .i64 f7, .int .i64 f8, .int .i64 f9] 36 (0, 0))) : W.cell? ⟨g, 7, none⟩ = some (.int .i64 f7) := (blk_cell h 7).trans rfl
theorem IsS36.set_7 {w0 W : World} {g : Nat} {f0 : List Int} {f1 : Int} {f2 : List Int} {f3 : List Int} {f4 : List Int} {f5 : List Int} {f6 : List Int} {f7 : Int} {f8 : Int} {f9 : Int} (h : IsS36 w0 W g f0 f1 f2 f3 f4 f5 f6 f7 f8 f9) (x : Int) : IsS36 w0 (W.setCell ⟨g, 7, none⟩ (.int .i64 x)) g f0 f1 f2 f3 f4 f5 f6 x f8 f9 := by
  obtain ⟨A0, c0, A2, c2, A3, c3, A4, c4, A5, c5, A6, c6, hb, hg, hr0, hr2, hr3, hr4, hr5, hr6⟩ := h
  exact ⟨A0, c0, A2, c2, A3, c3, A4, c4, A5, c5, A6, c6, by simpa using blk_set hb 7 (.int .i64 x), hg, hr0, hr2, hr3, hr4, hr5, hr6⟩
theorem cellS36_8 {W : World} {g : Nat} {A0 : Option Addr} {c0 : Nat} {A2 : Option Addr} {c2 : Nat} {A3 : Option Addr} {c3 : Nat} {A4 : Option Addr} {c4 : Nat} {A5 : Option Addr} {c5 : Nat} {A6 : Option Addr} {c6 : Nat} {f0 : List Int} {f1 : Int} {f2 : List Int} {f3 : List Int} {f4 : List Int} {f5 : List Int} {f6 : List Int} {f7 : Int} {f8 : Int} {f9 : Int} (h : W.heap[g]? = some (.cells #[.slice A0 f0.length c0, .int .i64 f1, .slice A2 f2.length c2, .slice A3 f3.length c3, .slice A4 f4.length c4, .slice A5 f5.length c5, .slice A6 f6.length c6, .int .i64 f7, .int .i64 f8, .int .i64 f9] 36 (0, 0))) : W.cell? ⟨g, 8, none⟩ = some (.int .i64 f8) := (blk_cell h 8).trans rfl
theorem IsS36.set_8 {w0 W : World} {g : Nat} {f0 : List Int} {f1 : Int} {f2 : List Int} {f3 : List Int} {f4 : List Int} {f5 : List Int} {f6 : List Int} {f7 : Int} {f8 : Int} {f9 : Int} (h : IsS36 w0 W g f0 f1 f2 f3 f4 f5 f6 f7 f8 f9) (x : Int) : IsS36 w0 (W.setCell ⟨g, 8, none⟩ (.int .i64 x)) g f0 f1 f2 f3 f4 f5 f6 f7 x f9 := by
  obtain ⟨A0, c0, A2, c2, A3, c3, A4, c4, A5, c5, A6, c6, hb, hg, hr0, hr2, hr3, hr4, hr5, hr6⟩ := h
  exact ⟨A0, c0, A2, c2, A3, c3, A4, c4, A5, c5, A6, c6, by simpa using blk_set hb 8 (.int .i64 x), hg, hr0, hr2, hr3, hr4, hr5, hr6⟩
theorem cellS36_9 {W : World} {g : Nat} {A0 : Option Addr} {c0 : Nat} {A2 : Option Addr} {c2 : Nat} {A3 : Option Addr} {c3 : Nat} {A4 : Option Addr} {c4 : Nat} {A5 : Option Addr} {c5 : Nat} {A6 : Option Addr} {c6 : Nat} {f0 : List Int} {f1 : Int} {f2 : List Int} {f3 : List Int} {f4 : List Int} {f5 : List Int} {f6 : List Int} {f7 : Int} {f8 : Int} {f9 : Int} (h : W.heap[g]? = some (.cells #[.slice A0 f0.length c0, .int .i64 f1, .slice A2 f2.length c2, .slice A3 f3.length c3, .slice A4 f4.length c4, .slice A5 f5.length c5, .slice A6 f6.length c6, .int .i64 f7, .int .i64 f8, .int .i64 f9] 36 (0, 0))) : W.cell? ⟨g, 9, none⟩ = some (.int .i64 f9) := (blk_cell h 9).trans rfl
theorem IsS36.set_9 {w0 W : World} {g : Nat} {f0 : List Int} {f1 : Int} {f2 : List Int} {f3 : List Int} {f4 : List Int} {f5 : List Int} {f6 : List Int} {f7 : Int} {f8 : Int} {f9 : Int} (h : IsS36 w0 W g f0 f1 f2 f3 f4 f5 f6 f7 f8 f9) (x : Int) : IsS36 w0 (W.setCell ⟨g, 9, none⟩ (.int .i64 x)) g f0 f1 f2 f3 f4 f5 f6 f7 f8 x := by
  obtain ⟨A0, c0, A2, c2, A3, c3, A4, c4, A5, c5, A6, c6, hb, hg, hr0, hr2, hr3, hr4, hr5, hr6⟩ := h
  exact ⟨A0, c0, A2, c2, A3, c3, A4, c4, A5, c5, A6, c6, by simpa using blk_set hb 9 (.int .i64 x), hg, hr0, hr2, hr3, hr4, hr5, hr6⟩
theorem IsS36.new (w0 W : World) (A0 : Option Addr) (c0 : Nat) (A2 : Option Addr) (c2 : Nat) (A3 : Option Addr) (c3 : Nat) (A4 : Option Addr) (c4 : Nat) (A5 : Option Addr) (c5 : Nat) (A6 : Option Addr) (c6 : Nat) (f0 : List Int) (f1 : Int) (f2 : List Int) (f3 : List Int) (f4 : List Int) (f5 : List Int) (f6 : List Int) (f7 : Int) (f8 : Int) (f9 : Int) (hB : Below w0.heap.size w0 W) (hr0 : Kd.C (Kd.int .i64) w0 A0 f0.length f0) (hr2 : Kd.C (Kd.int .i64) w0 A2 f2.length f2) (hr3 : Kd.C (Kd.int .u8) w0 A3 f3.length f3) (hr4 : Kd.C (Kd.int .u8) w0 A4 f4.length f4) (hr5 : Kd.C (Kd.int .u8) w0 A5 f5.length f5) (hr6 : Kd.C (Kd.int .u8) w0 A6 f6.length f6) : IsS36 w0 (W.alloc (.cells #[.slice A0 f0.length c0, .int .i64 f1, .slice A2 f2.length c2, .slice A3 f3.length c3, .slice A4 f4.length c4, .slice A5 f5.length c5, .slice A6 f6.length c6, .int .i64 f7, .int .i64 f8, .int .i64 f9] 36)) W.heap.size f0 f1 f2 f3 f4 f5 f6 f7 f8 f9 := ⟨A0, c0, A2, c2, A3, c3, A4, c4, A5, c5, A6, c6, by simpa using heap_alloc_new W _, hB.size, hr0, hr2, hr3, hr4, hr5, hr6⟩

/-! ### spec_l3Spot: function 112 -/
def spec_l3Spot.j0 : Nat → Int → Int → Int → Bool → List Int → Int → List Int → List Int → List Int → List Int → List Int → Int → Int → Int → Option (Int × Int × Int × Int × Int × Int)
  | 0, _, _, _, _, _, _, _, _, _, _, _, _, _, _ => none
  | k + 1, x1, x2, x8, x24, x1000, x1001, x1002, x1003, x1004, x1005, x1006, x1007, x1008, x1009 => if x24 = true then (some (1, x8, x1001, x1007, x1008, x1009)) else (if (wrap64 (x1 - (wrap64 (2097152 - (x1004.length : Int))))) ≥ 0 then (if (wrap64 (x1 - (wrap64 (2097152 - (x1004.length : Int))))) ≤ (wrap64 ((x1004.length : Int) - x2)) then (some (2, wrap64 (x1 - (wrap64 (2097152 - (x1004.length : Int)))), x1001, x1007, x1008, x1009)) else (some (0, 0, x1001, x1007, x1008, x1009))) else (some (0, 0, x1001, x1007, x1008, x1009)))
def spec_l3Spot.f (k : Nat) (s0_0 : List Int) (s0_1 : Int) (s0_2 : List Int) (s0_3 : List Int) (s0_4 : List Int) (s0_5 : List Int) (s0_6 : List Int) (s0_7 : Int) (s0_8 : Int) (s0_9 : Int) (a1 : Int) (a2 : Int) : Option (Int × Int × Int × Int × Int × Int) := if (wrap64 (a1 - 1048576)) ≥ 0 then (spec_l3Spot.j0 k a1 a2 (wrap64 (a1 - 1048576)) (decide ((wrap64 (a1 - 1048576)) ≤ (wrap64 ((s0_3.length : Int) - a2)))) s0_0 s0_1 s0_2 s0_3 s0_4 s0_5 s0_6 s0_7 s0_8 s0_9) else (spec_l3Spot.j0 k a1 a2 (wrap64 (a1 - 1048576)) false s0_0 s0_1 s0_2 s0_3 s0_4 s0_5 s0_6 s0_7 s0_8 s0_9)
theorem spec_l3Spot.mono_l : ∀ k, (∀ y0 y1 y2 y3 y4 y5 y6 y7 y8 y9 y10 y11 y12 y13, LeO (spec_l3Spot.j0 k y0 y1 y2 y3 y4 y5 y6 y7 y8 y9 y10 y11 y12 y13) (spec_l3Spot.j0 (k + 1) y0 y1 y2 y3 y4 y5 y6 y7 y8 y9 y10 y11 y12 y13))
  | 0 => fun _ _ _ _ _ _ _ _ _ _ _ _ _ _ r h => by simp [spec_l3Spot.j0] at h
  | k + 1 => by
    have ih0 := spec_l3Spot.mono_l k
    · intro y0 y1 y2 y3 y4 y5 y6 y7 y8 y9 y10 y11 y12 y13
      unfold spec_l3Spot.j0
      repeat' first
      | (with_reducible exact ih0 _ _ _ _ _ _ _ _ _ _ _ _ _ _)
      | (with_reducible exact LeO.refl _)
      | (with_reducible exact LeO.none _)
      | (with_reducible refine LeO.ite ?_ ?_)
      | (with_reducible refine LeO.bind ?_ (fun _ => ?_))
      | exact ih0 _ _ _ _ _ _ _ _ _ _ _ _ _ _
      | exact LeO.none _
      | refine LeO.ite ?_ ?_
      | refine LeO.bind ?_ (fun _ => ?_)
theorem spec_l3Spot.mono : ∀ a0 a1 a2 a3 a4 a5 a6 a7 a8 a9 a10 a11 k, LeO (spec_l3Spot.f k a0 a1 a2 a3 a4 a5 a6 a7 a8 a9 a10 a11) (spec_l3Spot.f (k + 1) a0 a1 a2 a3 a4 a5 a6 a7 a8 a9 a10 a11) := by
  intro a0 a1 a2 a3 a4 a5 a6 a7 a8 a9 a10 a11 k
  have ih0 := spec_l3Spot.mono_l k
  unfold spec_l3Spot.f
  repeat' first
      | (with_reducible exact ih0 _ _ _ _ _ _ _ _ _ _ _ _ _ _)
      | (with_reducible exact LeO.refl _)
      | (with_reducible exact LeO.none _)
      | (with_reducible refine LeO.ite ?_ ?_)
      | (with_reducible refine LeO.bind ?_ (fun _ => ?_))
      | exact ih0 _ _ _ _ _ _ _ _ _ _ _ _ _ _
      | exact LeO.none _
      | refine LeO.ite ?_ ?_
      | refine LeO.bind ?_ (fun _ => ?_)
set_option maxHeartbeats 8000000 in
set_option maxRecDepth 100000 in
theorem spec_l3Spot.calls (k : Nat) (g : Nat) (s0_0 : List Int) (s0_1 : Int) (s0_2 : List Int) (s0_3 : List Int) (s0_4 : List Int) (s0_5 : List Int) (s0_6 : List Int) (s0_7 : Int) (s0_8 : Int) (s0_9 : Int) (a1 : Int) (a2 : Int) (r1 : Int) (r2 : Int) (r3 : Int) (r4 : Int) (r5 : Int) (r6 : Int) (w0 w : World) (hI : IsS36 w0 w g s0_0 s0_1 s0_2 s0_3 s0_4 s0_5 s0_6 s0_7 s0_8 s0_9) (hB : Below w0.heap.size w0 w) (h : spec_l3Spot.f k s0_0 s0_1 s0_2 s0_3 s0_4 s0_5 s0_6 s0_7 s0_8 s0_9 a1 a2 = some (r1, r2, r3, r4, r5, r6)) :
    Calls Try.prog 112 #[.pointer (some ⟨g, 0, none⟩), .int .i64 a1, .int .i64 a2] w fun e w' => e = .returned (.tuple #[.int .i64 r1, .int .i64 r2]) ∧ IsS36 w0 w' g s0_0 r3 s0_2 s0_3 s0_4 s0_5 s0_6 r4 r5 r6 ∧ Below w0.heap.size w0 w' ∧ KeepBut w w' g none := by
  have HI0 := Aside0.mk hI
  have HK := Aside0.mk (KeepBut.refl w g none)
  have HL := Aside0.mk hB.size
  clear hI
  have HW0 := Aside0.mk hB.size
  have HB := Aside0.mk hB
  clear hB
  have H : (if (wrap64 (a1 - 1048576)) ≥ 0 then (spec_l3Spot.j0 k a1 a2 (wrap64 (a1 - 1048576)) (decide ((wrap64 (a1 - 1048576)) ≤ (wrap64 ((s0_3.length : Int) - a2)))) s0_0 s0_1 s0_2 s0_3 s0_4 s0_5 s0_6 s0_7 s0_8 s0_9) else (spec_l3Spot.j0 k a1 a2 (wrap64 (a1 - 1048576)) false s0_0 s0_1 s0_2 s0_3 s0_4 s0_5 s0_6 s0_7 s0_8 s0_9)) = some (r1, r2, r3, r4, r5, r6) := h
  clear h
  have HC4 := Aside0.mk H
  clear H
  go_enter Try.func112, Try.ntmps112
  go_upto_region 2 with (fail)
  go_cut [24] (fun v24 wc => ∃ (kq : Nat) (x24_3 : Bool), v24 = .bool x24_3 ∧ Aside0 (spec_l3Spot.j0 kq a1 a2 (wrap64 (a1 - 1048576)) x24_3 s0_0 s0_1 s0_2 s0_3 s0_4 s0_5 s0_6 s0_7 s0_8 s0_9 = some (r1, r2, r3, r4, r5, r6)) ∧ Aside0 (kq ≤ k) ∧ Aside0 (IsS36 w0 wc g s0_0 s0_1 s0_2 s0_3 s0_4 s0_5 s0_6 s0_7 s0_8 s0_9) ∧ Aside0 (KeepBut w wc g none) ∧ Aside0 (Below w0.heap.size w0 wc))
  case first =>
    have H := HC4.out
    clear HC4
    by_cases c5 : (wrap64 (a1 - 1048576)) ≥ 0
    · rw [if_pos c5] at H
      have c5b0 : decide (0 ≤ (wrap64 (a1 - 1048576))) = true := decide_eq_true c5
      clear c5
      (first | rw [c5b0] | (simp only [i64_w, i32_w]; rw [c5b0]) | skip)
      have H' := Aside0.mk H
      clear H
      obtain ⟨ASz6_0, cSz6_0, ASz6_2, cSz6_2, ASz6_3, cSz6_3, ASz6_4, cSz6_4, ASz6_5, cSz6_5, ASz6_6, cSz6_6, HGz6, hgz6, HSz6_0, HSz6_2, HSz6_3, HSz6_4, HSz6_5, HSz6_6⟩ := HI0.out
      have hcz6_0 := cellS36_0 HGz6
      have hcz6_1 := cellS36_1 HGz6
      have hcz6_2 := cellS36_2 HGz6
      have hcz6_3 := cellS36_3 HGz6
      have hcz6_4 := cellS36_4 HGz6
      have hcz6_5 := cellS36_5 HGz6
      have hcz6_6 := cellS36_6 HGz6
      have hcz6_7 := cellS36_7 HGz6
      have hcz6_8 := cellS36_8 HGz6
      have hcz6_9 := cellS36_9 HGz6
      have hfz6_1 := blk_frozen HGz6 1
      have hfz6_7 := blk_frozen HGz6 7
      have hfz6_8 := blk_frozen HGz6 8
      have hfz6_9 := blk_frozen HGz6 9
      clear HGz6 hgz6
      go_wp2
      go_meet
      case rel => exact ⟨_, (decide ((wrap64 (a1 - 1048576)) ≤ (wrap64 ((s0_3.length : Int) - a2)))), (by first | rfl | (simp; done) | (simp [*]; done)), H', ⟨by first | omega | exact Nat.le_refl _⟩, ⟨by repeat (first | (with_reducible first | exact HI0.out | apply IsS36.alloc | apply IsS36.drewN | apply IsS36.drew | apply IsS36.set_1 | apply IsS36.set_7 | apply IsS36.set_8 | apply IsS36.set_9) | exact HI0.out)⟩, ⟨by repeat (first | (with_reducible first | exact HK.out | apply KeepBut.set_ | apply keep_drewN | apply keep_drew | apply keep_alloc) | exact HK.out)⟩, ⟨by repeat (first | (with_reducible first | exact HB.out | apply below_alloc | apply pw_below_drewN | apply below_drew1 | refine below_set ?_ (IsS36.ge HI0.out)) | exact HB.out)⟩⟩
    · rw [if_neg c5] at H
      have c5b0 : decide (0 ≤ (wrap64 (a1 - 1048576))) = false := decide_eq_false c5
      clear c5
      (first | rw [c5b0] | (simp only [i64_w, i32_w]; rw [c5b0]) | skip)
      have H' := Aside0.mk H
      clear H
      go_wp2
      go_meet
      case rel => exact ⟨_, (false), (by first | rfl | (simp; done) | (simp [*]; done)), H', ⟨by first | omega | exact Nat.le_refl _⟩, ⟨by repeat (first | (with_reducible first | exact HI0.out | apply IsS36.alloc | apply IsS36.drewN | apply IsS36.drew | apply IsS36.set_1 | apply IsS36.set_7 | apply IsS36.set_8 | apply IsS36.set_9) | exact HI0.out)⟩, ⟨by repeat (first | (with_reducible first | exact HK.out | apply KeepBut.set_ | apply keep_drewN | apply keep_drew | apply keep_alloc) | exact HK.out)⟩, ⟨by repeat (first | (with_reducible first | exact HB.out | apply below_alloc | apply pw_below_drewN | apply below_drew1 | refine below_set ?_ (IsS36.ge HI0.out)) | exact HB.out)⟩⟩
  case rest =>
    clear HC4
    try clear c1
    try clear p2
    try clear c5
    try clear c5b0
    try clear p6
    try clear hcz6_0
    try clear hcz6_1
    try clear hcz6_2
    try clear hcz6_3
    try clear hcz6_4
    try clear hcz6_5
    try clear hcz6_6
    try clear hcz6_7
    try clear hcz6_8
    try clear hcz6_9
    try clear hfz6_1
    try clear hfz6_7
    try clear hfz6_8
    try clear hfz6_9
    obtain ⟨kq, x24_3, rfl, HA, HJ3, HI0, HK, HB⟩ := hcut
    cases kq with
    | zero => exact absurd HA.out (by simp [spec_l3Spot.j0])
    | succ kj3 =>
      have H := HA.out
      clear HA
      simp only [spec_l3Spot.j0] at H
      by_cases c7 : x24_3 = true
      · subst c7
        have H1 : (some (1, (wrap64 (a1 - 1048576)), s0_1, s0_7, s0_8, s0_9)) = some (r1, r2, r3, r4, r5, r6) := by rw [if_pos rfl] at H; exact H
        clear H
        have H := H1
        clear H1
        simp only [Option.some.injEq, Prod.mk.injEq] at H
        obtain ⟨rfl, rfl, rfl, rfl, rfl, rfl⟩ := H
        go_wp2
        go_ret2
        exact ⟨by first | rfl | (simp [errW_none, errW_some] <;> rfl) | (simp [*, errW_none, errW_some] <;> rfl), by repeat (first | (with_reducible first | exact HI0.out | apply IsS36.alloc | apply IsS36.drewN | apply IsS36.drew | apply IsS36.set_1 | apply IsS36.set_7 | apply IsS36.set_8 | apply IsS36.set_9) | exact HI0.out), by repeat (first | (with_reducible first | exact HB.out | apply below_alloc | apply pw_below_drewN | apply below_drew1 | refine below_set ?_ (IsS36.ge HI0.out)) | exact HB.out), by repeat (first | (with_reducible first | exact HK.out | apply KeepBut.set_ | apply keep_drewN | apply keep_drew | apply keep_alloc) | exact HK.out)⟩
      · replace c7 := Bool.eq_false_iff.mpr c7
        subst c7
        have H1 : (if (wrap64 (a1 - (wrap64 (2097152 - (s0_4.length : Int))))) ≥ 0 then (if (wrap64 (a1 - (wrap64 (2097152 - (s0_4.length : Int))))) ≤ (wrap64 ((s0_4.length : Int) - a2)) then (some (2, wrap64 (a1 - (wrap64 (2097152 - (s0_4.length : Int)))), s0_1, s0_7, s0_8, s0_9)) else (some (0, 0, s0_1, s0_7, s0_8, s0_9))) else (some (0, 0, s0_1, s0_7, s0_8, s0_9))) = some (r1, r2, r3, r4, r5, r6) := by rw [if_neg (show ¬ (false = true) by decide)] at H; exact H
        clear H
        have H := H1
        clear H1
        by_cases c8 : (wrap64 (a1 - (wrap64 (2097152 - (s0_4.length : Int))))) ≥ 0
        · rw [if_pos c8] at H
          have c8b0 : decide (0 ≤ (wrap64 (a1 - (wrap64 (2097152 - (s0_4.length : Int)))))) = true := decide_eq_true c8
          clear c8
          by_cases c9 : (wrap64 (a1 - (wrap64 (2097152 - (s0_4.length : Int))))) ≤ (wrap64 ((s0_4.length : Int) - a2))
          · rw [if_pos c9] at H
            have c9b0 : decide ((wrap64 (a1 - (wrap64 (2097152 - (s0_4.length : Int))))) ≤ (wrap64 ((s0_4.length : Int) - a2))) = true := decide_eq_true c9
            clear c9
            simp only [Option.some.injEq, Prod.mk.injEq] at H
            obtain ⟨rfl, rfl, rfl, rfl, rfl, rfl⟩ := H
            obtain ⟨ASz10_0, cSz10_0, ASz10_2, cSz10_2, ASz10_3, cSz10_3, ASz10_4, cSz10_4, ASz10_5, cSz10_5, ASz10_6, cSz10_6, HGz10, hgz10, HSz10_0, HSz10_2, HSz10_3, HSz10_4, HSz10_5, HSz10_6⟩ := HI0.out
            have hcz10_0 := cellS36_0 HGz10
            have hcz10_1 := cellS36_1 HGz10
            have hcz10_2 := cellS36_2 HGz10
            have hcz10_3 := cellS36_3 HGz10
            have hcz10_4 := cellS36_4 HGz10
            have hcz10_5 := cellS36_5 HGz10
            have hcz10_6 := cellS36_6 HGz10
            have hcz10_7 := cellS36_7 HGz10
            have hcz10_8 := cellS36_8 HGz10
            have hcz10_9 := cellS36_9 HGz10
            have hfz10_1 := blk_frozen HGz10 1
            have hfz10_7 := blk_frozen HGz10 7
            have hfz10_8 := blk_frozen HGz10 8
            have hfz10_9 := blk_frozen HGz10 9
            clear HGz10 hgz10
            go_wp2
            go_ret2
            exact ⟨by first | rfl | (simp [errW_none, errW_some] <;> rfl) | (simp [*, errW_none, errW_some] <;> rfl), by repeat (first | (with_reducible first | exact HI0.out | apply IsS36.alloc | apply IsS36.drewN | apply IsS36.drew | apply IsS36.set_1 | apply IsS36.set_7 | apply IsS36.set_8 | apply IsS36.set_9) | exact HI0.out), by repeat (first | (with_reducible first | exact HB.out | apply below_alloc | apply pw_below_drewN | apply below_drew1 | refine below_set ?_ (IsS36.ge HI0.out)) | exact HB.out), by repeat (first | (with_reducible first | exact HK.out | apply KeepBut.set_ | apply keep_drewN | apply keep_drew | apply keep_alloc) | exact HK.out)⟩
          · rw [if_neg c9] at H
            have c9b0 : decide ((wrap64 (a1 - (wrap64 (2097152 - (s0_4.length : Int))))) ≤ (wrap64 ((s0_4.length : Int) - a2))) = false := decide_eq_false c9
            clear c9
            simp only [Option.some.injEq, Prod.mk.injEq] at H
            obtain ⟨rfl, rfl, rfl, rfl, rfl, rfl⟩ := H
            obtain ⟨ASz11_0, cSz11_0, ASz11_2, cSz11_2, ASz11_3, cSz11_3, ASz11_4, cSz11_4, ASz11_5, cSz11_5, ASz11_6, cSz11_6, HGz11, hgz11, HSz11_0, HSz11_2, HSz11_3, HSz11_4, HSz11_5, HSz11_6⟩ := HI0.out
            have hcz11_0 := cellS36_0 HGz11
            have hcz11_1 := cellS36_1 HGz11
            have hcz11_2 := cellS36_2 HGz11
            have hcz11_3 := cellS36_3 HGz11
            have hcz11_4 := cellS36_4 HGz11
            have hcz11_5 := cellS36_5 HGz11
            have hcz11_6 := cellS36_6 HGz11
            have hcz11_7 := cellS36_7 HGz11
            have hcz11_8 := cellS36_8 HGz11
            have hcz11_9 := cellS36_9 HGz11
            have hfz11_1 := blk_frozen HGz11 1
            have hfz11_7 := blk_frozen HGz11 7
            have hfz11_8 := blk_frozen HGz11 8
            have hfz11_9 := blk_frozen HGz11 9
            clear HGz11 hgz11
            go_wp2
            go_ret2
            exact ⟨by first | rfl | (simp [errW_none, errW_some] <;> rfl) | (simp [*, errW_none, errW_some] <;> rfl), by repeat (first | (with_reducible first | exact HI0.out | apply IsS36.alloc | apply IsS36.drewN | apply IsS36.drew | apply IsS36.set_1 | apply IsS36.set_7 | apply IsS36.set_8 | apply IsS36.set_9) | exact HI0.out), by repeat (first | (with_reducible first | exact HB.out | apply below_alloc | apply pw_below_drewN | apply below_drew1 | refine below_set ?_ (IsS36.ge HI0.out)) | exact HB.out), by repeat (first | (with_reducible first | exact HK.out | apply KeepBut.set_ | apply keep_drewN | apply keep_drew | apply keep_alloc) | exact HK.out)⟩
        · rw [if_neg c8] at H
          have c8b0 : decide (0 ≤ (wrap64 (a1 - (wrap64 (2097152 - (s0_4.length : Int)))))) = false := decide_eq_false c8
          clear c8
          simp only [Option.some.injEq, Prod.mk.injEq] at H
          obtain ⟨rfl, rfl, rfl, rfl, rfl, rfl⟩ := H
          obtain ⟨ASz12_0, cSz12_0, ASz12_2, cSz12_2, ASz12_3, cSz12_3, ASz12_4, cSz12_4, ASz12_5, cSz12_5, ASz12_6, cSz12_6, HGz12, hgz12, HSz12_0, HSz12_2, HSz12_3, HSz12_4, HSz12_5, HSz12_6⟩ := HI0.out
          have hcz12_0 := cellS36_0 HGz12
          have hcz12_1 := cellS36_1 HGz12
          have hcz12_2 := cellS36_2 HGz12
          have hcz12_3 := cellS36_3 HGz12
          have hcz12_4 := cellS36_4 HGz12
          have hcz12_5 := cellS36_5 HGz12
          have hcz12_6 := cellS36_6 HGz12
          have hcz12_7 := cellS36_7 HGz12
          have hcz12_8 := cellS36_8 HGz12
          have hcz12_9 := cellS36_9 HGz12
          have hfz12_1 := blk_frozen HGz12 1
          have hfz12_7 := blk_frozen HGz12 7
          have hfz12_8 := blk_frozen HGz12 8
          have hfz12_9 := blk_frozen HGz12 9
          clear HGz12 hgz12
          go_wp2
          go_ret2
          exact ⟨by first | rfl | (simp [errW_none, errW_some] <;> rfl) | (simp [*, errW_none, errW_some] <;> rfl), by repeat (first | (with_reducible first | exact HI0.out | apply IsS36.alloc | apply IsS36.drewN | apply IsS36.drew | apply IsS36.set_1 | apply IsS36.set_7 | apply IsS36.set_8 | apply IsS36.set_9) | exact HI0.out), by repeat (first | (with_reducible first | exact HB.out | apply below_alloc | apply pw_below_drewN | apply below_drew1 | refine below_set ?_ (IsS36.ge HI0.out)) | exact HB.out), by repeat (first | (with_reducible first | exact HK.out | apply KeepBut.set_ | apply keep_drewN | apply keep_drew | apply keep_alloc) | exact HK.out)⟩

-- NOT PRINTED: function 65 (spec_l3Load)

end Go.Proofs.Ythndggachjdkfaa.PLoadWord
