-- Lines for this claim, written by the session's own program wip/myprint.py. Not trusted: Lean checks them.
import Derived.Test.YtgbpofhabhabcaaPInstOkx0
import Derived.Test.YtgbpofhabhabcaaPInstOkx1
import Derived.Test.YtgbpofhabhabcaaPInstOkx3
import Derived.Test.YtgbpofhabhabcaaPInstOkx4
namespace Go.Proofs.Ytgbpofhabhabcaa.PInstOk
open Go.RowKit Go.Proofs.YtgbpofhabhabcaaW.PrintWords Go.Proofs.YtgbpofhabhabcaaW.PrintLast Go.Proofs.YtgbpofhabhabcaaW.PrintMore
attribute [local go_sem] max2_int min2_int max_two min_two max_three min_three max_four min_four   -- for this text's walks alone
set_option linter.unusedVariables false
set_option linter.unusedSimpArgs false

attribute [local go_sem high] eqA35
/-! ### impl_InstOk: function 26 -/
def impl_InstOk.f (k : Nat) (a0_0 : Int) (a0_1 : Int) (a0_2 : Int) (a0_3 : Int) (a0_4 : Int) : Option (Bool) := (impl_isReg.f k (([a0_1, a0_2, a0_3] : List Int))).bind fun t127 => (if t127 = true then ((impl_formOf.f k a0_0).bind fun t129 => (if t129 = 82 then (some (0 == a0_4)) else (if t129 = 73 then ((impl_inside.f a0_4 (-2048) 2047).bind fun t130 => (if t130 = true then (some (0 == a0_3)) else (some false))) else (if t129 = 72 then ((impl_inside.f a0_4 0 31).bind fun t131 => (if t131 = true then (some (0 == a0_3)) else (some false))) else (if t129 = 83 then ((impl_inside.f a0_4 (-2048) 2047).bind fun t132 => (if t132 = true then (some (0 == a0_1)) else (some false))) else (if t129 = 66 then ((impl_inside.f a0_4 (-4096) 4094).bind fun t133 => (if t133 = true then (if (Int.tmod a0_4 2) = 0 then (some (0 == a0_1)) else (some false)) else (some false))) else (if t129 = 85 then ((impl_inside.f a0_4 0 1048575).bind fun t134 => (if t134 = true then (some (0 == a0_2 && (0 == a0_3))) else (some false))) else (if t129 = 74 then ((impl_inside.f a0_4 (-1048576) 1048574).bind fun t135 => (if t135 = true then (if (Int.tmod a0_4 2) = 0 then (some (0 == a0_2 && (0 == a0_3))) else (some false)) else (some false))) else (if t129 = 69 then (some (0 == a0_1 && (0 == a0_2 && (0 == a0_3 && (0 == a0_4))))) else (some false)))))))))) else (some false))
theorem impl_InstOk.mono : ∀ a0 a1 a2 a3 a4 k, LeO (impl_InstOk.f k a0 a1 a2 a3 a4) (impl_InstOk.f (k + 1) a0 a1 a2 a3 a4) := by
  intro a0 a1 a2 a3 a4 k
  unfold impl_InstOk.f
  repeat' first
      | (with_reducible exact impl_formOf.mono _ _)
      | (with_reducible exact impl_isReg.mono _ _)
      | (with_reducible exact LeO.refl _)
      | (with_reducible exact LeO.none _)
      | (with_reducible refine LeO.ite ?_ ?_)
      | (with_reducible refine LeO.bind ?_ (fun _ => ?_))
      | exact impl_formOf.mono _ _
      | exact impl_isReg.mono _ _
      | exact LeO.none _
      | refine LeO.ite ?_ ?_
      | refine LeO.bind ?_ (fun _ => ?_)
theorem isReg3 (k : Nat) (a1 a2 a3 : Int) (b : Nat) (r : Bool) (w : World) (h : impl_isReg.f k [a1, a2, a3] = some r)
  (h0 : w.cell? ⟨b, 0, none⟩ = some (.int .i64 a1)) (h1 : w.cell? ⟨b, 1, none⟩ = some (.int .i64 a2)) (h2 : w.cell? ⟨b, 2, none⟩ = some (.int .i64 a3)) :
    Calls Try.prog 46 #[.slice (some ⟨b, 0, none⟩) 3 3] w fun e w' => e = .returned (.bool r) ∧ Drawn0 w w' :=
  impl_isReg.calls k (some ⟨b, 0, none⟩) 3 [a1, a2, a3] r w (Kd.C_of_reads (d := (0 : Int)) (h1 := fun _ => rfl) ⟨rfl, by simp, fun _ => ⟨_, rfl, fun j hj => by
    match j, hj with
    | 0, _ => exact h0
    | 1, _ => simpa [Addr.add] using h1
    | 2, _ => simpa [Addr.add] using h2⟩⟩) (by simp) h
theorem bset {w W : World} {a : Addr} {v : Value} (h : Below w.heap.size w W) (hg : w.heap.size ≤ a.block) : Below w.heap.size w (W.setCell a v) := h.setCell hg _
set_option maxHeartbeats 1600000 in
set_option maxRecDepth 100000 in
theorem ok_noreg (k : Nat) (a0 a1 a2 a3 a4 : Int) (w : World) (hreg : Aside0 (impl_isReg.f k [a1, a2, a3] = some false)) :
    Calls Try.prog 26 #[.agg #[.int .i64 a0, .int .i64 a1, .int .i64 a2, .int .i64 a3, .int .i64 a4]] w fun e w' => e = .returned (.bool (false)) ∧ Below w.heap.size w w' := by
  have hu35 := Try.underlying35
  go_enter Try.func26, Try.ntmps26
  go_wp2_with (first | (go_at_call 46; (with_reducible refine (isReg3 k a1 a2 a3 _ false _ hreg.out (by go_simp) (by go_simp) (by go_simp)).mono ?_); rintro e w' ⟨rfl, ⟨n, rfl⟩⟩))
  
  
  all_goals go_ret
  all_goals exact ⟨by simp [*], (by repeat (first | exact Below.refl _ _ | refine pw_below_drewN ?_ _ | refine below_alloc ?_ _ | refine below_drew ?_ | refine bset ?_ (by simp only []; omega)))⟩
set_option maxHeartbeats 1600000 in
set_option maxRecDepth 100000 in
theorem ok_82 (k : Nat) (a0 a1 a2 a3 a4 : Int) (w : World) (hreg : Aside0 (impl_isReg.f k [a1, a2, a3] = some true)) (hf : Aside0 (impl_formOf.f k a0 = some 82)) :
    Calls Try.prog 26 #[.agg #[.int .i64 a0, .int .i64 a1, .int .i64 a2, .int .i64 a3, .int .i64 a4]] w fun e w' => e = .returned (.bool (0 == a4)) ∧ Below w.heap.size w w' := by
  have hu35 := Try.underlying35
  go_enter Try.func26, Try.ntmps26
  go_wp2_with (first | (go_at_call 46; (with_reducible refine (isReg3 k a1 a2 a3 _ true _ hreg.out (by go_simp) (by go_simp) (by go_simp)).mono ?_); rintro e w' ⟨rfl, ⟨n, rfl⟩⟩) | (go_at_call 47; (with_reducible refine (impl_formOf.calls k a0 82 _ hf.out).mono ?_); rintro e w' ⟨rfl, ⟨n, rfl⟩⟩))
  go_region
  all_goals go_wp2_with (first | (go_at_call 46; (with_reducible refine (isReg3 k a1 a2 a3 _ true _ hreg.out (by go_simp) (by go_simp) (by go_simp)).mono ?_); rintro e w' ⟨rfl, ⟨n, rfl⟩⟩) | (go_at_call 47; (with_reducible refine (impl_formOf.calls k a0 82 _ hf.out).mono ?_); rintro e w' ⟨rfl, ⟨n, rfl⟩⟩))
  all_goals go_ret
  all_goals exact ⟨by simp [*], (by repeat (first | exact Below.refl _ _ | refine pw_below_drewN ?_ _ | refine below_alloc ?_ _ | refine below_drew ?_ | refine bset ?_ (by simp only []; omega)))⟩
set_option maxHeartbeats 1600000 in
set_option maxRecDepth 100000 in
theorem ok_73t (k : Nat) (a0 a1 a2 a3 a4 : Int) (w : World) (hreg : Aside0 (impl_isReg.f k [a1, a2, a3] = some true)) (hf : Aside0 (impl_formOf.f k a0 = some 73)) (hi : Aside0 (impl_inside.f a4 (-2048) 2047 = some true)) :
    Calls Try.prog 26 #[.agg #[.int .i64 a0, .int .i64 a1, .int .i64 a2, .int .i64 a3, .int .i64 a4]] w fun e w' => e = .returned (.bool (0 == a3)) ∧ Below w.heap.size w w' := by
  have hu35 := Try.underlying35
  go_enter Try.func26, Try.ntmps26
  go_wp2_with (first | (go_at_call 46; (with_reducible refine (isReg3 k a1 a2 a3 _ true _ hreg.out (by go_simp) (by go_simp) (by go_simp)).mono ?_); rintro e w' ⟨rfl, ⟨n, rfl⟩⟩) | (go_at_call 47; (with_reducible refine (impl_formOf.calls k a0 73 _ hf.out).mono ?_); rintro e w' ⟨rfl, ⟨n, rfl⟩⟩) | (go_at_call 48; (with_reducible refine (impl_inside.calls a4 (-2048) 2047 true _ hi.out).mono ?_); rintro e w' ⟨rfl, ⟨n, rfl⟩⟩))
  go_region
  all_goals go_wp2_with (first | (go_at_call 46; (with_reducible refine (isReg3 k a1 a2 a3 _ true _ hreg.out (by go_simp) (by go_simp) (by go_simp)).mono ?_); rintro e w' ⟨rfl, ⟨n, rfl⟩⟩) | (go_at_call 47; (with_reducible refine (impl_formOf.calls k a0 73 _ hf.out).mono ?_); rintro e w' ⟨rfl, ⟨n, rfl⟩⟩) | (go_at_call 48; (with_reducible refine (impl_inside.calls a4 (-2048) 2047 true _ hi.out).mono ?_); rintro e w' ⟨rfl, ⟨n, rfl⟩⟩))
  all_goals go_ret
  all_goals exact ⟨by simp [*], (by repeat (first | exact Below.refl _ _ | refine pw_below_drewN ?_ _ | refine below_alloc ?_ _ | refine below_drew ?_ | refine bset ?_ (by simp only []; omega)))⟩
set_option maxHeartbeats 1600000 in
set_option maxRecDepth 100000 in
theorem ok_73f (k : Nat) (a0 a1 a2 a3 a4 : Int) (w : World) (hreg : Aside0 (impl_isReg.f k [a1, a2, a3] = some true)) (hf : Aside0 (impl_formOf.f k a0 = some 73)) (hi : Aside0 (impl_inside.f a4 (-2048) 2047 = some false)) :
    Calls Try.prog 26 #[.agg #[.int .i64 a0, .int .i64 a1, .int .i64 a2, .int .i64 a3, .int .i64 a4]] w fun e w' => e = .returned (.bool (false)) ∧ Below w.heap.size w w' := by
  have hu35 := Try.underlying35
  go_enter Try.func26, Try.ntmps26
  go_wp2_with (first | (go_at_call 46; (with_reducible refine (isReg3 k a1 a2 a3 _ true _ hreg.out (by go_simp) (by go_simp) (by go_simp)).mono ?_); rintro e w' ⟨rfl, ⟨n, rfl⟩⟩) | (go_at_call 47; (with_reducible refine (impl_formOf.calls k a0 73 _ hf.out).mono ?_); rintro e w' ⟨rfl, ⟨n, rfl⟩⟩) | (go_at_call 48; (with_reducible refine (impl_inside.calls a4 (-2048) 2047 false _ hi.out).mono ?_); rintro e w' ⟨rfl, ⟨n, rfl⟩⟩))
  go_region
  all_goals go_wp2_with (first | (go_at_call 46; (with_reducible refine (isReg3 k a1 a2 a3 _ true _ hreg.out (by go_simp) (by go_simp) (by go_simp)).mono ?_); rintro e w' ⟨rfl, ⟨n, rfl⟩⟩) | (go_at_call 47; (with_reducible refine (impl_formOf.calls k a0 73 _ hf.out).mono ?_); rintro e w' ⟨rfl, ⟨n, rfl⟩⟩) | (go_at_call 48; (with_reducible refine (impl_inside.calls a4 (-2048) 2047 false _ hi.out).mono ?_); rintro e w' ⟨rfl, ⟨n, rfl⟩⟩))
  all_goals go_ret
  all_goals exact ⟨by simp [*], (by repeat (first | exact Below.refl _ _ | refine pw_below_drewN ?_ _ | refine below_alloc ?_ _ | refine below_drew ?_ | refine bset ?_ (by simp only []; omega)))⟩
set_option maxHeartbeats 1600000 in
set_option maxRecDepth 100000 in
theorem ok_72t (k : Nat) (a0 a1 a2 a3 a4 : Int) (w : World) (hreg : Aside0 (impl_isReg.f k [a1, a2, a3] = some true)) (hf : Aside0 (impl_formOf.f k a0 = some 72)) (hi : Aside0 (impl_inside.f a4 0 31 = some true)) :
    Calls Try.prog 26 #[.agg #[.int .i64 a0, .int .i64 a1, .int .i64 a2, .int .i64 a3, .int .i64 a4]] w fun e w' => e = .returned (.bool (0 == a3)) ∧ Below w.heap.size w w' := by
  have hu35 := Try.underlying35
  go_enter Try.func26, Try.ntmps26
  go_wp2_with (first | (go_at_call 46; (with_reducible refine (isReg3 k a1 a2 a3 _ true _ hreg.out (by go_simp) (by go_simp) (by go_simp)).mono ?_); rintro e w' ⟨rfl, ⟨n, rfl⟩⟩) | (go_at_call 47; (with_reducible refine (impl_formOf.calls k a0 72 _ hf.out).mono ?_); rintro e w' ⟨rfl, ⟨n, rfl⟩⟩) | (go_at_call 48; (with_reducible refine (impl_inside.calls a4 0 31 true _ hi.out).mono ?_); rintro e w' ⟨rfl, ⟨n, rfl⟩⟩))
  go_region
  all_goals go_wp2_with (first | (go_at_call 46; (with_reducible refine (isReg3 k a1 a2 a3 _ true _ hreg.out (by go_simp) (by go_simp) (by go_simp)).mono ?_); rintro e w' ⟨rfl, ⟨n, rfl⟩⟩) | (go_at_call 47; (with_reducible refine (impl_formOf.calls k a0 72 _ hf.out).mono ?_); rintro e w' ⟨rfl, ⟨n, rfl⟩⟩) | (go_at_call 48; (with_reducible refine (impl_inside.calls a4 0 31 true _ hi.out).mono ?_); rintro e w' ⟨rfl, ⟨n, rfl⟩⟩))
  all_goals go_ret
  all_goals exact ⟨by simp [*], (by repeat (first | exact Below.refl _ _ | refine pw_below_drewN ?_ _ | refine below_alloc ?_ _ | refine below_drew ?_ | refine bset ?_ (by simp only []; omega)))⟩
set_option maxHeartbeats 1600000 in
set_option maxRecDepth 100000 in
theorem ok_72f (k : Nat) (a0 a1 a2 a3 a4 : Int) (w : World) (hreg : Aside0 (impl_isReg.f k [a1, a2, a3] = some true)) (hf : Aside0 (impl_formOf.f k a0 = some 72)) (hi : Aside0 (impl_inside.f a4 0 31 = some false)) :
    Calls Try.prog 26 #[.agg #[.int .i64 a0, .int .i64 a1, .int .i64 a2, .int .i64 a3, .int .i64 a4]] w fun e w' => e = .returned (.bool (false)) ∧ Below w.heap.size w w' := by
  have hu35 := Try.underlying35
  go_enter Try.func26, Try.ntmps26
  go_wp2_with (first | (go_at_call 46; (with_reducible refine (isReg3 k a1 a2 a3 _ true _ hreg.out (by go_simp) (by go_simp) (by go_simp)).mono ?_); rintro e w' ⟨rfl, ⟨n, rfl⟩⟩) | (go_at_call 47; (with_reducible refine (impl_formOf.calls k a0 72 _ hf.out).mono ?_); rintro e w' ⟨rfl, ⟨n, rfl⟩⟩) | (go_at_call 48; (with_reducible refine (impl_inside.calls a4 0 31 false _ hi.out).mono ?_); rintro e w' ⟨rfl, ⟨n, rfl⟩⟩))
  go_region
  all_goals go_wp2_with (first | (go_at_call 46; (with_reducible refine (isReg3 k a1 a2 a3 _ true _ hreg.out (by go_simp) (by go_simp) (by go_simp)).mono ?_); rintro e w' ⟨rfl, ⟨n, rfl⟩⟩) | (go_at_call 47; (with_reducible refine (impl_formOf.calls k a0 72 _ hf.out).mono ?_); rintro e w' ⟨rfl, ⟨n, rfl⟩⟩) | (go_at_call 48; (with_reducible refine (impl_inside.calls a4 0 31 false _ hi.out).mono ?_); rintro e w' ⟨rfl, ⟨n, rfl⟩⟩))
  all_goals go_ret
  all_goals exact ⟨by simp [*], (by repeat (first | exact Below.refl _ _ | refine pw_below_drewN ?_ _ | refine below_alloc ?_ _ | refine below_drew ?_ | refine bset ?_ (by simp only []; omega)))⟩
set_option maxHeartbeats 1600000 in
set_option maxRecDepth 100000 in
theorem ok_83t (k : Nat) (a0 a1 a2 a3 a4 : Int) (w : World) (hreg : Aside0 (impl_isReg.f k [a1, a2, a3] = some true)) (hf : Aside0 (impl_formOf.f k a0 = some 83)) (hi : Aside0 (impl_inside.f a4 (-2048) 2047 = some true)) :
    Calls Try.prog 26 #[.agg #[.int .i64 a0, .int .i64 a1, .int .i64 a2, .int .i64 a3, .int .i64 a4]] w fun e w' => e = .returned (.bool (0 == a1)) ∧ Below w.heap.size w w' := by
  have hu35 := Try.underlying35
  go_enter Try.func26, Try.ntmps26
  go_wp2_with (first | (go_at_call 46; (with_reducible refine (isReg3 k a1 a2 a3 _ true _ hreg.out (by go_simp) (by go_simp) (by go_simp)).mono ?_); rintro e w' ⟨rfl, ⟨n, rfl⟩⟩) | (go_at_call 47; (with_reducible refine (impl_formOf.calls k a0 83 _ hf.out).mono ?_); rintro e w' ⟨rfl, ⟨n, rfl⟩⟩) | (go_at_call 48; (with_reducible refine (impl_inside.calls a4 (-2048) 2047 true _ hi.out).mono ?_); rintro e w' ⟨rfl, ⟨n, rfl⟩⟩))
  go_region
  all_goals go_wp2_with (first | (go_at_call 46; (with_reducible refine (isReg3 k a1 a2 a3 _ true _ hreg.out (by go_simp) (by go_simp) (by go_simp)).mono ?_); rintro e w' ⟨rfl, ⟨n, rfl⟩⟩) | (go_at_call 47; (with_reducible refine (impl_formOf.calls k a0 83 _ hf.out).mono ?_); rintro e w' ⟨rfl, ⟨n, rfl⟩⟩) | (go_at_call 48; (with_reducible refine (impl_inside.calls a4 (-2048) 2047 true _ hi.out).mono ?_); rintro e w' ⟨rfl, ⟨n, rfl⟩⟩))
  all_goals go_ret
  all_goals exact ⟨by simp [*], (by repeat (first | exact Below.refl _ _ | refine pw_below_drewN ?_ _ | refine below_alloc ?_ _ | refine below_drew ?_ | refine bset ?_ (by simp only []; omega)))⟩
set_option maxHeartbeats 1600000 in
set_option maxRecDepth 100000 in
theorem ok_83f (k : Nat) (a0 a1 a2 a3 a4 : Int) (w : World) (hreg : Aside0 (impl_isReg.f k [a1, a2, a3] = some true)) (hf : Aside0 (impl_formOf.f k a0 = some 83)) (hi : Aside0 (impl_inside.f a4 (-2048) 2047 = some false)) :
    Calls Try.prog 26 #[.agg #[.int .i64 a0, .int .i64 a1, .int .i64 a2, .int .i64 a3, .int .i64 a4]] w fun e w' => e = .returned (.bool (false)) ∧ Below w.heap.size w w' := by
  have hu35 := Try.underlying35
  go_enter Try.func26, Try.ntmps26
  go_wp2_with (first | (go_at_call 46; (with_reducible refine (isReg3 k a1 a2 a3 _ true _ hreg.out (by go_simp) (by go_simp) (by go_simp)).mono ?_); rintro e w' ⟨rfl, ⟨n, rfl⟩⟩) | (go_at_call 47; (with_reducible refine (impl_formOf.calls k a0 83 _ hf.out).mono ?_); rintro e w' ⟨rfl, ⟨n, rfl⟩⟩) | (go_at_call 48; (with_reducible refine (impl_inside.calls a4 (-2048) 2047 false _ hi.out).mono ?_); rintro e w' ⟨rfl, ⟨n, rfl⟩⟩))
  go_region
  all_goals go_wp2_with (first | (go_at_call 46; (with_reducible refine (isReg3 k a1 a2 a3 _ true _ hreg.out (by go_simp) (by go_simp) (by go_simp)).mono ?_); rintro e w' ⟨rfl, ⟨n, rfl⟩⟩) | (go_at_call 47; (with_reducible refine (impl_formOf.calls k a0 83 _ hf.out).mono ?_); rintro e w' ⟨rfl, ⟨n, rfl⟩⟩) | (go_at_call 48; (with_reducible refine (impl_inside.calls a4 (-2048) 2047 false _ hi.out).mono ?_); rintro e w' ⟨rfl, ⟨n, rfl⟩⟩))
  all_goals go_ret
  all_goals exact ⟨by simp [*], (by repeat (first | exact Below.refl _ _ | refine pw_below_drewN ?_ _ | refine below_alloc ?_ _ | refine below_drew ?_ | refine bset ?_ (by simp only []; omega)))⟩
set_option maxHeartbeats 1600000 in
set_option maxRecDepth 100000 in
theorem ok_66f (k : Nat) (a0 a1 a2 a3 a4 : Int) (w : World) (hreg : Aside0 (impl_isReg.f k [a1, a2, a3] = some true)) (hf : Aside0 (impl_formOf.f k a0 = some 66)) (hi : Aside0 (impl_inside.f a4 (-4096) 4094 = some false)) :
    Calls Try.prog 26 #[.agg #[.int .i64 a0, .int .i64 a1, .int .i64 a2, .int .i64 a3, .int .i64 a4]] w fun e w' => e = .returned (.bool (false)) ∧ Below w.heap.size w w' := by
  have hu35 := Try.underlying35
  go_enter Try.func26, Try.ntmps26
  go_wp2_with (first | (go_at_call 46; (with_reducible refine (isReg3 k a1 a2 a3 _ true _ hreg.out (by go_simp) (by go_simp) (by go_simp)).mono ?_); rintro e w' ⟨rfl, ⟨n, rfl⟩⟩) | (go_at_call 47; (with_reducible refine (impl_formOf.calls k a0 66 _ hf.out).mono ?_); rintro e w' ⟨rfl, ⟨n, rfl⟩⟩) | (go_at_call 48; (with_reducible refine (impl_inside.calls a4 (-4096) 4094 false _ hi.out).mono ?_); rintro e w' ⟨rfl, ⟨n, rfl⟩⟩))
  go_region
  all_goals go_wp2_with (first | (go_at_call 46; (with_reducible refine (isReg3 k a1 a2 a3 _ true _ hreg.out (by go_simp) (by go_simp) (by go_simp)).mono ?_); rintro e w' ⟨rfl, ⟨n, rfl⟩⟩) | (go_at_call 47; (with_reducible refine (impl_formOf.calls k a0 66 _ hf.out).mono ?_); rintro e w' ⟨rfl, ⟨n, rfl⟩⟩) | (go_at_call 48; (with_reducible refine (impl_inside.calls a4 (-4096) 4094 false _ hi.out).mono ?_); rintro e w' ⟨rfl, ⟨n, rfl⟩⟩))
  all_goals go_ret
  all_goals exact ⟨by simp [*], (by repeat (first | exact Below.refl _ _ | refine pw_below_drewN ?_ _ | refine below_alloc ?_ _ | refine below_drew ?_ | refine bset ?_ (by simp only []; omega)))⟩
set_option maxHeartbeats 1600000 in
set_option maxRecDepth 100000 in
theorem ok_66t (k : Nat) (a0 a1 a2 a3 a4 : Int) (w : World) (hreg : Aside0 (impl_isReg.f k [a1, a2, a3] = some true)) (hf : Aside0 (impl_formOf.f k a0 = some 66)) (hi : Aside0 (impl_inside.f a4 (-4096) 4094 = some true)) (e0 : (Int.tmod a4 2 == 0) = true) (e1 : (Int.tmod a4 2 != 0) = false) :
    Calls Try.prog 26 #[.agg #[.int .i64 a0, .int .i64 a1, .int .i64 a2, .int .i64 a3, .int .i64 a4]] w fun e w' => e = .returned (.bool (0 == a1)) ∧ Below w.heap.size w w' := by
  have hu35 := Try.underlying35
  go_enter Try.func26, Try.ntmps26
  go_wp2_with (first | (go_at_call 46; (with_reducible refine (isReg3 k a1 a2 a3 _ true _ hreg.out (by go_simp) (by go_simp) (by go_simp)).mono ?_); rintro e w' ⟨rfl, ⟨n, rfl⟩⟩) | (go_at_call 47; (with_reducible refine (impl_formOf.calls k a0 66 _ hf.out).mono ?_); rintro e w' ⟨rfl, ⟨n, rfl⟩⟩) | (go_at_call 48; (with_reducible refine (impl_inside.calls a4 (-4096) 4094 true _ hi.out).mono ?_); rintro e w' ⟨rfl, ⟨n, rfl⟩⟩))
  go_region
  all_goals go_wp2_with (first | (go_at_call 46; (with_reducible refine (isReg3 k a1 a2 a3 _ true _ hreg.out (by go_simp) (by go_simp) (by go_simp)).mono ?_); rintro e w' ⟨rfl, ⟨n, rfl⟩⟩) | (go_at_call 47; (with_reducible refine (impl_formOf.calls k a0 66 _ hf.out).mono ?_); rintro e w' ⟨rfl, ⟨n, rfl⟩⟩) | (go_at_call 48; (with_reducible refine (impl_inside.calls a4 (-4096) 4094 true _ hi.out).mono ?_); rintro e w' ⟨rfl, ⟨n, rfl⟩⟩))
  all_goals go_ret
  all_goals exact ⟨by simp [*], (by repeat (first | exact Below.refl _ _ | refine pw_below_drewN ?_ _ | refine below_alloc ?_ _ | refine below_drew ?_ | refine bset ?_ (by simp only []; omega)))⟩
set_option maxHeartbeats 1600000 in
set_option maxRecDepth 100000 in
theorem ok_66o (k : Nat) (a0 a1 a2 a3 a4 : Int) (w : World) (hreg : Aside0 (impl_isReg.f k [a1, a2, a3] = some true)) (hf : Aside0 (impl_formOf.f k a0 = some 66)) (hi : Aside0 (impl_inside.f a4 (-4096) 4094 = some true)) (e0 : (Int.tmod a4 2 == 0) = false) (e1 : (Int.tmod a4 2 != 0) = true) :
    Calls Try.prog 26 #[.agg #[.int .i64 a0, .int .i64 a1, .int .i64 a2, .int .i64 a3, .int .i64 a4]] w fun e w' => e = .returned (.bool (false)) ∧ Below w.heap.size w w' := by
  have hu35 := Try.underlying35
  go_enter Try.func26, Try.ntmps26
  go_wp2_with (first | (go_at_call 46; (with_reducible refine (isReg3 k a1 a2 a3 _ true _ hreg.out (by go_simp) (by go_simp) (by go_simp)).mono ?_); rintro e w' ⟨rfl, ⟨n, rfl⟩⟩) | (go_at_call 47; (with_reducible refine (impl_formOf.calls k a0 66 _ hf.out).mono ?_); rintro e w' ⟨rfl, ⟨n, rfl⟩⟩) | (go_at_call 48; (with_reducible refine (impl_inside.calls a4 (-4096) 4094 true _ hi.out).mono ?_); rintro e w' ⟨rfl, ⟨n, rfl⟩⟩))
  go_region
  all_goals go_wp2_with (first | (go_at_call 46; (with_reducible refine (isReg3 k a1 a2 a3 _ true _ hreg.out (by go_simp) (by go_simp) (by go_simp)).mono ?_); rintro e w' ⟨rfl, ⟨n, rfl⟩⟩) | (go_at_call 47; (with_reducible refine (impl_formOf.calls k a0 66 _ hf.out).mono ?_); rintro e w' ⟨rfl, ⟨n, rfl⟩⟩) | (go_at_call 48; (with_reducible refine (impl_inside.calls a4 (-4096) 4094 true _ hi.out).mono ?_); rintro e w' ⟨rfl, ⟨n, rfl⟩⟩))
  all_goals go_ret
  all_goals exact ⟨by simp [*], (by repeat (first | exact Below.refl _ _ | refine pw_below_drewN ?_ _ | refine below_alloc ?_ _ | refine below_drew ?_ | refine bset ?_ (by simp only []; omega)))⟩
set_option maxHeartbeats 1600000 in
set_option maxRecDepth 100000 in
theorem ok_74f (k : Nat) (a0 a1 a2 a3 a4 : Int) (w : World) (hreg : Aside0 (impl_isReg.f k [a1, a2, a3] = some true)) (hf : Aside0 (impl_formOf.f k a0 = some 74)) (hi : Aside0 (impl_inside.f a4 (-1048576) 1048574 = some false)) :
    Calls Try.prog 26 #[.agg #[.int .i64 a0, .int .i64 a1, .int .i64 a2, .int .i64 a3, .int .i64 a4]] w fun e w' => e = .returned (.bool (false)) ∧ Below w.heap.size w w' := by
  have hu35 := Try.underlying35
  go_enter Try.func26, Try.ntmps26
  go_wp2_with (first | (go_at_call 46; (with_reducible refine (isReg3 k a1 a2 a3 _ true _ hreg.out (by go_simp) (by go_simp) (by go_simp)).mono ?_); rintro e w' ⟨rfl, ⟨n, rfl⟩⟩) | (go_at_call 47; (with_reducible refine (impl_formOf.calls k a0 74 _ hf.out).mono ?_); rintro e w' ⟨rfl, ⟨n, rfl⟩⟩) | (go_at_call 48; (with_reducible refine (impl_inside.calls a4 (-1048576) 1048574 false _ hi.out).mono ?_); rintro e w' ⟨rfl, ⟨n, rfl⟩⟩))
  go_region
  all_goals go_wp2_with (first | (go_at_call 46; (with_reducible refine (isReg3 k a1 a2 a3 _ true _ hreg.out (by go_simp) (by go_simp) (by go_simp)).mono ?_); rintro e w' ⟨rfl, ⟨n, rfl⟩⟩) | (go_at_call 47; (with_reducible refine (impl_formOf.calls k a0 74 _ hf.out).mono ?_); rintro e w' ⟨rfl, ⟨n, rfl⟩⟩) | (go_at_call 48; (with_reducible refine (impl_inside.calls a4 (-1048576) 1048574 false _ hi.out).mono ?_); rintro e w' ⟨rfl, ⟨n, rfl⟩⟩))
  all_goals go_ret
  all_goals exact ⟨by simp [*], (by repeat (first | exact Below.refl _ _ | refine pw_below_drewN ?_ _ | refine below_alloc ?_ _ | refine below_drew ?_ | refine bset ?_ (by simp only []; omega)))⟩
set_option maxHeartbeats 1600000 in
set_option maxRecDepth 100000 in
theorem ok_74t (k : Nat) (a0 a1 a2 a3 a4 : Int) (w : World) (hreg : Aside0 (impl_isReg.f k [a1, a2, a3] = some true)) (hf : Aside0 (impl_formOf.f k a0 = some 74)) (hi : Aside0 (impl_inside.f a4 (-1048576) 1048574 = some true)) (e0 : (Int.tmod a4 2 == 0) = true) (e1 : (Int.tmod a4 2 != 0) = false) :
    Calls Try.prog 26 #[.agg #[.int .i64 a0, .int .i64 a1, .int .i64 a2, .int .i64 a3, .int .i64 a4]] w fun e w' => e = .returned (.bool (0 == a2 && (0 == a3))) ∧ Below w.heap.size w w' := by
  have hu35 := Try.underlying35
  go_enter Try.func26, Try.ntmps26
  go_wp2_with (first | (go_at_call 46; (with_reducible refine (isReg3 k a1 a2 a3 _ true _ hreg.out (by go_simp) (by go_simp) (by go_simp)).mono ?_); rintro e w' ⟨rfl, ⟨n, rfl⟩⟩) | (go_at_call 47; (with_reducible refine (impl_formOf.calls k a0 74 _ hf.out).mono ?_); rintro e w' ⟨rfl, ⟨n, rfl⟩⟩) | (go_at_call 48; (with_reducible refine (impl_inside.calls a4 (-1048576) 1048574 true _ hi.out).mono ?_); rintro e w' ⟨rfl, ⟨n, rfl⟩⟩))
  go_region
  all_goals go_wp2_with (first | (go_at_call 46; (with_reducible refine (isReg3 k a1 a2 a3 _ true _ hreg.out (by go_simp) (by go_simp) (by go_simp)).mono ?_); rintro e w' ⟨rfl, ⟨n, rfl⟩⟩) | (go_at_call 47; (with_reducible refine (impl_formOf.calls k a0 74 _ hf.out).mono ?_); rintro e w' ⟨rfl, ⟨n, rfl⟩⟩) | (go_at_call 48; (with_reducible refine (impl_inside.calls a4 (-1048576) 1048574 true _ hi.out).mono ?_); rintro e w' ⟨rfl, ⟨n, rfl⟩⟩))
  all_goals go_ret
  all_goals exact ⟨by simp [*], (by repeat (first | exact Below.refl _ _ | refine pw_below_drewN ?_ _ | refine below_alloc ?_ _ | refine below_drew ?_ | refine bset ?_ (by simp only []; omega)))⟩
set_option maxHeartbeats 1600000 in
set_option maxRecDepth 100000 in
theorem ok_74o (k : Nat) (a0 a1 a2 a3 a4 : Int) (w : World) (hreg : Aside0 (impl_isReg.f k [a1, a2, a3] = some true)) (hf : Aside0 (impl_formOf.f k a0 = some 74)) (hi : Aside0 (impl_inside.f a4 (-1048576) 1048574 = some true)) (e0 : (Int.tmod a4 2 == 0) = false) (e1 : (Int.tmod a4 2 != 0) = true) :
    Calls Try.prog 26 #[.agg #[.int .i64 a0, .int .i64 a1, .int .i64 a2, .int .i64 a3, .int .i64 a4]] w fun e w' => e = .returned (.bool (false)) ∧ Below w.heap.size w w' := by
  have hu35 := Try.underlying35
  go_enter Try.func26, Try.ntmps26
  go_wp2_with (first | (go_at_call 46; (with_reducible refine (isReg3 k a1 a2 a3 _ true _ hreg.out (by go_simp) (by go_simp) (by go_simp)).mono ?_); rintro e w' ⟨rfl, ⟨n, rfl⟩⟩) | (go_at_call 47; (with_reducible refine (impl_formOf.calls k a0 74 _ hf.out).mono ?_); rintro e w' ⟨rfl, ⟨n, rfl⟩⟩) | (go_at_call 48; (with_reducible refine (impl_inside.calls a4 (-1048576) 1048574 true _ hi.out).mono ?_); rintro e w' ⟨rfl, ⟨n, rfl⟩⟩))
  go_region
  all_goals go_wp2_with (first | (go_at_call 46; (with_reducible refine (isReg3 k a1 a2 a3 _ true _ hreg.out (by go_simp) (by go_simp) (by go_simp)).mono ?_); rintro e w' ⟨rfl, ⟨n, rfl⟩⟩) | (go_at_call 47; (with_reducible refine (impl_formOf.calls k a0 74 _ hf.out).mono ?_); rintro e w' ⟨rfl, ⟨n, rfl⟩⟩) | (go_at_call 48; (with_reducible refine (impl_inside.calls a4 (-1048576) 1048574 true _ hi.out).mono ?_); rintro e w' ⟨rfl, ⟨n, rfl⟩⟩))
  all_goals go_ret
  all_goals exact ⟨by simp [*], (by repeat (first | exact Below.refl _ _ | refine pw_below_drewN ?_ _ | refine below_alloc ?_ _ | refine below_drew ?_ | refine bset ?_ (by simp only []; omega)))⟩
set_option maxHeartbeats 1600000 in
set_option maxRecDepth 100000 in
theorem ok_85t (k : Nat) (a0 a1 a2 a3 a4 : Int) (w : World) (hreg : Aside0 (impl_isReg.f k [a1, a2, a3] = some true)) (hf : Aside0 (impl_formOf.f k a0 = some 85)) (hi : Aside0 (impl_inside.f a4 0 1048575 = some true)) :
    Calls Try.prog 26 #[.agg #[.int .i64 a0, .int .i64 a1, .int .i64 a2, .int .i64 a3, .int .i64 a4]] w fun e w' => e = .returned (.bool (0 == a2 && (0 == a3))) ∧ Below w.heap.size w w' := by
  have hu35 := Try.underlying35
  go_enter Try.func26, Try.ntmps26
  go_wp2_with (first | (go_at_call 46; (with_reducible refine (isReg3 k a1 a2 a3 _ true _ hreg.out (by go_simp) (by go_simp) (by go_simp)).mono ?_); rintro e w' ⟨rfl, ⟨n, rfl⟩⟩) | (go_at_call 47; (with_reducible refine (impl_formOf.calls k a0 85 _ hf.out).mono ?_); rintro e w' ⟨rfl, ⟨n, rfl⟩⟩) | (go_at_call 48; (with_reducible refine (impl_inside.calls a4 0 1048575 true _ hi.out).mono ?_); rintro e w' ⟨rfl, ⟨n, rfl⟩⟩))
  go_region
  all_goals go_wp2_with (first | (go_at_call 46; (with_reducible refine (isReg3 k a1 a2 a3 _ true _ hreg.out (by go_simp) (by go_simp) (by go_simp)).mono ?_); rintro e w' ⟨rfl, ⟨n, rfl⟩⟩) | (go_at_call 47; (with_reducible refine (impl_formOf.calls k a0 85 _ hf.out).mono ?_); rintro e w' ⟨rfl, ⟨n, rfl⟩⟩) | (go_at_call 48; (with_reducible refine (impl_inside.calls a4 0 1048575 true _ hi.out).mono ?_); rintro e w' ⟨rfl, ⟨n, rfl⟩⟩))
  all_goals go_ret
  all_goals exact ⟨by simp [*], (by repeat (first | exact Below.refl _ _ | refine pw_below_drewN ?_ _ | refine below_alloc ?_ _ | refine below_drew ?_ | refine bset ?_ (by simp only []; omega)))⟩
set_option maxHeartbeats 1600000 in
set_option maxRecDepth 100000 in
theorem ok_85f (k : Nat) (a0 a1 a2 a3 a4 : Int) (w : World) (hreg : Aside0 (impl_isReg.f k [a1, a2, a3] = some true)) (hf : Aside0 (impl_formOf.f k a0 = some 85)) (hi : Aside0 (impl_inside.f a4 0 1048575 = some false)) :
    Calls Try.prog 26 #[.agg #[.int .i64 a0, .int .i64 a1, .int .i64 a2, .int .i64 a3, .int .i64 a4]] w fun e w' => e = .returned (.bool (false)) ∧ Below w.heap.size w w' := by
  have hu35 := Try.underlying35
  go_enter Try.func26, Try.ntmps26
  go_wp2_with (first | (go_at_call 46; (with_reducible refine (isReg3 k a1 a2 a3 _ true _ hreg.out (by go_simp) (by go_simp) (by go_simp)).mono ?_); rintro e w' ⟨rfl, ⟨n, rfl⟩⟩) | (go_at_call 47; (with_reducible refine (impl_formOf.calls k a0 85 _ hf.out).mono ?_); rintro e w' ⟨rfl, ⟨n, rfl⟩⟩) | (go_at_call 48; (with_reducible refine (impl_inside.calls a4 0 1048575 false _ hi.out).mono ?_); rintro e w' ⟨rfl, ⟨n, rfl⟩⟩))
  go_region
  all_goals go_wp2_with (first | (go_at_call 46; (with_reducible refine (isReg3 k a1 a2 a3 _ true _ hreg.out (by go_simp) (by go_simp) (by go_simp)).mono ?_); rintro e w' ⟨rfl, ⟨n, rfl⟩⟩) | (go_at_call 47; (with_reducible refine (impl_formOf.calls k a0 85 _ hf.out).mono ?_); rintro e w' ⟨rfl, ⟨n, rfl⟩⟩) | (go_at_call 48; (with_reducible refine (impl_inside.calls a4 0 1048575 false _ hi.out).mono ?_); rintro e w' ⟨rfl, ⟨n, rfl⟩⟩))
  all_goals go_ret
  all_goals exact ⟨by simp [*], (by repeat (first | exact Below.refl _ _ | refine pw_below_drewN ?_ _ | refine below_alloc ?_ _ | refine below_drew ?_ | refine bset ?_ (by simp only []; omega)))⟩
set_option maxHeartbeats 1600000 in
set_option maxRecDepth 100000 in
theorem ok_69 (k : Nat) (a0 a1 a2 a3 a4 : Int) (w : World) (hreg : Aside0 (impl_isReg.f k [a1, a2, a3] = some true)) (hf : Aside0 (impl_formOf.f k a0 = some 69)) :
    Calls Try.prog 26 #[.agg #[.int .i64 a0, .int .i64 a1, .int .i64 a2, .int .i64 a3, .int .i64 a4]] w fun e w' => e = .returned (.bool (0 == a1 && (0 == a2 && (0 == a3 && (0 == a4))))) ∧ Below w.heap.size w w' := by
  have hu35 := Try.underlying35
  go_enter Try.func26, Try.ntmps26
  go_wp2_with (first | (go_at_call 46; (with_reducible refine (isReg3 k a1 a2 a3 _ true _ hreg.out (by go_simp) (by go_simp) (by go_simp)).mono ?_); rintro e w' ⟨rfl, ⟨n, rfl⟩⟩) | (go_at_call 47; (with_reducible refine (impl_formOf.calls k a0 69 _ hf.out).mono ?_); rintro e w' ⟨rfl, ⟨n, rfl⟩⟩))
  
  
  all_goals go_ret
  all_goals exact ⟨by simp [*], (by repeat (first | exact Below.refl _ _ | refine pw_below_drewN ?_ _ | refine below_alloc ?_ _ | refine below_drew ?_ | refine bset ?_ (by simp only []; omega)))⟩
set_option maxHeartbeats 1600000 in
set_option maxRecDepth 100000 in
theorem ok_none (k : Nat) (a0 a1 a2 a3 a4 : Int) (w : World) (hreg : Aside0 (impl_isReg.f k [a1, a2, a3] = some true)) (f : Int) (hf : Aside0 (impl_formOf.f k a0 = some f)) (e82 : (f == 82) = false) (e73 : (f == 73) = false) (e72 : (f == 72) = false) (e83 : (f == 83) = false) (e66 : (f == 66) = false) (e85 : (f == 85) = false) (e74 : (f == 74) = false) (e69 : (f == 69) = false) :
    Calls Try.prog 26 #[.agg #[.int .i64 a0, .int .i64 a1, .int .i64 a2, .int .i64 a3, .int .i64 a4]] w fun e w' => e = .returned (.bool (false)) ∧ Below w.heap.size w w' := by
  have hu35 := Try.underlying35
  go_enter Try.func26, Try.ntmps26
  go_wp2_with (first | (go_at_call 46; (with_reducible refine (isReg3 k a1 a2 a3 _ true _ hreg.out (by go_simp) (by go_simp) (by go_simp)).mono ?_); rintro e w' ⟨rfl, ⟨n, rfl⟩⟩) | (go_at_call 47; (with_reducible refine (impl_formOf.calls k a0 f _ hf.out).mono ?_); rintro e w' ⟨rfl, ⟨n, rfl⟩⟩))
  
  
  all_goals go_ret
  all_goals exact ⟨by simp [*], (by repeat (first | exact Below.refl _ _ | refine pw_below_drewN ?_ _ | refine below_alloc ?_ _ | refine below_drew ?_ | refine bset ?_ (by simp only []; omega)))⟩
theorem impl_InstOk.calls (k : Nat) (a0 a1 a2 a3 a4 : Int) (r : Bool) (w : World) (h : impl_InstOk.f k a0 a1 a2 a3 a4 = some r) :
    Calls Try.prog 26 #[.agg #[.int .i64 a0, .int .i64 a1, .int .i64 a2, .int .i64 a3, .int .i64 a4]] w fun e w' => e = .returned (.bool r) ∧ Below w.heap.size w w' := by
  unfold impl_InstOk.f at h
  obtain ⟨b, hr, h⟩ := Option.bind_eq_some_iff.mp h
  have hreg := Aside0.mk hr
  clear hr
  cases b
  · simp at h; subst h; exact ok_noreg k a0 a1 a2 a3 a4 w hreg
  rw [if_pos rfl] at h
  obtain ⟨f, hf, h⟩ := Option.bind_eq_some_iff.mp h
  by_cases c82 : f = 82
  · subst c82
    rw [if_pos rfl] at h
    obtain rfl := Option.some.inj h; exact ok_82 k a0 a1 a2 a3 a4 w hreg ⟨hf⟩
  rw [if_neg c82] at h
  by_cases c73 : f = 73
  · subst c73
    rw [if_pos rfl] at h
    obtain ⟨b, hi, h⟩ := Option.bind_eq_some_iff.mp h
    cases b
    · simp at h; subst h; exact ok_73f k a0 a1 a2 a3 a4 w hreg ⟨hf⟩ ⟨hi⟩
    rw [if_pos rfl] at h
    obtain rfl := Option.some.inj h; exact ok_73t k a0 a1 a2 a3 a4 w hreg ⟨hf⟩ ⟨hi⟩
  rw [if_neg c73] at h
  by_cases c72 : f = 72
  · subst c72
    rw [if_pos rfl] at h
    obtain ⟨b, hi, h⟩ := Option.bind_eq_some_iff.mp h
    cases b
    · simp at h; subst h; exact ok_72f k a0 a1 a2 a3 a4 w hreg ⟨hf⟩ ⟨hi⟩
    rw [if_pos rfl] at h
    obtain rfl := Option.some.inj h; exact ok_72t k a0 a1 a2 a3 a4 w hreg ⟨hf⟩ ⟨hi⟩
  rw [if_neg c72] at h
  by_cases c83 : f = 83
  · subst c83
    rw [if_pos rfl] at h
    obtain ⟨b, hi, h⟩ := Option.bind_eq_some_iff.mp h
    cases b
    · simp at h; subst h; exact ok_83f k a0 a1 a2 a3 a4 w hreg ⟨hf⟩ ⟨hi⟩
    rw [if_pos rfl] at h
    obtain rfl := Option.some.inj h; exact ok_83t k a0 a1 a2 a3 a4 w hreg ⟨hf⟩ ⟨hi⟩
  rw [if_neg c83] at h
  by_cases c66 : f = 66
  · subst c66
    rw [if_pos rfl] at h
    obtain ⟨b, hi, h⟩ := Option.bind_eq_some_iff.mp h
    cases b
    · simp at h; subst h; exact ok_66f k a0 a1 a2 a3 a4 w hreg ⟨hf⟩ ⟨hi⟩
    rw [if_pos rfl] at h
    by_cases c : Int.tmod a4 2 = 0
    · rw [if_pos c] at h; obtain rfl := Option.some.inj h; exact ok_66t k a0 a1 a2 a3 a4 w hreg ⟨hf⟩ ⟨hi⟩ (beq_iff_eq.mpr c) (bne_eq_false_iff_eq.mpr c)
    · rw [if_neg c] at h; obtain rfl := Option.some.inj h; exact ok_66o k a0 a1 a2 a3 a4 w hreg ⟨hf⟩ ⟨hi⟩ (beq_eq_false_iff_ne.mpr c) (bne_iff_ne.mpr c)
  rw [if_neg c66] at h
  by_cases c85 : f = 85
  · subst c85
    rw [if_pos rfl] at h
    obtain ⟨b, hi, h⟩ := Option.bind_eq_some_iff.mp h
    cases b
    · simp at h; subst h; exact ok_85f k a0 a1 a2 a3 a4 w hreg ⟨hf⟩ ⟨hi⟩
    rw [if_pos rfl] at h
    obtain rfl := Option.some.inj h; exact ok_85t k a0 a1 a2 a3 a4 w hreg ⟨hf⟩ ⟨hi⟩
  rw [if_neg c85] at h
  by_cases c74 : f = 74
  · subst c74
    rw [if_pos rfl] at h
    obtain ⟨b, hi, h⟩ := Option.bind_eq_some_iff.mp h
    cases b
    · simp at h; subst h; exact ok_74f k a0 a1 a2 a3 a4 w hreg ⟨hf⟩ ⟨hi⟩
    rw [if_pos rfl] at h
    by_cases c : Int.tmod a4 2 = 0
    · rw [if_pos c] at h; obtain rfl := Option.some.inj h; exact ok_74t k a0 a1 a2 a3 a4 w hreg ⟨hf⟩ ⟨hi⟩ (beq_iff_eq.mpr c) (bne_eq_false_iff_eq.mpr c)
    · rw [if_neg c] at h; obtain rfl := Option.some.inj h; exact ok_74o k a0 a1 a2 a3 a4 w hreg ⟨hf⟩ ⟨hi⟩ (beq_eq_false_iff_ne.mpr c) (bne_iff_ne.mpr c)
  rw [if_neg c74] at h
  by_cases c69 : f = 69
  · subst c69
    rw [if_pos rfl] at h
    obtain rfl := Option.some.inj h; exact ok_69 k a0 a1 a2 a3 a4 w hreg ⟨hf⟩
  rw [if_neg c69] at h
  obtain rfl := Option.some.inj h; exact ok_none k a0 a1 a2 a3 a4 w hreg f ⟨hf⟩ (beq_eq_false_iff_ne.mpr c82) (beq_eq_false_iff_ne.mpr c73) (beq_eq_false_iff_ne.mpr c72) (beq_eq_false_iff_ne.mpr c83) (beq_eq_false_iff_ne.mpr c66) (beq_eq_false_iff_ne.mpr c85) (beq_eq_false_iff_ne.mpr c74) (beq_eq_false_iff_ne.mpr c69)

/-! ### laws_FnExactInstOk: function 9 -/
def laws_FnExactInstOk.f (k : Nat) (a0_0 : Int) (a0_1 : Int) (a0_2 : Int) (a0_3 : Int) (a0_4 : Int) : Option (Bool) := (laws_toInst.f a0_0 a0_1 a0_2 a0_3 a0_4).bind fun bt137 => ((spec_InstOk.f k bt137.1 bt137.2.1 bt137.2.2.1 bt137.2.2.2.1 bt137.2.2.2.2).bind fun t142 => ((laws_toInst.f a0_0 a0_1 a0_2 a0_3 a0_4).bind fun bt143 => ((impl_InstOk.f k bt143.1 bt143.2.1 bt143.2.2.1 bt143.2.2.2.1 bt143.2.2.2.2).bind fun t148 => (if (t148 != t142) = true then (some false) else (some true)))))
theorem laws_FnExactInstOk.mono : ∀ a0 a1 a2 a3 a4 k, LeO (laws_FnExactInstOk.f k a0 a1 a2 a3 a4) (laws_FnExactInstOk.f (k + 1) a0 a1 a2 a3 a4) := by
  intro a0 a1 a2 a3 a4 k
  unfold laws_FnExactInstOk.f
  repeat' first
      | (with_reducible exact impl_InstOk.mono _ _ _ _ _ _)
      | (with_reducible exact spec_InstOk.mono _ _ _ _ _ _)
      | (with_reducible exact LeO.refl _)
      | (with_reducible exact LeO.none _)
      | (with_reducible refine LeO.ite ?_ ?_)
      | (with_reducible refine LeO.bind ?_ (fun _ => ?_))
      | exact impl_InstOk.mono _ _ _ _ _ _
      | exact spec_InstOk.mono _ _ _ _ _ _
      | exact LeO.none _
      | refine LeO.ite ?_ ?_
      | refine LeO.bind ?_ (fun _ => ?_)
set_option maxHeartbeats 8000000 in
set_option maxRecDepth 100000 in
theorem laws_FnExactInstOk.calls (k : Nat) (a0_0 : Int) (a0_1 : Int) (a0_2 : Int) (a0_3 : Int) (a0_4 : Int) (r : Bool) (w : World) (h : laws_FnExactInstOk.f k a0_0 a0_1 a0_2 a0_3 a0_4 = some r) :
    Calls Try.prog 9 #[.agg #[.int .i64 a0_0, .int .i64 a0_1, .int .i64 a0_2, .int .i64 a0_3, .int .i64 a0_4]] w fun e w' => e = .returned (.bool r) ∧ Below w.heap.size w w' := by
  have hu33 := Try.underlying33
  have HB := Aside0.mk (Below.refl w.heap.size w)
  have H : ((laws_toInst.f a0_0 a0_1 a0_2 a0_3 a0_4).bind fun bt137 => ((spec_InstOk.f k bt137.1 bt137.2.1 bt137.2.2.1 bt137.2.2.2.1 bt137.2.2.2.2).bind fun t142 => ((laws_toInst.f a0_0 a0_1 a0_2 a0_3 a0_4).bind fun bt143 => ((impl_InstOk.f k bt143.1 bt143.2.1 bt143.2.2.1 bt143.2.2.2.1 bt143.2.2.2.2).bind fun t148 => (if (t148 != t142) = true then (some false) else (some true)))))) = some r := h
  clear h
  replace H := Option.bind_eq_some_iff.mp H
  obtain ⟨⟨t137, t138, t139, t140, t141⟩, A20, H⟩ := H
  replace H : ((spec_InstOk.f k t137 t138 t139 t140 t141).bind fun t142 => ((laws_toInst.f a0_0 a0_1 a0_2 a0_3 a0_4).bind fun bt143 => ((impl_InstOk.f k bt143.1 bt143.2.1 bt143.2.2.1 bt143.2.2.2.1 bt143.2.2.2.2).bind fun t148 => (if (t148 != t142) = true then (some false) else (some true))))) = some r := H
  have A2 := Aside0.mk A20
  clear A20
  replace H := Option.bind_eq_some_iff.mp H
  obtain ⟨t142, A30, H⟩ := H
  replace H : ((laws_toInst.f a0_0 a0_1 a0_2 a0_3 a0_4).bind fun bt143 => ((impl_InstOk.f k bt143.1 bt143.2.1 bt143.2.2.1 bt143.2.2.2.1 bt143.2.2.2.2).bind fun t148 => (if (t148 != t142) = true then (some false) else (some true)))) = some r := H
  have A3 := Aside0.mk A30
  clear A30
  replace H := Option.bind_eq_some_iff.mp H
  obtain ⟨⟨t143, t144, t145, t146, t147⟩, A40, H⟩ := H
  replace H : ((impl_InstOk.f k t143 t144 t145 t146 t147).bind fun t148 => (if (t148 != t142) = true then (some false) else (some true))) = some r := H
  have A4 := Aside0.mk A40
  clear A40
  replace H := Option.bind_eq_some_iff.mp H
  obtain ⟨t148, A50, H⟩ := H
  replace H : (if (t148 != t142) = true then (some false) else (some true)) = some r := H
  have A5 := Aside0.mk A50
  clear A50
  by_cases c6 : (t148 != t142) = true
  · rw [if_pos c6] at H
    have c6b0 : (t148 != t142) = true := c6
    (try (have c6b1 : decide (t148 = t142) = false := by simpa using c6))
    (try (have c6b2 : (t148 == t142) = false := by simpa using c6))
    (try (have c6b3 : ¬ (t148 = t142) := by simpa using c6))
    clear c6
    obtain rfl := Option.some.inj H
    go_enter Try.func9, Try.ntmps9
    go_wp2_with (first | ((with_reducible refine gate_dst (N := 1) rfl ?_); refine box_event ?hg (N := 1) ?hd (cs := #[.int .i64 a0_0, .int .i64 a0_1, .int .i64 a0_2, .int .i64 a0_3, .int .i64 a0_4]) (t := 33) ?hr ?_; (case hd => rfl); (case hg => rfl); (case hr => first | (go_simp; done) | (go_simp; rfl)); intro gb136 hg w7 hbox hb; have n0_ := Aside0.mk (below_step (by repeat (first | (with_reducible first | exact HB.out | apply below_alloc | apply pw_below_drewN | apply below_drew1) | exact HB.out)) hb); have n1_ := Aside0.mk (hbox); have n2_ := Aside0.mk ((by rw [hg]; exact (below_size (by repeat (first | (with_reducible first | exact HB.out | apply below_alloc | apply pw_below_drewN | apply below_drew1) | exact HB.out))) : w.heap.size ≤ gb136)); have n3_ := Aside0.mk ((by rw [hg]; exact (below_size (by repeat (first | (with_reducible first | exact HB.out | apply below_alloc | apply pw_below_drewN | apply below_drew1) | exact HB.out))) : w.heap.size ≤ gb136)); clear HB; have HB := n0_; have BK136 := n1_; have GW136 := n2_; have GE136 := n3_; clear n0_ n1_ n2_ n3_; clear hb hbox hg; have hcz8_0 : w7.cell? ⟨gb136, 0, none⟩ = some (.int .i64 a0_0) := (blk_cell BK136.out 0).trans rfl; have hcz8_1 : w7.cell? ⟨gb136, 1, none⟩ = some (.int .i64 a0_1) := (blk_cell BK136.out 1).trans rfl; have hcz8_2 : w7.cell? ⟨gb136, 2, none⟩ = some (.int .i64 a0_2) := (blk_cell BK136.out 2).trans rfl; have hcz8_3 : w7.cell? ⟨gb136, 3, none⟩ = some (.int .i64 a0_3) := (blk_cell BK136.out 3).trans rfl; have hcz8_4 : w7.cell? ⟨gb136, 4, none⟩ = some (.int .i64 a0_4) := (blk_cell BK136.out 4).trans rfl; have hfz8_0 := blk_frozen BK136.out 0; have hfz8_1 := blk_frozen BK136.out 1; have hfz8_2 := blk_frozen BK136.out 2; have hfz8_3 := blk_frozen BK136.out 3; have hfz8_4 := blk_frozen BK136.out 4) | ((with_reducible refine gate_callee (f := 25) rfl ?_); refine goesL_ (some 6) rfl rfl Try.func25 (by kernel_rfl) rfl #[.agg #[.int .i64 a0_0, .int .i64 a0_1, .int .i64 a0_2, .int .i64 a0_3, .int .i64 a0_4]] rfl (by (try simp only [List.map_toArray, List.map_cons, List.map_nil]); first | done | rfl | (simp only [List.length_drop, List.length_take]; rfl)) ?_; (with_reducible refine (laws_toInst.calls a0_0 a0_1 a0_2 a0_3 a0_4 t137 t138 t139 t140 t141 _ A2.out).mono ?_); rintro e w9 ⟨rfl, hb⟩; refine ⟨_, rfl, ?_⟩; have n0_ := Aside0.mk (blk_below (g := gb136) (o := .cells #[.int .i64 a0_0, .int .i64 a0_1, .int .i64 a0_2, .int .i64 a0_3, .int .i64 a0_4] 33 (0, 0)) (by (with_reducible repeat (first | refine blk_drewN ?_ _ | refine blk_drew ?_ | refine blk_alloc ?_ _)); exact BK136.out) hb); have n1_ := Aside0.mk (below_step (by repeat (first | (with_reducible first | exact HB.out | apply below_alloc | apply pw_below_drewN | apply below_drew1 | refine below_set ?_ GE136.out) | exact HB.out)) hb); clear BK136; clear HB; have BK136 := n0_; have HB := n1_; clear n0_ n1_; (try clear hb); (try clear hb2); (try clear hk); (try clear hi)) | ((with_reducible refine gate_callee (f := 24) rfl ?_); refine goesL_ (some 7) rfl rfl Try.func24 (by kernel_rfl) rfl #[.agg #[.int .i64 t137, .int .i64 t138, .int .i64 t139, .int .i64 t140, .int .i64 t141]] rfl (by (try simp only [List.map_toArray, List.map_cons, List.map_nil]); first | done | rfl | (simp only [List.length_drop, List.length_take]; rfl)) ?_; (with_reducible refine (spec_InstOk.calls k t137 t138 t139 t140 t141 t142 _ A3.out).mono ?_); rintro e w10 ⟨rfl, hb⟩; refine ⟨_, rfl, ?_⟩; have n0_ := Aside0.mk (blk_below (g := gb136) (o := .cells #[.int .i64 a0_0, .int .i64 a0_1, .int .i64 a0_2, .int .i64 a0_3, .int .i64 a0_4] 33 (0, 0)) (by (with_reducible repeat (first | refine blk_drewN ?_ _ | refine blk_drew ?_ | refine blk_alloc ?_ _)); exact BK136.out) hb); have n1_ := Aside0.mk (below_step (by repeat (first | (with_reducible first | exact HB.out | apply below_alloc | apply pw_below_drewN | apply below_drew1 | refine below_set ?_ GE136.out) | exact HB.out)) hb); clear BK136; clear HB; have BK136 := n0_; have HB := n1_; clear n0_ n1_; (try clear hb); (try clear hb2); (try clear hk); (try clear hi); have hcz11_0 : w10.cell? ⟨gb136, 0, none⟩ = some (.int .i64 a0_0) := (blk_cell BK136.out 0).trans rfl; have hcz11_1 : w10.cell? ⟨gb136, 1, none⟩ = some (.int .i64 a0_1) := (blk_cell BK136.out 1).trans rfl; have hcz11_2 : w10.cell? ⟨gb136, 2, none⟩ = some (.int .i64 a0_2) := (blk_cell BK136.out 2).trans rfl; have hcz11_3 : w10.cell? ⟨gb136, 3, none⟩ = some (.int .i64 a0_3) := (blk_cell BK136.out 3).trans rfl; have hcz11_4 : w10.cell? ⟨gb136, 4, none⟩ = some (.int .i64 a0_4) := (blk_cell BK136.out 4).trans rfl; have hfz11_0 := blk_frozen BK136.out 0; have hfz11_1 := blk_frozen BK136.out 1; have hfz11_2 := blk_frozen BK136.out 2; have hfz11_3 := blk_frozen BK136.out 3; have hfz11_4 := blk_frozen BK136.out 4) | ((with_reducible refine gate_callee (f := 25) rfl ?_); refine goesL_ (some 9) rfl rfl Try.func25 (by kernel_rfl) rfl #[.agg #[.int .i64 a0_0, .int .i64 a0_1, .int .i64 a0_2, .int .i64 a0_3, .int .i64 a0_4]] rfl (by (try simp only [List.map_toArray, List.map_cons, List.map_nil]); first | done | rfl | (simp only [List.length_drop, List.length_take]; rfl)) ?_; (with_reducible refine (laws_toInst.calls a0_0 a0_1 a0_2 a0_3 a0_4 t143 t144 t145 t146 t147 _ A4.out).mono ?_); rintro e w12 ⟨rfl, hb⟩; refine ⟨_, rfl, ?_⟩; have n0_ := Aside0.mk (blk_below (g := gb136) (o := .cells #[.int .i64 a0_0, .int .i64 a0_1, .int .i64 a0_2, .int .i64 a0_3, .int .i64 a0_4] 33 (0, 0)) (by (with_reducible repeat (first | refine blk_drewN ?_ _ | refine blk_drew ?_ | refine blk_alloc ?_ _)); exact BK136.out) hb); have n1_ := Aside0.mk (below_step (by repeat (first | (with_reducible first | exact HB.out | apply below_alloc | apply pw_below_drewN | apply below_drew1 | refine below_set ?_ GE136.out) | exact HB.out)) hb); clear BK136; clear HB; have BK136 := n0_; have HB := n1_; clear n0_ n1_; (try clear hb); (try clear hb2); (try clear hk); (try clear hi)) | ((with_reducible refine gate_callee (f := 26) rfl ?_); refine goesL_ (some 10) rfl rfl Try.func26 (by kernel_rfl) rfl #[.agg #[.int .i64 t143, .int .i64 t144, .int .i64 t145, .int .i64 t146, .int .i64 t147]] rfl (by (try simp only [List.map_toArray, List.map_cons, List.map_nil]); first | done | rfl | (simp only [List.length_drop, List.length_take]; rfl)) ?_; (with_reducible refine (impl_InstOk.calls k t143 t144 t145 t146 t147 t148 _ A5.out).mono ?_); rintro e w13 ⟨rfl, hb⟩; refine ⟨_, rfl, ?_⟩; have n0_ := Aside0.mk (blk_below (g := gb136) (o := .cells #[.int .i64 a0_0, .int .i64 a0_1, .int .i64 a0_2, .int .i64 a0_3, .int .i64 a0_4] 33 (0, 0)) (by (with_reducible repeat (first | refine blk_drewN ?_ _ | refine blk_drew ?_ | refine blk_alloc ?_ _)); exact BK136.out) hb); have n1_ := Aside0.mk (below_step (by repeat (first | (with_reducible first | exact HB.out | apply below_alloc | apply pw_below_drewN | apply below_drew1 | refine below_set ?_ GE136.out) | exact HB.out)) hb); clear BK136; clear HB; have BK136 := n0_; have HB := n1_; clear n0_ n1_; (try clear hb); (try clear hb2); (try clear hk); (try clear hi)))
    go_ret
    exact ⟨by first | rfl | (simp [errW_none, errW_some] <;> rfl) | (simp [*, errW_none, errW_some] <;> rfl), by repeat (first | (with_reducible first | exact HB.out | apply below_alloc | apply pw_below_drewN | apply below_drew1 | refine below_set ?_ GE136.out) | exact HB.out)⟩
  · rw [if_neg c6] at H
    have c6b0 : (t148 != t142) = false := by simpa using c6
    (try (have c6b1 : decide (t148 = t142) = true := by simpa using c6))
    (try (have c6b2 : (t148 == t142) = true := by simpa using c6))
    clear c6
    obtain rfl := Option.some.inj H
    go_enter Try.func9, Try.ntmps9
    go_wp2_with (first | ((with_reducible refine gate_dst (N := 1) rfl ?_); refine box_event ?hg (N := 1) ?hd (cs := #[.int .i64 a0_0, .int .i64 a0_1, .int .i64 a0_2, .int .i64 a0_3, .int .i64 a0_4]) (t := 33) ?hr ?_; (case hd => rfl); (case hg => rfl); (case hr => first | (go_simp; done) | (go_simp; rfl)); intro gb136 hg w14 hbox hb; have n0_ := Aside0.mk (below_step (by repeat (first | (with_reducible first | exact HB.out | apply below_alloc | apply pw_below_drewN | apply below_drew1) | exact HB.out)) hb); have n1_ := Aside0.mk (hbox); have n2_ := Aside0.mk ((by rw [hg]; exact (below_size (by repeat (first | (with_reducible first | exact HB.out | apply below_alloc | apply pw_below_drewN | apply below_drew1) | exact HB.out))) : w.heap.size ≤ gb136)); have n3_ := Aside0.mk ((by rw [hg]; exact (below_size (by repeat (first | (with_reducible first | exact HB.out | apply below_alloc | apply pw_below_drewN | apply below_drew1) | exact HB.out))) : w.heap.size ≤ gb136)); clear HB; have HB := n0_; have BK136 := n1_; have GW136 := n2_; have GE136 := n3_; clear n0_ n1_ n2_ n3_; clear hb hbox hg; have hcz15_0 : w14.cell? ⟨gb136, 0, none⟩ = some (.int .i64 a0_0) := (blk_cell BK136.out 0).trans rfl; have hcz15_1 : w14.cell? ⟨gb136, 1, none⟩ = some (.int .i64 a0_1) := (blk_cell BK136.out 1).trans rfl; have hcz15_2 : w14.cell? ⟨gb136, 2, none⟩ = some (.int .i64 a0_2) := (blk_cell BK136.out 2).trans rfl; have hcz15_3 : w14.cell? ⟨gb136, 3, none⟩ = some (.int .i64 a0_3) := (blk_cell BK136.out 3).trans rfl; have hcz15_4 : w14.cell? ⟨gb136, 4, none⟩ = some (.int .i64 a0_4) := (blk_cell BK136.out 4).trans rfl; have hfz15_0 := blk_frozen BK136.out 0; have hfz15_1 := blk_frozen BK136.out 1; have hfz15_2 := blk_frozen BK136.out 2; have hfz15_3 := blk_frozen BK136.out 3; have hfz15_4 := blk_frozen BK136.out 4) | ((with_reducible refine gate_callee (f := 25) rfl ?_); refine goesL_ (some 6) rfl rfl Try.func25 (by kernel_rfl) rfl #[.agg #[.int .i64 a0_0, .int .i64 a0_1, .int .i64 a0_2, .int .i64 a0_3, .int .i64 a0_4]] rfl (by (try simp only [List.map_toArray, List.map_cons, List.map_nil]); first | done | rfl | (simp only [List.length_drop, List.length_take]; rfl)) ?_; (with_reducible refine (laws_toInst.calls a0_0 a0_1 a0_2 a0_3 a0_4 t137 t138 t139 t140 t141 _ A2.out).mono ?_); rintro e w16 ⟨rfl, hb⟩; refine ⟨_, rfl, ?_⟩; have n0_ := Aside0.mk (blk_below (g := gb136) (o := .cells #[.int .i64 a0_0, .int .i64 a0_1, .int .i64 a0_2, .int .i64 a0_3, .int .i64 a0_4] 33 (0, 0)) (by (with_reducible repeat (first | refine blk_drewN ?_ _ | refine blk_drew ?_ | refine blk_alloc ?_ _)); exact BK136.out) hb); have n1_ := Aside0.mk (below_step (by repeat (first | (with_reducible first | exact HB.out | apply below_alloc | apply pw_below_drewN | apply below_drew1 | refine below_set ?_ GE136.out) | exact HB.out)) hb); clear BK136; clear HB; have BK136 := n0_; have HB := n1_; clear n0_ n1_; (try clear hb); (try clear hb2); (try clear hk); (try clear hi)) | ((with_reducible refine gate_callee (f := 24) rfl ?_); refine goesL_ (some 7) rfl rfl Try.func24 (by kernel_rfl) rfl #[.agg #[.int .i64 t137, .int .i64 t138, .int .i64 t139, .int .i64 t140, .int .i64 t141]] rfl (by (try simp only [List.map_toArray, List.map_cons, List.map_nil]); first | done | rfl | (simp only [List.length_drop, List.length_take]; rfl)) ?_; (with_reducible refine (spec_InstOk.calls k t137 t138 t139 t140 t141 t142 _ A3.out).mono ?_); rintro e w17 ⟨rfl, hb⟩; refine ⟨_, rfl, ?_⟩; have n0_ := Aside0.mk (blk_below (g := gb136) (o := .cells #[.int .i64 a0_0, .int .i64 a0_1, .int .i64 a0_2, .int .i64 a0_3, .int .i64 a0_4] 33 (0, 0)) (by (with_reducible repeat (first | refine blk_drewN ?_ _ | refine blk_drew ?_ | refine blk_alloc ?_ _)); exact BK136.out) hb); have n1_ := Aside0.mk (below_step (by repeat (first | (with_reducible first | exact HB.out | apply below_alloc | apply pw_below_drewN | apply below_drew1 | refine below_set ?_ GE136.out) | exact HB.out)) hb); clear BK136; clear HB; have BK136 := n0_; have HB := n1_; clear n0_ n1_; (try clear hb); (try clear hb2); (try clear hk); (try clear hi); have hcz18_0 : w17.cell? ⟨gb136, 0, none⟩ = some (.int .i64 a0_0) := (blk_cell BK136.out 0).trans rfl; have hcz18_1 : w17.cell? ⟨gb136, 1, none⟩ = some (.int .i64 a0_1) := (blk_cell BK136.out 1).trans rfl; have hcz18_2 : w17.cell? ⟨gb136, 2, none⟩ = some (.int .i64 a0_2) := (blk_cell BK136.out 2).trans rfl; have hcz18_3 : w17.cell? ⟨gb136, 3, none⟩ = some (.int .i64 a0_3) := (blk_cell BK136.out 3).trans rfl; have hcz18_4 : w17.cell? ⟨gb136, 4, none⟩ = some (.int .i64 a0_4) := (blk_cell BK136.out 4).trans rfl; have hfz18_0 := blk_frozen BK136.out 0; have hfz18_1 := blk_frozen BK136.out 1; have hfz18_2 := blk_frozen BK136.out 2; have hfz18_3 := blk_frozen BK136.out 3; have hfz18_4 := blk_frozen BK136.out 4) | ((with_reducible refine gate_callee (f := 25) rfl ?_); refine goesL_ (some 9) rfl rfl Try.func25 (by kernel_rfl) rfl #[.agg #[.int .i64 a0_0, .int .i64 a0_1, .int .i64 a0_2, .int .i64 a0_3, .int .i64 a0_4]] rfl (by (try simp only [List.map_toArray, List.map_cons, List.map_nil]); first | done | rfl | (simp only [List.length_drop, List.length_take]; rfl)) ?_; (with_reducible refine (laws_toInst.calls a0_0 a0_1 a0_2 a0_3 a0_4 t143 t144 t145 t146 t147 _ A4.out).mono ?_); rintro e w19 ⟨rfl, hb⟩; refine ⟨_, rfl, ?_⟩; have n0_ := Aside0.mk (blk_below (g := gb136) (o := .cells #[.int .i64 a0_0, .int .i64 a0_1, .int .i64 a0_2, .int .i64 a0_3, .int .i64 a0_4] 33 (0, 0)) (by (with_reducible repeat (first | refine blk_drewN ?_ _ | refine blk_drew ?_ | refine blk_alloc ?_ _)); exact BK136.out) hb); have n1_ := Aside0.mk (below_step (by repeat (first | (with_reducible first | exact HB.out | apply below_alloc | apply pw_below_drewN | apply below_drew1 | refine below_set ?_ GE136.out) | exact HB.out)) hb); clear BK136; clear HB; have BK136 := n0_; have HB := n1_; clear n0_ n1_; (try clear hb); (try clear hb2); (try clear hk); (try clear hi)) | ((with_reducible refine gate_callee (f := 26) rfl ?_); refine goesL_ (some 10) rfl rfl Try.func26 (by kernel_rfl) rfl #[.agg #[.int .i64 t143, .int .i64 t144, .int .i64 t145, .int .i64 t146, .int .i64 t147]] rfl (by (try simp only [List.map_toArray, List.map_cons, List.map_nil]); first | done | rfl | (simp only [List.length_drop, List.length_take]; rfl)) ?_; (with_reducible refine (impl_InstOk.calls k t143 t144 t145 t146 t147 t148 _ A5.out).mono ?_); rintro e w20 ⟨rfl, hb⟩; refine ⟨_, rfl, ?_⟩; have n0_ := Aside0.mk (blk_below (g := gb136) (o := .cells #[.int .i64 a0_0, .int .i64 a0_1, .int .i64 a0_2, .int .i64 a0_3, .int .i64 a0_4] 33 (0, 0)) (by (with_reducible repeat (first | refine blk_drewN ?_ _ | refine blk_drew ?_ | refine blk_alloc ?_ _)); exact BK136.out) hb); have n1_ := Aside0.mk (below_step (by repeat (first | (with_reducible first | exact HB.out | apply below_alloc | apply pw_below_drewN | apply below_drew1 | refine below_set ?_ GE136.out) | exact HB.out)) hb); clear BK136; clear HB; have BK136 := n0_; have HB := n1_; clear n0_ n1_; (try clear hb); (try clear hb2); (try clear hk); (try clear hi)))
    go_ret
    exact ⟨by first | rfl | (simp [errW_none, errW_some] <;> rfl) | (simp [*, errW_none, errW_some] <;> rfl), by repeat (first | (with_reducible first | exact HB.out | apply below_alloc | apply pw_below_drewN | apply below_drew1 | refine below_set ?_ GE136.out) | exact HB.out)⟩

end Go.Proofs.Ytgbpofhabhabcaa.PInstOk
