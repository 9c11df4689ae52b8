-- Lines for this claim, written by the session's own program wip/myprint.py. Not trusted: Lean checks them.
import Derived.Test.YtgbpofhabhabcaaPEncx0
import Derived.Test.YtgbpofhabhabcaaPEncx1
import Derived.Test.YtgbpofhabhabcaaPEncx5
namespace Go.Proofs.Ytgbpofhabhabcaa.PEnc
open Go.RowKit Go.Proofs.YtgbpofhabhabcaaW.PrintWords Go.Proofs.YtgbpofhabhabcaaW.PrintLast Go.Proofs.YtgbpofhabhabcaaW.PrintMore
attribute [local go_sem] max2_int min2_int max_two min_two max_three min_three max_four min_four   -- for this text's walks alone
set_option linter.unusedVariables false
set_option linter.unusedSimpArgs false

attribute [local go_sem high] eqA35
/-! ### impl_InstOk: function 26 -/
def impl_InstOk.f (k : Nat) (a0_0 : Int) (a0_1 : Int) (a0_2 : Int) (a0_3 : Int) (a0_4 : Int) : Option (Bool) := (impl_isReg.f k (([a0_1, a0_2, a0_3] : List Int))).bind fun t159 => (if t159 = true then ((impl_formOf.f k a0_0).bind fun t161 => (if t161 = 82 then (some (0 == a0_4)) else (if t161 = 73 then ((impl_inside.f a0_4 (-2048) 2047).bind fun t162 => (if t162 = true then (some (0 == a0_3)) else (some false))) else (if t161 = 72 then ((impl_inside.f a0_4 0 31).bind fun t163 => (if t163 = true then (some (0 == a0_3)) else (some false))) else (if t161 = 83 then ((impl_inside.f a0_4 (-2048) 2047).bind fun t164 => (if t164 = true then (some (0 == a0_1)) else (some false))) else (if t161 = 66 then ((impl_inside.f a0_4 (-4096) 4094).bind fun t165 => (if t165 = true then (if (Int.tmod a0_4 2) = 0 then (some (0 == a0_1)) else (some false)) else (some false))) else (if t161 = 85 then ((impl_inside.f a0_4 0 1048575).bind fun t166 => (if t166 = true then (some (0 == a0_2 && (0 == a0_3))) else (some false))) else (if t161 = 74 then ((impl_inside.f a0_4 (-1048576) 1048574).bind fun t167 => (if t167 = true then (if (Int.tmod a0_4 2) = 0 then (some (0 == a0_2 && (0 == a0_3))) else (some false)) else (some false))) else (if t161 = 69 then (some (0 == a0_1 && (0 == a0_2 && (0 == a0_3 && (0 == a0_4))))) else (some false)))))))))) else (some false))
theorem impl_InstOk.mono : ∀ a0 a1 a2 a3 a4 k, LeO (impl_InstOk.f k a0 a1 a2 a3 a4) (impl_InstOk.f (k + 1) a0 a1 a2 a3 a4) := by
  intro a0 a1 a2 a3 a4 k
  unfold impl_InstOk.f
  repeat' first
      | (with_reducible exact impl_formOf.mono _ _)
      | (with_reducible exact impl_isReg.mono _ _)
      | (with_reducible exact LeO.refl _)
      | (with_reducible exact LeO.none _)
      | (with_reducible refine LeO.ite ?_ ?_)
      | (with_reducible refine LeO.bind ?_ (fun _ => ?_))
      | exact impl_formOf.mono _ _
      | exact impl_isReg.mono _ _
      | exact LeO.none _
      | refine LeO.ite ?_ ?_
      | refine LeO.bind ?_ (fun _ => ?_)
theorem isReg3 (k : Nat) (a1 a2 a3 : Int) (b : Nat) (r : Bool) (w : World) (h : impl_isReg.f k [a1, a2, a3] = some r)
  (h0 : w.cell? ⟨b, 0, none⟩ = some (.int .i64 a1)) (h1 : w.cell? ⟨b, 1, none⟩ = some (.int .i64 a2)) (h2 : w.cell? ⟨b, 2, none⟩ = some (.int .i64 a3)) :
    Calls Try.prog 46 #[.slice (some ⟨b, 0, none⟩) 3 3] w fun e w' => e = .returned (.bool r) ∧ Drawn0 w w' :=
  impl_isReg.calls k (some ⟨b, 0, none⟩) 3 [a1, a2, a3] r w (Kd.C_of_reads (d := (0 : Int)) (h1 := fun _ => rfl) ⟨rfl, by simp, fun _ => ⟨_, rfl, fun j hj => by
    match j, hj with
    | 0, _ => exact h0
    | 1, _ => simpa [Addr.add] using h1
    | 2, _ => simpa [Addr.add] using h2⟩⟩) (by simp) h
theorem bset {w W : World} {a : Addr} {v : Value} (h : Below w.heap.size w W) (hg : w.heap.size ≤ a.block) : Below w.heap.size w (W.setCell a v) := h.setCell hg _
set_option maxHeartbeats 1600000 in
set_option maxRecDepth 100000 in
theorem ok_noreg (k : Nat) (a0 a1 a2 a3 a4 : Int) (w : World) (hreg : Aside0 (impl_isReg.f k [a1, a2, a3] = some false)) :
    Calls Try.prog 26 #[.agg #[.int .i64 a0, .int .i64 a1, .int .i64 a2, .int .i64 a3, .int .i64 a4]] w fun e w' => e = .returned (.bool (false)) ∧ Below w.heap.size w w' := by
  have hu35 := Try.underlying35
  go_enter Try.func26, Try.ntmps26
  go_wp2_with (first | (go_at_call 46; (with_reducible refine (isReg3 k a1 a2 a3 _ false _ hreg.out (by go_simp) (by go_simp) (by go_simp)).mono ?_); rintro e w' ⟨rfl, ⟨n, rfl⟩⟩))
  
  
  all_goals go_ret
  all_goals exact ⟨by simp [*], (by repeat (first | exact Below.refl _ _ | refine pw_below_drewN ?_ _ | refine below_alloc ?_ _ | refine below_drew ?_ | refine bset ?_ (by simp only []; omega)))⟩
set_option maxHeartbeats 1600000 in
set_option maxRecDepth 100000 in
theorem ok_82 (k : Nat) (a0 a1 a2 a3 a4 : Int) (w : World) (hreg : Aside0 (impl_isReg.f k [a1, a2, a3] = some true)) (hf : Aside0 (impl_formOf.f k a0 = some 82)) :
    Calls Try.prog 26 #[.agg #[.int .i64 a0, .int .i64 a1, .int .i64 a2, .int .i64 a3, .int .i64 a4]] w fun e w' => e = .returned (.bool (0 == a4)) ∧ Below w.heap.size w w' := by
  have hu35 := Try.underlying35
  go_enter Try.func26, Try.ntmps26
  go_wp2_with (first | (go_at_call 46; (with_reducible refine (isReg3 k a1 a2 a3 _ true _ hreg.out (by go_simp) (by go_simp) (by go_simp)).mono ?_); rintro e w' ⟨rfl, ⟨n, rfl⟩⟩) | (go_at_call 47; (with_reducible refine (impl_formOf.calls k a0 82 _ hf.out).mono ?_); rintro e w' ⟨rfl, ⟨n, rfl⟩⟩))
  go_region
  all_goals go_wp2_with (first | (go_at_call 46; (with_reducible refine (isReg3 k a1 a2 a3 _ true _ hreg.out (by go_simp) (by go_simp) (by go_simp)).mono ?_); rintro e w' ⟨rfl, ⟨n, rfl⟩⟩) | (go_at_call 47; (with_reducible refine (impl_formOf.calls k a0 82 _ hf.out).mono ?_); rintro e w' ⟨rfl, ⟨n, rfl⟩⟩))
  all_goals go_ret
  all_goals exact ⟨by simp [*], (by repeat (first | exact Below.refl _ _ | refine pw_below_drewN ?_ _ | refine below_alloc ?_ _ | refine below_drew ?_ | refine bset ?_ (by simp only []; omega)))⟩
set_option maxHeartbeats 1600000 in
set_option maxRecDepth 100000 in
theorem ok_73t (k : Nat) (a0 a1 a2 a3 a4 : Int) (w : World) (hreg : Aside0 (impl_isReg.f k [a1, a2, a3] = some true)) (hf : Aside0 (impl_formOf.f k a0 = some 73)) (hi : Aside0 (impl_inside.f a4 (-2048) 2047 = some true)) :
    Calls Try.prog 26 #[.agg #[.int .i64 a0, .int .i64 a1, .int .i64 a2, .int .i64 a3, .int .i64 a4]] w fun e w' => e = .returned (.bool (0 == a3)) ∧ Below w.heap.size w w' := by
  have hu35 := Try.underlying35
  go_enter Try.func26, Try.ntmps26
  go_wp2_with (first | (go_at_call 46; (with_reducible refine (isReg3 k a1 a2 a3 _ true _ hreg.out (by go_simp) (by go_simp) (by go_simp)).mono ?_); rintro e w' ⟨rfl, ⟨n, rfl⟩⟩) | (go_at_call 47; (with_reducible refine (impl_formOf.calls k a0 73 _ hf.out).mono ?_); rintro e w' ⟨rfl, ⟨n, rfl⟩⟩) | (go_at_call 48; (with_reducible refine (impl_inside.calls a4 (-2048) 2047 true _ hi.out).mono ?_); rintro e w' ⟨rfl, ⟨n, rfl⟩⟩))
  go_region
  all_goals go_wp2_with (first | (go_at_call 46; (with_reducible refine (isReg3 k a1 a2 a3 _ true _ hreg.out (by go_simp) (by go_simp) (by go_simp)).mono ?_); rintro e w' ⟨rfl, ⟨n, rfl⟩⟩) | (go_at_call 47; (with_reducible refine (impl_formOf.calls k a0 73 _ hf.out).mono ?_); rintro e w' ⟨rfl, ⟨n, rfl⟩⟩) | (go_at_call 48; (with_reducible refine (impl_inside.calls a4 (-2048) 2047 true _ hi.out).mono ?_); rintro e w' ⟨rfl, ⟨n, rfl⟩⟩))
  all_goals go_ret
  all_goals exact ⟨by simp [*], (by repeat (first | exact Below.refl _ _ | refine pw_below_drewN ?_ _ | refine below_alloc ?_ _ | refine below_drew ?_ | refine bset ?_ (by simp only []; omega)))⟩
set_option maxHeartbeats 1600000 in
set_option maxRecDepth 100000 in
theorem ok_73f (k : Nat) (a0 a1 a2 a3 a4 : Int) (w : World) (hreg : Aside0 (impl_isReg.f k [a1, a2, a3] = some true)) (hf : Aside0 (impl_formOf.f k a0 = some 73)) (hi : Aside0 (impl_inside.f a4 (-2048) 2047 = some false)) :
    Calls Try.prog 26 #[.agg #[.int .i64 a0, .int .i64 a1, .int .i64 a2, .int .i64 a3, .int .i64 a4]] w fun e w' => e = .returned (.bool (false)) ∧ Below w.heap.size w w' := by
  have hu35 := Try.underlying35
  go_enter Try.func26, Try.ntmps26
  go_wp2_with (first | (go_at_call 46; (with_reducible refine (isReg3 k a1 a2 a3 _ true _ hreg.out (by go_simp) (by go_simp) (by go_simp)).mono ?_); rintro e w' ⟨rfl, ⟨n, rfl⟩⟩) | (go_at_call 47; (with_reducible refine (impl_formOf.calls k a0 73 _ hf.out).mono ?_); rintro e w' ⟨rfl, ⟨n, rfl⟩⟩) | (go_at_call 48; (with_reducible refine (impl_inside.calls a4 (-2048) 2047 false _ hi.out).mono ?_); rintro e w' ⟨rfl, ⟨n, rfl⟩⟩))
  go_region
  all_goals go_wp2_with (first | (go_at_call 46; (with_reducible refine (isReg3 k a1 a2 a3 _ true _ hreg.out (by go_simp) (by go_simp) (by go_simp)).mono ?_); rintro e w' ⟨rfl, ⟨n, rfl⟩⟩) | (go_at_call 47; (with_reducible refine (impl_formOf.calls k a0 73 _ hf.out).mono ?_); rintro e w' ⟨rfl, ⟨n, rfl⟩⟩) | (go_at_call 48; (with_reducible refine (impl_inside.calls a4 (-2048) 2047 false _ hi.out).mono ?_); rintro e w' ⟨rfl, ⟨n, rfl⟩⟩))
  all_goals go_ret
  all_goals exact ⟨by simp [*], (by repeat (first | exact Below.refl _ _ | refine pw_below_drewN ?_ _ | refine below_alloc ?_ _ | refine below_drew ?_ | refine bset ?_ (by simp only []; omega)))⟩
set_option maxHeartbeats 1600000 in
set_option maxRecDepth 100000 in
theorem ok_72t (k : Nat) (a0 a1 a2 a3 a4 : Int) (w : World) (hreg : Aside0 (impl_isReg.f k [a1, a2, a3] = some true)) (hf : Aside0 (impl_formOf.f k a0 = some 72)) (hi : Aside0 (impl_inside.f a4 0 31 = some true)) :
    Calls Try.prog 26 #[.agg #[.int .i64 a0, .int .i64 a1, .int .i64 a2, .int .i64 a3, .int .i64 a4]] w fun e w' => e = .returned (.bool (0 == a3)) ∧ Below w.heap.size w w' := by
  have hu35 := Try.underlying35
  go_enter Try.func26, Try.ntmps26
  go_wp2_with (first | (go_at_call 46; (with_reducible refine (isReg3 k a1 a2 a3 _ true _ hreg.out (by go_simp) (by go_simp) (by go_simp)).mono ?_); rintro e w' ⟨rfl, ⟨n, rfl⟩⟩) | (go_at_call 47; (with_reducible refine (impl_formOf.calls k a0 72 _ hf.out).mono ?_); rintro e w' ⟨rfl, ⟨n, rfl⟩⟩) | (go_at_call 48; (with_reducible refine (impl_inside.calls a4 0 31 true _ hi.out).mono ?_); rintro e w' ⟨rfl, ⟨n, rfl⟩⟩))
  go_region
  all_goals go_wp2_with (first | (go_at_call 46; (with_reducible refine (isReg3 k a1 a2 a3 _ true _ hreg.out (by go_simp) (by go_simp) (by go_simp)).mono ?_); rintro e w' ⟨rfl, ⟨n, rfl⟩⟩) | (go_at_call 47; (with_reducible refine (impl_formOf.calls k a0 72 _ hf.out).mono ?_); rintro e w' ⟨rfl, ⟨n, rfl⟩⟩) | (go_at_call 48; (with_reducible refine (impl_inside.calls a4 0 31 true _ hi.out).mono ?_); rintro e w' ⟨rfl, ⟨n, rfl⟩⟩))
  all_goals go_ret
  all_goals exact ⟨by simp [*], (by repeat (first | exact Below.refl _ _ | refine pw_below_drewN ?_ _ | refine below_alloc ?_ _ | refine below_drew ?_ | refine bset ?_ (by simp only []; omega)))⟩
set_option maxHeartbeats 1600000 in
set_option maxRecDepth 100000 in
theorem ok_72f (k : Nat) (a0 a1 a2 a3 a4 : Int) (w : World) (hreg : Aside0 (impl_isReg.f k [a1, a2, a3] = some true)) (hf : Aside0 (impl_formOf.f k a0 = some 72)) (hi : Aside0 (impl_inside.f a4 0 31 = some false)) :
    Calls Try.prog 26 #[.agg #[.int .i64 a0, .int .i64 a1, .int .i64 a2, .int .i64 a3, .int .i64 a4]] w fun e w' => e = .returned (.bool (false)) ∧ Below w.heap.size w w' := by
  have hu35 := Try.underlying35
  go_enter Try.func26, Try.ntmps26
  go_wp2_with (first | (go_at_call 46; (with_reducible refine (isReg3 k a1 a2 a3 _ true _ hreg.out (by go_simp) (by go_simp) (by go_simp)).mono ?_); rintro e w' ⟨rfl, ⟨n, rfl⟩⟩) | (go_at_call 47; (with_reducible refine (impl_formOf.calls k a0 72 _ hf.out).mono ?_); rintro e w' ⟨rfl, ⟨n, rfl⟩⟩) | (go_at_call 48; (with_reducible refine (impl_inside.calls a4 0 31 false _ hi.out).mono ?_); rintro e w' ⟨rfl, ⟨n, rfl⟩⟩))
  go_region
  all_goals go_wp2_with (first | (go_at_call 46; (with_reducible refine (isReg3 k a1 a2 a3 _ true _ hreg.out (by go_simp) (by go_simp) (by go_simp)).mono ?_); rintro e w' ⟨rfl, ⟨n, rfl⟩⟩) | (go_at_call 47; (with_reducible refine (impl_formOf.calls k a0 72 _ hf.out).mono ?_); rintro e w' ⟨rfl, ⟨n, rfl⟩⟩) | (go_at_call 48; (with_reducible refine (impl_inside.calls a4 0 31 false _ hi.out).mono ?_); rintro e w' ⟨rfl, ⟨n, rfl⟩⟩))
  all_goals go_ret
  all_goals exact ⟨by simp [*], (by repeat (first | exact Below.refl _ _ | refine pw_below_drewN ?_ _ | refine below_alloc ?_ _ | refine below_drew ?_ | refine bset ?_ (by simp only []; omega)))⟩
set_option maxHeartbeats 1600000 in
set_option maxRecDepth 100000 in
theorem ok_83t (k : Nat) (a0 a1 a2 a3 a4 : Int) (w : World) (hreg : Aside0 (impl_isReg.f k [a1, a2, a3] = some true)) (hf : Aside0 (impl_formOf.f k a0 = some 83)) (hi : Aside0 (impl_inside.f a4 (-2048) 2047 = some true)) :
    Calls Try.prog 26 #[.agg #[.int .i64 a0, .int .i64 a1, .int .i64 a2, .int .i64 a3, .int .i64 a4]] w fun e w' => e = .returned (.bool (0 == a1)) ∧ Below w.heap.size w w' := by
  have hu35 := Try.underlying35
  go_enter Try.func26, Try.ntmps26
  go_wp2_with (first | (go_at_call 46; (with_reducible refine (isReg3 k a1 a2 a3 _ true _ hreg.out (by go_simp) (by go_simp) (by go_simp)).mono ?_); rintro e w' ⟨rfl, ⟨n, rfl⟩⟩) | (go_at_call 47; (with_reducible refine (impl_formOf.calls k a0 83 _ hf.out).mono ?_); rintro e w' ⟨rfl, ⟨n, rfl⟩⟩) | (go_at_call 48; (with_reducible refine (impl_inside.calls a4 (-2048) 2047 true _ hi.out).mono ?_); rintro e w' ⟨rfl, ⟨n, rfl⟩⟩))
  go_region
  all_goals go_wp2_with (first | (go_at_call 46; (with_reducible refine (isReg3 k a1 a2 a3 _ true _ hreg.out (by go_simp) (by go_simp) (by go_simp)).mono ?_); rintro e w' ⟨rfl, ⟨n, rfl⟩⟩) | (go_at_call 47; (with_reducible refine (impl_formOf.calls k a0 83 _ hf.out).mono ?_); rintro e w' ⟨rfl, ⟨n, rfl⟩⟩) | (go_at_call 48; (with_reducible refine (impl_inside.calls a4 (-2048) 2047 true _ hi.out).mono ?_); rintro e w' ⟨rfl, ⟨n, rfl⟩⟩))
  all_goals go_ret
  all_goals exact ⟨by simp [*], (by repeat (first | exact Below.refl _ _ | refine pw_below_drewN ?_ _ | refine below_alloc ?_ _ | refine below_drew ?_ | refine bset ?_ (by simp only []; omega)))⟩
set_option maxHeartbeats 1600000 in
set_option maxRecDepth 100000 in
theorem ok_83f (k : Nat) (a0 a1 a2 a3 a4 : Int) (w : World) (hreg : Aside0 (impl_isReg.f k [a1, a2, a3] = some true)) (hf : Aside0 (impl_formOf.f k a0 = some 83)) (hi : Aside0 (impl_inside.f a4 (-2048) 2047 = some false)) :
    Calls Try.prog 26 #[.agg #[.int .i64 a0, .int .i64 a1, .int .i64 a2, .int .i64 a3, .int .i64 a4]] w fun e w' => e = .returned (.bool (false)) ∧ Below w.heap.size w w' := by
  have hu35 := Try.underlying35
  go_enter Try.func26, Try.ntmps26
  go_wp2_with (first | (go_at_call 46; (with_reducible refine (isReg3 k a1 a2 a3 _ true _ hreg.out (by go_simp) (by go_simp) (by go_simp)).mono ?_); rintro e w' ⟨rfl, ⟨n, rfl⟩⟩) | (go_at_call 47; (with_reducible refine (impl_formOf.calls k a0 83 _ hf.out).mono ?_); rintro e w' ⟨rfl, ⟨n, rfl⟩⟩) | (go_at_call 48; (with_reducible refine (impl_inside.calls a4 (-2048) 2047 false _ hi.out).mono ?_); rintro e w' ⟨rfl, ⟨n, rfl⟩⟩))
  go_region
  all_goals go_wp2_with (first | (go_at_call 46; (with_reducible refine (isReg3 k a1 a2 a3 _ true _ hreg.out (by go_simp) (by go_simp) (by go_simp)).mono ?_); rintro e w' ⟨rfl, ⟨n, rfl⟩⟩) | (go_at_call 47; (with_reducible refine (impl_formOf.calls k a0 83 _ hf.out).mono ?_); rintro e w' ⟨rfl, ⟨n, rfl⟩⟩) | (go_at_call 48; (with_reducible refine (impl_inside.calls a4 (-2048) 2047 false _ hi.out).mono ?_); rintro e w' ⟨rfl, ⟨n, rfl⟩⟩))
  all_goals go_ret
  all_goals exact ⟨by simp [*], (by repeat (first | exact Below.refl _ _ | refine pw_below_drewN ?_ _ | refine below_alloc ?_ _ | refine below_drew ?_ | refine bset ?_ (by simp only []; omega)))⟩
set_option maxHeartbeats 1600000 in
set_option maxRecDepth 100000 in
theorem ok_66f (k : Nat) (a0 a1 a2 a3 a4 : Int) (w : World) (hreg : Aside0 (impl_isReg.f k [a1, a2, a3] = some true)) (hf : Aside0 (impl_formOf.f k a0 = some 66)) (hi : Aside0 (impl_inside.f a4 (-4096) 4094 = some false)) :
    Calls Try.prog 26 #[.agg #[.int .i64 a0, .int .i64 a1, .int .i64 a2, .int .i64 a3, .int .i64 a4]] w fun e w' => e = .returned (.bool (false)) ∧ Below w.heap.size w w' := by
  have hu35 := Try.underlying35
  go_enter Try.func26, Try.ntmps26
  go_wp2_with (first | (go_at_call 46; (with_reducible refine (isReg3 k a1 a2 a3 _ true _ hreg.out (by go_simp) (by go_simp) (by go_simp)).mono ?_); rintro e w' ⟨rfl, ⟨n, rfl⟩⟩) | (go_at_call 47; (with_reducible refine (impl_formOf.calls k a0 66 _ hf.out).mono ?_); rintro e w' ⟨rfl, ⟨n, rfl⟩⟩) | (go_at_call 48; (with_reducible refine (impl_inside.calls a4 (-4096) 4094 false _ hi.out).mono ?_); rintro e w' ⟨rfl, ⟨n, rfl⟩⟩))
  go_region
  all_goals go_wp2_with (first | (go_at_call 46; (with_reducible refine (isReg3 k a1 a2 a3 _ true _ hreg.out (by go_simp) (by go_simp) (by go_simp)).mono ?_); rintro e w' ⟨rfl, ⟨n, rfl⟩⟩) | (go_at_call 47; (with_reducible refine (impl_formOf.calls k a0 66 _ hf.out).mono ?_); rintro e w' ⟨rfl, ⟨n, rfl⟩⟩) | (go_at_call 48; (with_reducible refine (impl_inside.calls a4 (-4096) 4094 false _ hi.out).mono ?_); rintro e w' ⟨rfl, ⟨n, rfl⟩⟩))
  all_goals go_ret
  all_goals exact ⟨by simp [*], (by repeat (first | exact Below.refl _ _ | refine pw_below_drewN ?_ _ | refine below_alloc ?_ _ | refine below_drew ?_ | refine bset ?_ (by simp only []; omega)))⟩
set_option maxHeartbeats 1600000 in
set_option maxRecDepth 100000 in
theorem ok_66t (k : Nat) (a0 a1 a2 a3 a4 : Int) (w : World) (hreg : Aside0 (impl_isReg.f k [a1, a2, a3] = some true)) (hf : Aside0 (impl_formOf.f k a0 = some 66)) (hi : Aside0 (impl_inside.f a4 (-4096) 4094 = some true)) (e0 : (Int.tmod a4 2 == 0) = true) (e1 : (Int.tmod a4 2 != 0) = false) :
    Calls Try.prog 26 #[.agg #[.int .i64 a0, .int .i64 a1, .int .i64 a2, .int .i64 a3, .int .i64 a4]] w fun e w' => e = .returned (.bool (0 == a1)) ∧ Below w.heap.size w w' := by
  have hu35 := Try.underlying35
  go_enter Try.func26, Try.ntmps26
  go_wp2_with (first | (go_at_call 46; (with_reducible refine (isReg3 k a1 a2 a3 _ true _ hreg.out (by go_simp) (by go_simp) (by go_simp)).mono ?_); rintro e w' ⟨rfl, ⟨n, rfl⟩⟩) | (go_at_call 47; (with_reducible refine (impl_formOf.calls k a0 66 _ hf.out).mono ?_); rintro e w' ⟨rfl, ⟨n, rfl⟩⟩) | (go_at_call 48; (with_reducible refine (impl_inside.calls a4 (-4096) 4094 true _ hi.out).mono ?_); rintro e w' ⟨rfl, ⟨n, rfl⟩⟩))
  go_region
  all_goals go_wp2_with (first | (go_at_call 46; (with_reducible refine (isReg3 k a1 a2 a3 _ true _ hreg.out (by go_simp) (by go_simp) (by go_simp)).mono ?_); rintro e w' ⟨rfl, ⟨n, rfl⟩⟩) | (go_at_call 47; (with_reducible refine (impl_formOf.calls k a0 66 _ hf.out).mono ?_); rintro e w' ⟨rfl, ⟨n, rfl⟩⟩) | (go_at_call 48; (with_reducible refine (impl_inside.calls a4 (-4096) 4094 true _ hi.out).mono ?_); rintro e w' ⟨rfl, ⟨n, rfl⟩⟩))
  all_goals go_ret
  all_goals exact ⟨by simp [*], (by repeat (first | exact Below.refl _ _ | refine pw_below_drewN ?_ _ | refine below_alloc ?_ _ | refine below_drew ?_ | refine bset ?_ (by simp only []; omega)))⟩
set_option maxHeartbeats 1600000 in
set_option maxRecDepth 100000 in
theorem ok_66o (k : Nat) (a0 a1 a2 a3 a4 : Int) (w : World) (hreg : Aside0 (impl_isReg.f k [a1, a2, a3] = some true)) (hf : Aside0 (impl_formOf.f k a0 = some 66)) (hi : Aside0 (impl_inside.f a4 (-4096) 4094 = some true)) (e0 : (Int.tmod a4 2 == 0) = false) (e1 : (Int.tmod a4 2 != 0) = true) :
    Calls Try.prog 26 #[.agg #[.int .i64 a0, .int .i64 a1, .int .i64 a2, .int .i64 a3, .int .i64 a4]] w fun e w' => e = .returned (.bool (false)) ∧ Below w.heap.size w w' := by
  have hu35 := Try.underlying35
  go_enter Try.func26, Try.ntmps26
  go_wp2_with (first | (go_at_call 46; (with_reducible refine (isReg3 k a1 a2 a3 _ true _ hreg.out (by go_simp) (by go_simp) (by go_simp)).mono ?_); rintro e w' ⟨rfl, ⟨n, rfl⟩⟩) | (go_at_call 47; (with_reducible refine (impl_formOf.calls k a0 66 _ hf.out).mono ?_); rintro e w' ⟨rfl, ⟨n, rfl⟩⟩) | (go_at_call 48; (with_reducible refine (impl_inside.calls a4 (-4096) 4094 true _ hi.out).mono ?_); rintro e w' ⟨rfl, ⟨n, rfl⟩⟩))
  go_region
  all_goals go_wp2_with (first | (go_at_call 46; (with_reducible refine (isReg3 k a1 a2 a3 _ true _ hreg.out (by go_simp) (by go_simp) (by go_simp)).mono ?_); rintro e w' ⟨rfl, ⟨n, rfl⟩⟩) | (go_at_call 47; (with_reducible refine (impl_formOf.calls k a0 66 _ hf.out).mono ?_); rintro e w' ⟨rfl, ⟨n, rfl⟩⟩) | (go_at_call 48; (with_reducible refine (impl_inside.calls a4 (-4096) 4094 true _ hi.out).mono ?_); rintro e w' ⟨rfl, ⟨n, rfl⟩⟩))
  all_goals go_ret
  all_goals exact ⟨by simp [*], (by repeat (first | exact Below.refl _ _ | refine pw_below_drewN ?_ _ | refine below_alloc ?_ _ | refine below_drew ?_ | refine bset ?_ (by simp only []; omega)))⟩
set_option maxHeartbeats 1600000 in
set_option maxRecDepth 100000 in
theorem ok_74f (k : Nat) (a0 a1 a2 a3 a4 : Int) (w : World) (hreg : Aside0 (impl_isReg.f k [a1, a2, a3] = some true)) (hf : Aside0 (impl_formOf.f k a0 = some 74)) (hi : Aside0 (impl_inside.f a4 (-1048576) 1048574 = some false)) :
    Calls Try.prog 26 #[.agg #[.int .i64 a0, .int .i64 a1, .int .i64 a2, .int .i64 a3, .int .i64 a4]] w fun e w' => e = .returned (.bool (false)) ∧ Below w.heap.size w w' := by
  have hu35 := Try.underlying35
  go_enter Try.func26, Try.ntmps26
  go_wp2_with (first | (go_at_call 46; (with_reducible refine (isReg3 k a1 a2 a3 _ true _ hreg.out (by go_simp) (by go_simp) (by go_simp)).mono ?_); rintro e w' ⟨rfl, ⟨n, rfl⟩⟩) | (go_at_call 47; (with_reducible refine (impl_formOf.calls k a0 74 _ hf.out).mono ?_); rintro e w' ⟨rfl, ⟨n, rfl⟩⟩) | (go_at_call 48; (with_reducible refine (impl_inside.calls a4 (-1048576) 1048574 false _ hi.out).mono ?_); rintro e w' ⟨rfl, ⟨n, rfl⟩⟩))
  go_region
  all_goals go_wp2_with (first | (go_at_call 46; (with_reducible refine (isReg3 k a1 a2 a3 _ true _ hreg.out (by go_simp) (by go_simp) (by go_simp)).mono ?_); rintro e w' ⟨rfl, ⟨n, rfl⟩⟩) | (go_at_call 47; (with_reducible refine (impl_formOf.calls k a0 74 _ hf.out).mono ?_); rintro e w' ⟨rfl, ⟨n, rfl⟩⟩) | (go_at_call 48; (with_reducible refine (impl_inside.calls a4 (-1048576) 1048574 false _ hi.out).mono ?_); rintro e w' ⟨rfl, ⟨n, rfl⟩⟩))
  all_goals go_ret
  all_goals exact ⟨by simp [*], (by repeat (first | exact Below.refl _ _ | refine pw_below_drewN ?_ _ | refine below_alloc ?_ _ | refine below_drew ?_ | refine bset ?_ (by simp only []; omega)))⟩
set_option maxHeartbeats 1600000 in
set_option maxRecDepth 100000 in
theorem ok_74t (k : Nat) (a0 a1 a2 a3 a4 : Int) (w : World) (hreg : Aside0 (impl_isReg.f k [a1, a2, a3] = some true)) (hf : Aside0 (impl_formOf.f k a0 = some 74)) (hi : Aside0 (impl_inside.f a4 (-1048576) 1048574 = some true)) (e0 : (Int.tmod a4 2 == 0) = true) (e1 : (Int.tmod a4 2 != 0) = false) :
    Calls Try.prog 26 #[.agg #[.int .i64 a0, .int .i64 a1, .int .i64 a2, .int .i64 a3, .int .i64 a4]] w fun e w' => e = .returned (.bool (0 == a2 && (0 == a3))) ∧ Below w.heap.size w w' := by
  have hu35 := Try.underlying35
  go_enter Try.func26, Try.ntmps26
  go_wp2_with (first | (go_at_call 46; (with_reducible refine (isReg3 k a1 a2 a3 _ true _ hreg.out (by go_simp) (by go_simp) (by go_simp)).mono ?_); rintro e w' ⟨rfl, ⟨n, rfl⟩⟩) | (go_at_call 47; (with_reducible refine (impl_formOf.calls k a0 74 _ hf.out).mono ?_); rintro e w' ⟨rfl, ⟨n, rfl⟩⟩) | (go_at_call 48; (with_reducible refine (impl_inside.calls a4 (-1048576) 1048574 true _ hi.out).mono ?_); rintro e w' ⟨rfl, ⟨n, rfl⟩⟩))
  go_region
  all_goals go_wp2_with (first | (go_at_call 46; (with_reducible refine (isReg3 k a1 a2 a3 _ true _ hreg.out (by go_simp) (by go_simp) (by go_simp)).mono ?_); rintro e w' ⟨rfl, ⟨n, rfl⟩⟩) | (go_at_call 47; (with_reducible refine (impl_formOf.calls k a0 74 _ hf.out).mono ?_); rintro e w' ⟨rfl, ⟨n, rfl⟩⟩) | (go_at_call 48; (with_reducible refine (impl_inside.calls a4 (-1048576) 1048574 true _ hi.out).mono ?_); rintro e w' ⟨rfl, ⟨n, rfl⟩⟩))
  all_goals go_ret
  all_goals exact ⟨by simp [*], (by repeat (first | exact Below.refl _ _ | refine pw_below_drewN ?_ _ | refine below_alloc ?_ _ | refine below_drew ?_ | refine bset ?_ (by simp only []; omega)))⟩
set_option maxHeartbeats 1600000 in
set_option maxRecDepth 100000 in
theorem ok_74o (k : Nat) (a0 a1 a2 a3 a4 : Int) (w : World) (hreg : Aside0 (impl_isReg.f k [a1, a2, a3] = some true)) (hf : Aside0 (impl_formOf.f k a0 = some 74)) (hi : Aside0 (impl_inside.f a4 (-1048576) 1048574 = some true)) (e0 : (Int.tmod a4 2 == 0) = false) (e1 : (Int.tmod a4 2 != 0) = true) :
    Calls Try.prog 26 #[.agg #[.int .i64 a0, .int .i64 a1, .int .i64 a2, .int .i64 a3, .int .i64 a4]] w fun e w' => e = .returned (.bool (false)) ∧ Below w.heap.size w w' := by
  have hu35 := Try.underlying35
  go_enter Try.func26, Try.ntmps26
  go_wp2_with (first | (go_at_call 46; (with_reducible refine (isReg3 k a1 a2 a3 _ true _ hreg.out (by go_simp) (by go_simp) (by go_simp)).mono ?_); rintro e w' ⟨rfl, ⟨n, rfl⟩⟩) | (go_at_call 47; (with_reducible refine (impl_formOf.calls k a0 74 _ hf.out).mono ?_); rintro e w' ⟨rfl, ⟨n, rfl⟩⟩) | (go_at_call 48; (with_reducible refine (impl_inside.calls a4 (-1048576) 1048574 true _ hi.out).mono ?_); rintro e w' ⟨rfl, ⟨n, rfl⟩⟩))
  go_region
  all_goals go_wp2_with (first | (go_at_call 46; (with_reducible refine (isReg3 k a1 a2 a3 _ true _ hreg.out (by go_simp) (by go_simp) (by go_simp)).mono ?_); rintro e w' ⟨rfl, ⟨n, rfl⟩⟩) | (go_at_call 47; (with_reducible refine (impl_formOf.calls k a0 74 _ hf.out).mono ?_); rintro e w' ⟨rfl, ⟨n, rfl⟩⟩) | (go_at_call 48; (with_reducible refine (impl_inside.calls a4 (-1048576) 1048574 true _ hi.out).mono ?_); rintro e w' ⟨rfl, ⟨n, rfl⟩⟩))
  all_goals go_ret
  all_goals exact ⟨by simp [*], (by repeat (first | exact Below.refl _ _ | refine pw_below_drewN ?_ _ | refine below_alloc ?_ _ | refine below_drew ?_ | refine bset ?_ (by simp only []; omega)))⟩
set_option maxHeartbeats 1600000 in
set_option maxRecDepth 100000 in
theorem ok_85t (k : Nat) (a0 a1 a2 a3 a4 : Int) (w : World) (hreg : Aside0 (impl_isReg.f k [a1, a2, a3] = some true)) (hf : Aside0 (impl_formOf.f k a0 = some 85)) (hi : Aside0 (impl_inside.f a4 0 1048575 = some true)) :
    Calls Try.prog 26 #[.agg #[.int .i64 a0, .int .i64 a1, .int .i64 a2, .int .i64 a3, .int .i64 a4]] w fun e w' => e = .returned (.bool (0 == a2 && (0 == a3))) ∧ Below w.heap.size w w' := by
  have hu35 := Try.underlying35
  go_enter Try.func26, Try.ntmps26
  go_wp2_with (first | (go_at_call 46; (with_reducible refine (isReg3 k a1 a2 a3 _ true _ hreg.out (by go_simp) (by go_simp) (by go_simp)).mono ?_); rintro e w' ⟨rfl, ⟨n, rfl⟩⟩) | (go_at_call 47; (with_reducible refine (impl_formOf.calls k a0 85 _ hf.out).mono ?_); rintro e w' ⟨rfl, ⟨n, rfl⟩⟩) | (go_at_call 48; (with_reducible refine (impl_inside.calls a4 0 1048575 true _ hi.out).mono ?_); rintro e w' ⟨rfl, ⟨n, rfl⟩⟩))
  go_region
  all_goals go_wp2_with (first | (go_at_call 46; (with_reducible refine (isReg3 k a1 a2 a3 _ true _ hreg.out (by go_simp) (by go_simp) (by go_simp)).mono ?_); rintro e w' ⟨rfl, ⟨n, rfl⟩⟩) | (go_at_call 47; (with_reducible refine (impl_formOf.calls k a0 85 _ hf.out).mono ?_); rintro e w' ⟨rfl, ⟨n, rfl⟩⟩) | (go_at_call 48; (with_reducible refine (impl_inside.calls a4 0 1048575 true _ hi.out).mono ?_); rintro e w' ⟨rfl, ⟨n, rfl⟩⟩))
  all_goals go_ret
  all_goals exact ⟨by simp [*], (by repeat (first | exact Below.refl _ _ | refine pw_below_drewN ?_ _ | refine below_alloc ?_ _ | refine below_drew ?_ | refine bset ?_ (by simp only []; omega)))⟩
set_option maxHeartbeats 1600000 in
set_option maxRecDepth 100000 in
theorem ok_85f (k : Nat) (a0 a1 a2 a3 a4 : Int) (w : World) (hreg : Aside0 (impl_isReg.f k [a1, a2, a3] = some true)) (hf : Aside0 (impl_formOf.f k a0 = some 85)) (hi : Aside0 (impl_inside.f a4 0 1048575 = some false)) :
    Calls Try.prog 26 #[.agg #[.int .i64 a0, .int .i64 a1, .int .i64 a2, .int .i64 a3, .int .i64 a4]] w fun e w' => e = .returned (.bool (false)) ∧ Below w.heap.size w w' := by
  have hu35 := Try.underlying35
  go_enter Try.func26, Try.ntmps26
  go_wp2_with (first | (go_at_call 46; (with_reducible refine (isReg3 k a1 a2 a3 _ true _ hreg.out (by go_simp) (by go_simp) (by go_simp)).mono ?_); rintro e w' ⟨rfl, ⟨n, rfl⟩⟩) | (go_at_call 47; (with_reducible refine (impl_formOf.calls k a0 85 _ hf.out).mono ?_); rintro e w' ⟨rfl, ⟨n, rfl⟩⟩) | (go_at_call 48; (with_reducible refine (impl_inside.calls a4 0 1048575 false _ hi.out).mono ?_); rintro e w' ⟨rfl, ⟨n, rfl⟩⟩))
  go_region
  all_goals go_wp2_with (first | (go_at_call 46; (with_reducible refine (isReg3 k a1 a2 a3 _ true _ hreg.out (by go_simp) (by go_simp) (by go_simp)).mono ?_); rintro e w' ⟨rfl, ⟨n, rfl⟩⟩) | (go_at_call 47; (with_reducible refine (impl_formOf.calls k a0 85 _ hf.out).mono ?_); rintro e w' ⟨rfl, ⟨n, rfl⟩⟩) | (go_at_call 48; (with_reducible refine (impl_inside.calls a4 0 1048575 false _ hi.out).mono ?_); rintro e w' ⟨rfl, ⟨n, rfl⟩⟩))
  all_goals go_ret
  all_goals exact ⟨by simp [*], (by repeat (first | exact Below.refl _ _ | refine pw_below_drewN ?_ _ | refine below_alloc ?_ _ | refine below_drew ?_ | refine bset ?_ (by simp only []; omega)))⟩
set_option maxHeartbeats 1600000 in
set_option maxRecDepth 100000 in
theorem ok_69 (k : Nat) (a0 a1 a2 a3 a4 : Int) (w : World) (hreg : Aside0 (impl_isReg.f k [a1, a2, a3] = some true)) (hf : Aside0 (impl_formOf.f k a0 = some 69)) :
    Calls Try.prog 26 #[.agg #[.int .i64 a0, .int .i64 a1, .int .i64 a2, .int .i64 a3, .int .i64 a4]] w fun e w' => e = .returned (.bool (0 == a1 && (0 == a2 && (0 == a3 && (0 == a4))))) ∧ Below w.heap.size w w' := by
  have hu35 := Try.underlying35
  go_enter Try.func26, Try.ntmps26
  go_wp2_with (first | (go_at_call 46; (with_reducible refine (isReg3 k a1 a2 a3 _ true _ hreg.out (by go_simp) (by go_simp) (by go_simp)).mono ?_); rintro e w' ⟨rfl, ⟨n, rfl⟩⟩) | (go_at_call 47; (with_reducible refine (impl_formOf.calls k a0 69 _ hf.out).mono ?_); rintro e w' ⟨rfl, ⟨n, rfl⟩⟩))
  
  
  all_goals go_ret
  all_goals exact ⟨by simp [*], (by repeat (first | exact Below.refl _ _ | refine pw_below_drewN ?_ _ | refine below_alloc ?_ _ | refine below_drew ?_ | refine bset ?_ (by simp only []; omega)))⟩
set_option maxHeartbeats 1600000 in
set_option maxRecDepth 100000 in
theorem ok_none (k : Nat) (a0 a1 a2 a3 a4 : Int) (w : World) (hreg : Aside0 (impl_isReg.f k [a1, a2, a3] = some true)) (f : Int) (hf : Aside0 (impl_formOf.f k a0 = some f)) (e82 : (f == 82) = false) (e73 : (f == 73) = false) (e72 : (f == 72) = false) (e83 : (f == 83) = false) (e66 : (f == 66) = false) (e85 : (f == 85) = false) (e74 : (f == 74) = false) (e69 : (f == 69) = false) :
    Calls Try.prog 26 #[.agg #[.int .i64 a0, .int .i64 a1, .int .i64 a2, .int .i64 a3, .int .i64 a4]] w fun e w' => e = .returned (.bool (false)) ∧ Below w.heap.size w w' := by
  have hu35 := Try.underlying35
  go_enter Try.func26, Try.ntmps26
  go_wp2_with (first | (go_at_call 46; (with_reducible refine (isReg3 k a1 a2 a3 _ true _ hreg.out (by go_simp) (by go_simp) (by go_simp)).mono ?_); rintro e w' ⟨rfl, ⟨n, rfl⟩⟩) | (go_at_call 47; (with_reducible refine (impl_formOf.calls k a0 f _ hf.out).mono ?_); rintro e w' ⟨rfl, ⟨n, rfl⟩⟩))
  
  
  all_goals go_ret
  all_goals exact ⟨by simp [*], (by repeat (first | exact Below.refl _ _ | refine pw_below_drewN ?_ _ | refine below_alloc ?_ _ | refine below_drew ?_ | refine bset ?_ (by simp only []; omega)))⟩
theorem impl_InstOk.calls (k : Nat) (a0 a1 a2 a3 a4 : Int) (r : Bool) (w : World) (h : impl_InstOk.f k a0 a1 a2 a3 a4 = some r) :
    Calls Try.prog 26 #[.agg #[.int .i64 a0, .int .i64 a1, .int .i64 a2, .int .i64 a3, .int .i64 a4]] w fun e w' => e = .returned (.bool r) ∧ Below w.heap.size w w' := by
  unfold impl_InstOk.f at h
  obtain ⟨b, hr, h⟩ := Option.bind_eq_some_iff.mp h
  have hreg := Aside0.mk hr
  clear hr
  cases b
  · simp at h; subst h; exact ok_noreg k a0 a1 a2 a3 a4 w hreg
  rw [if_pos rfl] at h
  obtain ⟨f, hf, h⟩ := Option.bind_eq_some_iff.mp h
  by_cases c82 : f = 82
  · subst c82
    rw [if_pos rfl] at h
    obtain rfl := Option.some.inj h; exact ok_82 k a0 a1 a2 a3 a4 w hreg ⟨hf⟩
  rw [if_neg c82] at h
  by_cases c73 : f = 73
  · subst c73
    rw [if_pos rfl] at h
    obtain ⟨b, hi, h⟩ := Option.bind_eq_some_iff.mp h
    cases b
    · simp at h; subst h; exact ok_73f k a0 a1 a2 a3 a4 w hreg ⟨hf⟩ ⟨hi⟩
    rw [if_pos rfl] at h
    obtain rfl := Option.some.inj h; exact ok_73t k a0 a1 a2 a3 a4 w hreg ⟨hf⟩ ⟨hi⟩
  rw [if_neg c73] at h
  by_cases c72 : f = 72
  · subst c72
    rw [if_pos rfl] at h
    obtain ⟨b, hi, h⟩ := Option.bind_eq_some_iff.mp h
    cases b
    · simp at h; subst h; exact ok_72f k a0 a1 a2 a3 a4 w hreg ⟨hf⟩ ⟨hi⟩
    rw [if_pos rfl] at h
    obtain rfl := Option.some.inj h; exact ok_72t k a0 a1 a2 a3 a4 w hreg ⟨hf⟩ ⟨hi⟩
  rw [if_neg c72] at h
  by_cases c83 : f = 83
  · subst c83
    rw [if_pos rfl] at h
    obtain ⟨b, hi, h⟩ := Option.bind_eq_some_iff.mp h
    cases b
    · simp at h; subst h; exact ok_83f k a0 a1 a2 a3 a4 w hreg ⟨hf⟩ ⟨hi⟩
    rw [if_pos rfl] at h
    obtain rfl := Option.some.inj h; exact ok_83t k a0 a1 a2 a3 a4 w hreg ⟨hf⟩ ⟨hi⟩
  rw [if_neg c83] at h
  by_cases c66 : f = 66
  · subst c66
    rw [if_pos rfl] at h
    obtain ⟨b, hi, h⟩ := Option.bind_eq_some_iff.mp h
    cases b
    · simp at h; subst h; exact ok_66f k a0 a1 a2 a3 a4 w hreg ⟨hf⟩ ⟨hi⟩
    rw [if_pos rfl] at h
    by_cases c : Int.tmod a4 2 = 0
    · rw [if_pos c] at h; obtain rfl := Option.some.inj h; exact ok_66t k a0 a1 a2 a3 a4 w hreg ⟨hf⟩ ⟨hi⟩ (beq_iff_eq.mpr c) (bne_eq_false_iff_eq.mpr c)
    · rw [if_neg c] at h; obtain rfl := Option.some.inj h; exact ok_66o k a0 a1 a2 a3 a4 w hreg ⟨hf⟩ ⟨hi⟩ (beq_eq_false_iff_ne.mpr c) (bne_iff_ne.mpr c)
  rw [if_neg c66] at h
  by_cases c85 : f = 85
  · subst c85
    rw [if_pos rfl] at h
    obtain ⟨b, hi, h⟩ := Option.bind_eq_some_iff.mp h
    cases b
    · simp at h; subst h; exact ok_85f k a0 a1 a2 a3 a4 w hreg ⟨hf⟩ ⟨hi⟩
    rw [if_pos rfl] at h
    obtain rfl := Option.some.inj h; exact ok_85t k a0 a1 a2 a3 a4 w hreg ⟨hf⟩ ⟨hi⟩
  rw [if_neg c85] at h
  by_cases c74 : f = 74
  · subst c74
    rw [if_pos rfl] at h
    obtain ⟨b, hi, h⟩ := Option.bind_eq_some_iff.mp h
    cases b
    · simp at h; subst h; exact ok_74f k a0 a1 a2 a3 a4 w hreg ⟨hf⟩ ⟨hi⟩
    rw [if_pos rfl] at h
    by_cases c : Int.tmod a4 2 = 0
    · rw [if_pos c] at h; obtain rfl := Option.some.inj h; exact ok_74t k a0 a1 a2 a3 a4 w hreg ⟨hf⟩ ⟨hi⟩ (beq_iff_eq.mpr c) (bne_eq_false_iff_eq.mpr c)
    · rw [if_neg c] at h; obtain rfl := Option.some.inj h; exact ok_74o k a0 a1 a2 a3 a4 w hreg ⟨hf⟩ ⟨hi⟩ (beq_eq_false_iff_ne.mpr c) (bne_iff_ne.mpr c)
  rw [if_neg c74] at h
  by_cases c69 : f = 69
  · subst c69
    rw [if_pos rfl] at h
    obtain rfl := Option.some.inj h; exact ok_69 k a0 a1 a2 a3 a4 w hreg ⟨hf⟩
  rw [if_neg c69] at h
  obtain rfl := Option.some.inj h; exact ok_none k a0 a1 a2 a3 a4 w hreg f ⟨hf⟩ (beq_eq_false_iff_ne.mpr c82) (beq_eq_false_iff_ne.mpr c73) (beq_eq_false_iff_ne.mpr c72) (beq_eq_false_iff_ne.mpr c83) (beq_eq_false_iff_ne.mpr c66) (beq_eq_false_iff_ne.mpr c85) (beq_eq_false_iff_ne.mpr c74) (beq_eq_false_iff_ne.mpr c69)

/-! ### impl_partsOf: function 59 -/
/-- Of each Op: the lowest bits, f3, f7. -/
def parTab : List (Int × Int × Int) := [(51, 0, 0), (51, 0, 32), (51, 1, 0), (51, 2, 0), (51, 3, 0), (51, 4, 0), (51, 5, 0), (51, 5, 32), (51, 6, 0), (51, 7, 0), (51, 0, 1), (51, 1, 1), (51, 2, 1), (51, 3, 1), (51, 4, 1), (51, 5, 1), (51, 6, 1), (51, 7, 1), (19, 0, 0), (19, 2, 0), (19, 3, 0), (19, 4, 0), (19, 6, 0), (19, 7, 0), (19, 1, 0), (19, 5, 0), (19, 5, 32), (3, 0, 0), (3, 1, 0), (3, 2, 0), (3, 4, 0), (3, 5, 0), (103, 0, 0), (35, 0, 0), (35, 1, 0), (35, 2, 0), (99, 0, 0), (99, 1, 0), (99, 4, 0), (99, 5, 0), (99, 6, 0), (99, 7, 0), (55, 0, 0), (23, 0, 0), (111, 0, 0), (115, 0, 0), (115, 0, 0)]
def par (op : Int) : Int × Int × Int := parTab.getD (op - 1).toNat (0, 0, 0)
def impl_partsOf.f (a0 : Int) : Option (Int × Int × Int) := if 1 ≤ a0 ∧ a0 ≤ 47 then some (par a0) else none
set_option maxHeartbeats 1600000 in
set_option maxRecDepth 100000 in
theorem part_1 (w : World) : Calls Try.prog 59 #[.int .i64 1] w fun e w' => e = .returned (.tuple #[.int .i64 51, .int .i64 0, .int .i64 0]) ∧ Below w.heap.size w w' := by
  have HF : Aside0 (impl_formOf.f 7 1 = some 82) := ⟨rfl⟩
  have hcell : ∀ m, ((w.drewN m).alloc (.cells #[.int .i64 0, .int .i64 0, .int .i64 1, .int .i64 2, .int .i64 3, .int .i64 4, .int .i64 5, .int .i64 5, .int .i64 6, .int .i64 7] 3)).cell? ⟨w.heap.size, 0, none⟩ = some (.int .i64 0) := fun m => (World.cell?_alloc_at (w := w.drewN m) _ _ _ _ rfl).trans rfl
  go_enter Try.func59, Try.ntmps59
  go_wp2_with (go_at_call 47; (with_reducible refine (impl_formOf.calls 7 1 82 _ HF.out).mono ?_); rintro e w' ⟨rfl, ⟨m, rfl⟩⟩)
  go_region
  all_goals go_wp2
  all_goals go_ret3
  all_goals exact ⟨rfl, by repeat (first | exact Below.refl _ _ | refine pw_below_drewN ?_ _ | refine below_alloc ?_ _ | refine below_drew ?_)⟩
set_option maxHeartbeats 1600000 in
set_option maxRecDepth 100000 in
theorem part_2 (w : World) : Calls Try.prog 59 #[.int .i64 2] w fun e w' => e = .returned (.tuple #[.int .i64 51, .int .i64 0, .int .i64 32]) ∧ Below w.heap.size w w' := by
  have HF : Aside0 (impl_formOf.f 7 2 = some 82) := ⟨rfl⟩
  have hcell : ∀ m, ((w.drewN m).alloc (.cells #[.int .i64 0, .int .i64 0, .int .i64 1, .int .i64 2, .int .i64 3, .int .i64 4, .int .i64 5, .int .i64 5, .int .i64 6, .int .i64 7] 3)).cell? ⟨w.heap.size, 1, none⟩ = some (.int .i64 0) := fun m => (World.cell?_alloc_at (w := w.drewN m) _ _ _ _ rfl).trans rfl
  go_enter Try.func59, Try.ntmps59
  go_wp2_with (go_at_call 47; (with_reducible refine (impl_formOf.calls 7 2 82 _ HF.out).mono ?_); rintro e w' ⟨rfl, ⟨m, rfl⟩⟩)
  go_region
  all_goals go_wp2
  all_goals go_ret3
  all_goals exact ⟨rfl, by repeat (first | exact Below.refl _ _ | refine pw_below_drewN ?_ _ | refine below_alloc ?_ _ | refine below_drew ?_)⟩
set_option maxHeartbeats 1600000 in
set_option maxRecDepth 100000 in
theorem part_3 (w : World) : Calls Try.prog 59 #[.int .i64 3] w fun e w' => e = .returned (.tuple #[.int .i64 51, .int .i64 1, .int .i64 0]) ∧ Below w.heap.size w w' := by
  have HF : Aside0 (impl_formOf.f 7 3 = some 82) := ⟨rfl⟩
  have hcell : ∀ m, ((w.drewN m).alloc (.cells #[.int .i64 0, .int .i64 0, .int .i64 1, .int .i64 2, .int .i64 3, .int .i64 4, .int .i64 5, .int .i64 5, .int .i64 6, .int .i64 7] 3)).cell? ⟨w.heap.size, 2, none⟩ = some (.int .i64 1) := fun m => (World.cell?_alloc_at (w := w.drewN m) _ _ _ _ rfl).trans rfl
  go_enter Try.func59, Try.ntmps59
  go_wp2_with (go_at_call 47; (with_reducible refine (impl_formOf.calls 7 3 82 _ HF.out).mono ?_); rintro e w' ⟨rfl, ⟨m, rfl⟩⟩)
  go_region
  all_goals go_wp2
  all_goals go_ret3
  all_goals exact ⟨rfl, by repeat (first | exact Below.refl _ _ | refine pw_below_drewN ?_ _ | refine below_alloc ?_ _ | refine below_drew ?_)⟩
set_option maxHeartbeats 1600000 in
set_option maxRecDepth 100000 in
theorem part_4 (w : World) : Calls Try.prog 59 #[.int .i64 4] w fun e w' => e = .returned (.tuple #[.int .i64 51, .int .i64 2, .int .i64 0]) ∧ Below w.heap.size w w' := by
  have HF : Aside0 (impl_formOf.f 7 4 = some 82) := ⟨rfl⟩
  have hcell : ∀ m, ((w.drewN m).alloc (.cells #[.int .i64 0, .int .i64 0, .int .i64 1, .int .i64 2, .int .i64 3, .int .i64 4, .int .i64 5, .int .i64 5, .int .i64 6, .int .i64 7] 3)).cell? ⟨w.heap.size, 3, none⟩ = some (.int .i64 2) := fun m => (World.cell?_alloc_at (w := w.drewN m) _ _ _ _ rfl).trans rfl
  go_enter Try.func59, Try.ntmps59
  go_wp2_with (go_at_call 47; (with_reducible refine (impl_formOf.calls 7 4 82 _ HF.out).mono ?_); rintro e w' ⟨rfl, ⟨m, rfl⟩⟩)
  go_region
  all_goals go_wp2
  all_goals go_ret3
  all_goals exact ⟨rfl, by repeat (first | exact Below.refl _ _ | refine pw_below_drewN ?_ _ | refine below_alloc ?_ _ | refine below_drew ?_)⟩
set_option maxHeartbeats 1600000 in
set_option maxRecDepth 100000 in
theorem part_5 (w : World) : Calls Try.prog 59 #[.int .i64 5] w fun e w' => e = .returned (.tuple #[.int .i64 51, .int .i64 3, .int .i64 0]) ∧ Below w.heap.size w w' := by
  have HF : Aside0 (impl_formOf.f 7 5 = some 82) := ⟨rfl⟩
  have hcell : ∀ m, ((w.drewN m).alloc (.cells #[.int .i64 0, .int .i64 0, .int .i64 1, .int .i64 2, .int .i64 3, .int .i64 4, .int .i64 5, .int .i64 5, .int .i64 6, .int .i64 7] 3)).cell? ⟨w.heap.size, 4, none⟩ = some (.int .i64 3) := fun m => (World.cell?_alloc_at (w := w.drewN m) _ _ _ _ rfl).trans rfl
  go_enter Try.func59, Try.ntmps59
  go_wp2_with (go_at_call 47; (with_reducible refine (impl_formOf.calls 7 5 82 _ HF.out).mono ?_); rintro e w' ⟨rfl, ⟨m, rfl⟩⟩)
  go_region
  all_goals go_wp2
  all_goals go_ret3
  all_goals exact ⟨rfl, by repeat (first | exact Below.refl _ _ | refine pw_below_drewN ?_ _ | refine below_alloc ?_ _ | refine below_drew ?_)⟩
set_option maxHeartbeats 1600000 in
set_option maxRecDepth 100000 in
theorem part_6 (w : World) : Calls Try.prog 59 #[.int .i64 6] w fun e w' => e = .returned (.tuple #[.int .i64 51, .int .i64 4, .int .i64 0]) ∧ Below w.heap.size w w' := by
  have HF : Aside0 (impl_formOf.f 7 6 = some 82) := ⟨rfl⟩
  have hcell : ∀ m, ((w.drewN m).alloc (.cells #[.int .i64 0, .int .i64 0, .int .i64 1, .int .i64 2, .int .i64 3, .int .i64 4, .int .i64 5, .int .i64 5, .int .i64 6, .int .i64 7] 3)).cell? ⟨w.heap.size, 5, none⟩ = some (.int .i64 4) := fun m => (World.cell?_alloc_at (w := w.drewN m) _ _ _ _ rfl).trans rfl
  go_enter Try.func59, Try.ntmps59
  go_wp2_with (go_at_call 47; (with_reducible refine (impl_formOf.calls 7 6 82 _ HF.out).mono ?_); rintro e w' ⟨rfl, ⟨m, rfl⟩⟩)
  go_region
  all_goals go_wp2
  all_goals go_ret3
  all_goals exact ⟨rfl, by repeat (first | exact Below.refl _ _ | refine pw_below_drewN ?_ _ | refine below_alloc ?_ _ | refine below_drew ?_)⟩
set_option maxHeartbeats 1600000 in
set_option maxRecDepth 100000 in
theorem part_7 (w : World) : Calls Try.prog 59 #[.int .i64 7] w fun e w' => e = .returned (.tuple #[.int .i64 51, .int .i64 5, .int .i64 0]) ∧ Below w.heap.size w w' := by
  have HF : Aside0 (impl_formOf.f 7 7 = some 82) := ⟨rfl⟩
  have hcell : ∀ m, ((w.drewN m).alloc (.cells #[.int .i64 0, .int .i64 0, .int .i64 1, .int .i64 2, .int .i64 3, .int .i64 4, .int .i64 5, .int .i64 5, .int .i64 6, .int .i64 7] 3)).cell? ⟨w.heap.size, 6, none⟩ = some (.int .i64 5) := fun m => (World.cell?_alloc_at (w := w.drewN m) _ _ _ _ rfl).trans rfl
  go_enter Try.func59, Try.ntmps59
  go_wp2_with (go_at_call 47; (with_reducible refine (impl_formOf.calls 7 7 82 _ HF.out).mono ?_); rintro e w' ⟨rfl, ⟨m, rfl⟩⟩)
  go_region
  all_goals go_wp2
  all_goals go_ret3
  all_goals exact ⟨rfl, by repeat (first | exact Below.refl _ _ | refine pw_below_drewN ?_ _ | refine below_alloc ?_ _ | refine below_drew ?_)⟩
set_option maxHeartbeats 1600000 in
set_option maxRecDepth 100000 in
theorem part_8 (w : World) : Calls Try.prog 59 #[.int .i64 8] w fun e w' => e = .returned (.tuple #[.int .i64 51, .int .i64 5, .int .i64 32]) ∧ Below w.heap.size w w' := by
  have HF : Aside0 (impl_formOf.f 7 8 = some 82) := ⟨rfl⟩
  have hcell : ∀ m, ((w.drewN m).alloc (.cells #[.int .i64 0, .int .i64 0, .int .i64 1, .int .i64 2, .int .i64 3, .int .i64 4, .int .i64 5, .int .i64 5, .int .i64 6, .int .i64 7] 3)).cell? ⟨w.heap.size, 7, none⟩ = some (.int .i64 5) := fun m => (World.cell?_alloc_at (w := w.drewN m) _ _ _ _ rfl).trans rfl
  go_enter Try.func59, Try.ntmps59
  go_wp2_with (go_at_call 47; (with_reducible refine (impl_formOf.calls 7 8 82 _ HF.out).mono ?_); rintro e w' ⟨rfl, ⟨m, rfl⟩⟩)
  go_region
  all_goals go_wp2
  all_goals go_ret3
  all_goals exact ⟨rfl, by repeat (first | exact Below.refl _ _ | refine pw_below_drewN ?_ _ | refine below_alloc ?_ _ | refine below_drew ?_)⟩
set_option maxHeartbeats 1600000 in
set_option maxRecDepth 100000 in
theorem part_9 (w : World) : Calls Try.prog 59 #[.int .i64 9] w fun e w' => e = .returned (.tuple #[.int .i64 51, .int .i64 6, .int .i64 0]) ∧ Below w.heap.size w w' := by
  have HF : Aside0 (impl_formOf.f 7 9 = some 82) := ⟨rfl⟩
  have hcell : ∀ m, ((w.drewN m).alloc (.cells #[.int .i64 0, .int .i64 0, .int .i64 1, .int .i64 2, .int .i64 3, .int .i64 4, .int .i64 5, .int .i64 5, .int .i64 6, .int .i64 7] 3)).cell? ⟨w.heap.size, 8, none⟩ = some (.int .i64 6) := fun m => (World.cell?_alloc_at (w := w.drewN m) _ _ _ _ rfl).trans rfl
  go_enter Try.func59, Try.ntmps59
  go_wp2_with (go_at_call 47; (with_reducible refine (impl_formOf.calls 7 9 82 _ HF.out).mono ?_); rintro e w' ⟨rfl, ⟨m, rfl⟩⟩)
  go_region
  all_goals go_wp2
  all_goals go_ret3
  all_goals exact ⟨rfl, by repeat (first | exact Below.refl _ _ | refine pw_below_drewN ?_ _ | refine below_alloc ?_ _ | refine below_drew ?_)⟩
set_option maxHeartbeats 1600000 in
set_option maxRecDepth 100000 in
theorem part_10 (w : World) : Calls Try.prog 59 #[.int .i64 10] w fun e w' => e = .returned (.tuple #[.int .i64 51, .int .i64 7, .int .i64 0]) ∧ Below w.heap.size w w' := by
  have HF : Aside0 (impl_formOf.f 7 10 = some 82) := ⟨rfl⟩
  have hcell : ∀ m, ((w.drewN m).alloc (.cells #[.int .i64 0, .int .i64 0, .int .i64 1, .int .i64 2, .int .i64 3, .int .i64 4, .int .i64 5, .int .i64 5, .int .i64 6, .int .i64 7] 3)).cell? ⟨w.heap.size, 9, none⟩ = some (.int .i64 7) := fun m => (World.cell?_alloc_at (w := w.drewN m) _ _ _ _ rfl).trans rfl
  go_enter Try.func59, Try.ntmps59
  go_wp2_with (go_at_call 47; (with_reducible refine (impl_formOf.calls 7 10 82 _ HF.out).mono ?_); rintro e w' ⟨rfl, ⟨m, rfl⟩⟩)
  go_region
  all_goals go_wp2
  all_goals go_ret3
  all_goals exact ⟨rfl, by repeat (first | exact Below.refl _ _ | refine pw_below_drewN ?_ _ | refine below_alloc ?_ _ | refine below_drew ?_)⟩
set_option maxHeartbeats 1600000 in
set_option maxRecDepth 100000 in
theorem part_11 (w : World) : Calls Try.prog 59 #[.int .i64 11] w fun e w' => e = .returned (.tuple #[.int .i64 51, .int .i64 0, .int .i64 1]) ∧ Below w.heap.size w w' := by
  have HF : Aside0 (impl_formOf.f 7 11 = some 82) := ⟨rfl⟩
  go_enter Try.func59, Try.ntmps59
  go_wp2_with (go_at_call 47; (with_reducible refine (impl_formOf.calls 7 11 82 _ HF.out).mono ?_); rintro e w' ⟨rfl, ⟨m, rfl⟩⟩)
  all_goals go_ret3
  all_goals exact ⟨rfl, by repeat (first | exact Below.refl _ _ | refine pw_below_drewN ?_ _ | refine below_alloc ?_ _ | refine below_drew ?_)⟩
set_option maxHeartbeats 1600000 in
set_option maxRecDepth 100000 in
theorem part_12 (w : World) : Calls Try.prog 59 #[.int .i64 12] w fun e w' => e = .returned (.tuple #[.int .i64 51, .int .i64 1, .int .i64 1]) ∧ Below w.heap.size w w' := by
  have HF : Aside0 (impl_formOf.f 7 12 = some 82) := ⟨rfl⟩
  go_enter Try.func59, Try.ntmps59
  go_wp2_with (go_at_call 47; (with_reducible refine (impl_formOf.calls 7 12 82 _ HF.out).mono ?_); rintro e w' ⟨rfl, ⟨m, rfl⟩⟩)
  all_goals go_ret3
  all_goals exact ⟨rfl, by repeat (first | exact Below.refl _ _ | refine pw_below_drewN ?_ _ | refine below_alloc ?_ _ | refine below_drew ?_)⟩
set_option maxHeartbeats 1600000 in
set_option maxRecDepth 100000 in
theorem part_13 (w : World) : Calls Try.prog 59 #[.int .i64 13] w fun e w' => e = .returned (.tuple #[.int .i64 51, .int .i64 2, .int .i64 1]) ∧ Below w.heap.size w w' := by
  have HF : Aside0 (impl_formOf.f 7 13 = some 82) := ⟨rfl⟩
  go_enter Try.func59, Try.ntmps59
  go_wp2_with (go_at_call 47; (with_reducible refine (impl_formOf.calls 7 13 82 _ HF.out).mono ?_); rintro e w' ⟨rfl, ⟨m, rfl⟩⟩)
  all_goals go_ret3
  all_goals exact ⟨rfl, by repeat (first | exact Below.refl _ _ | refine pw_below_drewN ?_ _ | refine below_alloc ?_ _ | refine below_drew ?_)⟩
set_option maxHeartbeats 1600000 in
set_option maxRecDepth 100000 in
theorem part_14 (w : World) : Calls Try.prog 59 #[.int .i64 14] w fun e w' => e = .returned (.tuple #[.int .i64 51, .int .i64 3, .int .i64 1]) ∧ Below w.heap.size w w' := by
  have HF : Aside0 (impl_formOf.f 7 14 = some 82) := ⟨rfl⟩
  go_enter Try.func59, Try.ntmps59
  go_wp2_with (go_at_call 47; (with_reducible refine (impl_formOf.calls 7 14 82 _ HF.out).mono ?_); rintro e w' ⟨rfl, ⟨m, rfl⟩⟩)
  all_goals go_ret3
  all_goals exact ⟨rfl, by repeat (first | exact Below.refl _ _ | refine pw_below_drewN ?_ _ | refine below_alloc ?_ _ | refine below_drew ?_)⟩
set_option maxHeartbeats 1600000 in
set_option maxRecDepth 100000 in
theorem part_15 (w : World) : Calls Try.prog 59 #[.int .i64 15] w fun e w' => e = .returned (.tuple #[.int .i64 51, .int .i64 4, .int .i64 1]) ∧ Below w.heap.size w w' := by
  have HF : Aside0 (impl_formOf.f 7 15 = some 82) := ⟨rfl⟩
  go_enter Try.func59, Try.ntmps59
  go_wp2_with (go_at_call 47; (with_reducible refine (impl_formOf.calls 7 15 82 _ HF.out).mono ?_); rintro e w' ⟨rfl, ⟨m, rfl⟩⟩)
  all_goals go_ret3
  all_goals exact ⟨rfl, by repeat (first | exact Below.refl _ _ | refine pw_below_drewN ?_ _ | refine below_alloc ?_ _ | refine below_drew ?_)⟩
set_option maxHeartbeats 1600000 in
set_option maxRecDepth 100000 in
theorem part_16 (w : World) : Calls Try.prog 59 #[.int .i64 16] w fun e w' => e = .returned (.tuple #[.int .i64 51, .int .i64 5, .int .i64 1]) ∧ Below w.heap.size w w' := by
  have HF : Aside0 (impl_formOf.f 7 16 = some 82) := ⟨rfl⟩
  go_enter Try.func59, Try.ntmps59
  go_wp2_with (go_at_call 47; (with_reducible refine (impl_formOf.calls 7 16 82 _ HF.out).mono ?_); rintro e w' ⟨rfl, ⟨m, rfl⟩⟩)
  all_goals go_ret3
  all_goals exact ⟨rfl, by repeat (first | exact Below.refl _ _ | refine pw_below_drewN ?_ _ | refine below_alloc ?_ _ | refine below_drew ?_)⟩
set_option maxHeartbeats 1600000 in
set_option maxRecDepth 100000 in
theorem part_17 (w : World) : Calls Try.prog 59 #[.int .i64 17] w fun e w' => e = .returned (.tuple #[.int .i64 51, .int .i64 6, .int .i64 1]) ∧ Below w.heap.size w w' := by
  have HF : Aside0 (impl_formOf.f 7 17 = some 82) := ⟨rfl⟩
  go_enter Try.func59, Try.ntmps59
  go_wp2_with (go_at_call 47; (with_reducible refine (impl_formOf.calls 7 17 82 _ HF.out).mono ?_); rintro e w' ⟨rfl, ⟨m, rfl⟩⟩)
  all_goals go_ret3
  all_goals exact ⟨rfl, by repeat (first | exact Below.refl _ _ | refine pw_below_drewN ?_ _ | refine below_alloc ?_ _ | refine below_drew ?_)⟩
set_option maxHeartbeats 1600000 in
set_option maxRecDepth 100000 in
theorem part_18 (w : World) : Calls Try.prog 59 #[.int .i64 18] w fun e w' => e = .returned (.tuple #[.int .i64 51, .int .i64 7, .int .i64 1]) ∧ Below w.heap.size w w' := by
  have HF : Aside0 (impl_formOf.f 7 18 = some 82) := ⟨rfl⟩
  go_enter Try.func59, Try.ntmps59
  go_wp2_with (go_at_call 47; (with_reducible refine (impl_formOf.calls 7 18 82 _ HF.out).mono ?_); rintro e w' ⟨rfl, ⟨m, rfl⟩⟩)
  all_goals go_ret3
  all_goals exact ⟨rfl, by repeat (first | exact Below.refl _ _ | refine pw_below_drewN ?_ _ | refine below_alloc ?_ _ | refine below_drew ?_)⟩
set_option maxHeartbeats 1600000 in
set_option maxRecDepth 100000 in
theorem part_19 (w : World) : Calls Try.prog 59 #[.int .i64 19] w fun e w' => e = .returned (.tuple #[.int .i64 19, .int .i64 0, .int .i64 0]) ∧ Below w.heap.size w w' := by
  have HF : Aside0 (impl_formOf.f 7 19 = some 73) := ⟨rfl⟩
  have hcell : ∀ m, ((w.drewN m).alloc (.cells #[.int .i64 0, .int .i64 2, .int .i64 3, .int .i64 4, .int .i64 6, .int .i64 7] 3)).cell? ⟨w.heap.size, 0, none⟩ = some (.int .i64 0) := fun m => (World.cell?_alloc_at (w := w.drewN m) _ _ _ _ rfl).trans rfl
  go_enter Try.func59, Try.ntmps59
  go_wp2_with (go_at_call 47; (with_reducible refine (impl_formOf.calls 7 19 73 _ HF.out).mono ?_); rintro e w' ⟨rfl, ⟨m, rfl⟩⟩)
  go_region
  all_goals go_wp2
  all_goals go_ret3
  all_goals exact ⟨rfl, by repeat (first | exact Below.refl _ _ | refine pw_below_drewN ?_ _ | refine below_alloc ?_ _ | refine below_drew ?_)⟩
set_option maxHeartbeats 1600000 in
set_option maxRecDepth 100000 in
theorem part_20 (w : World) : Calls Try.prog 59 #[.int .i64 20] w fun e w' => e = .returned (.tuple #[.int .i64 19, .int .i64 2, .int .i64 0]) ∧ Below w.heap.size w w' := by
  have HF : Aside0 (impl_formOf.f 7 20 = some 73) := ⟨rfl⟩
  have hcell : ∀ m, ((w.drewN m).alloc (.cells #[.int .i64 0, .int .i64 2, .int .i64 3, .int .i64 4, .int .i64 6, .int .i64 7] 3)).cell? ⟨w.heap.size, 1, none⟩ = some (.int .i64 2) := fun m => (World.cell?_alloc_at (w := w.drewN m) _ _ _ _ rfl).trans rfl
  go_enter Try.func59, Try.ntmps59
  go_wp2_with (go_at_call 47; (with_reducible refine (impl_formOf.calls 7 20 73 _ HF.out).mono ?_); rintro e w' ⟨rfl, ⟨m, rfl⟩⟩)
  go_region
  all_goals go_wp2
  all_goals go_ret3
  all_goals exact ⟨rfl, by repeat (first | exact Below.refl _ _ | refine pw_below_drewN ?_ _ | refine below_alloc ?_ _ | refine below_drew ?_)⟩
set_option maxHeartbeats 1600000 in
set_option maxRecDepth 100000 in
theorem part_21 (w : World) : Calls Try.prog 59 #[.int .i64 21] w fun e w' => e = .returned (.tuple #[.int .i64 19, .int .i64 3, .int .i64 0]) ∧ Below w.heap.size w w' := by
  have HF : Aside0 (impl_formOf.f 7 21 = some 73) := ⟨rfl⟩
  have hcell : ∀ m, ((w.drewN m).alloc (.cells #[.int .i64 0, .int .i64 2, .int .i64 3, .int .i64 4, .int .i64 6, .int .i64 7] 3)).cell? ⟨w.heap.size, 2, none⟩ = some (.int .i64 3) := fun m => (World.cell?_alloc_at (w := w.drewN m) _ _ _ _ rfl).trans rfl
  go_enter Try.func59, Try.ntmps59
  go_wp2_with (go_at_call 47; (with_reducible refine (impl_formOf.calls 7 21 73 _ HF.out).mono ?_); rintro e w' ⟨rfl, ⟨m, rfl⟩⟩)
  go_region
  all_goals go_wp2
  all_goals go_ret3
  all_goals exact ⟨rfl, by repeat (first | exact Below.refl _ _ | refine pw_below_drewN ?_ _ | refine below_alloc ?_ _ | refine below_drew ?_)⟩
set_option maxHeartbeats 1600000 in
set_option maxRecDepth 100000 in
theorem part_22 (w : World) : Calls Try.prog 59 #[.int .i64 22] w fun e w' => e = .returned (.tuple #[.int .i64 19, .int .i64 4, .int .i64 0]) ∧ Below w.heap.size w w' := by
  have HF : Aside0 (impl_formOf.f 7 22 = some 73) := ⟨rfl⟩
  have hcell : ∀ m, ((w.drewN m).alloc (.cells #[.int .i64 0, .int .i64 2, .int .i64 3, .int .i64 4, .int .i64 6, .int .i64 7] 3)).cell? ⟨w.heap.size, 3, none⟩ = some (.int .i64 4) := fun m => (World.cell?_alloc_at (w := w.drewN m) _ _ _ _ rfl).trans rfl
  go_enter Try.func59, Try.ntmps59
  go_wp2_with (go_at_call 47; (with_reducible refine (impl_formOf.calls 7 22 73 _ HF.out).mono ?_); rintro e w' ⟨rfl, ⟨m, rfl⟩⟩)
  go_region
  all_goals go_wp2
  all_goals go_ret3
  all_goals exact ⟨rfl, by repeat (first | exact Below.refl _ _ | refine pw_below_drewN ?_ _ | refine below_alloc ?_ _ | refine below_drew ?_)⟩
set_option maxHeartbeats 1600000 in
set_option maxRecDepth 100000 in
theorem part_23 (w : World) : Calls Try.prog 59 #[.int .i64 23] w fun e w' => e = .returned (.tuple #[.int .i64 19, .int .i64 6, .int .i64 0]) ∧ Below w.heap.size w w' := by
  have HF : Aside0 (impl_formOf.f 7 23 = some 73) := ⟨rfl⟩
  have hcell : ∀ m, ((w.drewN m).alloc (.cells #[.int .i64 0, .int .i64 2, .int .i64 3, .int .i64 4, .int .i64 6, .int .i64 7] 3)).cell? ⟨w.heap.size, 4, none⟩ = some (.int .i64 6) := fun m => (World.cell?_alloc_at (w := w.drewN m) _ _ _ _ rfl).trans rfl
  go_enter Try.func59, Try.ntmps59
  go_wp2_with (go_at_call 47; (with_reducible refine (impl_formOf.calls 7 23 73 _ HF.out).mono ?_); rintro e w' ⟨rfl, ⟨m, rfl⟩⟩)
  go_region
  all_goals go_wp2
  all_goals go_ret3
  all_goals exact ⟨rfl, by repeat (first | exact Below.refl _ _ | refine pw_below_drewN ?_ _ | refine below_alloc ?_ _ | refine below_drew ?_)⟩
set_option maxHeartbeats 1600000 in
set_option maxRecDepth 100000 in
theorem part_24 (w : World) : Calls Try.prog 59 #[.int .i64 24] w fun e w' => e = .returned (.tuple #[.int .i64 19, .int .i64 7, .int .i64 0]) ∧ Below w.heap.size w w' := by
  have HF : Aside0 (impl_formOf.f 7 24 = some 73) := ⟨rfl⟩
  have hcell : ∀ m, ((w.drewN m).alloc (.cells #[.int .i64 0, .int .i64 2, .int .i64 3, .int .i64 4, .int .i64 6, .int .i64 7] 3)).cell? ⟨w.heap.size, 5, none⟩ = some (.int .i64 7) := fun m => (World.cell?_alloc_at (w := w.drewN m) _ _ _ _ rfl).trans rfl
  go_enter Try.func59, Try.ntmps59
  go_wp2_with (go_at_call 47; (with_reducible refine (impl_formOf.calls 7 24 73 _ HF.out).mono ?_); rintro e w' ⟨rfl, ⟨m, rfl⟩⟩)
  go_region
  all_goals go_wp2
  all_goals go_ret3
  all_goals exact ⟨rfl, by repeat (first | exact Below.refl _ _ | refine pw_below_drewN ?_ _ | refine below_alloc ?_ _ | refine below_drew ?_)⟩
set_option maxHeartbeats 1600000 in
set_option maxRecDepth 100000 in
theorem part_25 (w : World) : Calls Try.prog 59 #[.int .i64 25] w fun e w' => e = .returned (.tuple #[.int .i64 19, .int .i64 1, .int .i64 0]) ∧ Below w.heap.size w w' := by
  have HF : Aside0 (impl_formOf.f 7 25 = some 72) := ⟨rfl⟩
  have hcell : ∀ m, ((w.drewN m).alloc (.cells #[.int .i64 1, .int .i64 5, .int .i64 5] 3)).cell? ⟨w.heap.size, 0, none⟩ = some (.int .i64 1) := fun m => (World.cell?_alloc_at (w := w.drewN m) _ _ _ _ rfl).trans rfl
  go_enter Try.func59, Try.ntmps59
  go_wp2_with (go_at_call 47; (with_reducible refine (impl_formOf.calls 7 25 72 _ HF.out).mono ?_); rintro e w' ⟨rfl, ⟨m, rfl⟩⟩)
  go_region
  all_goals go_wp2
  all_goals go_ret3
  all_goals exact ⟨rfl, by repeat (first | exact Below.refl _ _ | refine pw_below_drewN ?_ _ | refine below_alloc ?_ _ | refine below_drew ?_)⟩
set_option maxHeartbeats 1600000 in
set_option maxRecDepth 100000 in
theorem part_26 (w : World) : Calls Try.prog 59 #[.int .i64 26] w fun e w' => e = .returned (.tuple #[.int .i64 19, .int .i64 5, .int .i64 0]) ∧ Below w.heap.size w w' := by
  have HF : Aside0 (impl_formOf.f 7 26 = some 72) := ⟨rfl⟩
  have hcell : ∀ m, ((w.drewN m).alloc (.cells #[.int .i64 1, .int .i64 5, .int .i64 5] 3)).cell? ⟨w.heap.size, 1, none⟩ = some (.int .i64 5) := fun m => (World.cell?_alloc_at (w := w.drewN m) _ _ _ _ rfl).trans rfl
  go_enter Try.func59, Try.ntmps59
  go_wp2_with (go_at_call 47; (with_reducible refine (impl_formOf.calls 7 26 72 _ HF.out).mono ?_); rintro e w' ⟨rfl, ⟨m, rfl⟩⟩)
  go_region
  all_goals go_wp2
  all_goals go_ret3
  all_goals exact ⟨rfl, by repeat (first | exact Below.refl _ _ | refine pw_below_drewN ?_ _ | refine below_alloc ?_ _ | refine below_drew ?_)⟩
set_option maxHeartbeats 1600000 in
set_option maxRecDepth 100000 in
theorem part_27 (w : World) : Calls Try.prog 59 #[.int .i64 27] w fun e w' => e = .returned (.tuple #[.int .i64 19, .int .i64 5, .int .i64 32]) ∧ Below w.heap.size w w' := by
  have HF : Aside0 (impl_formOf.f 7 27 = some 72) := ⟨rfl⟩
  have hcell : ∀ m, ((w.drewN m).alloc (.cells #[.int .i64 1, .int .i64 5, .int .i64 5] 3)).cell? ⟨w.heap.size, 2, none⟩ = some (.int .i64 5) := fun m => (World.cell?_alloc_at (w := w.drewN m) _ _ _ _ rfl).trans rfl
  go_enter Try.func59, Try.ntmps59
  go_wp2_with (go_at_call 47; (with_reducible refine (impl_formOf.calls 7 27 72 _ HF.out).mono ?_); rintro e w' ⟨rfl, ⟨m, rfl⟩⟩)
  go_region
  all_goals go_wp2
  all_goals go_ret3
  all_goals exact ⟨rfl, by repeat (first | exact Below.refl _ _ | refine pw_below_drewN ?_ _ | refine below_alloc ?_ _ | refine below_drew ?_)⟩
set_option maxHeartbeats 1600000 in
set_option maxRecDepth 100000 in
theorem part_28 (w : World) : Calls Try.prog 59 #[.int .i64 28] w fun e w' => e = .returned (.tuple #[.int .i64 3, .int .i64 0, .int .i64 0]) ∧ Below w.heap.size w w' := by
  have HF : Aside0 (impl_formOf.f 7 28 = some 73) := ⟨rfl⟩
  have hcell : ∀ m, ((w.drewN m).alloc (.cells #[.int .i64 0, .int .i64 1, .int .i64 2, .int .i64 4, .int .i64 5] 3)).cell? ⟨w.heap.size, 0, none⟩ = some (.int .i64 0) := fun m => (World.cell?_alloc_at (w := w.drewN m) _ _ _ _ rfl).trans rfl
  go_enter Try.func59, Try.ntmps59
  go_wp2_with (go_at_call 47; (with_reducible refine (impl_formOf.calls 7 28 73 _ HF.out).mono ?_); rintro e w' ⟨rfl, ⟨m, rfl⟩⟩)
  go_region
  all_goals go_wp2
  all_goals go_ret3
  all_goals exact ⟨rfl, by repeat (first | exact Below.refl _ _ | refine pw_below_drewN ?_ _ | refine below_alloc ?_ _ | refine below_drew ?_)⟩
set_option maxHeartbeats 1600000 in
set_option maxRecDepth 100000 in
theorem part_29 (w : World) : Calls Try.prog 59 #[.int .i64 29] w fun e w' => e = .returned (.tuple #[.int .i64 3, .int .i64 1, .int .i64 0]) ∧ Below w.heap.size w w' := by
  have HF : Aside0 (impl_formOf.f 7 29 = some 73) := ⟨rfl⟩
  have hcell : ∀ m, ((w.drewN m).alloc (.cells #[.int .i64 0, .int .i64 1, .int .i64 2, .int .i64 4, .int .i64 5] 3)).cell? ⟨w.heap.size, 1, none⟩ = some (.int .i64 1) := fun m => (World.cell?_alloc_at (w := w.drewN m) _ _ _ _ rfl).trans rfl
  go_enter Try.func59, Try.ntmps59
  go_wp2_with (go_at_call 47; (with_reducible refine (impl_formOf.calls 7 29 73 _ HF.out).mono ?_); rintro e w' ⟨rfl, ⟨m, rfl⟩⟩)
  go_region
  all_goals go_wp2
  all_goals go_ret3
  all_goals exact ⟨rfl, by repeat (first | exact Below.refl _ _ | refine pw_below_drewN ?_ _ | refine below_alloc ?_ _ | refine below_drew ?_)⟩
set_option maxHeartbeats 1600000 in
set_option maxRecDepth 100000 in
theorem part_30 (w : World) : Calls Try.prog 59 #[.int .i64 30] w fun e w' => e = .returned (.tuple #[.int .i64 3, .int .i64 2, .int .i64 0]) ∧ Below w.heap.size w w' := by
  have HF : Aside0 (impl_formOf.f 7 30 = some 73) := ⟨rfl⟩
  have hcell : ∀ m, ((w.drewN m).alloc (.cells #[.int .i64 0, .int .i64 1, .int .i64 2, .int .i64 4, .int .i64 5] 3)).cell? ⟨w.heap.size, 2, none⟩ = some (.int .i64 2) := fun m => (World.cell?_alloc_at (w := w.drewN m) _ _ _ _ rfl).trans rfl
  go_enter Try.func59, Try.ntmps59
  go_wp2_with (go_at_call 47; (with_reducible refine (impl_formOf.calls 7 30 73 _ HF.out).mono ?_); rintro e w' ⟨rfl, ⟨m, rfl⟩⟩)
  go_region
  all_goals go_wp2
  all_goals go_ret3
  all_goals exact ⟨rfl, by repeat (first | exact Below.refl _ _ | refine pw_below_drewN ?_ _ | refine below_alloc ?_ _ | refine below_drew ?_)⟩
set_option maxHeartbeats 1600000 in
set_option maxRecDepth 100000 in
theorem part_31 (w : World) : Calls Try.prog 59 #[.int .i64 31] w fun e w' => e = .returned (.tuple #[.int .i64 3, .int .i64 4, .int .i64 0]) ∧ Below w.heap.size w w' := by
  have HF : Aside0 (impl_formOf.f 7 31 = some 73) := ⟨rfl⟩
  have hcell : ∀ m, ((w.drewN m).alloc (.cells #[.int .i64 0, .int .i64 1, .int .i64 2, .int .i64 4, .int .i64 5] 3)).cell? ⟨w.heap.size, 3, none⟩ = some (.int .i64 4) := fun m => (World.cell?_alloc_at (w := w.drewN m) _ _ _ _ rfl).trans rfl
  go_enter Try.func59, Try.ntmps59
  go_wp2_with (go_at_call 47; (with_reducible refine (impl_formOf.calls 7 31 73 _ HF.out).mono ?_); rintro e w' ⟨rfl, ⟨m, rfl⟩⟩)
  go_region
  all_goals go_wp2
  all_goals go_ret3
  all_goals exact ⟨rfl, by repeat (first | exact Below.refl _ _ | refine pw_below_drewN ?_ _ | refine below_alloc ?_ _ | refine below_drew ?_)⟩
set_option maxHeartbeats 1600000 in
set_option maxRecDepth 100000 in
theorem part_32 (w : World) : Calls Try.prog 59 #[.int .i64 32] w fun e w' => e = .returned (.tuple #[.int .i64 3, .int .i64 5, .int .i64 0]) ∧ Below w.heap.size w w' := by
  have HF : Aside0 (impl_formOf.f 7 32 = some 73) := ⟨rfl⟩
  have hcell : ∀ m, ((w.drewN m).alloc (.cells #[.int .i64 0, .int .i64 1, .int .i64 2, .int .i64 4, .int .i64 5] 3)).cell? ⟨w.heap.size, 4, none⟩ = some (.int .i64 5) := fun m => (World.cell?_alloc_at (w := w.drewN m) _ _ _ _ rfl).trans rfl
  go_enter Try.func59, Try.ntmps59
  go_wp2_with (go_at_call 47; (with_reducible refine (impl_formOf.calls 7 32 73 _ HF.out).mono ?_); rintro e w' ⟨rfl, ⟨m, rfl⟩⟩)
  go_region
  all_goals go_wp2
  all_goals go_ret3
  all_goals exact ⟨rfl, by repeat (first | exact Below.refl _ _ | refine pw_below_drewN ?_ _ | refine below_alloc ?_ _ | refine below_drew ?_)⟩
set_option maxHeartbeats 1600000 in
set_option maxRecDepth 100000 in
theorem part_33 (w : World) : Calls Try.prog 59 #[.int .i64 33] w fun e w' => e = .returned (.tuple #[.int .i64 103, .int .i64 0, .int .i64 0]) ∧ Below w.heap.size w w' := by
  have HF : Aside0 (impl_formOf.f 7 33 = some 73) := ⟨rfl⟩
  go_enter Try.func59, Try.ntmps59
  go_wp2_with (go_at_call 47; (with_reducible refine (impl_formOf.calls 7 33 73 _ HF.out).mono ?_); rintro e w' ⟨rfl, ⟨m, rfl⟩⟩)
  all_goals go_ret3
  all_goals exact ⟨rfl, by repeat (first | exact Below.refl _ _ | refine pw_below_drewN ?_ _ | refine below_alloc ?_ _ | refine below_drew ?_)⟩
set_option maxHeartbeats 1600000 in
set_option maxRecDepth 100000 in
theorem part_34 (w : World) : Calls Try.prog 59 #[.int .i64 34] w fun e w' => e = .returned (.tuple #[.int .i64 35, .int .i64 0, .int .i64 0]) ∧ Below w.heap.size w w' := by
  have HF : Aside0 (impl_formOf.f 7 34 = some 83) := ⟨rfl⟩
  go_enter Try.func59, Try.ntmps59
  go_wp2_with (go_at_call 47; (with_reducible refine (impl_formOf.calls 7 34 83 _ HF.out).mono ?_); rintro e w' ⟨rfl, ⟨m, rfl⟩⟩)
  all_goals go_ret3
  all_goals exact ⟨rfl, by repeat (first | exact Below.refl _ _ | refine pw_below_drewN ?_ _ | refine below_alloc ?_ _ | refine below_drew ?_)⟩
set_option maxHeartbeats 1600000 in
set_option maxRecDepth 100000 in
theorem part_35 (w : World) : Calls Try.prog 59 #[.int .i64 35] w fun e w' => e = .returned (.tuple #[.int .i64 35, .int .i64 1, .int .i64 0]) ∧ Below w.heap.size w w' := by
  have HF : Aside0 (impl_formOf.f 7 35 = some 83) := ⟨rfl⟩
  go_enter Try.func59, Try.ntmps59
  go_wp2_with (go_at_call 47; (with_reducible refine (impl_formOf.calls 7 35 83 _ HF.out).mono ?_); rintro e w' ⟨rfl, ⟨m, rfl⟩⟩)
  all_goals go_ret3
  all_goals exact ⟨rfl, by repeat (first | exact Below.refl _ _ | refine pw_below_drewN ?_ _ | refine below_alloc ?_ _ | refine below_drew ?_)⟩
set_option maxHeartbeats 1600000 in
set_option maxRecDepth 100000 in
theorem part_36 (w : World) : Calls Try.prog 59 #[.int .i64 36] w fun e w' => e = .returned (.tuple #[.int .i64 35, .int .i64 2, .int .i64 0]) ∧ Below w.heap.size w w' := by
  have HF : Aside0 (impl_formOf.f 7 36 = some 83) := ⟨rfl⟩
  go_enter Try.func59, Try.ntmps59
  go_wp2_with (go_at_call 47; (with_reducible refine (impl_formOf.calls 7 36 83 _ HF.out).mono ?_); rintro e w' ⟨rfl, ⟨m, rfl⟩⟩)
  all_goals go_ret3
  all_goals exact ⟨rfl, by repeat (first | exact Below.refl _ _ | refine pw_below_drewN ?_ _ | refine below_alloc ?_ _ | refine below_drew ?_)⟩
set_option maxHeartbeats 1600000 in
set_option maxRecDepth 100000 in
theorem part_37 (w : World) : Calls Try.prog 59 #[.int .i64 37] w fun e w' => e = .returned (.tuple #[.int .i64 99, .int .i64 0, .int .i64 0]) ∧ Below w.heap.size w w' := by
  have HF : Aside0 (impl_formOf.f 7 37 = some 66) := ⟨rfl⟩
  have hcell : ∀ m, ((w.drewN m).alloc (.cells #[.int .i64 0, .int .i64 1, .int .i64 4, .int .i64 5, .int .i64 6, .int .i64 7] 3)).cell? ⟨w.heap.size, 0, none⟩ = some (.int .i64 0) := fun m => (World.cell?_alloc_at (w := w.drewN m) _ _ _ _ rfl).trans rfl
  go_enter Try.func59, Try.ntmps59
  go_wp2_with (go_at_call 47; (with_reducible refine (impl_formOf.calls 7 37 66 _ HF.out).mono ?_); rintro e w' ⟨rfl, ⟨m, rfl⟩⟩)
  go_region
  all_goals go_wp2
  all_goals go_ret3
  all_goals exact ⟨rfl, by repeat (first | exact Below.refl _ _ | refine pw_below_drewN ?_ _ | refine below_alloc ?_ _ | refine below_drew ?_)⟩
set_option maxHeartbeats 1600000 in
set_option maxRecDepth 100000 in
theorem part_38 (w : World) : Calls Try.prog 59 #[.int .i64 38] w fun e w' => e = .returned (.tuple #[.int .i64 99, .int .i64 1, .int .i64 0]) ∧ Below w.heap.size w w' := by
  have HF : Aside0 (impl_formOf.f 7 38 = some 66) := ⟨rfl⟩
  have hcell : ∀ m, ((w.drewN m).alloc (.cells #[.int .i64 0, .int .i64 1, .int .i64 4, .int .i64 5, .int .i64 6, .int .i64 7] 3)).cell? ⟨w.heap.size, 1, none⟩ = some (.int .i64 1) := fun m => (World.cell?_alloc_at (w := w.drewN m) _ _ _ _ rfl).trans rfl
  go_enter Try.func59, Try.ntmps59
  go_wp2_with (go_at_call 47; (with_reducible refine (impl_formOf.calls 7 38 66 _ HF.out).mono ?_); rintro e w' ⟨rfl, ⟨m, rfl⟩⟩)
  go_region
  all_goals go_wp2
  all_goals go_ret3
  all_goals exact ⟨rfl, by repeat (first | exact Below.refl _ _ | refine pw_below_drewN ?_ _ | refine below_alloc ?_ _ | refine below_drew ?_)⟩
set_option maxHeartbeats 1600000 in
set_option maxRecDepth 100000 in
theorem part_39 (w : World) : Calls Try.prog 59 #[.int .i64 39] w fun e w' => e = .returned (.tuple #[.int .i64 99, .int .i64 4, .int .i64 0]) ∧ Below w.heap.size w w' := by
  have HF : Aside0 (impl_formOf.f 7 39 = some 66) := ⟨rfl⟩
  have hcell : ∀ m, ((w.drewN m).alloc (.cells #[.int .i64 0, .int .i64 1, .int .i64 4, .int .i64 5, .int .i64 6, .int .i64 7] 3)).cell? ⟨w.heap.size, 2, none⟩ = some (.int .i64 4) := fun m => (World.cell?_alloc_at (w := w.drewN m) _ _ _ _ rfl).trans rfl
  go_enter Try.func59, Try.ntmps59
  go_wp2_with (go_at_call 47; (with_reducible refine (impl_formOf.calls 7 39 66 _ HF.out).mono ?_); rintro e w' ⟨rfl, ⟨m, rfl⟩⟩)
  go_region
  all_goals go_wp2
  all_goals go_ret3
  all_goals exact ⟨rfl, by repeat (first | exact Below.refl _ _ | refine pw_below_drewN ?_ _ | refine below_alloc ?_ _ | refine below_drew ?_)⟩
set_option maxHeartbeats 1600000 in
set_option maxRecDepth 100000 in
theorem part_40 (w : World) : Calls Try.prog 59 #[.int .i64 40] w fun e w' => e = .returned (.tuple #[.int .i64 99, .int .i64 5, .int .i64 0]) ∧ Below w.heap.size w w' := by
  have HF : Aside0 (impl_formOf.f 7 40 = some 66) := ⟨rfl⟩
  have hcell : ∀ m, ((w.drewN m).alloc (.cells #[.int .i64 0, .int .i64 1, .int .i64 4, .int .i64 5, .int .i64 6, .int .i64 7] 3)).cell? ⟨w.heap.size, 3, none⟩ = some (.int .i64 5) := fun m => (World.cell?_alloc_at (w := w.drewN m) _ _ _ _ rfl).trans rfl
  go_enter Try.func59, Try.ntmps59
  go_wp2_with (go_at_call 47; (with_reducible refine (impl_formOf.calls 7 40 66 _ HF.out).mono ?_); rintro e w' ⟨rfl, ⟨m, rfl⟩⟩)
  go_region
  all_goals go_wp2
  all_goals go_ret3
  all_goals exact ⟨rfl, by repeat (first | exact Below.refl _ _ | refine pw_below_drewN ?_ _ | refine below_alloc ?_ _ | refine below_drew ?_)⟩
set_option maxHeartbeats 1600000 in
set_option maxRecDepth 100000 in
theorem part_41 (w : World) : Calls Try.prog 59 #[.int .i64 41] w fun e w' => e = .returned (.tuple #[.int .i64 99, .int .i64 6, .int .i64 0]) ∧ Below w.heap.size w w' := by
  have HF : Aside0 (impl_formOf.f 7 41 = some 66) := ⟨rfl⟩
  have hcell : ∀ m, ((w.drewN m).alloc (.cells #[.int .i64 0, .int .i64 1, .int .i64 4, .int .i64 5, .int .i64 6, .int .i64 7] 3)).cell? ⟨w.heap.size, 4, none⟩ = some (.int .i64 6) := fun m => (World.cell?_alloc_at (w := w.drewN m) _ _ _ _ rfl).trans rfl
  go_enter Try.func59, Try.ntmps59
  go_wp2_with (go_at_call 47; (with_reducible refine (impl_formOf.calls 7 41 66 _ HF.out).mono ?_); rintro e w' ⟨rfl, ⟨m, rfl⟩⟩)
  go_region
  all_goals go_wp2
  all_goals go_ret3
  all_goals exact ⟨rfl, by repeat (first | exact Below.refl _ _ | refine pw_below_drewN ?_ _ | refine below_alloc ?_ _ | refine below_drew ?_)⟩
set_option maxHeartbeats 1600000 in
set_option maxRecDepth 100000 in
theorem part_42 (w : World) : Calls Try.prog 59 #[.int .i64 42] w fun e w' => e = .returned (.tuple #[.int .i64 99, .int .i64 7, .int .i64 0]) ∧ Below w.heap.size w w' := by
  have HF : Aside0 (impl_formOf.f 7 42 = some 66) := ⟨rfl⟩
  have hcell : ∀ m, ((w.drewN m).alloc (.cells #[.int .i64 0, .int .i64 1, .int .i64 4, .int .i64 5, .int .i64 6, .int .i64 7] 3)).cell? ⟨w.heap.size, 5, none⟩ = some (.int .i64 7) := fun m => (World.cell?_alloc_at (w := w.drewN m) _ _ _ _ rfl).trans rfl
  go_enter Try.func59, Try.ntmps59
  go_wp2_with (go_at_call 47; (with_reducible refine (impl_formOf.calls 7 42 66 _ HF.out).mono ?_); rintro e w' ⟨rfl, ⟨m, rfl⟩⟩)
  go_region
  all_goals go_wp2
  all_goals go_ret3
  all_goals exact ⟨rfl, by repeat (first | exact Below.refl _ _ | refine pw_below_drewN ?_ _ | refine below_alloc ?_ _ | refine below_drew ?_)⟩
set_option maxHeartbeats 1600000 in
set_option maxRecDepth 100000 in
theorem part_43 (w : World) : Calls Try.prog 59 #[.int .i64 43] w fun e w' => e = .returned (.tuple #[.int .i64 55, .int .i64 0, .int .i64 0]) ∧ Below w.heap.size w w' := by
  have HF : Aside0 (impl_formOf.f 7 43 = some 85) := ⟨rfl⟩
  go_enter Try.func59, Try.ntmps59
  go_wp2_with (go_at_call 47; (with_reducible refine (impl_formOf.calls 7 43 85 _ HF.out).mono ?_); rintro e w' ⟨rfl, ⟨m, rfl⟩⟩)
  all_goals go_ret3
  all_goals exact ⟨rfl, by repeat (first | exact Below.refl _ _ | refine pw_below_drewN ?_ _ | refine below_alloc ?_ _ | refine below_drew ?_)⟩
set_option maxHeartbeats 1600000 in
set_option maxRecDepth 100000 in
theorem part_44 (w : World) : Calls Try.prog 59 #[.int .i64 44] w fun e w' => e = .returned (.tuple #[.int .i64 23, .int .i64 0, .int .i64 0]) ∧ Below w.heap.size w w' := by
  have HF : Aside0 (impl_formOf.f 7 44 = some 85) := ⟨rfl⟩
  go_enter Try.func59, Try.ntmps59
  go_wp2_with (go_at_call 47; (with_reducible refine (impl_formOf.calls 7 44 85 _ HF.out).mono ?_); rintro e w' ⟨rfl, ⟨m, rfl⟩⟩)
  all_goals go_ret3
  all_goals exact ⟨rfl, by repeat (first | exact Below.refl _ _ | refine pw_below_drewN ?_ _ | refine below_alloc ?_ _ | refine below_drew ?_)⟩
set_option maxHeartbeats 1600000 in
set_option maxRecDepth 100000 in
theorem part_45 (w : World) : Calls Try.prog 59 #[.int .i64 45] w fun e w' => e = .returned (.tuple #[.int .i64 111, .int .i64 0, .int .i64 0]) ∧ Below w.heap.size w w' := by
  have HF : Aside0 (impl_formOf.f 7 45 = some 74) := ⟨rfl⟩
  go_enter Try.func59, Try.ntmps59
  go_wp2_with (go_at_call 47; (with_reducible refine (impl_formOf.calls 7 45 74 _ HF.out).mono ?_); rintro e w' ⟨rfl, ⟨m, rfl⟩⟩)
  all_goals go_ret3
  all_goals exact ⟨rfl, by repeat (first | exact Below.refl _ _ | refine pw_below_drewN ?_ _ | refine below_alloc ?_ _ | refine below_drew ?_)⟩
set_option maxHeartbeats 1600000 in
set_option maxRecDepth 100000 in
theorem part_46 (w : World) : Calls Try.prog 59 #[.int .i64 46] w fun e w' => e = .returned (.tuple #[.int .i64 115, .int .i64 0, .int .i64 0]) ∧ Below w.heap.size w w' := by
  have HF : Aside0 (impl_formOf.f 7 46 = some 69) := ⟨rfl⟩
  go_enter Try.func59, Try.ntmps59
  go_wp2_with (go_at_call 47; (with_reducible refine (impl_formOf.calls 7 46 69 _ HF.out).mono ?_); rintro e w' ⟨rfl, ⟨m, rfl⟩⟩)
  all_goals go_ret3
  all_goals exact ⟨rfl, by repeat (first | exact Below.refl _ _ | refine pw_below_drewN ?_ _ | refine below_alloc ?_ _ | refine below_drew ?_)⟩
set_option maxHeartbeats 1600000 in
set_option maxRecDepth 100000 in
theorem part_47 (w : World) : Calls Try.prog 59 #[.int .i64 47] w fun e w' => e = .returned (.tuple #[.int .i64 115, .int .i64 0, .int .i64 0]) ∧ Below w.heap.size w w' := by
  have HF : Aside0 (impl_formOf.f 7 47 = some 69) := ⟨rfl⟩
  go_enter Try.func59, Try.ntmps59
  go_wp2_with (go_at_call 47; (with_reducible refine (impl_formOf.calls 7 47 69 _ HF.out).mono ?_); rintro e w' ⟨rfl, ⟨m, rfl⟩⟩)
  all_goals go_ret3
  all_goals exact ⟨rfl, by repeat (first | exact Below.refl _ _ | refine pw_below_drewN ?_ _ | refine below_alloc ?_ _ | refine below_drew ?_)⟩
theorem impl_partsOf.calls (a0 : Int) (r1 : Int) (r2 : Int) (r3 : Int) (w : World) (h : impl_partsOf.f a0 = some (r1, r2, r3)) :
    Calls Try.prog 59 #[.int .i64 a0] w fun e w' => e = .returned (.tuple #[.int .i64 r1, .int .i64 r2, .int .i64 r3]) ∧ Below w.heap.size w w' := by
  unfold impl_partsOf.f at h
  by_cases c : 1 ≤ a0 ∧ a0 ≤ 47
  · rw [if_pos c] at h
    obtain rfl | rfl | rfl | rfl | rfl | rfl | rfl | rfl | rfl | rfl | rfl | rfl | rfl | rfl | rfl | rfl | rfl | rfl | rfl | rfl | rfl | rfl | rfl | rfl | rfl | rfl | rfl | rfl | rfl | rfl | rfl | rfl | rfl | rfl | rfl | rfl | rfl | rfl | rfl | rfl | rfl | rfl | rfl | rfl | rfl | rfl | rfl : a0 = 1 ∨ a0 = 2 ∨ a0 = 3 ∨ a0 = 4 ∨ a0 = 5 ∨ a0 = 6 ∨ a0 = 7 ∨ a0 = 8 ∨ a0 = 9 ∨ a0 = 10 ∨ a0 = 11 ∨ a0 = 12 ∨ a0 = 13 ∨ a0 = 14 ∨ a0 = 15 ∨ a0 = 16 ∨ a0 = 17 ∨ a0 = 18 ∨ a0 = 19 ∨ a0 = 20 ∨ a0 = 21 ∨ a0 = 22 ∨ a0 = 23 ∨ a0 = 24 ∨ a0 = 25 ∨ a0 = 26 ∨ a0 = 27 ∨ a0 = 28 ∨ a0 = 29 ∨ a0 = 30 ∨ a0 = 31 ∨ a0 = 32 ∨ a0 = 33 ∨ a0 = 34 ∨ a0 = 35 ∨ a0 = 36 ∨ a0 = 37 ∨ a0 = 38 ∨ a0 = 39 ∨ a0 = 40 ∨ a0 = 41 ∨ a0 = 42 ∨ a0 = 43 ∨ a0 = 44 ∨ a0 = 45 ∨ a0 = 46 ∨ a0 = 47 := by omega
    · obtain ⟨rfl, rfl, rfl⟩ : 51 = r1 ∧ 0 = r2 ∧ 0 = r3 := by simpa [par, parTab] using h
      exact part_1 w
    · obtain ⟨rfl, rfl, rfl⟩ : 51 = r1 ∧ 0 = r2 ∧ 32 = r3 := by simpa [par, parTab] using h
      exact part_2 w
    · obtain ⟨rfl, rfl, rfl⟩ : 51 = r1 ∧ 1 = r2 ∧ 0 = r3 := by simpa [par, parTab] using h
      exact part_3 w
    · obtain ⟨rfl, rfl, rfl⟩ : 51 = r1 ∧ 2 = r2 ∧ 0 = r3 := by simpa [par, parTab] using h
      exact part_4 w
    · obtain ⟨rfl, rfl, rfl⟩ : 51 = r1 ∧ 3 = r2 ∧ 0 = r3 := by simpa [par, parTab] using h
      exact part_5 w
    · obtain ⟨rfl, rfl, rfl⟩ : 51 = r1 ∧ 4 = r2 ∧ 0 = r3 := by simpa [par, parTab] using h
      exact part_6 w
    · obtain ⟨rfl, rfl, rfl⟩ : 51 = r1 ∧ 5 = r2 ∧ 0 = r3 := by simpa [par, parTab] using h
      exact part_7 w
    · obtain ⟨rfl, rfl, rfl⟩ : 51 = r1 ∧ 5 = r2 ∧ 32 = r3 := by simpa [par, parTab] using h
      exact part_8 w
    · obtain ⟨rfl, rfl, rfl⟩ : 51 = r1 ∧ 6 = r2 ∧ 0 = r3 := by simpa [par, parTab] using h
      exact part_9 w
    · obtain ⟨rfl, rfl, rfl⟩ : 51 = r1 ∧ 7 = r2 ∧ 0 = r3 := by simpa [par, parTab] using h
      exact part_10 w
    · obtain ⟨rfl, rfl, rfl⟩ : 51 = r1 ∧ 0 = r2 ∧ 1 = r3 := by simpa [par, parTab] using h
      exact part_11 w
    · obtain ⟨rfl, rfl, rfl⟩ : 51 = r1 ∧ 1 = r2 ∧ 1 = r3 := by simpa [par, parTab] using h
      exact part_12 w
    · obtain ⟨rfl, rfl, rfl⟩ : 51 = r1 ∧ 2 = r2 ∧ 1 = r3 := by simpa [par, parTab] using h
      exact part_13 w
    · obtain ⟨rfl, rfl, rfl⟩ : 51 = r1 ∧ 3 = r2 ∧ 1 = r3 := by simpa [par, parTab] using h
      exact part_14 w
    · obtain ⟨rfl, rfl, rfl⟩ : 51 = r1 ∧ 4 = r2 ∧ 1 = r3 := by simpa [par, parTab] using h
      exact part_15 w
    · obtain ⟨rfl, rfl, rfl⟩ : 51 = r1 ∧ 5 = r2 ∧ 1 = r3 := by simpa [par, parTab] using h
      exact part_16 w
    · obtain ⟨rfl, rfl, rfl⟩ : 51 = r1 ∧ 6 = r2 ∧ 1 = r3 := by simpa [par, parTab] using h
      exact part_17 w
    · obtain ⟨rfl, rfl, rfl⟩ : 51 = r1 ∧ 7 = r2 ∧ 1 = r3 := by simpa [par, parTab] using h
      exact part_18 w
    · obtain ⟨rfl, rfl, rfl⟩ : 19 = r1 ∧ 0 = r2 ∧ 0 = r3 := by simpa [par, parTab] using h
      exact part_19 w
    · obtain ⟨rfl, rfl, rfl⟩ : 19 = r1 ∧ 2 = r2 ∧ 0 = r3 := by simpa [par, parTab] using h
      exact part_20 w
    · obtain ⟨rfl, rfl, rfl⟩ : 19 = r1 ∧ 3 = r2 ∧ 0 = r3 := by simpa [par, parTab] using h
      exact part_21 w
    · obtain ⟨rfl, rfl, rfl⟩ : 19 = r1 ∧ 4 = r2 ∧ 0 = r3 := by simpa [par, parTab] using h
      exact part_22 w
    · obtain ⟨rfl, rfl, rfl⟩ : 19 = r1 ∧ 6 = r2 ∧ 0 = r3 := by simpa [par, parTab] using h
      exact part_23 w
    · obtain ⟨rfl, rfl, rfl⟩ : 19 = r1 ∧ 7 = r2 ∧ 0 = r3 := by simpa [par, parTab] using h
      exact part_24 w
    · obtain ⟨rfl, rfl, rfl⟩ : 19 = r1 ∧ 1 = r2 ∧ 0 = r3 := by simpa [par, parTab] using h
      exact part_25 w
    · obtain ⟨rfl, rfl, rfl⟩ : 19 = r1 ∧ 5 = r2 ∧ 0 = r3 := by simpa [par, parTab] using h
      exact part_26 w
    · obtain ⟨rfl, rfl, rfl⟩ : 19 = r1 ∧ 5 = r2 ∧ 32 = r3 := by simpa [par, parTab] using h
      exact part_27 w
    · obtain ⟨rfl, rfl, rfl⟩ : 3 = r1 ∧ 0 = r2 ∧ 0 = r3 := by simpa [par, parTab] using h
      exact part_28 w
    · obtain ⟨rfl, rfl, rfl⟩ : 3 = r1 ∧ 1 = r2 ∧ 0 = r3 := by simpa [par, parTab] using h
      exact part_29 w
    · obtain ⟨rfl, rfl, rfl⟩ : 3 = r1 ∧ 2 = r2 ∧ 0 = r3 := by simpa [par, parTab] using h
      exact part_30 w
    · obtain ⟨rfl, rfl, rfl⟩ : 3 = r1 ∧ 4 = r2 ∧ 0 = r3 := by simpa [par, parTab] using h
      exact part_31 w
    · obtain ⟨rfl, rfl, rfl⟩ : 3 = r1 ∧ 5 = r2 ∧ 0 = r3 := by simpa [par, parTab] using h
      exact part_32 w
    · obtain ⟨rfl, rfl, rfl⟩ : 103 = r1 ∧ 0 = r2 ∧ 0 = r3 := by simpa [par, parTab] using h
      exact part_33 w
    · obtain ⟨rfl, rfl, rfl⟩ : 35 = r1 ∧ 0 = r2 ∧ 0 = r3 := by simpa [par, parTab] using h
      exact part_34 w
    · obtain ⟨rfl, rfl, rfl⟩ : 35 = r1 ∧ 1 = r2 ∧ 0 = r3 := by simpa [par, parTab] using h
      exact part_35 w
    · obtain ⟨rfl, rfl, rfl⟩ : 35 = r1 ∧ 2 = r2 ∧ 0 = r3 := by simpa [par, parTab] using h
      exact part_36 w
    · obtain ⟨rfl, rfl, rfl⟩ : 99 = r1 ∧ 0 = r2 ∧ 0 = r3 := by simpa [par, parTab] using h
      exact part_37 w
    · obtain ⟨rfl, rfl, rfl⟩ : 99 = r1 ∧ 1 = r2 ∧ 0 = r3 := by simpa [par, parTab] using h
      exact part_38 w
    · obtain ⟨rfl, rfl, rfl⟩ : 99 = r1 ∧ 4 = r2 ∧ 0 = r3 := by simpa [par, parTab] using h
      exact part_39 w
    · obtain ⟨rfl, rfl, rfl⟩ : 99 = r1 ∧ 5 = r2 ∧ 0 = r3 := by simpa [par, parTab] using h
      exact part_40 w
    · obtain ⟨rfl, rfl, rfl⟩ : 99 = r1 ∧ 6 = r2 ∧ 0 = r3 := by simpa [par, parTab] using h
      exact part_41 w
    · obtain ⟨rfl, rfl, rfl⟩ : 99 = r1 ∧ 7 = r2 ∧ 0 = r3 := by simpa [par, parTab] using h
      exact part_42 w
    · obtain ⟨rfl, rfl, rfl⟩ : 55 = r1 ∧ 0 = r2 ∧ 0 = r3 := by simpa [par, parTab] using h
      exact part_43 w
    · obtain ⟨rfl, rfl, rfl⟩ : 23 = r1 ∧ 0 = r2 ∧ 0 = r3 := by simpa [par, parTab] using h
      exact part_44 w
    · obtain ⟨rfl, rfl, rfl⟩ : 111 = r1 ∧ 0 = r2 ∧ 0 = r3 := by simpa [par, parTab] using h
      exact part_45 w
    · obtain ⟨rfl, rfl, rfl⟩ : 115 = r1 ∧ 0 = r2 ∧ 0 = r3 := by simpa [par, parTab] using h
      exact part_46 w
    · obtain ⟨rfl, rfl, rfl⟩ : 115 = r1 ∧ 0 = r2 ∧ 0 = r3 := by simpa [par, parTab] using h
      exact part_47 w
  · rw [if_neg c] at h; cases h
end Go.Proofs.Ytgbpofhabhabcaa.PEnc
