-- Lines for this claim, written by the session's own program wip/myprint.py. Not trusted: Lean checks them.
import Derived.Test.YtgbpofhabhabcaaPEncx0
import Derived.Test.YtgbpofhabhabcaaPEncx2
import Derived.Test.YtgbpofhabhabcaaPEncx4
import Derived.Test.YtgbpofhabhabcaaPEncx5
import Derived.Test.YtgbpofhabhabcaaPEncx6
namespace Go.Proofs.Ytgbpofhabhabcaa.PEnc
open Go.RowKit Go.Proofs.YtgbpofhabhabcaaW.PrintWords Go.Proofs.YtgbpofhabhabcaaW.PrintLast Go.Proofs.YtgbpofhabhabcaaW.PrintMore
attribute [local go_sem] max2_int min2_int max_two min_two max_three min_three max_four min_four   -- for this text's walks alone
set_option linter.unusedVariables false
set_option linter.unusedSimpArgs false

/-! ### impl_EncodeInst: function 31 -/
/-- Bits h to l of an instruction's Imm, as the closure tells them. -/
def fldb (h l n : Int) : Int := Go.bits .and .i64 (Go.bits .and .i64 n 4294967295 / 2 ^ l.toNat) (2 ^ (h - l + 1).toNat - 1)
def impl_EncodeInst.f (k : Nat) (a0 a1 a2 a3 a4 : Int) : Option (Int × Bool) := (impl_InstOk.f k a0 a1 a2 a3 a4).bind fun t => (if t = true then ((impl_partsOf.f a0).bind fun q => ((impl_formOf.f k a0).bind fun f => (if f = 82 then (some (Go.bits .or .i64 q.1 (Go.bits .or .i64 (Go.bits .or .i64 (Go.bits .or .i64 (Go.bits .or .i64 (wrap64 (q.2.2 * 33554432)) (wrap64 (a3 * 1048576))) (wrap64 (a2 * 32768))) (wrap64 (q.2.1 * 4096))) (wrap64 (a1 * 128))), true)) else (if f = 73 then (some (Go.bits .or .i64 q.1 (Go.bits .or .i64 (Go.bits .or .i64 (Go.bits .or .i64 (wrap64 ((fldb 11 0 a4) * 1048576)) (wrap64 (a2 * 32768))) (wrap64 (q.2.1 * 4096))) (wrap64 (a1 * 128))), true)) else (if f = 72 then (some (Go.bits .or .i64 q.1 (Go.bits .or .i64 (Go.bits .or .i64 (Go.bits .or .i64 (Go.bits .or .i64 (wrap64 (q.2.2 * 33554432)) (wrap64 (a4 * 1048576))) (wrap64 (a2 * 32768))) (wrap64 (q.2.1 * 4096))) (wrap64 (a1 * 128))), true)) else (if f = 83 then (some (Go.bits .or .i64 q.1 (Go.bits .or .i64 (Go.bits .or .i64 (Go.bits .or .i64 (Go.bits .or .i64 (wrap64 ((fldb 11 5 a4) * 33554432)) (wrap64 (a3 * 1048576))) (wrap64 (a2 * 32768))) (wrap64 (q.2.1 * 4096))) (wrap64 ((fldb 4 0 a4) * 128))), true)) else (if f = 66 then (some (Go.bits .or .i64 q.1 (Go.bits .or .i64 (Go.bits .or .i64 (Go.bits .or .i64 (Go.bits .or .i64 (Go.bits .or .i64 (Go.bits .or .i64 (wrap64 ((fldb 12 12 a4) * 2147483648)) (wrap64 ((fldb 10 5 a4) * 33554432))) (wrap64 (a3 * 1048576))) (wrap64 (a2 * 32768))) (wrap64 (q.2.1 * 4096))) (wrap64 ((fldb 4 1 a4) * 256))) (wrap64 ((fldb 11 11 a4) * 128))), true)) else (if f = 85 then (some (Go.bits .or .i64 q.1 (Go.bits .or .i64 (wrap64 (a4 * 4096)) (wrap64 (a1 * 128))), true)) else (if f = 74 then (some (Go.bits .or .i64 q.1 (Go.bits .or .i64 (Go.bits .or .i64 (Go.bits .or .i64 (Go.bits .or .i64 (wrap64 ((fldb 20 20 a4) * 2147483648)) (wrap64 ((fldb 10 1 a4) * 2097152))) (wrap64 ((fldb 11 11 a4) * 1048576))) (wrap64 ((fldb 19 12 a4) * 4096))) (wrap64 (a1 * 128))), true)) else (if f = 69 then (if a0 = 47 then (some (Go.bits .or .i64 q.1 1048576, true)) else (some (q.1, true))) else (none))))))))))) else (some (0, false)))
theorem impl_EncodeInst.mono : ∀ a0 a1 a2 a3 a4 k, LeO (impl_EncodeInst.f k a0 a1 a2 a3 a4) (impl_EncodeInst.f (k + 1) a0 a1 a2 a3 a4) := by
  intro a0 a1 a2 a3 a4 k
  unfold impl_EncodeInst.f
  refine LeO.bind (impl_InstOk.mono _ _ _ _ _ _) (fun _ => LeO.ite (LeO.bind (LeO.refl _) (fun _ => LeO.bind (impl_formOf.mono _ _) (fun _ => ?_))) (LeO.refl _))
  exact LeO.refl _
theorem eset {w W : World} {a : Addr} {v : Value} (h : Below w.heap.size w W) (hg : w.heap.size ≤ a.block) : Below w.heap.size w (W.setCell a v) := h.setCell hg _
theorem wordQ (n : Int) (w : World) : Calls Try.prog 16 #[.int .i64 n] w fun e w' => e = .returned (.int .i64 (Go.bits .and .i64 n 4294967295)) ∧ w' = w := by
  go_enter Try.func16, Try.ntmps16
  go_wp2
  go_ret
  exact ⟨rfl, rfl⟩
set_option maxHeartbeats 1600000 in
set_option maxRecDepth 100000 in
theorem imm_4_0 (a4 : Int) (b : Nat) (w : World) (hc : w.cell? ⟨b, 4, none⟩ = some (.int .i64 a4)) :
    Calls Try.prog 60 #[.int .i64 4, .int .i64 0, .pointer (some ⟨b, 0, none⟩)] w fun e w' => e = .returned (.int .i64 (Go.bits .and .i64 (Go.bits .and .i64 a4 4294967295) 31)) ∧ ∃ m, w' = w.drewN m := by
  have hu35 := Try.underlying35
  go_enter Try.func60, Try.ntmps60
  go_wp2_with fail
  go_quiet ((go_at_call 16; exact Calls.quiet_of_same (wordQ _ _)))
  go_wp2
  go_ret
  exact ⟨rfl, _, rfl⟩
set_option maxHeartbeats 1600000 in
set_option maxRecDepth 100000 in
theorem imm_4_1 (a4 : Int) (b : Nat) (w : World) (hc : w.cell? ⟨b, 4, none⟩ = some (.int .i64 a4)) :
    Calls Try.prog 60 #[.int .i64 4, .int .i64 1, .pointer (some ⟨b, 0, none⟩)] w fun e w' => e = .returned (.int .i64 (Go.bits .and .i64 (Go.bits .and .i64 a4 4294967295 / 2) 15)) ∧ ∃ m, w' = w.drewN m := by
  have hu35 := Try.underlying35
  go_enter Try.func60, Try.ntmps60
  go_wp2_with fail
  go_quiet ((go_at_call 16; exact Calls.quiet_of_same (wordQ _ _)))
  go_wp2
  go_ret
  exact ⟨rfl, _, rfl⟩
set_option maxHeartbeats 1600000 in
set_option maxRecDepth 100000 in
theorem imm_10_1 (a4 : Int) (b : Nat) (w : World) (hc : w.cell? ⟨b, 4, none⟩ = some (.int .i64 a4)) :
    Calls Try.prog 60 #[.int .i64 10, .int .i64 1, .pointer (some ⟨b, 0, none⟩)] w fun e w' => e = .returned (.int .i64 (Go.bits .and .i64 (Go.bits .and .i64 a4 4294967295 / 2) 1023)) ∧ ∃ m, w' = w.drewN m := by
  have hu35 := Try.underlying35
  go_enter Try.func60, Try.ntmps60
  go_wp2_with fail
  go_quiet ((go_at_call 16; exact Calls.quiet_of_same (wordQ _ _)))
  go_wp2
  go_ret
  exact ⟨rfl, _, rfl⟩
set_option maxHeartbeats 1600000 in
set_option maxRecDepth 100000 in
theorem imm_10_5 (a4 : Int) (b : Nat) (w : World) (hc : w.cell? ⟨b, 4, none⟩ = some (.int .i64 a4)) :
    Calls Try.prog 60 #[.int .i64 10, .int .i64 5, .pointer (some ⟨b, 0, none⟩)] w fun e w' => e = .returned (.int .i64 (Go.bits .and .i64 (Go.bits .and .i64 a4 4294967295 / 32) 63)) ∧ ∃ m, w' = w.drewN m := by
  have hu35 := Try.underlying35
  go_enter Try.func60, Try.ntmps60
  go_wp2_with fail
  go_quiet ((go_at_call 16; exact Calls.quiet_of_same (wordQ _ _)))
  go_wp2
  go_ret
  exact ⟨rfl, _, rfl⟩
set_option maxHeartbeats 1600000 in
set_option maxRecDepth 100000 in
theorem imm_11_0 (a4 : Int) (b : Nat) (w : World) (hc : w.cell? ⟨b, 4, none⟩ = some (.int .i64 a4)) :
    Calls Try.prog 60 #[.int .i64 11, .int .i64 0, .pointer (some ⟨b, 0, none⟩)] w fun e w' => e = .returned (.int .i64 (Go.bits .and .i64 (Go.bits .and .i64 a4 4294967295) 4095)) ∧ ∃ m, w' = w.drewN m := by
  have hu35 := Try.underlying35
  go_enter Try.func60, Try.ntmps60
  go_wp2_with fail
  go_quiet ((go_at_call 16; exact Calls.quiet_of_same (wordQ _ _)))
  go_wp2
  go_ret
  exact ⟨rfl, _, rfl⟩
set_option maxHeartbeats 1600000 in
set_option maxRecDepth 100000 in
theorem imm_11_5 (a4 : Int) (b : Nat) (w : World) (hc : w.cell? ⟨b, 4, none⟩ = some (.int .i64 a4)) :
    Calls Try.prog 60 #[.int .i64 11, .int .i64 5, .pointer (some ⟨b, 0, none⟩)] w fun e w' => e = .returned (.int .i64 (Go.bits .and .i64 (Go.bits .and .i64 a4 4294967295 / 32) 127)) ∧ ∃ m, w' = w.drewN m := by
  have hu35 := Try.underlying35
  go_enter Try.func60, Try.ntmps60
  go_wp2_with fail
  go_quiet ((go_at_call 16; exact Calls.quiet_of_same (wordQ _ _)))
  go_wp2
  go_ret
  exact ⟨rfl, _, rfl⟩
set_option maxHeartbeats 1600000 in
set_option maxRecDepth 100000 in
theorem imm_11_11 (a4 : Int) (b : Nat) (w : World) (hc : w.cell? ⟨b, 4, none⟩ = some (.int .i64 a4)) :
    Calls Try.prog 60 #[.int .i64 11, .int .i64 11, .pointer (some ⟨b, 0, none⟩)] w fun e w' => e = .returned (.int .i64 (Go.bits .and .i64 (Go.bits .and .i64 a4 4294967295 / 2048) 1)) ∧ ∃ m, w' = w.drewN m := by
  have hu35 := Try.underlying35
  go_enter Try.func60, Try.ntmps60
  go_wp2_with fail
  go_quiet ((go_at_call 16; exact Calls.quiet_of_same (wordQ _ _)))
  go_wp2
  go_ret
  exact ⟨rfl, _, rfl⟩
set_option maxHeartbeats 1600000 in
set_option maxRecDepth 100000 in
theorem imm_12_12 (a4 : Int) (b : Nat) (w : World) (hc : w.cell? ⟨b, 4, none⟩ = some (.int .i64 a4)) :
    Calls Try.prog 60 #[.int .i64 12, .int .i64 12, .pointer (some ⟨b, 0, none⟩)] w fun e w' => e = .returned (.int .i64 (Go.bits .and .i64 (Go.bits .and .i64 a4 4294967295 / 4096) 1)) ∧ ∃ m, w' = w.drewN m := by
  have hu35 := Try.underlying35
  go_enter Try.func60, Try.ntmps60
  go_wp2_with fail
  go_quiet ((go_at_call 16; exact Calls.quiet_of_same (wordQ _ _)))
  go_wp2
  go_ret
  exact ⟨rfl, _, rfl⟩
set_option maxHeartbeats 1600000 in
set_option maxRecDepth 100000 in
theorem imm_19_12 (a4 : Int) (b : Nat) (w : World) (hc : w.cell? ⟨b, 4, none⟩ = some (.int .i64 a4)) :
    Calls Try.prog 60 #[.int .i64 19, .int .i64 12, .pointer (some ⟨b, 0, none⟩)] w fun e w' => e = .returned (.int .i64 (Go.bits .and .i64 (Go.bits .and .i64 a4 4294967295 / 4096) 255)) ∧ ∃ m, w' = w.drewN m := by
  have hu35 := Try.underlying35
  go_enter Try.func60, Try.ntmps60
  go_wp2_with fail
  go_quiet ((go_at_call 16; exact Calls.quiet_of_same (wordQ _ _)))
  go_wp2
  go_ret
  exact ⟨rfl, _, rfl⟩
set_option maxHeartbeats 1600000 in
set_option maxRecDepth 100000 in
theorem imm_20_20 (a4 : Int) (b : Nat) (w : World) (hc : w.cell? ⟨b, 4, none⟩ = some (.int .i64 a4)) :
    Calls Try.prog 60 #[.int .i64 20, .int .i64 20, .pointer (some ⟨b, 0, none⟩)] w fun e w' => e = .returned (.int .i64 (Go.bits .and .i64 (Go.bits .and .i64 a4 4294967295 / 1048576) 1)) ∧ ∃ m, w' = w.drewN m := by
  have hu35 := Try.underlying35
  go_enter Try.func60, Try.ntmps60
  go_wp2_with fail
  go_quiet ((go_at_call 16; exact Calls.quiet_of_same (wordQ _ _)))
  go_wp2
  go_ret
  exact ⟨rfl, _, rfl⟩
theorem imm_any (h l a4 : Int) (b : Nat) (w : World) (hp : (h, l) ∈ ([(4, 0), (4, 1), (10, 1), (10, 5), (11, 0), (11, 5), (11, 11), (12, 12), (19, 12), (20, 20)] : List (Int × Int))) (hc : w.cell? ⟨b, 4, none⟩ = some (.int .i64 a4)) :
    Calls Try.prog 60 #[.int .i64 h, .int .i64 l, .pointer (some ⟨b, 0, none⟩)] w fun e w' => e = .returned (.int .i64 (fldb h l a4)) ∧ ∃ m, w' = w.drewN m := by
  simp only [List.mem_cons, List.not_mem_nil, or_false, Prod.mk.injEq] at hp
  rcases hp with ⟨rfl, rfl⟩ | ⟨rfl, rfl⟩ | ⟨rfl, rfl⟩ | ⟨rfl, rfl⟩ | ⟨rfl, rfl⟩ | ⟨rfl, rfl⟩ | ⟨rfl, rfl⟩ | ⟨rfl, rfl⟩ | ⟨rfl, rfl⟩ | ⟨rfl, rfl⟩
  · refine (imm_4_0 a4 b w hc).mono (fun e w' ⟨he, hw⟩ => ⟨he.trans (by simp [fldb]), hw⟩)
  · refine (imm_4_1 a4 b w hc).mono (fun e w' ⟨he, hw⟩ => ⟨he.trans (by simp [fldb]), hw⟩)
  · refine (imm_10_1 a4 b w hc).mono (fun e w' ⟨he, hw⟩ => ⟨he.trans (by simp [fldb]), hw⟩)
  · refine (imm_10_5 a4 b w hc).mono (fun e w' ⟨he, hw⟩ => ⟨he.trans (by simp [fldb]), hw⟩)
  · refine (imm_11_0 a4 b w hc).mono (fun e w' ⟨he, hw⟩ => ⟨he.trans (by simp [fldb]), hw⟩)
  · refine (imm_11_5 a4 b w hc).mono (fun e w' ⟨he, hw⟩ => ⟨he.trans (by simp [fldb]), hw⟩)
  · refine (imm_11_11 a4 b w hc).mono (fun e w' ⟨he, hw⟩ => ⟨he.trans (by simp [fldb]), hw⟩)
  · refine (imm_12_12 a4 b w hc).mono (fun e w' ⟨he, hw⟩ => ⟨he.trans (by simp [fldb]), hw⟩)
  · refine (imm_19_12 a4 b w hc).mono (fun e w' ⟨he, hw⟩ => ⟨he.trans (by simp [fldb]), hw⟩)
  · refine (imm_20_20 a4 b w hc).mono (fun e w' ⟨he, hw⟩ => ⟨he.trans (by simp [fldb]), hw⟩)
set_option maxHeartbeats 3200000 in
set_option maxRecDepth 100000 in
theorem enc_82 (k : Nat) (a0 a1 a2 a3 a4 c f3 f7 : Int) (w : World) (hok : Aside0 (impl_InstOk.f k a0 a1 a2 a3 a4 = some true)) (hp : Aside0 (impl_partsOf.f a0 = some (c, f3, f7))) (hf : Aside0 (impl_formOf.f k a0 = some 82)) :
    Calls Try.prog 31 #[.agg #[.int .i64 a0, .int .i64 a1, .int .i64 a2, .int .i64 a3, .int .i64 a4]] w fun e w' => e = .returned (.tuple #[.int .i64 (Go.bits .or .i64 c (Go.bits .or .i64 (Go.bits .or .i64 (Go.bits .or .i64 (Go.bits .or .i64 (wrap64 (f7 * 33554432)) (wrap64 (a3 * 1048576))) (wrap64 (a2 * 32768))) (wrap64 (f3 * 4096))) (wrap64 (a1 * 128)))), .bool true]) ∧ Below w.heap.size w w' := by
  have hu35 := Try.underlying35
  go_enter Try.func31, Try.ntmps31
  go_wp2_with (first
    | (go_at_call 26; (with_reducible refine (impl_InstOk.calls k a0 a1 a2 a3 a4 true _ hok.out).mono ?_); rintro e w1 ⟨rfl, hb1⟩; have HB := Aside0.mk (below_step (below_alloc (Below.refl w.heap.size w) _) hb1); have hc0 := pw_cell_below hb1 (a := ⟨w.heap.size, 0, none⟩) (v := .int .i64 a0) (by go_simp); have hc1 := pw_cell_below hb1 (a := ⟨w.heap.size, 1, none⟩) (v := .int .i64 a1) (by go_simp); have hc2 := pw_cell_below hb1 (a := ⟨w.heap.size, 2, none⟩) (v := .int .i64 a2) (by go_simp); have hc3 := pw_cell_below hb1 (a := ⟨w.heap.size, 3, none⟩) (v := .int .i64 a3) (by go_simp); have hc4 := pw_cell_below hb1 (a := ⟨w.heap.size, 4, none⟩) (v := .int .i64 a4) (by go_simp); clear hb1)
    | (go_at_call 59; (with_reducible refine (impl_partsOf.calls a0 c f3 f7 _ hp.out).mono ?_); rintro e w2 ⟨rfl, hb2⟩; have HB2 := Aside0.mk (below_step HB.out hb2); replace hc0 := pw_cell_below hb2 hc0; replace hc1 := pw_cell_below hb2 hc1; replace hc2 := pw_cell_below hb2 hc2; replace hc3 := pw_cell_below hb2 hc3; replace hc4 := pw_cell_below hb2 hc4; clear HB; have HB := HB2; clear hb2 HB2)
    | (go_at_call 47; (with_reducible refine (impl_formOf.calls k a0 82 _ hf.out).mono ?_); rintro e w3 ⟨rfl, hd3⟩; have hb3 := hd3.below; have HB2 := Aside0.mk (below_step HB.out hb3); replace hc0 := pw_cell_below hb3 hc0; replace hc1 := pw_cell_below hb3 hc1; replace hc2 := pw_cell_below hb3 hc2; replace hc3 := pw_cell_below hb3 hc3; replace hc4 := pw_cell_below hb3 hc4; clear HB; have HB := HB2; clear hb3 HB2 hd3))
  
  
  go_ret2
  exact ⟨by first | rfl | (simp; done), (by repeat (first | exact Below.refl _ _ | exact HB.out | refine pw_below_drewN ?_ _ | refine below_alloc ?_ _ | refine below_drew ?_ | refine eset ?_ (by simp only []; omega)))⟩
set_option maxHeartbeats 3200000 in
set_option maxRecDepth 100000 in
theorem enc_73 (k : Nat) (a0 a1 a2 a3 a4 c f3 f7 : Int) (w : World) (hok : Aside0 (impl_InstOk.f k a0 a1 a2 a3 a4 = some true)) (hp : Aside0 (impl_partsOf.f a0 = some (c, f3, f7))) (hf : Aside0 (impl_formOf.f k a0 = some 73)) :
    Calls Try.prog 31 #[.agg #[.int .i64 a0, .int .i64 a1, .int .i64 a2, .int .i64 a3, .int .i64 a4]] w fun e w' => e = .returned (.tuple #[.int .i64 (Go.bits .or .i64 c (Go.bits .or .i64 (Go.bits .or .i64 (Go.bits .or .i64 (wrap64 ((fldb 11 0 a4) * 1048576)) (wrap64 (a2 * 32768))) (wrap64 (f3 * 4096))) (wrap64 (a1 * 128)))), .bool true]) ∧ Below w.heap.size w w' := by
  have hu35 := Try.underlying35
  go_enter Try.func31, Try.ntmps31
  go_wp2_with (first
    | (go_at_call 26; (with_reducible refine (impl_InstOk.calls k a0 a1 a2 a3 a4 true _ hok.out).mono ?_); rintro e w1 ⟨rfl, hb1⟩; have HB := Aside0.mk (below_step (below_alloc (Below.refl w.heap.size w) _) hb1); have hc0 := pw_cell_below hb1 (a := ⟨w.heap.size, 0, none⟩) (v := .int .i64 a0) (by go_simp); have hc1 := pw_cell_below hb1 (a := ⟨w.heap.size, 1, none⟩) (v := .int .i64 a1) (by go_simp); have hc2 := pw_cell_below hb1 (a := ⟨w.heap.size, 2, none⟩) (v := .int .i64 a2) (by go_simp); have hc3 := pw_cell_below hb1 (a := ⟨w.heap.size, 3, none⟩) (v := .int .i64 a3) (by go_simp); have hc4 := pw_cell_below hb1 (a := ⟨w.heap.size, 4, none⟩) (v := .int .i64 a4) (by go_simp); clear hb1)
    | (go_at_call 59; (with_reducible refine (impl_partsOf.calls a0 c f3 f7 _ hp.out).mono ?_); rintro e w2 ⟨rfl, hb2⟩; have HB2 := Aside0.mk (below_step HB.out hb2); replace hc0 := pw_cell_below hb2 hc0; replace hc1 := pw_cell_below hb2 hc1; replace hc2 := pw_cell_below hb2 hc2; replace hc3 := pw_cell_below hb2 hc3; replace hc4 := pw_cell_below hb2 hc4; clear HB; have HB := HB2; clear hb2 HB2)
    | (go_at_call 47; (with_reducible refine (impl_formOf.calls k a0 73 _ hf.out).mono ?_); rintro e w3 ⟨rfl, hd3⟩; have hb3 := hd3.below; have HB2 := Aside0.mk (below_step HB.out hb3); replace hc0 := pw_cell_below hb3 hc0; replace hc1 := pw_cell_below hb3 hc1; replace hc2 := pw_cell_below hb3 hc2; replace hc3 := pw_cell_below hb3 hc3; replace hc4 := pw_cell_below hb3 hc4; clear HB; have HB := HB2; clear hb3 HB2 hd3))
  go_quiet (((go_at_call 60; exact Calls.quiet_of (imm_any _ _ a4 _ _ (by decide) (by first | exact hc4 | go_simp)))))
  go_wp2_with fail
  go_ret2
  exact ⟨by first | rfl | (simp; done), (by repeat (first | exact Below.refl _ _ | exact HB.out | refine pw_below_drewN ?_ _ | refine below_alloc ?_ _ | refine below_drew ?_ | refine eset ?_ (by simp only []; omega)))⟩
set_option maxHeartbeats 3200000 in
set_option maxRecDepth 100000 in
theorem enc_72 (k : Nat) (a0 a1 a2 a3 a4 c f3 f7 : Int) (w : World) (hok : Aside0 (impl_InstOk.f k a0 a1 a2 a3 a4 = some true)) (hp : Aside0 (impl_partsOf.f a0 = some (c, f3, f7))) (hf : Aside0 (impl_formOf.f k a0 = some 72)) :
    Calls Try.prog 31 #[.agg #[.int .i64 a0, .int .i64 a1, .int .i64 a2, .int .i64 a3, .int .i64 a4]] w fun e w' => e = .returned (.tuple #[.int .i64 (Go.bits .or .i64 c (Go.bits .or .i64 (Go.bits .or .i64 (Go.bits .or .i64 (Go.bits .or .i64 (wrap64 (f7 * 33554432)) (wrap64 (a4 * 1048576))) (wrap64 (a2 * 32768))) (wrap64 (f3 * 4096))) (wrap64 (a1 * 128)))), .bool true]) ∧ Below w.heap.size w w' := by
  have hu35 := Try.underlying35
  go_enter Try.func31, Try.ntmps31
  go_wp2_with (first
    | (go_at_call 26; (with_reducible refine (impl_InstOk.calls k a0 a1 a2 a3 a4 true _ hok.out).mono ?_); rintro e w1 ⟨rfl, hb1⟩; have HB := Aside0.mk (below_step (below_alloc (Below.refl w.heap.size w) _) hb1); have hc0 := pw_cell_below hb1 (a := ⟨w.heap.size, 0, none⟩) (v := .int .i64 a0) (by go_simp); have hc1 := pw_cell_below hb1 (a := ⟨w.heap.size, 1, none⟩) (v := .int .i64 a1) (by go_simp); have hc2 := pw_cell_below hb1 (a := ⟨w.heap.size, 2, none⟩) (v := .int .i64 a2) (by go_simp); have hc3 := pw_cell_below hb1 (a := ⟨w.heap.size, 3, none⟩) (v := .int .i64 a3) (by go_simp); have hc4 := pw_cell_below hb1 (a := ⟨w.heap.size, 4, none⟩) (v := .int .i64 a4) (by go_simp); clear hb1)
    | (go_at_call 59; (with_reducible refine (impl_partsOf.calls a0 c f3 f7 _ hp.out).mono ?_); rintro e w2 ⟨rfl, hb2⟩; have HB2 := Aside0.mk (below_step HB.out hb2); replace hc0 := pw_cell_below hb2 hc0; replace hc1 := pw_cell_below hb2 hc1; replace hc2 := pw_cell_below hb2 hc2; replace hc3 := pw_cell_below hb2 hc3; replace hc4 := pw_cell_below hb2 hc4; clear HB; have HB := HB2; clear hb2 HB2)
    | (go_at_call 47; (with_reducible refine (impl_formOf.calls k a0 72 _ hf.out).mono ?_); rintro e w3 ⟨rfl, hd3⟩; have hb3 := hd3.below; have HB2 := Aside0.mk (below_step HB.out hb3); replace hc0 := pw_cell_below hb3 hc0; replace hc1 := pw_cell_below hb3 hc1; replace hc2 := pw_cell_below hb3 hc2; replace hc3 := pw_cell_below hb3 hc3; replace hc4 := pw_cell_below hb3 hc4; clear HB; have HB := HB2; clear hb3 HB2 hd3))
  
  
  go_ret2
  exact ⟨by first | rfl | (simp; done), (by repeat (first | exact Below.refl _ _ | exact HB.out | refine pw_below_drewN ?_ _ | refine below_alloc ?_ _ | refine below_drew ?_ | refine eset ?_ (by simp only []; omega)))⟩
set_option maxHeartbeats 3200000 in
set_option maxRecDepth 100000 in
theorem enc_83 (k : Nat) (a0 a1 a2 a3 a4 c f3 f7 : Int) (w : World) (hok : Aside0 (impl_InstOk.f k a0 a1 a2 a3 a4 = some true)) (hp : Aside0 (impl_partsOf.f a0 = some (c, f3, f7))) (hf : Aside0 (impl_formOf.f k a0 = some 83)) :
    Calls Try.prog 31 #[.agg #[.int .i64 a0, .int .i64 a1, .int .i64 a2, .int .i64 a3, .int .i64 a4]] w fun e w' => e = .returned (.tuple #[.int .i64 (Go.bits .or .i64 c (Go.bits .or .i64 (Go.bits .or .i64 (Go.bits .or .i64 (Go.bits .or .i64 (wrap64 ((fldb 11 5 a4) * 33554432)) (wrap64 (a3 * 1048576))) (wrap64 (a2 * 32768))) (wrap64 (f3 * 4096))) (wrap64 ((fldb 4 0 a4) * 128)))), .bool true]) ∧ Below w.heap.size w w' := by
  have hu35 := Try.underlying35
  go_enter Try.func31, Try.ntmps31
  go_wp2_with (first
    | (go_at_call 26; (with_reducible refine (impl_InstOk.calls k a0 a1 a2 a3 a4 true _ hok.out).mono ?_); rintro e w1 ⟨rfl, hb1⟩; have HB := Aside0.mk (below_step (below_alloc (Below.refl w.heap.size w) _) hb1); have hc0 := pw_cell_below hb1 (a := ⟨w.heap.size, 0, none⟩) (v := .int .i64 a0) (by go_simp); have hc1 := pw_cell_below hb1 (a := ⟨w.heap.size, 1, none⟩) (v := .int .i64 a1) (by go_simp); have hc2 := pw_cell_below hb1 (a := ⟨w.heap.size, 2, none⟩) (v := .int .i64 a2) (by go_simp); have hc3 := pw_cell_below hb1 (a := ⟨w.heap.size, 3, none⟩) (v := .int .i64 a3) (by go_simp); have hc4 := pw_cell_below hb1 (a := ⟨w.heap.size, 4, none⟩) (v := .int .i64 a4) (by go_simp); clear hb1)
    | (go_at_call 59; (with_reducible refine (impl_partsOf.calls a0 c f3 f7 _ hp.out).mono ?_); rintro e w2 ⟨rfl, hb2⟩; have HB2 := Aside0.mk (below_step HB.out hb2); replace hc0 := pw_cell_below hb2 hc0; replace hc1 := pw_cell_below hb2 hc1; replace hc2 := pw_cell_below hb2 hc2; replace hc3 := pw_cell_below hb2 hc3; replace hc4 := pw_cell_below hb2 hc4; clear HB; have HB := HB2; clear hb2 HB2)
    | (go_at_call 47; (with_reducible refine (impl_formOf.calls k a0 83 _ hf.out).mono ?_); rintro e w3 ⟨rfl, hd3⟩; have hb3 := hd3.below; have HB2 := Aside0.mk (below_step HB.out hb3); replace hc0 := pw_cell_below hb3 hc0; replace hc1 := pw_cell_below hb3 hc1; replace hc2 := pw_cell_below hb3 hc2; replace hc3 := pw_cell_below hb3 hc3; replace hc4 := pw_cell_below hb3 hc4; clear HB; have HB := HB2; clear hb3 HB2 hd3))
  go_quiet (((go_at_call 60; exact Calls.quiet_of (imm_any _ _ a4 _ _ (by decide) (by first | exact hc4 | go_simp)))))
  go_wp2_with fail
  go_ret2
  exact ⟨by first | rfl | (simp; done), (by repeat (first | exact Below.refl _ _ | exact HB.out | refine pw_below_drewN ?_ _ | refine below_alloc ?_ _ | refine below_drew ?_ | refine eset ?_ (by simp only []; omega)))⟩
set_option maxHeartbeats 3200000 in
set_option maxRecDepth 100000 in
theorem enc_66 (k : Nat) (a0 a1 a2 a3 a4 c f3 f7 : Int) (w : World) (hok : Aside0 (impl_InstOk.f k a0 a1 a2 a3 a4 = some true)) (hp : Aside0 (impl_partsOf.f a0 = some (c, f3, f7))) (hf : Aside0 (impl_formOf.f k a0 = some 66)) :
    Calls Try.prog 31 #[.agg #[.int .i64 a0, .int .i64 a1, .int .i64 a2, .int .i64 a3, .int .i64 a4]] w fun e w' => e = .returned (.tuple #[.int .i64 (Go.bits .or .i64 c (Go.bits .or .i64 (Go.bits .or .i64 (Go.bits .or .i64 (Go.bits .or .i64 (Go.bits .or .i64 (Go.bits .or .i64 (wrap64 ((fldb 12 12 a4) * 2147483648)) (wrap64 ((fldb 10 5 a4) * 33554432))) (wrap64 (a3 * 1048576))) (wrap64 (a2 * 32768))) (wrap64 (f3 * 4096))) (wrap64 ((fldb 4 1 a4) * 256))) (wrap64 ((fldb 11 11 a4) * 128)))), .bool true]) ∧ Below w.heap.size w w' := by
  have hu35 := Try.underlying35
  go_enter Try.func31, Try.ntmps31
  go_wp2_with (first
    | (go_at_call 26; (with_reducible refine (impl_InstOk.calls k a0 a1 a2 a3 a4 true _ hok.out).mono ?_); rintro e w1 ⟨rfl, hb1⟩; have HB := Aside0.mk (below_step (below_alloc (Below.refl w.heap.size w) _) hb1); have hc0 := pw_cell_below hb1 (a := ⟨w.heap.size, 0, none⟩) (v := .int .i64 a0) (by go_simp); have hc1 := pw_cell_below hb1 (a := ⟨w.heap.size, 1, none⟩) (v := .int .i64 a1) (by go_simp); have hc2 := pw_cell_below hb1 (a := ⟨w.heap.size, 2, none⟩) (v := .int .i64 a2) (by go_simp); have hc3 := pw_cell_below hb1 (a := ⟨w.heap.size, 3, none⟩) (v := .int .i64 a3) (by go_simp); have hc4 := pw_cell_below hb1 (a := ⟨w.heap.size, 4, none⟩) (v := .int .i64 a4) (by go_simp); clear hb1)
    | (go_at_call 59; (with_reducible refine (impl_partsOf.calls a0 c f3 f7 _ hp.out).mono ?_); rintro e w2 ⟨rfl, hb2⟩; have HB2 := Aside0.mk (below_step HB.out hb2); replace hc0 := pw_cell_below hb2 hc0; replace hc1 := pw_cell_below hb2 hc1; replace hc2 := pw_cell_below hb2 hc2; replace hc3 := pw_cell_below hb2 hc3; replace hc4 := pw_cell_below hb2 hc4; clear HB; have HB := HB2; clear hb2 HB2)
    | (go_at_call 47; (with_reducible refine (impl_formOf.calls k a0 66 _ hf.out).mono ?_); rintro e w3 ⟨rfl, hd3⟩; have hb3 := hd3.below; have HB2 := Aside0.mk (below_step HB.out hb3); replace hc0 := pw_cell_below hb3 hc0; replace hc1 := pw_cell_below hb3 hc1; replace hc2 := pw_cell_below hb3 hc2; replace hc3 := pw_cell_below hb3 hc3; replace hc4 := pw_cell_below hb3 hc4; clear HB; have HB := HB2; clear hb3 HB2 hd3))
  go_quiet (((go_at_call 60; exact Calls.quiet_of (imm_any _ _ a4 _ _ (by decide) (by first | exact hc4 | go_simp)))))
  go_wp2_with fail
  go_ret2
  exact ⟨by first | rfl | (simp; done), (by repeat (first | exact Below.refl _ _ | exact HB.out | refine pw_below_drewN ?_ _ | refine below_alloc ?_ _ | refine below_drew ?_ | refine eset ?_ (by simp only []; omega)))⟩
set_option maxHeartbeats 3200000 in
set_option maxRecDepth 100000 in
theorem enc_85 (k : Nat) (a0 a1 a2 a3 a4 c f3 f7 : Int) (w : World) (hok : Aside0 (impl_InstOk.f k a0 a1 a2 a3 a4 = some true)) (hp : Aside0 (impl_partsOf.f a0 = some (c, f3, f7))) (hf : Aside0 (impl_formOf.f k a0 = some 85)) :
    Calls Try.prog 31 #[.agg #[.int .i64 a0, .int .i64 a1, .int .i64 a2, .int .i64 a3, .int .i64 a4]] w fun e w' => e = .returned (.tuple #[.int .i64 (Go.bits .or .i64 c (Go.bits .or .i64 (wrap64 (a4 * 4096)) (wrap64 (a1 * 128)))), .bool true]) ∧ Below w.heap.size w w' := by
  have hu35 := Try.underlying35
  go_enter Try.func31, Try.ntmps31
  go_wp2_with (first
    | (go_at_call 26; (with_reducible refine (impl_InstOk.calls k a0 a1 a2 a3 a4 true _ hok.out).mono ?_); rintro e w1 ⟨rfl, hb1⟩; have HB := Aside0.mk (below_step (below_alloc (Below.refl w.heap.size w) _) hb1); have hc0 := pw_cell_below hb1 (a := ⟨w.heap.size, 0, none⟩) (v := .int .i64 a0) (by go_simp); have hc1 := pw_cell_below hb1 (a := ⟨w.heap.size, 1, none⟩) (v := .int .i64 a1) (by go_simp); have hc2 := pw_cell_below hb1 (a := ⟨w.heap.size, 2, none⟩) (v := .int .i64 a2) (by go_simp); have hc3 := pw_cell_below hb1 (a := ⟨w.heap.size, 3, none⟩) (v := .int .i64 a3) (by go_simp); have hc4 := pw_cell_below hb1 (a := ⟨w.heap.size, 4, none⟩) (v := .int .i64 a4) (by go_simp); clear hb1)
    | (go_at_call 59; (with_reducible refine (impl_partsOf.calls a0 c f3 f7 _ hp.out).mono ?_); rintro e w2 ⟨rfl, hb2⟩; have HB2 := Aside0.mk (below_step HB.out hb2); replace hc0 := pw_cell_below hb2 hc0; replace hc1 := pw_cell_below hb2 hc1; replace hc2 := pw_cell_below hb2 hc2; replace hc3 := pw_cell_below hb2 hc3; replace hc4 := pw_cell_below hb2 hc4; clear HB; have HB := HB2; clear hb2 HB2)
    | (go_at_call 47; (with_reducible refine (impl_formOf.calls k a0 85 _ hf.out).mono ?_); rintro e w3 ⟨rfl, hd3⟩; have hb3 := hd3.below; have HB2 := Aside0.mk (below_step HB.out hb3); replace hc0 := pw_cell_below hb3 hc0; replace hc1 := pw_cell_below hb3 hc1; replace hc2 := pw_cell_below hb3 hc2; replace hc3 := pw_cell_below hb3 hc3; replace hc4 := pw_cell_below hb3 hc4; clear HB; have HB := HB2; clear hb3 HB2 hd3))
  
  
  go_ret2
  exact ⟨by first | rfl | (simp; done), (by repeat (first | exact Below.refl _ _ | exact HB.out | refine pw_below_drewN ?_ _ | refine below_alloc ?_ _ | refine below_drew ?_ | refine eset ?_ (by simp only []; omega)))⟩
set_option maxHeartbeats 3200000 in
set_option maxRecDepth 100000 in
theorem enc_74 (k : Nat) (a0 a1 a2 a3 a4 c f3 f7 : Int) (w : World) (hok : Aside0 (impl_InstOk.f k a0 a1 a2 a3 a4 = some true)) (hp : Aside0 (impl_partsOf.f a0 = some (c, f3, f7))) (hf : Aside0 (impl_formOf.f k a0 = some 74)) :
    Calls Try.prog 31 #[.agg #[.int .i64 a0, .int .i64 a1, .int .i64 a2, .int .i64 a3, .int .i64 a4]] w fun e w' => e = .returned (.tuple #[.int .i64 (Go.bits .or .i64 c (Go.bits .or .i64 (Go.bits .or .i64 (Go.bits .or .i64 (Go.bits .or .i64 (wrap64 ((fldb 20 20 a4) * 2147483648)) (wrap64 ((fldb 10 1 a4) * 2097152))) (wrap64 ((fldb 11 11 a4) * 1048576))) (wrap64 ((fldb 19 12 a4) * 4096))) (wrap64 (a1 * 128)))), .bool true]) ∧ Below w.heap.size w w' := by
  have hu35 := Try.underlying35
  go_enter Try.func31, Try.ntmps31
  go_wp2_with (first
    | (go_at_call 26; (with_reducible refine (impl_InstOk.calls k a0 a1 a2 a3 a4 true _ hok.out).mono ?_); rintro e w1 ⟨rfl, hb1⟩; have HB := Aside0.mk (below_step (below_alloc (Below.refl w.heap.size w) _) hb1); have hc0 := pw_cell_below hb1 (a := ⟨w.heap.size, 0, none⟩) (v := .int .i64 a0) (by go_simp); have hc1 := pw_cell_below hb1 (a := ⟨w.heap.size, 1, none⟩) (v := .int .i64 a1) (by go_simp); have hc2 := pw_cell_below hb1 (a := ⟨w.heap.size, 2, none⟩) (v := .int .i64 a2) (by go_simp); have hc3 := pw_cell_below hb1 (a := ⟨w.heap.size, 3, none⟩) (v := .int .i64 a3) (by go_simp); have hc4 := pw_cell_below hb1 (a := ⟨w.heap.size, 4, none⟩) (v := .int .i64 a4) (by go_simp); clear hb1)
    | (go_at_call 59; (with_reducible refine (impl_partsOf.calls a0 c f3 f7 _ hp.out).mono ?_); rintro e w2 ⟨rfl, hb2⟩; have HB2 := Aside0.mk (below_step HB.out hb2); replace hc0 := pw_cell_below hb2 hc0; replace hc1 := pw_cell_below hb2 hc1; replace hc2 := pw_cell_below hb2 hc2; replace hc3 := pw_cell_below hb2 hc3; replace hc4 := pw_cell_below hb2 hc4; clear HB; have HB := HB2; clear hb2 HB2)
    | (go_at_call 47; (with_reducible refine (impl_formOf.calls k a0 74 _ hf.out).mono ?_); rintro e w3 ⟨rfl, hd3⟩; have hb3 := hd3.below; have HB2 := Aside0.mk (below_step HB.out hb3); replace hc0 := pw_cell_below hb3 hc0; replace hc1 := pw_cell_below hb3 hc1; replace hc2 := pw_cell_below hb3 hc2; replace hc3 := pw_cell_below hb3 hc3; replace hc4 := pw_cell_below hb3 hc4; clear HB; have HB := HB2; clear hb3 HB2 hd3))
  go_quiet (((go_at_call 60; exact Calls.quiet_of (imm_any _ _ a4 _ _ (by decide) (by first | exact hc4 | go_simp)))))
  go_wp2_with fail
  go_ret2
  exact ⟨by first | rfl | (simp; done), (by repeat (first | exact Below.refl _ _ | exact HB.out | refine pw_below_drewN ?_ _ | refine below_alloc ?_ _ | refine below_drew ?_ | refine eset ?_ (by simp only []; omega)))⟩
set_option maxHeartbeats 3200000 in
set_option maxRecDepth 100000 in
theorem enc_69b (k : Nat) (a0 a1 a2 a3 a4 c f3 f7 : Int) (w : World) (hok : Aside0 (impl_InstOk.f k a0 a1 a2 a3 a4 = some true)) (hp : Aside0 (impl_partsOf.f a0 = some (c, f3, f7))) (hf : Aside0 (impl_formOf.f k a0 = some 69)) (e0 : (a0 == 47) = true) :
    Calls Try.prog 31 #[.agg #[.int .i64 a0, .int .i64 a1, .int .i64 a2, .int .i64 a3, .int .i64 a4]] w fun e w' => e = .returned (.tuple #[.int .i64 (Go.bits .or .i64 c 1048576), .bool true]) ∧ Below w.heap.size w w' := by
  have hu35 := Try.underlying35
  go_enter Try.func31, Try.ntmps31
  go_wp2_with (first
    | (go_at_call 26; (with_reducible refine (impl_InstOk.calls k a0 a1 a2 a3 a4 true _ hok.out).mono ?_); rintro e w1 ⟨rfl, hb1⟩; have HB := Aside0.mk (below_step (below_alloc (Below.refl w.heap.size w) _) hb1); have hc0 := pw_cell_below hb1 (a := ⟨w.heap.size, 0, none⟩) (v := .int .i64 a0) (by go_simp); have hc1 := pw_cell_below hb1 (a := ⟨w.heap.size, 1, none⟩) (v := .int .i64 a1) (by go_simp); have hc2 := pw_cell_below hb1 (a := ⟨w.heap.size, 2, none⟩) (v := .int .i64 a2) (by go_simp); have hc3 := pw_cell_below hb1 (a := ⟨w.heap.size, 3, none⟩) (v := .int .i64 a3) (by go_simp); have hc4 := pw_cell_below hb1 (a := ⟨w.heap.size, 4, none⟩) (v := .int .i64 a4) (by go_simp); clear hb1)
    | (go_at_call 59; (with_reducible refine (impl_partsOf.calls a0 c f3 f7 _ hp.out).mono ?_); rintro e w2 ⟨rfl, hb2⟩; have HB2 := Aside0.mk (below_step HB.out hb2); replace hc0 := pw_cell_below hb2 hc0; replace hc1 := pw_cell_below hb2 hc1; replace hc2 := pw_cell_below hb2 hc2; replace hc3 := pw_cell_below hb2 hc3; replace hc4 := pw_cell_below hb2 hc4; clear HB; have HB := HB2; clear hb2 HB2)
    | (go_at_call 47; (with_reducible refine (impl_formOf.calls k a0 69 _ hf.out).mono ?_); rintro e w3 ⟨rfl, hd3⟩; have hb3 := hd3.below; have HB2 := Aside0.mk (below_step HB.out hb3); replace hc0 := pw_cell_below hb3 hc0; replace hc1 := pw_cell_below hb3 hc1; replace hc2 := pw_cell_below hb3 hc2; replace hc3 := pw_cell_below hb3 hc3; replace hc4 := pw_cell_below hb3 hc4; clear HB; have HB := HB2; clear hb3 HB2 hd3))
  
  
  go_ret2
  exact ⟨by first | rfl | (simp; done), (by repeat (first | exact Below.refl _ _ | exact HB.out | refine pw_below_drewN ?_ _ | refine below_alloc ?_ _ | refine below_drew ?_ | refine eset ?_ (by simp only []; omega)))⟩
set_option maxHeartbeats 3200000 in
set_option maxRecDepth 100000 in
theorem enc_69c (k : Nat) (a0 a1 a2 a3 a4 c f3 f7 : Int) (w : World) (hok : Aside0 (impl_InstOk.f k a0 a1 a2 a3 a4 = some true)) (hp : Aside0 (impl_partsOf.f a0 = some (c, f3, f7))) (hf : Aside0 (impl_formOf.f k a0 = some 69)) (e0 : (a0 == 47) = false) :
    Calls Try.prog 31 #[.agg #[.int .i64 a0, .int .i64 a1, .int .i64 a2, .int .i64 a3, .int .i64 a4]] w fun e w' => e = .returned (.tuple #[.int .i64 (c), .bool true]) ∧ Below w.heap.size w w' := by
  have hu35 := Try.underlying35
  go_enter Try.func31, Try.ntmps31
  go_wp2_with (first
    | (go_at_call 26; (with_reducible refine (impl_InstOk.calls k a0 a1 a2 a3 a4 true _ hok.out).mono ?_); rintro e w1 ⟨rfl, hb1⟩; have HB := Aside0.mk (below_step (below_alloc (Below.refl w.heap.size w) _) hb1); have hc0 := pw_cell_below hb1 (a := ⟨w.heap.size, 0, none⟩) (v := .int .i64 a0) (by go_simp); have hc1 := pw_cell_below hb1 (a := ⟨w.heap.size, 1, none⟩) (v := .int .i64 a1) (by go_simp); have hc2 := pw_cell_below hb1 (a := ⟨w.heap.size, 2, none⟩) (v := .int .i64 a2) (by go_simp); have hc3 := pw_cell_below hb1 (a := ⟨w.heap.size, 3, none⟩) (v := .int .i64 a3) (by go_simp); have hc4 := pw_cell_below hb1 (a := ⟨w.heap.size, 4, none⟩) (v := .int .i64 a4) (by go_simp); clear hb1)
    | (go_at_call 59; (with_reducible refine (impl_partsOf.calls a0 c f3 f7 _ hp.out).mono ?_); rintro e w2 ⟨rfl, hb2⟩; have HB2 := Aside0.mk (below_step HB.out hb2); replace hc0 := pw_cell_below hb2 hc0; replace hc1 := pw_cell_below hb2 hc1; replace hc2 := pw_cell_below hb2 hc2; replace hc3 := pw_cell_below hb2 hc3; replace hc4 := pw_cell_below hb2 hc4; clear HB; have HB := HB2; clear hb2 HB2)
    | (go_at_call 47; (with_reducible refine (impl_formOf.calls k a0 69 _ hf.out).mono ?_); rintro e w3 ⟨rfl, hd3⟩; have hb3 := hd3.below; have HB2 := Aside0.mk (below_step HB.out hb3); replace hc0 := pw_cell_below hb3 hc0; replace hc1 := pw_cell_below hb3 hc1; replace hc2 := pw_cell_below hb3 hc2; replace hc3 := pw_cell_below hb3 hc3; replace hc4 := pw_cell_below hb3 hc4; clear HB; have HB := HB2; clear hb3 HB2 hd3))
  
  
  go_ret2
  exact ⟨by first | rfl | (simp; done), (by repeat (first | exact Below.refl _ _ | exact HB.out | refine pw_below_drewN ?_ _ | refine below_alloc ?_ _ | refine below_drew ?_ | refine eset ?_ (by simp only []; omega)))⟩
set_option maxHeartbeats 1600000 in
set_option maxRecDepth 100000 in
theorem enc_no (k : Nat) (a0 a1 a2 a3 a4 : Int) (w : World) (hok : Aside0 (impl_InstOk.f k a0 a1 a2 a3 a4 = some false)) :
    Calls Try.prog 31 #[.agg #[.int .i64 a0, .int .i64 a1, .int .i64 a2, .int .i64 a3, .int .i64 a4]] w fun e w' => e = .returned (.tuple #[.int .i64 0, .bool false]) ∧ Below w.heap.size w w' := by
  have hu35 := Try.underlying35
  go_enter Try.func31, Try.ntmps31
  go_wp2_with (first
    | (go_at_call 26; (with_reducible refine (impl_InstOk.calls k a0 a1 a2 a3 a4 false _ hok.out).mono ?_); rintro e w1 ⟨rfl, hb1⟩; have HB := Aside0.mk (below_step (below_alloc (Below.refl w.heap.size w) _) hb1); clear hb1))
  go_ret2
  exact ⟨rfl, HB.out⟩
theorem impl_EncodeInst.calls (k : Nat) (a0 a1 a2 a3 a4 : Int) (r1 : Int) (r2 : Bool) (w : World) (h : impl_EncodeInst.f k a0 a1 a2 a3 a4 = some (r1, r2)) :
    Calls Try.prog 31 #[.agg #[.int .i64 a0, .int .i64 a1, .int .i64 a2, .int .i64 a3, .int .i64 a4]] w fun e w' => e = .returned (.tuple #[.int .i64 r1, .bool r2]) ∧ Below w.heap.size w w' := by
  unfold impl_EncodeInst.f at h
  obtain ⟨b, hok, h⟩ := Option.bind_eq_some_iff.mp h
  cases b
  · simp at h; obtain ⟨rfl, rfl⟩ := h; exact enc_no k a0 a1 a2 a3 a4 w ⟨hok⟩
  rw [if_pos rfl] at h
  obtain ⟨⟨c, f3, f7⟩, hp, h⟩ := Option.bind_eq_some_iff.mp h
  obtain ⟨f, hf, h⟩ := Option.bind_eq_some_iff.mp h
  dsimp only at h
  by_cases c82 : f = 82
  · subst c82
    rw [if_pos rfl] at h
    simp only [Option.some.injEq, Prod.mk.injEq] at h; obtain ⟨rfl, rfl⟩ := h; exact enc_82 k a0 a1 a2 a3 a4 _ f3 f7 w ⟨hok⟩ ⟨hp⟩ ⟨hf⟩
  rw [if_neg c82] at h
  by_cases c73 : f = 73
  · subst c73
    rw [if_pos rfl] at h
    simp only [Option.some.injEq, Prod.mk.injEq] at h; obtain ⟨rfl, rfl⟩ := h; exact enc_73 k a0 a1 a2 a3 a4 _ f3 f7 w ⟨hok⟩ ⟨hp⟩ ⟨hf⟩
  rw [if_neg c73] at h
  by_cases c72 : f = 72
  · subst c72
    rw [if_pos rfl] at h
    simp only [Option.some.injEq, Prod.mk.injEq] at h; obtain ⟨rfl, rfl⟩ := h; exact enc_72 k a0 a1 a2 a3 a4 _ f3 f7 w ⟨hok⟩ ⟨hp⟩ ⟨hf⟩
  rw [if_neg c72] at h
  by_cases c83 : f = 83
  · subst c83
    rw [if_pos rfl] at h
    simp only [Option.some.injEq, Prod.mk.injEq] at h; obtain ⟨rfl, rfl⟩ := h; exact enc_83 k a0 a1 a2 a3 a4 _ f3 f7 w ⟨hok⟩ ⟨hp⟩ ⟨hf⟩
  rw [if_neg c83] at h
  by_cases c66 : f = 66
  · subst c66
    rw [if_pos rfl] at h
    simp only [Option.some.injEq, Prod.mk.injEq] at h; obtain ⟨rfl, rfl⟩ := h; exact enc_66 k a0 a1 a2 a3 a4 _ f3 f7 w ⟨hok⟩ ⟨hp⟩ ⟨hf⟩
  rw [if_neg c66] at h
  by_cases c85 : f = 85
  · subst c85
    rw [if_pos rfl] at h
    simp only [Option.some.injEq, Prod.mk.injEq] at h; obtain ⟨rfl, rfl⟩ := h; exact enc_85 k a0 a1 a2 a3 a4 _ f3 f7 w ⟨hok⟩ ⟨hp⟩ ⟨hf⟩
  rw [if_neg c85] at h
  by_cases c74 : f = 74
  · subst c74
    rw [if_pos rfl] at h
    simp only [Option.some.injEq, Prod.mk.injEq] at h; obtain ⟨rfl, rfl⟩ := h; exact enc_74 k a0 a1 a2 a3 a4 _ f3 f7 w ⟨hok⟩ ⟨hp⟩ ⟨hf⟩
  rw [if_neg c74] at h
  by_cases c69 : f = 69
  · subst c69
    rw [if_pos rfl] at h
    by_cases cc : a0 = 47
    · rw [if_pos cc] at h; obtain ⟨rfl, rfl⟩ := Prod.mk.inj (Option.some.inj h); exact enc_69b k a0 a1 a2 a3 a4 _ f3 f7 w ⟨hok⟩ ⟨hp⟩ ⟨hf⟩ (beq_iff_eq.mpr cc)
    · rw [if_neg cc] at h; obtain ⟨rfl, rfl⟩ := Prod.mk.inj (Option.some.inj h); exact enc_69c k a0 a1 a2 a3 a4 _ f3 f7 w ⟨hok⟩ ⟨hp⟩ ⟨hf⟩ (beq_eq_false_iff_ne.mpr cc)
  rw [if_neg c69] at h
  cases h
/-! ### laws_FnExactEncodeInst: function 12 -/
def laws_FnExactEncodeInst.f (k : Nat) (a0_0 : Int) (a0_1 : Int) (a0_2 : Int) (a0_3 : Int) (a0_4 : Int) : Option (Bool) := (laws_toInst.f a0_0 a0_1 a0_2 a0_3 a0_4).bind fun bt169 => ((spec_EncodeInst.f k bt169.1 bt169.2.1 bt169.2.2.1 bt169.2.2.2.1 bt169.2.2.2.2).bind fun bt174 => ((laws_toInst.f a0_0 a0_1 a0_2 a0_3 a0_4).bind fun bt176 => ((impl_EncodeInst.f k bt176.1 bt176.2.1 bt176.2.2.1 bt176.2.2.2.1 bt176.2.2.2.2).bind fun bt181 => (if bt181.1 = bt174.1 then (if (bt181.2 != bt174.2) = true then (some false) else (some true)) else (some false)))))
theorem laws_FnExactEncodeInst.mono : ∀ a0 a1 a2 a3 a4 k, LeO (laws_FnExactEncodeInst.f k a0 a1 a2 a3 a4) (laws_FnExactEncodeInst.f (k + 1) a0 a1 a2 a3 a4) := by
  intro a0 a1 a2 a3 a4 k
  unfold laws_FnExactEncodeInst.f
  repeat' first
      | (with_reducible exact impl_EncodeInst.mono _ _ _ _ _ _)
      | (with_reducible exact spec_EncodeInst.mono _ _ _ _ _ _)
      | (with_reducible exact LeO.refl _)
      | (with_reducible exact LeO.none _)
      | (with_reducible refine LeO.ite ?_ ?_)
      | (with_reducible refine LeO.bind ?_ (fun _ => ?_))
      | exact impl_EncodeInst.mono _ _ _ _ _ _
      | exact spec_EncodeInst.mono _ _ _ _ _ _
      | exact LeO.none _
      | refine LeO.ite ?_ ?_
      | refine LeO.bind ?_ (fun _ => ?_)
set_option maxHeartbeats 8000000 in
set_option maxRecDepth 100000 in
theorem laws_FnExactEncodeInst.calls (k : Nat) (a0_0 : Int) (a0_1 : Int) (a0_2 : Int) (a0_3 : Int) (a0_4 : Int) (r : Bool) (w : World) (h : laws_FnExactEncodeInst.f k a0_0 a0_1 a0_2 a0_3 a0_4 = some r) :
    Calls Try.prog 12 #[.agg #[.int .i64 a0_0, .int .i64 a0_1, .int .i64 a0_2, .int .i64 a0_3, .int .i64 a0_4]] w fun e w' => e = .returned (.bool r) ∧ Below w.heap.size w w' := by
  have hu33 := Try.underlying33
  have HB := Aside0.mk (Below.refl w.heap.size w)
  have H : ((laws_toInst.f a0_0 a0_1 a0_2 a0_3 a0_4).bind fun bt169 => ((spec_EncodeInst.f k bt169.1 bt169.2.1 bt169.2.2.1 bt169.2.2.2.1 bt169.2.2.2.2).bind fun bt174 => ((laws_toInst.f a0_0 a0_1 a0_2 a0_3 a0_4).bind fun bt176 => ((impl_EncodeInst.f k bt176.1 bt176.2.1 bt176.2.2.1 bt176.2.2.2.1 bt176.2.2.2.2).bind fun bt181 => (if bt181.1 = bt174.1 then (if (bt181.2 != bt174.2) = true then (some false) else (some true)) else (some false)))))) = some r := h
  clear h
  replace H := Option.bind_eq_some_iff.mp H
  obtain ⟨⟨t169, t170, t171, t172, t173⟩, A20, H⟩ := H
  replace H : ((spec_EncodeInst.f k t169 t170 t171 t172 t173).bind fun bt174 => ((laws_toInst.f a0_0 a0_1 a0_2 a0_3 a0_4).bind fun bt176 => ((impl_EncodeInst.f k bt176.1 bt176.2.1 bt176.2.2.1 bt176.2.2.2.1 bt176.2.2.2.2).bind fun bt181 => (if bt181.1 = bt174.1 then (if (bt181.2 != bt174.2) = true then (some false) else (some true)) else (some false))))) = some r := H
  have A2 := Aside0.mk A20
  clear A20
  replace H := Option.bind_eq_some_iff.mp H
  obtain ⟨⟨t174, t175⟩, A30, H⟩ := H
  replace H : ((laws_toInst.f a0_0 a0_1 a0_2 a0_3 a0_4).bind fun bt176 => ((impl_EncodeInst.f k bt176.1 bt176.2.1 bt176.2.2.1 bt176.2.2.2.1 bt176.2.2.2.2).bind fun bt181 => (if bt181.1 = t174 then (if (bt181.2 != t175) = true then (some false) else (some true)) else (some false)))) = some r := H
  have A3 := Aside0.mk A30
  clear A30
  replace H := Option.bind_eq_some_iff.mp H
  obtain ⟨⟨t176, t177, t178, t179, t180⟩, A40, H⟩ := H
  replace H : ((impl_EncodeInst.f k t176 t177 t178 t179 t180).bind fun bt181 => (if bt181.1 = t174 then (if (bt181.2 != t175) = true then (some false) else (some true)) else (some false))) = some r := H
  have A4 := Aside0.mk A40
  clear A40
  replace H := Option.bind_eq_some_iff.mp H
  obtain ⟨⟨t181, t182⟩, A50, H⟩ := H
  replace H : (if t181 = t174 then (if (t182 != t175) = true then (some false) else (some true)) else (some false)) = some r := H
  have A5 := Aside0.mk A50
  clear A50
  by_cases c6 : t181 = t174
  · rw [if_pos c6] at H
    have c6b0 : (t181 == t174) = true := beq_iff_eq.mpr c6
    have c6b1 : (t181 != t174) = false := bne_eq_false_iff_eq.mpr c6
    clear c6
    by_cases c7 : (t182 != t175) = true
    · rw [if_pos c7] at H
      have c7b0 : (t182 != t175) = true := c7
      (try (have c7b1 : decide (t182 = t175) = false := by simpa using c7))
      (try (have c7b2 : (t182 == t175) = false := by simpa using c7))
      (try (have c7b3 : ¬ (t182 = t175) := by simpa using c7))
      clear c7
      obtain rfl := Option.some.inj H
      go_enter Try.func12, Try.ntmps12
      go_wp2_with (first | ((with_reducible refine gate_dst (N := 1) rfl ?_); refine box_event ?hg (N := 1) ?hd (cs := #[.int .i64 a0_0, .int .i64 a0_1, .int .i64 a0_2, .int .i64 a0_3, .int .i64 a0_4]) (t := 33) ?hr ?_; (case hd => rfl); (case hg => rfl); (case hr => first | (go_simp; done) | (go_simp; rfl)); intro gb168 hg w8 hbox hb; have n0_ := Aside0.mk (below_step (by repeat (first | (with_reducible first | exact HB.out | apply below_alloc | apply pw_below_drewN | apply below_drew1) | exact HB.out)) hb); have n1_ := Aside0.mk (hbox); have n2_ := Aside0.mk ((by rw [hg]; exact (below_size (by repeat (first | (with_reducible first | exact HB.out | apply below_alloc | apply pw_below_drewN | apply below_drew1) | exact HB.out))) : w.heap.size ≤ gb168)); have n3_ := Aside0.mk ((by rw [hg]; exact (below_size (by repeat (first | (with_reducible first | exact HB.out | apply below_alloc | apply pw_below_drewN | apply below_drew1) | exact HB.out))) : w.heap.size ≤ gb168)); clear HB; have HB := n0_; have BK168 := n1_; have GW168 := n2_; have GE168 := n3_; clear n0_ n1_ n2_ n3_; clear hb hbox hg; have hcz9_0 : w8.cell? ⟨gb168, 0, none⟩ = some (.int .i64 a0_0) := (blk_cell BK168.out 0).trans rfl; have hcz9_1 : w8.cell? ⟨gb168, 1, none⟩ = some (.int .i64 a0_1) := (blk_cell BK168.out 1).trans rfl; have hcz9_2 : w8.cell? ⟨gb168, 2, none⟩ = some (.int .i64 a0_2) := (blk_cell BK168.out 2).trans rfl; have hcz9_3 : w8.cell? ⟨gb168, 3, none⟩ = some (.int .i64 a0_3) := (blk_cell BK168.out 3).trans rfl; have hcz9_4 : w8.cell? ⟨gb168, 4, none⟩ = some (.int .i64 a0_4) := (blk_cell BK168.out 4).trans rfl; have hfz9_0 := blk_frozen BK168.out 0; have hfz9_1 := blk_frozen BK168.out 1; have hfz9_2 := blk_frozen BK168.out 2; have hfz9_3 := blk_frozen BK168.out 3; have hfz9_4 := blk_frozen BK168.out 4) | ((with_reducible refine gate_callee (f := 25) rfl ?_); refine goesL_ (some 9) rfl rfl Try.func25 (by kernel_rfl) rfl #[.agg #[.int .i64 a0_0, .int .i64 a0_1, .int .i64 a0_2, .int .i64 a0_3, .int .i64 a0_4]] rfl (by (try simp only [List.map_toArray, List.map_cons, List.map_nil]); first | done | rfl | (simp only [List.length_drop, List.length_take]; rfl)) ?_; (with_reducible refine (laws_toInst.calls a0_0 a0_1 a0_2 a0_3 a0_4 t169 t170 t171 t172 t173 _ A2.out).mono ?_); rintro e w10 ⟨rfl, hb⟩; refine ⟨_, rfl, ?_⟩; have n0_ := Aside0.mk (blk_below (g := gb168) (o := .cells #[.int .i64 a0_0, .int .i64 a0_1, .int .i64 a0_2, .int .i64 a0_3, .int .i64 a0_4] 33 (0, 0)) (by (with_reducible repeat (first | refine blk_drewN ?_ _ | refine blk_drew ?_ | refine blk_alloc ?_ _)); exact BK168.out) hb); have n1_ := Aside0.mk (below_step (by repeat (first | (with_reducible first | exact HB.out | apply below_alloc | apply pw_below_drewN | apply below_drew1 | refine below_set ?_ GE168.out) | exact HB.out)) hb); clear BK168; clear HB; have BK168 := n0_; have HB := n1_; clear n0_ n1_; (try clear hb); (try clear hb2); (try clear hk); (try clear hi)) | ((with_reducible refine gate_callee (f := 30) rfl ?_); refine goesL_ (some 10) rfl rfl Try.func30 (by kernel_rfl) rfl #[.agg #[.int .i64 t169, .int .i64 t170, .int .i64 t171, .int .i64 t172, .int .i64 t173]] rfl (by (try simp only [List.map_toArray, List.map_cons, List.map_nil]); first | done | rfl | (simp only [List.length_drop, List.length_take]; rfl)) ?_; (with_reducible refine (spec_EncodeInst.calls k t169 t170 t171 t172 t173 t174 t175 _ A3.out).mono ?_); rintro e w11 ⟨rfl, hb⟩; refine ⟨_, rfl, ?_⟩; have n0_ := Aside0.mk (blk_below (g := gb168) (o := .cells #[.int .i64 a0_0, .int .i64 a0_1, .int .i64 a0_2, .int .i64 a0_3, .int .i64 a0_4] 33 (0, 0)) (by (with_reducible repeat (first | refine blk_drewN ?_ _ | refine blk_drew ?_ | refine blk_alloc ?_ _)); exact BK168.out) hb); have n1_ := Aside0.mk (below_step (by repeat (first | (with_reducible first | exact HB.out | apply below_alloc | apply pw_below_drewN | apply below_drew1 | refine below_set ?_ GE168.out) | exact HB.out)) hb); clear BK168; clear HB; have BK168 := n0_; have HB := n1_; clear n0_ n1_; (try clear hb); (try clear hb2); (try clear hk); (try clear hi); have hcz12_0 : w11.cell? ⟨gb168, 0, none⟩ = some (.int .i64 a0_0) := (blk_cell BK168.out 0).trans rfl; have hcz12_1 : w11.cell? ⟨gb168, 1, none⟩ = some (.int .i64 a0_1) := (blk_cell BK168.out 1).trans rfl; have hcz12_2 : w11.cell? ⟨gb168, 2, none⟩ = some (.int .i64 a0_2) := (blk_cell BK168.out 2).trans rfl; have hcz12_3 : w11.cell? ⟨gb168, 3, none⟩ = some (.int .i64 a0_3) := (blk_cell BK168.out 3).trans rfl; have hcz12_4 : w11.cell? ⟨gb168, 4, none⟩ = some (.int .i64 a0_4) := (blk_cell BK168.out 4).trans rfl; have hfz12_0 := blk_frozen BK168.out 0; have hfz12_1 := blk_frozen BK168.out 1; have hfz12_2 := blk_frozen BK168.out 2; have hfz12_3 := blk_frozen BK168.out 3; have hfz12_4 := blk_frozen BK168.out 4) | ((with_reducible refine gate_callee (f := 25) rfl ?_); refine goesL_ (some 15) rfl rfl Try.func25 (by kernel_rfl) rfl #[.agg #[.int .i64 a0_0, .int .i64 a0_1, .int .i64 a0_2, .int .i64 a0_3, .int .i64 a0_4]] rfl (by (try simp only [List.map_toArray, List.map_cons, List.map_nil]); first | done | rfl | (simp only [List.length_drop, List.length_take]; rfl)) ?_; (with_reducible refine (laws_toInst.calls a0_0 a0_1 a0_2 a0_3 a0_4 t176 t177 t178 t179 t180 _ A4.out).mono ?_); rintro e w13 ⟨rfl, hb⟩; refine ⟨_, rfl, ?_⟩; have n0_ := Aside0.mk (blk_below (g := gb168) (o := .cells #[.int .i64 a0_0, .int .i64 a0_1, .int .i64 a0_2, .int .i64 a0_3, .int .i64 a0_4] 33 (0, 0)) (by (with_reducible repeat (first | refine blk_drewN ?_ _ | refine blk_drew ?_ | refine blk_alloc ?_ _)); exact BK168.out) hb); have n1_ := Aside0.mk (below_step (by repeat (first | (with_reducible first | exact HB.out | apply below_alloc | apply pw_below_drewN | apply below_drew1 | refine below_set ?_ GE168.out) | exact HB.out)) hb); clear BK168; clear HB; have BK168 := n0_; have HB := n1_; clear n0_ n1_; (try clear hb); (try clear hb2); (try clear hk); (try clear hi)) | ((with_reducible refine gate_callee (f := 31) rfl ?_); refine goesL_ (some 16) rfl rfl Try.func31 (by kernel_rfl) rfl #[.agg #[.int .i64 t176, .int .i64 t177, .int .i64 t178, .int .i64 t179, .int .i64 t180]] rfl (by (try simp only [List.map_toArray, List.map_cons, List.map_nil]); first | done | rfl | (simp only [List.length_drop, List.length_take]; rfl)) ?_; (with_reducible refine (impl_EncodeInst.calls k t176 t177 t178 t179 t180 t181 t182 _ A5.out).mono ?_); rintro e w14 ⟨rfl, hb⟩; refine ⟨_, rfl, ?_⟩; have n0_ := Aside0.mk (blk_below (g := gb168) (o := .cells #[.int .i64 a0_0, .int .i64 a0_1, .int .i64 a0_2, .int .i64 a0_3, .int .i64 a0_4] 33 (0, 0)) (by (with_reducible repeat (first | refine blk_drewN ?_ _ | refine blk_drew ?_ | refine blk_alloc ?_ _)); exact BK168.out) hb); have n1_ := Aside0.mk (below_step (by repeat (first | (with_reducible first | exact HB.out | apply below_alloc | apply pw_below_drewN | apply below_drew1 | refine below_set ?_ GE168.out) | exact HB.out)) hb); clear BK168; clear HB; have BK168 := n0_; have HB := n1_; clear n0_ n1_; (try clear hb); (try clear hb2); (try clear hk); (try clear hi)))
      go_ret
      exact ⟨by first | rfl | (simp [errW_none, errW_some] <;> rfl) | (simp [*, errW_none, errW_some] <;> rfl), by repeat (first | (with_reducible first | exact HB.out | apply below_alloc | apply pw_below_drewN | apply below_drew1 | refine below_set ?_ GE168.out) | exact HB.out)⟩
    · rw [if_neg c7] at H
      have c7b0 : (t182 != t175) = false := by simpa using c7
      (try (have c7b1 : decide (t182 = t175) = true := by simpa using c7))
      (try (have c7b2 : (t182 == t175) = true := by simpa using c7))
      clear c7
      obtain rfl := Option.some.inj H
      go_enter Try.func12, Try.ntmps12
      go_wp2_with (first | ((with_reducible refine gate_dst (N := 1) rfl ?_); refine box_event ?hg (N := 1) ?hd (cs := #[.int .i64 a0_0, .int .i64 a0_1, .int .i64 a0_2, .int .i64 a0_3, .int .i64 a0_4]) (t := 33) ?hr ?_; (case hd => rfl); (case hg => rfl); (case hr => first | (go_simp; done) | (go_simp; rfl)); intro gb168 hg w15 hbox hb; have n0_ := Aside0.mk (below_step (by repeat (first | (with_reducible first | exact HB.out | apply below_alloc | apply pw_below_drewN | apply below_drew1) | exact HB.out)) hb); have n1_ := Aside0.mk (hbox); have n2_ := Aside0.mk ((by rw [hg]; exact (below_size (by repeat (first | (with_reducible first | exact HB.out | apply below_alloc | apply pw_below_drewN | apply below_drew1) | exact HB.out))) : w.heap.size ≤ gb168)); have n3_ := Aside0.mk ((by rw [hg]; exact (below_size (by repeat (first | (with_reducible first | exact HB.out | apply below_alloc | apply pw_below_drewN | apply below_drew1) | exact HB.out))) : w.heap.size ≤ gb168)); clear HB; have HB := n0_; have BK168 := n1_; have GW168 := n2_; have GE168 := n3_; clear n0_ n1_ n2_ n3_; clear hb hbox hg; have hcz16_0 : w15.cell? ⟨gb168, 0, none⟩ = some (.int .i64 a0_0) := (blk_cell BK168.out 0).trans rfl; have hcz16_1 : w15.cell? ⟨gb168, 1, none⟩ = some (.int .i64 a0_1) := (blk_cell BK168.out 1).trans rfl; have hcz16_2 : w15.cell? ⟨gb168, 2, none⟩ = some (.int .i64 a0_2) := (blk_cell BK168.out 2).trans rfl; have hcz16_3 : w15.cell? ⟨gb168, 3, none⟩ = some (.int .i64 a0_3) := (blk_cell BK168.out 3).trans rfl; have hcz16_4 : w15.cell? ⟨gb168, 4, none⟩ = some (.int .i64 a0_4) := (blk_cell BK168.out 4).trans rfl; have hfz16_0 := blk_frozen BK168.out 0; have hfz16_1 := blk_frozen BK168.out 1; have hfz16_2 := blk_frozen BK168.out 2; have hfz16_3 := blk_frozen BK168.out 3; have hfz16_4 := blk_frozen BK168.out 4) | ((with_reducible refine gate_callee (f := 25) rfl ?_); refine goesL_ (some 9) rfl rfl Try.func25 (by kernel_rfl) rfl #[.agg #[.int .i64 a0_0, .int .i64 a0_1, .int .i64 a0_2, .int .i64 a0_3, .int .i64 a0_4]] rfl (by (try simp only [List.map_toArray, List.map_cons, List.map_nil]); first | done | rfl | (simp only [List.length_drop, List.length_take]; rfl)) ?_; (with_reducible refine (laws_toInst.calls a0_0 a0_1 a0_2 a0_3 a0_4 t169 t170 t171 t172 t173 _ A2.out).mono ?_); rintro e w17 ⟨rfl, hb⟩; refine ⟨_, rfl, ?_⟩; have n0_ := Aside0.mk (blk_below (g := gb168) (o := .cells #[.int .i64 a0_0, .int .i64 a0_1, .int .i64 a0_2, .int .i64 a0_3, .int .i64 a0_4] 33 (0, 0)) (by (with_reducible repeat (first | refine blk_drewN ?_ _ | refine blk_drew ?_ | refine blk_alloc ?_ _)); exact BK168.out) hb); have n1_ := Aside0.mk (below_step (by repeat (first | (with_reducible first | exact HB.out | apply below_alloc | apply pw_below_drewN | apply below_drew1 | refine below_set ?_ GE168.out) | exact HB.out)) hb); clear BK168; clear HB; have BK168 := n0_; have HB := n1_; clear n0_ n1_; (try clear hb); (try clear hb2); (try clear hk); (try clear hi)) | ((with_reducible refine gate_callee (f := 30) rfl ?_); refine goesL_ (some 10) rfl rfl Try.func30 (by kernel_rfl) rfl #[.agg #[.int .i64 t169, .int .i64 t170, .int .i64 t171, .int .i64 t172, .int .i64 t173]] rfl (by (try simp only [List.map_toArray, List.map_cons, List.map_nil]); first | done | rfl | (simp only [List.length_drop, List.length_take]; rfl)) ?_; (with_reducible refine (spec_EncodeInst.calls k t169 t170 t171 t172 t173 t174 t175 _ A3.out).mono ?_); rintro e w18 ⟨rfl, hb⟩; refine ⟨_, rfl, ?_⟩; have n0_ := Aside0.mk (blk_below (g := gb168) (o := .cells #[.int .i64 a0_0, .int .i64 a0_1, .int .i64 a0_2, .int .i64 a0_3, .int .i64 a0_4] 33 (0, 0)) (by (with_reducible repeat (first | refine blk_drewN ?_ _ | refine blk_drew ?_ | refine blk_alloc ?_ _)); exact BK168.out) hb); have n1_ := Aside0.mk (below_step (by repeat (first | (with_reducible first | exact HB.out | apply below_alloc | apply pw_below_drewN | apply below_drew1 | refine below_set ?_ GE168.out) | exact HB.out)) hb); clear BK168; clear HB; have BK168 := n0_; have HB := n1_; clear n0_ n1_; (try clear hb); (try clear hb2); (try clear hk); (try clear hi); have hcz19_0 : w18.cell? ⟨gb168, 0, none⟩ = some (.int .i64 a0_0) := (blk_cell BK168.out 0).trans rfl; have hcz19_1 : w18.cell? ⟨gb168, 1, none⟩ = some (.int .i64 a0_1) := (blk_cell BK168.out 1).trans rfl; have hcz19_2 : w18.cell? ⟨gb168, 2, none⟩ = some (.int .i64 a0_2) := (blk_cell BK168.out 2).trans rfl; have hcz19_3 : w18.cell? ⟨gb168, 3, none⟩ = some (.int .i64 a0_3) := (blk_cell BK168.out 3).trans rfl; have hcz19_4 : w18.cell? ⟨gb168, 4, none⟩ = some (.int .i64 a0_4) := (blk_cell BK168.out 4).trans rfl; have hfz19_0 := blk_frozen BK168.out 0; have hfz19_1 := blk_frozen BK168.out 1; have hfz19_2 := blk_frozen BK168.out 2; have hfz19_3 := blk_frozen BK168.out 3; have hfz19_4 := blk_frozen BK168.out 4) | ((with_reducible refine gate_callee (f := 25) rfl ?_); refine goesL_ (some 15) rfl rfl Try.func25 (by kernel_rfl) rfl #[.agg #[.int .i64 a0_0, .int .i64 a0_1, .int .i64 a0_2, .int .i64 a0_3, .int .i64 a0_4]] rfl (by (try simp only [List.map_toArray, List.map_cons, List.map_nil]); first | done | rfl | (simp only [List.length_drop, List.length_take]; rfl)) ?_; (with_reducible refine (laws_toInst.calls a0_0 a0_1 a0_2 a0_3 a0_4 t176 t177 t178 t179 t180 _ A4.out).mono ?_); rintro e w20 ⟨rfl, hb⟩; refine ⟨_, rfl, ?_⟩; have n0_ := Aside0.mk (blk_below (g := gb168) (o := .cells #[.int .i64 a0_0, .int .i64 a0_1, .int .i64 a0_2, .int .i64 a0_3, .int .i64 a0_4] 33 (0, 0)) (by (with_reducible repeat (first | refine blk_drewN ?_ _ | refine blk_drew ?_ | refine blk_alloc ?_ _)); exact BK168.out) hb); have n1_ := Aside0.mk (below_step (by repeat (first | (with_reducible first | exact HB.out | apply below_alloc | apply pw_below_drewN | apply below_drew1 | refine below_set ?_ GE168.out) | exact HB.out)) hb); clear BK168; clear HB; have BK168 := n0_; have HB := n1_; clear n0_ n1_; (try clear hb); (try clear hb2); (try clear hk); (try clear hi)) | ((with_reducible refine gate_callee (f := 31) rfl ?_); refine goesL_ (some 16) rfl rfl Try.func31 (by kernel_rfl) rfl #[.agg #[.int .i64 t176, .int .i64 t177, .int .i64 t178, .int .i64 t179, .int .i64 t180]] rfl (by (try simp only [List.map_toArray, List.map_cons, List.map_nil]); first | done | rfl | (simp only [List.length_drop, List.length_take]; rfl)) ?_; (with_reducible refine (impl_EncodeInst.calls k t176 t177 t178 t179 t180 t181 t182 _ A5.out).mono ?_); rintro e w21 ⟨rfl, hb⟩; refine ⟨_, rfl, ?_⟩; have n0_ := Aside0.mk (blk_below (g := gb168) (o := .cells #[.int .i64 a0_0, .int .i64 a0_1, .int .i64 a0_2, .int .i64 a0_3, .int .i64 a0_4] 33 (0, 0)) (by (with_reducible repeat (first | refine blk_drewN ?_ _ | refine blk_drew ?_ | refine blk_alloc ?_ _)); exact BK168.out) hb); have n1_ := Aside0.mk (below_step (by repeat (first | (with_reducible first | exact HB.out | apply below_alloc | apply pw_below_drewN | apply below_drew1 | refine below_set ?_ GE168.out) | exact HB.out)) hb); clear BK168; clear HB; have BK168 := n0_; have HB := n1_; clear n0_ n1_; (try clear hb); (try clear hb2); (try clear hk); (try clear hi)))
      go_ret
      exact ⟨by first | rfl | (simp [errW_none, errW_some] <;> rfl) | (simp [*, errW_none, errW_some] <;> rfl), by repeat (first | (with_reducible first | exact HB.out | apply below_alloc | apply pw_below_drewN | apply below_drew1 | refine below_set ?_ GE168.out) | exact HB.out)⟩
  · rw [if_neg c6] at H
    have c6b0 : (t181 == t174) = false := beq_eq_false_iff_ne.mpr c6
    have c6b1 : (t181 != t174) = true := bne_iff_ne.mpr c6
    obtain rfl := Option.some.inj H
    go_enter Try.func12, Try.ntmps12
    go_wp2_with (first | ((with_reducible refine gate_dst (N := 1) rfl ?_); refine box_event ?hg (N := 1) ?hd (cs := #[.int .i64 a0_0, .int .i64 a0_1, .int .i64 a0_2, .int .i64 a0_3, .int .i64 a0_4]) (t := 33) ?hr ?_; (case hd => rfl); (case hg => rfl); (case hr => first | (go_simp; done) | (go_simp; rfl)); intro gb168 hg w22 hbox hb; have n0_ := Aside0.mk (below_step (by repeat (first | (with_reducible first | exact HB.out | apply below_alloc | apply pw_below_drewN | apply below_drew1) | exact HB.out)) hb); have n1_ := Aside0.mk (hbox); have n2_ := Aside0.mk ((by rw [hg]; exact (below_size (by repeat (first | (with_reducible first | exact HB.out | apply below_alloc | apply pw_below_drewN | apply below_drew1) | exact HB.out))) : w.heap.size ≤ gb168)); have n3_ := Aside0.mk ((by rw [hg]; exact (below_size (by repeat (first | (with_reducible first | exact HB.out | apply below_alloc | apply pw_below_drewN | apply below_drew1) | exact HB.out))) : w.heap.size ≤ gb168)); clear HB; have HB := n0_; have BK168 := n1_; have GW168 := n2_; have GE168 := n3_; clear n0_ n1_ n2_ n3_; clear hb hbox hg; have hcz23_0 : w22.cell? ⟨gb168, 0, none⟩ = some (.int .i64 a0_0) := (blk_cell BK168.out 0).trans rfl; have hcz23_1 : w22.cell? ⟨gb168, 1, none⟩ = some (.int .i64 a0_1) := (blk_cell BK168.out 1).trans rfl; have hcz23_2 : w22.cell? ⟨gb168, 2, none⟩ = some (.int .i64 a0_2) := (blk_cell BK168.out 2).trans rfl; have hcz23_3 : w22.cell? ⟨gb168, 3, none⟩ = some (.int .i64 a0_3) := (blk_cell BK168.out 3).trans rfl; have hcz23_4 : w22.cell? ⟨gb168, 4, none⟩ = some (.int .i64 a0_4) := (blk_cell BK168.out 4).trans rfl; have hfz23_0 := blk_frozen BK168.out 0; have hfz23_1 := blk_frozen BK168.out 1; have hfz23_2 := blk_frozen BK168.out 2; have hfz23_3 := blk_frozen BK168.out 3; have hfz23_4 := blk_frozen BK168.out 4) | ((with_reducible refine gate_callee (f := 25) rfl ?_); refine goesL_ (some 9) rfl rfl Try.func25 (by kernel_rfl) rfl #[.agg #[.int .i64 a0_0, .int .i64 a0_1, .int .i64 a0_2, .int .i64 a0_3, .int .i64 a0_4]] rfl (by (try simp only [List.map_toArray, List.map_cons, List.map_nil]); first | done | rfl | (simp only [List.length_drop, List.length_take]; rfl)) ?_; (with_reducible refine (laws_toInst.calls a0_0 a0_1 a0_2 a0_3 a0_4 t169 t170 t171 t172 t173 _ A2.out).mono ?_); rintro e w24 ⟨rfl, hb⟩; refine ⟨_, rfl, ?_⟩; have n0_ := Aside0.mk (blk_below (g := gb168) (o := .cells #[.int .i64 a0_0, .int .i64 a0_1, .int .i64 a0_2, .int .i64 a0_3, .int .i64 a0_4] 33 (0, 0)) (by (with_reducible repeat (first | refine blk_drewN ?_ _ | refine blk_drew ?_ | refine blk_alloc ?_ _)); exact BK168.out) hb); have n1_ := Aside0.mk (below_step (by repeat (first | (with_reducible first | exact HB.out | apply below_alloc | apply pw_below_drewN | apply below_drew1 | refine below_set ?_ GE168.out) | exact HB.out)) hb); clear BK168; clear HB; have BK168 := n0_; have HB := n1_; clear n0_ n1_; (try clear hb); (try clear hb2); (try clear hk); (try clear hi)) | ((with_reducible refine gate_callee (f := 30) rfl ?_); refine goesL_ (some 10) rfl rfl Try.func30 (by kernel_rfl) rfl #[.agg #[.int .i64 t169, .int .i64 t170, .int .i64 t171, .int .i64 t172, .int .i64 t173]] rfl (by (try simp only [List.map_toArray, List.map_cons, List.map_nil]); first | done | rfl | (simp only [List.length_drop, List.length_take]; rfl)) ?_; (with_reducible refine (spec_EncodeInst.calls k t169 t170 t171 t172 t173 t174 t175 _ A3.out).mono ?_); rintro e w25 ⟨rfl, hb⟩; refine ⟨_, rfl, ?_⟩; have n0_ := Aside0.mk (blk_below (g := gb168) (o := .cells #[.int .i64 a0_0, .int .i64 a0_1, .int .i64 a0_2, .int .i64 a0_3, .int .i64 a0_4] 33 (0, 0)) (by (with_reducible repeat (first | refine blk_drewN ?_ _ | refine blk_drew ?_ | refine blk_alloc ?_ _)); exact BK168.out) hb); have n1_ := Aside0.mk (below_step (by repeat (first | (with_reducible first | exact HB.out | apply below_alloc | apply pw_below_drewN | apply below_drew1 | refine below_set ?_ GE168.out) | exact HB.out)) hb); clear BK168; clear HB; have BK168 := n0_; have HB := n1_; clear n0_ n1_; (try clear hb); (try clear hb2); (try clear hk); (try clear hi); have hcz26_0 : w25.cell? ⟨gb168, 0, none⟩ = some (.int .i64 a0_0) := (blk_cell BK168.out 0).trans rfl; have hcz26_1 : w25.cell? ⟨gb168, 1, none⟩ = some (.int .i64 a0_1) := (blk_cell BK168.out 1).trans rfl; have hcz26_2 : w25.cell? ⟨gb168, 2, none⟩ = some (.int .i64 a0_2) := (blk_cell BK168.out 2).trans rfl; have hcz26_3 : w25.cell? ⟨gb168, 3, none⟩ = some (.int .i64 a0_3) := (blk_cell BK168.out 3).trans rfl; have hcz26_4 : w25.cell? ⟨gb168, 4, none⟩ = some (.int .i64 a0_4) := (blk_cell BK168.out 4).trans rfl; have hfz26_0 := blk_frozen BK168.out 0; have hfz26_1 := blk_frozen BK168.out 1; have hfz26_2 := blk_frozen BK168.out 2; have hfz26_3 := blk_frozen BK168.out 3; have hfz26_4 := blk_frozen BK168.out 4) | ((with_reducible refine gate_callee (f := 25) rfl ?_); refine goesL_ (some 15) rfl rfl Try.func25 (by kernel_rfl) rfl #[.agg #[.int .i64 a0_0, .int .i64 a0_1, .int .i64 a0_2, .int .i64 a0_3, .int .i64 a0_4]] rfl (by (try simp only [List.map_toArray, List.map_cons, List.map_nil]); first | done | rfl | (simp only [List.length_drop, List.length_take]; rfl)) ?_; (with_reducible refine (laws_toInst.calls a0_0 a0_1 a0_2 a0_3 a0_4 t176 t177 t178 t179 t180 _ A4.out).mono ?_); rintro e w27 ⟨rfl, hb⟩; refine ⟨_, rfl, ?_⟩; have n0_ := Aside0.mk (blk_below (g := gb168) (o := .cells #[.int .i64 a0_0, .int .i64 a0_1, .int .i64 a0_2, .int .i64 a0_3, .int .i64 a0_4] 33 (0, 0)) (by (with_reducible repeat (first | refine blk_drewN ?_ _ | refine blk_drew ?_ | refine blk_alloc ?_ _)); exact BK168.out) hb); have n1_ := Aside0.mk (below_step (by repeat (first | (with_reducible first | exact HB.out | apply below_alloc | apply pw_below_drewN | apply below_drew1 | refine below_set ?_ GE168.out) | exact HB.out)) hb); clear BK168; clear HB; have BK168 := n0_; have HB := n1_; clear n0_ n1_; (try clear hb); (try clear hb2); (try clear hk); (try clear hi)) | ((with_reducible refine gate_callee (f := 31) rfl ?_); refine goesL_ (some 16) rfl rfl Try.func31 (by kernel_rfl) rfl #[.agg #[.int .i64 t176, .int .i64 t177, .int .i64 t178, .int .i64 t179, .int .i64 t180]] rfl (by (try simp only [List.map_toArray, List.map_cons, List.map_nil]); first | done | rfl | (simp only [List.length_drop, List.length_take]; rfl)) ?_; (with_reducible refine (impl_EncodeInst.calls k t176 t177 t178 t179 t180 t181 t182 _ A5.out).mono ?_); rintro e w28 ⟨rfl, hb⟩; refine ⟨_, rfl, ?_⟩; have n0_ := Aside0.mk (blk_below (g := gb168) (o := .cells #[.int .i64 a0_0, .int .i64 a0_1, .int .i64 a0_2, .int .i64 a0_3, .int .i64 a0_4] 33 (0, 0)) (by (with_reducible repeat (first | refine blk_drewN ?_ _ | refine blk_drew ?_ | refine blk_alloc ?_ _)); exact BK168.out) hb); have n1_ := Aside0.mk (below_step (by repeat (first | (with_reducible first | exact HB.out | apply below_alloc | apply pw_below_drewN | apply below_drew1 | refine below_set ?_ GE168.out) | exact HB.out)) hb); clear BK168; clear HB; have BK168 := n0_; have HB := n1_; clear n0_ n1_; (try clear hb); (try clear hb2); (try clear hk); (try clear hi)))
    go_ret
    exact ⟨by first | rfl | (simp [errW_none, errW_some] <;> rfl) | (simp [*, errW_none, errW_some] <;> rfl), by repeat (first | (with_reducible first | exact HB.out | apply below_alloc | apply pw_below_drewN | apply below_drew1 | refine below_set ?_ GE168.out) | exact HB.out)⟩

end Go.Proofs.Ytgbpofhabhabcaa.PEnc
