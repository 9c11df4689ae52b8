-- PRINTED BY print.sh 35421559b90ae4d0a3588c463048766b98c2df88dd9212a6774a882060cdf62d: not written by this session
import Derived.Test.YtgbpofhabhabcaaPFnExactAlux0
import Derived.Test.YtgbpofhabhabcaaPFnExactAlux3
namespace Go.Proofs.Ytgbpofhabhabcaa.PFnExactAlu
open Go.RowKit Go.Proofs.YtgbpofhabhabcaaW.PrintWords Go.Proofs.YtgbpofhabhabcaaW.PrintLast Go.Proofs.YtgbpofhabhabcaaW.PrintMore
attribute [local go_sem] max2_int min2_int max_two min_two max_three min_three max_four min_four   -- for this text's walks alone
set_option linter.unusedVariables false
set_option linter.unusedSimpArgs false

/-! ### impl_Alu: function 28 -/
def impl_Alu.f (a0 : Int) (a1 : Int) (a2 : Int) : Option (Int × Bool) := (impl_Word.f a1).bind fun t141 => ((impl_Word.f a2).bind fun t142 => ((impl_Signed.f a1).bind fun t143 => ((impl_Signed.f a2).bind fun t144 => (if a0 = 1 then ((impl_Word.f (wrap64 (t141 + t142))).bind fun t145 => (some (t145, true))) else (if a0 = 2 then ((impl_Word.f (wrap64 (t141 - t142))).bind fun t146 => (some (t146, true))) else (if a0 = 3 then (if 0 ≤ (Go.bits .and .i64 t142 31) then ((impl_Word.f (shl .i64 t141 (Go.bits .and .i64 t142 31))).bind fun t147 => (some (t147, true))) else (none)) else (if a0 = 4 then ((impl_truth.f (decide (t143 < t144))).bind fun t148 => ((impl_Word.f t148).bind fun t149 => (some (t149, true)))) else (if a0 = 5 then ((impl_truth.f (decide (t141 < t142))).bind fun t150 => ((impl_Word.f t150).bind fun t151 => (some (t151, true)))) else (if a0 = 6 then ((impl_Word.f (Go.bits .xor .i64 t141 t142)).bind fun t152 => (some (t152, true))) else (if a0 = 7 then (if 0 ≤ (Go.bits .and .i64 t142 31) then ((impl_Word.f (shr .i64 t141 (Go.bits .and .i64 t142 31))).bind fun t153 => (some (t153, true))) else (none)) else (if a0 = 8 then (if 0 ≤ (Go.bits .and .i64 t142 31) then ((impl_Word.f (shr .i64 t143 (Go.bits .and .i64 t142 31))).bind fun t154 => (some (t154, true))) else (none)) else (if a0 = 9 then ((impl_Word.f (Go.bits .or .i64 t141 t142)).bind fun t155 => (some (t155, true))) else (if a0 = 10 then ((impl_Word.f (Go.bits .and .i64 t141 t142)).bind fun t156 => (some (t156, true))) else (if a0 = 11 then ((impl_Word.f (wrap64 (t143 * t144))).bind fun t157 => (some (t157, true))) else (if a0 = 12 then ((impl_Word.f ((wrap64 (t143 * t144)) / 4294967296)).bind fun t158 => (some (t158, true))) else (if a0 = 13 then ((impl_Word.f ((wrap64 (t143 * t142)) / 4294967296)).bind fun t159 => (some (t159, true))) else (if a0 = 14 then ((bits_Mul64.f (IntKind.u64.wrap (t141)) (IntKind.u64.wrap (t142))).bind fun bt160 => ((impl_Word.f (wrap64 (bt160.2 / 4294967296))).bind fun t162 => (some (t162, true)))) else (if a0 = 15 then (if t144 = 0 then ((impl_Word.f (-1)).bind fun t163 => (some (t163, true))) else ((impl_Word.f (wrap64 (Int.tdiv t143 t144))).bind fun t164 => (some (t164, true)))) else (if a0 = 16 then (if t142 = 0 then ((impl_Word.f (-1)).bind fun t165 => (some (t165, true))) else ((impl_Word.f (wrap64 (Int.tdiv t141 t142))).bind fun t166 => (some (t166, true)))) else (if a0 = 17 then (if t144 = 0 then ((impl_Word.f t143).bind fun t167 => (some (t167, true))) else ((impl_Word.f (Int.tmod t143 t144)).bind fun t168 => (some (t168, true)))) else (if a0 = 18 then (if t142 = 0 then ((impl_Word.f t141).bind fun t169 => (some (t169, true))) else ((impl_Word.f (Int.tmod t141 t142)).bind fun t170 => (some (t170, true)))) else (some (0, false)))))))))))))))))))))))
set_option maxHeartbeats 8000000 in
set_option maxRecDepth 100000 in
theorem impl_Alu.calls (a0 : Int) (a1 : Int) (a2 : Int) (r1 : Int) (r2 : Bool) (w : World) (h : impl_Alu.f a0 a1 a2 = some (r1, r2)) :
    Calls Try.prog 28 #[.int .i64 a0, .int .i64 a1, .int .i64 a2] w fun e w' => e = .returned (.tuple #[.int .i64 r1, .bool r2]) ∧ Drawn0 w w' := by
  have H : ((impl_Word.f a1).bind fun t141 => ((impl_Word.f a2).bind fun t142 => ((impl_Signed.f a1).bind fun t143 => ((impl_Signed.f a2).bind fun t144 => (if a0 = 1 then ((impl_Word.f (wrap64 (t141 + t142))).bind fun t145 => (some (t145, true))) else (if a0 = 2 then ((impl_Word.f (wrap64 (t141 - t142))).bind fun t146 => (some (t146, true))) else (if a0 = 3 then (if 0 ≤ (Go.bits .and .i64 t142 31) then ((impl_Word.f (shl .i64 t141 (Go.bits .and .i64 t142 31))).bind fun t147 => (some (t147, true))) else (none)) else (if a0 = 4 then ((impl_truth.f (decide (t143 < t144))).bind fun t148 => ((impl_Word.f t148).bind fun t149 => (some (t149, true)))) else (if a0 = 5 then ((impl_truth.f (decide (t141 < t142))).bind fun t150 => ((impl_Word.f t150).bind fun t151 => (some (t151, true)))) else (if a0 = 6 then ((impl_Word.f (Go.bits .xor .i64 t141 t142)).bind fun t152 => (some (t152, true))) else (if a0 = 7 then (if 0 ≤ (Go.bits .and .i64 t142 31) then ((impl_Word.f (shr .i64 t141 (Go.bits .and .i64 t142 31))).bind fun t153 => (some (t153, true))) else (none)) else (if a0 = 8 then (if 0 ≤ (Go.bits .and .i64 t142 31) then ((impl_Word.f (shr .i64 t143 (Go.bits .and .i64 t142 31))).bind fun t154 => (some (t154, true))) else (none)) else (if a0 = 9 then ((impl_Word.f (Go.bits .or .i64 t141 t142)).bind fun t155 => (some (t155, true))) else (if a0 = 10 then ((impl_Word.f (Go.bits .and .i64 t141 t142)).bind fun t156 => (some (t156, true))) else (if a0 = 11 then ((impl_Word.f (wrap64 (t143 * t144))).bind fun t157 => (some (t157, true))) else (if a0 = 12 then ((impl_Word.f ((wrap64 (t143 * t144)) / 4294967296)).bind fun t158 => (some (t158, true))) else (if a0 = 13 then ((impl_Word.f ((wrap64 (t143 * t142)) / 4294967296)).bind fun t159 => (some (t159, true))) else (if a0 = 14 then ((bits_Mul64.f (IntKind.u64.wrap (t141)) (IntKind.u64.wrap (t142))).bind fun bt160 => ((impl_Word.f (wrap64 (bt160.2 / 4294967296))).bind fun t162 => (some (t162, true)))) else (if a0 = 15 then (if t144 = 0 then ((impl_Word.f (-1)).bind fun t163 => (some (t163, true))) else ((impl_Word.f (wrap64 (Int.tdiv t143 t144))).bind fun t164 => (some (t164, true)))) else (if a0 = 16 then (if t142 = 0 then ((impl_Word.f (-1)).bind fun t165 => (some (t165, true))) else ((impl_Word.f (wrap64 (Int.tdiv t141 t142))).bind fun t166 => (some (t166, true)))) else (if a0 = 17 then (if t144 = 0 then ((impl_Word.f t143).bind fun t167 => (some (t167, true))) else ((impl_Word.f (Int.tmod t143 t144)).bind fun t168 => (some (t168, true)))) else (if a0 = 18 then (if t142 = 0 then ((impl_Word.f t141).bind fun t169 => (some (t169, true))) else ((impl_Word.f (Int.tmod t141 t142)).bind fun t170 => (some (t170, true)))) else (some (0, false)))))))))))))))))))))))) = some (r1, r2) := h
  clear h
  replace H := Option.bind_eq_some_iff.mp H
  obtain ⟨t141, A40, H⟩ := H
  replace H : ((impl_Word.f a2).bind fun t142 => ((impl_Signed.f a1).bind fun t143 => ((impl_Signed.f a2).bind fun t144 => (if a0 = 1 then ((impl_Word.f (wrap64 (t141 + t142))).bind fun t145 => (some (t145, true))) else (if a0 = 2 then ((impl_Word.f (wrap64 (t141 - t142))).bind fun t146 => (some (t146, true))) else (if a0 = 3 then (if 0 ≤ (Go.bits .and .i64 t142 31) then ((impl_Word.f (shl .i64 t141 (Go.bits .and .i64 t142 31))).bind fun t147 => (some (t147, true))) else (none)) else (if a0 = 4 then ((impl_truth.f (decide (t143 < t144))).bind fun t148 => ((impl_Word.f t148).bind fun t149 => (some (t149, true)))) else (if a0 = 5 then ((impl_truth.f (decide (t141 < t142))).bind fun t150 => ((impl_Word.f t150).bind fun t151 => (some (t151, true)))) else (if a0 = 6 then ((impl_Word.f (Go.bits .xor .i64 t141 t142)).bind fun t152 => (some (t152, true))) else (if a0 = 7 then (if 0 ≤ (Go.bits .and .i64 t142 31) then ((impl_Word.f (shr .i64 t141 (Go.bits .and .i64 t142 31))).bind fun t153 => (some (t153, true))) else (none)) else (if a0 = 8 then (if 0 ≤ (Go.bits .and .i64 t142 31) then ((impl_Word.f (shr .i64 t143 (Go.bits .and .i64 t142 31))).bind fun t154 => (some (t154, true))) else (none)) else (if a0 = 9 then ((impl_Word.f (Go.bits .or .i64 t141 t142)).bind fun t155 => (some (t155, true))) else (if a0 = 10 then ((impl_Word.f (Go.bits .and .i64 t141 t142)).bind fun t156 => (some (t156, true))) else (if a0 = 11 then ((impl_Word.f (wrap64 (t143 * t144))).bind fun t157 => (some (t157, true))) else (if a0 = 12 then ((impl_Word.f ((wrap64 (t143 * t144)) / 4294967296)).bind fun t158 => (some (t158, true))) else (if a0 = 13 then ((impl_Word.f ((wrap64 (t143 * t142)) / 4294967296)).bind fun t159 => (some (t159, true))) else (if a0 = 14 then ((bits_Mul64.f (IntKind.u64.wrap (t141)) (IntKind.u64.wrap (t142))).bind fun bt160 => ((impl_Word.f (wrap64 (bt160.2 / 4294967296))).bind fun t162 => (some (t162, true)))) else (if a0 = 15 then (if t144 = 0 then ((impl_Word.f (-1)).bind fun t163 => (some (t163, true))) else ((impl_Word.f (wrap64 (Int.tdiv t143 t144))).bind fun t164 => (some (t164, true)))) else (if a0 = 16 then (if t142 = 0 then ((impl_Word.f (-1)).bind fun t165 => (some (t165, true))) else ((impl_Word.f (wrap64 (Int.tdiv t141 t142))).bind fun t166 => (some (t166, true)))) else (if a0 = 17 then (if t144 = 0 then ((impl_Word.f t143).bind fun t167 => (some (t167, true))) else ((impl_Word.f (Int.tmod t143 t144)).bind fun t168 => (some (t168, true)))) else (if a0 = 18 then (if t142 = 0 then ((impl_Word.f t141).bind fun t169 => (some (t169, true))) else ((impl_Word.f (Int.tmod t141 t142)).bind fun t170 => (some (t170, true)))) else (some (0, false))))))))))))))))))))))) = some (r1, r2) := H
  have A4 := Aside0.mk A40
  clear A40
  replace H := Option.bind_eq_some_iff.mp H
  obtain ⟨t142, A50, H⟩ := H
  replace H : ((impl_Signed.f a1).bind fun t143 => ((impl_Signed.f a2).bind fun t144 => (if a0 = 1 then ((impl_Word.f (wrap64 (t141 + t142))).bind fun t145 => (some (t145, true))) else (if a0 = 2 then ((impl_Word.f (wrap64 (t141 - t142))).bind fun t146 => (some (t146, true))) else (if a0 = 3 then (if 0 ≤ (Go.bits .and .i64 t142 31) then ((impl_Word.f (shl .i64 t141 (Go.bits .and .i64 t142 31))).bind fun t147 => (some (t147, true))) else (none)) else (if a0 = 4 then ((impl_truth.f (decide (t143 < t144))).bind fun t148 => ((impl_Word.f t148).bind fun t149 => (some (t149, true)))) else (if a0 = 5 then ((impl_truth.f (decide (t141 < t142))).bind fun t150 => ((impl_Word.f t150).bind fun t151 => (some (t151, true)))) else (if a0 = 6 then ((impl_Word.f (Go.bits .xor .i64 t141 t142)).bind fun t152 => (some (t152, true))) else (if a0 = 7 then (if 0 ≤ (Go.bits .and .i64 t142 31) then ((impl_Word.f (shr .i64 t141 (Go.bits .and .i64 t142 31))).bind fun t153 => (some (t153, true))) else (none)) else (if a0 = 8 then (if 0 ≤ (Go.bits .and .i64 t142 31) then ((impl_Word.f (shr .i64 t143 (Go.bits .and .i64 t142 31))).bind fun t154 => (some (t154, true))) else (none)) else (if a0 = 9 then ((impl_Word.f (Go.bits .or .i64 t141 t142)).bind fun t155 => (some (t155, true))) else (if a0 = 10 then ((impl_Word.f (Go.bits .and .i64 t141 t142)).bind fun t156 => (some (t156, true))) else (if a0 = 11 then ((impl_Word.f (wrap64 (t143 * t144))).bind fun t157 => (some (t157, true))) else (if a0 = 12 then ((impl_Word.f ((wrap64 (t143 * t144)) / 4294967296)).bind fun t158 => (some (t158, true))) else (if a0 = 13 then ((impl_Word.f ((wrap64 (t143 * t142)) / 4294967296)).bind fun t159 => (some (t159, true))) else (if a0 = 14 then ((bits_Mul64.f (IntKind.u64.wrap (t141)) (IntKind.u64.wrap (t142))).bind fun bt160 => ((impl_Word.f (wrap64 (bt160.2 / 4294967296))).bind fun t162 => (some (t162, true)))) else (if a0 = 15 then (if t144 = 0 then ((impl_Word.f (-1)).bind fun t163 => (some (t163, true))) else ((impl_Word.f (wrap64 (Int.tdiv t143 t144))).bind fun t164 => (some (t164, true)))) else (if a0 = 16 then (if t142 = 0 then ((impl_Word.f (-1)).bind fun t165 => (some (t165, true))) else ((impl_Word.f (wrap64 (Int.tdiv t141 t142))).bind fun t166 => (some (t166, true)))) else (if a0 = 17 then (if t144 = 0 then ((impl_Word.f t143).bind fun t167 => (some (t167, true))) else ((impl_Word.f (Int.tmod t143 t144)).bind fun t168 => (some (t168, true)))) else (if a0 = 18 then (if t142 = 0 then ((impl_Word.f t141).bind fun t169 => (some (t169, true))) else ((impl_Word.f (Int.tmod t141 t142)).bind fun t170 => (some (t170, true)))) else (some (0, false)))))))))))))))))))))) = some (r1, r2) := H
  have A5 := Aside0.mk A50
  clear A50
  replace H := Option.bind_eq_some_iff.mp H
  obtain ⟨t143, A60, H⟩ := H
  replace H : ((impl_Signed.f a2).bind fun t144 => (if a0 = 1 then ((impl_Word.f (wrap64 (t141 + t142))).bind fun t145 => (some (t145, true))) else (if a0 = 2 then ((impl_Word.f (wrap64 (t141 - t142))).bind fun t146 => (some (t146, true))) else (if a0 = 3 then (if 0 ≤ (Go.bits .and .i64 t142 31) then ((impl_Word.f (shl .i64 t141 (Go.bits .and .i64 t142 31))).bind fun t147 => (some (t147, true))) else (none)) else (if a0 = 4 then ((impl_truth.f (decide (t143 < t144))).bind fun t148 => ((impl_Word.f t148).bind fun t149 => (some (t149, true)))) else (if a0 = 5 then ((impl_truth.f (decide (t141 < t142))).bind fun t150 => ((impl_Word.f t150).bind fun t151 => (some (t151, true)))) else (if a0 = 6 then ((impl_Word.f (Go.bits .xor .i64 t141 t142)).bind fun t152 => (some (t152, true))) else (if a0 = 7 then (if 0 ≤ (Go.bits .and .i64 t142 31) then ((impl_Word.f (shr .i64 t141 (Go.bits .and .i64 t142 31))).bind fun t153 => (some (t153, true))) else (none)) else (if a0 = 8 then (if 0 ≤ (Go.bits .and .i64 t142 31) then ((impl_Word.f (shr .i64 t143 (Go.bits .and .i64 t142 31))).bind fun t154 => (some (t154, true))) else (none)) else (if a0 = 9 then ((impl_Word.f (Go.bits .or .i64 t141 t142)).bind fun t155 => (some (t155, true))) else (if a0 = 10 then ((impl_Word.f (Go.bits .and .i64 t141 t142)).bind fun t156 => (some (t156, true))) else (if a0 = 11 then ((impl_Word.f (wrap64 (t143 * t144))).bind fun t157 => (some (t157, true))) else (if a0 = 12 then ((impl_Word.f ((wrap64 (t143 * t144)) / 4294967296)).bind fun t158 => (some (t158, true))) else (if a0 = 13 then ((impl_Word.f ((wrap64 (t143 * t142)) / 4294967296)).bind fun t159 => (some (t159, true))) else (if a0 = 14 then ((bits_Mul64.f (IntKind.u64.wrap (t141)) (IntKind.u64.wrap (t142))).bind fun bt160 => ((impl_Word.f (wrap64 (bt160.2 / 4294967296))).bind fun t162 => (some (t162, true)))) else (if a0 = 15 then (if t144 = 0 then ((impl_Word.f (-1)).bind fun t163 => (some (t163, true))) else ((impl_Word.f (wrap64 (Int.tdiv t143 t144))).bind fun t164 => (some (t164, true)))) else (if a0 = 16 then (if t142 = 0 then ((impl_Word.f (-1)).bind fun t165 => (some (t165, true))) else ((impl_Word.f (wrap64 (Int.tdiv t141 t142))).bind fun t166 => (some (t166, true)))) else (if a0 = 17 then (if t144 = 0 then ((impl_Word.f t143).bind fun t167 => (some (t167, true))) else ((impl_Word.f (Int.tmod t143 t144)).bind fun t168 => (some (t168, true)))) else (if a0 = 18 then (if t142 = 0 then ((impl_Word.f t141).bind fun t169 => (some (t169, true))) else ((impl_Word.f (Int.tmod t141 t142)).bind fun t170 => (some (t170, true)))) else (some (0, false))))))))))))))))))))) = some (r1, r2) := H
  have A6 := Aside0.mk A60
  clear A60
  replace H := Option.bind_eq_some_iff.mp H
  obtain ⟨t144, A70, H⟩ := H
  replace H : (if a0 = 1 then ((impl_Word.f (wrap64 (t141 + t142))).bind fun t145 => (some (t145, true))) else (if a0 = 2 then ((impl_Word.f (wrap64 (t141 - t142))).bind fun t146 => (some (t146, true))) else (if a0 = 3 then (if 0 ≤ (Go.bits .and .i64 t142 31) then ((impl_Word.f (shl .i64 t141 (Go.bits .and .i64 t142 31))).bind fun t147 => (some (t147, true))) else (none)) else (if a0 = 4 then ((impl_truth.f (decide (t143 < t144))).bind fun t148 => ((impl_Word.f t148).bind fun t149 => (some (t149, true)))) else (if a0 = 5 then ((impl_truth.f (decide (t141 < t142))).bind fun t150 => ((impl_Word.f t150).bind fun t151 => (some (t151, true)))) else (if a0 = 6 then ((impl_Word.f (Go.bits .xor .i64 t141 t142)).bind fun t152 => (some (t152, true))) else (if a0 = 7 then (if 0 ≤ (Go.bits .and .i64 t142 31) then ((impl_Word.f (shr .i64 t141 (Go.bits .and .i64 t142 31))).bind fun t153 => (some (t153, true))) else (none)) else (if a0 = 8 then (if 0 ≤ (Go.bits .and .i64 t142 31) then ((impl_Word.f (shr .i64 t143 (Go.bits .and .i64 t142 31))).bind fun t154 => (some (t154, true))) else (none)) else (if a0 = 9 then ((impl_Word.f (Go.bits .or .i64 t141 t142)).bind fun t155 => (some (t155, true))) else (if a0 = 10 then ((impl_Word.f (Go.bits .and .i64 t141 t142)).bind fun t156 => (some (t156, true))) else (if a0 = 11 then ((impl_Word.f (wrap64 (t143 * t144))).bind fun t157 => (some (t157, true))) else (if a0 = 12 then ((impl_Word.f ((wrap64 (t143 * t144)) / 4294967296)).bind fun t158 => (some (t158, true))) else (if a0 = 13 then ((impl_Word.f ((wrap64 (t143 * t142)) / 4294967296)).bind fun t159 => (some (t159, true))) else (if a0 = 14 then ((bits_Mul64.f (IntKind.u64.wrap (t141)) (IntKind.u64.wrap (t142))).bind fun bt160 => ((impl_Word.f (wrap64 (bt160.2 / 4294967296))).bind fun t162 => (some (t162, true)))) else (if a0 = 15 then (if t144 = 0 then ((impl_Word.f (-1)).bind fun t163 => (some (t163, true))) else ((impl_Word.f (wrap64 (Int.tdiv t143 t144))).bind fun t164 => (some (t164, true)))) else (if a0 = 16 then (if t142 = 0 then ((impl_Word.f (-1)).bind fun t165 => (some (t165, true))) else ((impl_Word.f (wrap64 (Int.tdiv t141 t142))).bind fun t166 => (some (t166, true)))) else (if a0 = 17 then (if t144 = 0 then ((impl_Word.f t143).bind fun t167 => (some (t167, true))) else ((impl_Word.f (Int.tmod t143 t144)).bind fun t168 => (some (t168, true)))) else (if a0 = 18 then (if t142 = 0 then ((impl_Word.f t141).bind fun t169 => (some (t169, true))) else ((impl_Word.f (Int.tmod t141 t142)).bind fun t170 => (some (t170, true)))) else (some (0, false)))))))))))))))))))) = some (r1, r2) := H
  have A7 := Aside0.mk A70
  clear A70
  by_cases c8 : a0 = 1
  · rw [if_pos c8] at H
    have c8b0 : (a0 == 1) = true := beq_iff_eq.mpr c8
    have c8b1 : (a0 != 1) = false := bne_eq_false_iff_eq.mpr c8
    clear c8
    replace H := Option.bind_eq_some_iff.mp H
    obtain ⟨t145, A90, H⟩ := H
    replace H : (some (t145, true)) = some (r1, r2) := H
    have A9 := Aside0.mk A90
    clear A90
    simp only [Option.some.injEq, Prod.mk.injEq] at H
    obtain ⟨rfl, rfl⟩ := H
    go_enter Try.func28, Try.ntmps28
    go_wp2_with (first | ((with_reducible refine gate_callee (f := 16) rfl ?_); refine goesL_ (some 16) rfl rfl Try.func16 (by kernel_rfl) rfl #[.int .i64 a1] rfl (by (try simp only [List.map_toArray, List.map_cons, List.map_nil]); first | done | rfl | (simp only [List.length_drop, List.length_take]; rfl)) ?_; (with_reducible refine (impl_Word.calls a1 t141 _ A4.out).mono ?_); rintro e w' ⟨rfl, ⟨nd, rfl⟩⟩; refine ⟨_, rfl, ?_⟩) | ((with_reducible refine gate_callee (f := 16) rfl ?_); refine goesL_ (some 18) rfl rfl Try.func16 (by kernel_rfl) rfl #[.int .i64 a2] rfl (by (try simp only [List.map_toArray, List.map_cons, List.map_nil]); first | done | rfl | (simp only [List.length_drop, List.length_take]; rfl)) ?_; (with_reducible refine (impl_Word.calls a2 t142 _ A5.out).mono ?_); rintro e w' ⟨rfl, ⟨nd, rfl⟩⟩; refine ⟨_, rfl, ?_⟩) | ((with_reducible refine gate_callee (f := 18) rfl ?_); refine goesL_ (some 20) rfl rfl Try.func18 (by kernel_rfl) rfl #[.int .i64 a1] rfl (by (try simp only [List.map_toArray, List.map_cons, List.map_nil]); first | done | rfl | (simp only [List.length_drop, List.length_take]; rfl)) ?_; (with_reducible refine (impl_Signed.calls a1 t143 _ A6.out).mono ?_); rintro e w' ⟨rfl, ⟨nd, rfl⟩⟩; refine ⟨_, rfl, ?_⟩) | ((with_reducible refine gate_callee (f := 18) rfl ?_); refine goesL_ (some 22) rfl rfl Try.func18 (by kernel_rfl) rfl #[.int .i64 a2] rfl (by (try simp only [List.map_toArray, List.map_cons, List.map_nil]); first | done | rfl | (simp only [List.length_drop, List.length_take]; rfl)) ?_; (with_reducible refine (impl_Signed.calls a2 t144 _ A7.out).mono ?_); rintro e w' ⟨rfl, ⟨nd, rfl⟩⟩; refine ⟨_, rfl, ?_⟩) | ((with_reducible refine gate_callee (f := 16) rfl ?_); refine goesL_ (some 140) rfl rfl Try.func16 (by kernel_rfl) rfl #[.int .i64 (wrap64 (t141 + t142))] rfl (by (try simp only [List.map_toArray, List.map_cons, List.map_nil]); first | done | rfl | (simp only [List.length_drop, List.length_take]; rfl)) ?_; (with_reducible refine (impl_Word.calls (wrap64 (t141 + t142)) t145 _ A9.out).mono ?_); rintro e w' ⟨rfl, ⟨nd, rfl⟩⟩; refine ⟨_, rfl, ?_⟩))
    go_ret2
    exact ⟨by first | rfl | (simp; done) | (simp [*]; done), by repeat (first | exact Drawn0.refl _ | apply Drawn0.step)⟩
  · rw [if_neg c8] at H
    have c8b0 : (a0 == 1) = false := beq_eq_false_iff_ne.mpr c8
    have c8b1 : (a0 != 1) = true := bne_iff_ne.mpr c8
    by_cases c10 : a0 = 2
    · rw [if_pos c10] at H
      have c10b0 : (a0 == 2) = true := beq_iff_eq.mpr c10
      have c10b1 : (a0 != 2) = false := bne_eq_false_iff_eq.mpr c10
      clear c10
      replace H := Option.bind_eq_some_iff.mp H
      obtain ⟨t146, A110, H⟩ := H
      replace H : (some (t146, true)) = some (r1, r2) := H
      have A11 := Aside0.mk A110
      clear A110
      simp only [Option.some.injEq, Prod.mk.injEq] at H
      obtain ⟨rfl, rfl⟩ := H
      go_enter Try.func28, Try.ntmps28
      go_wp2_with (first | ((with_reducible refine gate_callee (f := 16) rfl ?_); refine goesL_ (some 16) rfl rfl Try.func16 (by kernel_rfl) rfl #[.int .i64 a1] rfl (by (try simp only [List.map_toArray, List.map_cons, List.map_nil]); first | done | rfl | (simp only [List.length_drop, List.length_take]; rfl)) ?_; (with_reducible refine (impl_Word.calls a1 t141 _ A4.out).mono ?_); rintro e w' ⟨rfl, ⟨nd, rfl⟩⟩; refine ⟨_, rfl, ?_⟩) | ((with_reducible refine gate_callee (f := 16) rfl ?_); refine goesL_ (some 18) rfl rfl Try.func16 (by kernel_rfl) rfl #[.int .i64 a2] rfl (by (try simp only [List.map_toArray, List.map_cons, List.map_nil]); first | done | rfl | (simp only [List.length_drop, List.length_take]; rfl)) ?_; (with_reducible refine (impl_Word.calls a2 t142 _ A5.out).mono ?_); rintro e w' ⟨rfl, ⟨nd, rfl⟩⟩; refine ⟨_, rfl, ?_⟩) | ((with_reducible refine gate_callee (f := 18) rfl ?_); refine goesL_ (some 20) rfl rfl Try.func18 (by kernel_rfl) rfl #[.int .i64 a1] rfl (by (try simp only [List.map_toArray, List.map_cons, List.map_nil]); first | done | rfl | (simp only [List.length_drop, List.length_take]; rfl)) ?_; (with_reducible refine (impl_Signed.calls a1 t143 _ A6.out).mono ?_); rintro e w' ⟨rfl, ⟨nd, rfl⟩⟩; refine ⟨_, rfl, ?_⟩) | ((with_reducible refine gate_callee (f := 18) rfl ?_); refine goesL_ (some 22) rfl rfl Try.func18 (by kernel_rfl) rfl #[.int .i64 a2] rfl (by (try simp only [List.map_toArray, List.map_cons, List.map_nil]); first | done | rfl | (simp only [List.length_drop, List.length_take]; rfl)) ?_; (with_reducible refine (impl_Signed.calls a2 t144 _ A7.out).mono ?_); rintro e w' ⟨rfl, ⟨nd, rfl⟩⟩; refine ⟨_, rfl, ?_⟩) | ((with_reducible refine gate_callee (f := 16) rfl ?_); refine goesL_ (some 140) rfl rfl Try.func16 (by kernel_rfl) rfl #[.int .i64 (wrap64 (t141 - t142))] rfl (by (try simp only [List.map_toArray, List.map_cons, List.map_nil]); first | done | rfl | (simp only [List.length_drop, List.length_take]; rfl)) ?_; (with_reducible refine (impl_Word.calls (wrap64 (t141 - t142)) t146 _ A11.out).mono ?_); rintro e w' ⟨rfl, ⟨nd, rfl⟩⟩; refine ⟨_, rfl, ?_⟩))
      go_ret2
      exact ⟨by first | rfl | (simp; done) | (simp [*]; done), by repeat (first | exact Drawn0.refl _ | apply Drawn0.step)⟩
    · rw [if_neg c10] at H
      have c10b0 : (a0 == 2) = false := beq_eq_false_iff_ne.mpr c10
      have c10b1 : (a0 != 2) = true := bne_iff_ne.mpr c10
      by_cases c12 : a0 = 3
      · rw [if_pos c12] at H
        have c12b0 : (a0 == 3) = true := beq_iff_eq.mpr c12
        have c12b1 : (a0 != 3) = false := bne_eq_false_iff_eq.mpr c12
        clear c12
        by_cases c13 : 0 ≤ (Go.bits .and .i64 t142 31)
        · rw [if_pos c13] at H
          have c13b0 := eq_true c13
          have c13b1 : decide (0 ≤ (Go.bits .and .i64 t142 31)) = true := decide_eq_true c13
          clear c13
          obtain ⟨ji14, hji14⟩ : ∃ j_ : Int, (shl .i64 t141 (Go.bits .and .i64 t142 31)) = j_ := ⟨_, rfl⟩
          replace H : ((impl_Word.f (ji14)).bind fun t147 => (some (t147, true))) = some (r1, r2) := by first | (rw [hji14] at H; exact H) | (simp only [hji14] at H ⊢; exact H)
          (try rw [hji14] at A4)
          (try rw [hji14] at A5)
          (try rw [hji14] at A6)
          (try rw [hji14] at A7)
          have hji14_ : (IntKind.i64.wrap (t141 * 2 ^ min (Go.bits .and .i64 t142 31).toNat 64)) = ji14 := hji14
          have hji14z : (Go.bits .and .i64 t142 31) ≤ 64 → (IntKind.i64.wrap (t141 * 2 ^ (Go.bits .and .i64 t142 31).toNat)) = ji14 := shl_small hji14
          have hji14y : (wrap64 (t141 * 2 ^ min (Go.bits .and .i64 t142 31).toNat 64)) = ji14 := (i64_w _).symm.trans hji14_
          have hji14x : (Go.bits .and .i64 t142 31) ≤ 64 → (wrap64 (t141 * 2 ^ (Go.bits .and .i64 t142 31).toNat)) = ji14 := fun h_ => (i64_w _).symm.trans (hji14z h_)
          replace H := Option.bind_eq_some_iff.mp H
          obtain ⟨t147, A150, H⟩ := H
          replace H : (some (t147, true)) = some (r1, r2) := H
          have A15 := Aside0.mk A150
          clear A150
          simp only [Option.some.injEq, Prod.mk.injEq] at H
          obtain ⟨rfl, rfl⟩ := H
          go_enter Try.func28, Try.ntmps28
          go_wp2_with (first | ((with_reducible refine gate_callee (f := 16) rfl ?_); refine goesL_ (some 16) rfl rfl Try.func16 (by kernel_rfl) rfl #[.int .i64 a1] rfl (by (try simp only [List.map_toArray, List.map_cons, List.map_nil]); first | done | rfl | (simp only [List.length_drop, List.length_take]; rfl)) ?_; (with_reducible refine (impl_Word.calls a1 t141 _ A4.out).mono ?_); rintro e w' ⟨rfl, ⟨nd, rfl⟩⟩; refine ⟨_, rfl, ?_⟩) | ((with_reducible refine gate_callee (f := 16) rfl ?_); refine goesL_ (some 18) rfl rfl Try.func16 (by kernel_rfl) rfl #[.int .i64 a2] rfl (by (try simp only [List.map_toArray, List.map_cons, List.map_nil]); first | done | rfl | (simp only [List.length_drop, List.length_take]; rfl)) ?_; (with_reducible refine (impl_Word.calls a2 t142 _ A5.out).mono ?_); rintro e w' ⟨rfl, ⟨nd, rfl⟩⟩; refine ⟨_, rfl, ?_⟩) | ((with_reducible refine gate_callee (f := 18) rfl ?_); refine goesL_ (some 20) rfl rfl Try.func18 (by kernel_rfl) rfl #[.int .i64 a1] rfl (by (try simp only [List.map_toArray, List.map_cons, List.map_nil]); first | done | rfl | (simp only [List.length_drop, List.length_take]; rfl)) ?_; (with_reducible refine (impl_Signed.calls a1 t143 _ A6.out).mono ?_); rintro e w' ⟨rfl, ⟨nd, rfl⟩⟩; refine ⟨_, rfl, ?_⟩) | ((with_reducible refine gate_callee (f := 18) rfl ?_); refine goesL_ (some 22) rfl rfl Try.func18 (by kernel_rfl) rfl #[.int .i64 a2] rfl (by (try simp only [List.map_toArray, List.map_cons, List.map_nil]); first | done | rfl | (simp only [List.length_drop, List.length_take]; rfl)) ?_; (with_reducible refine (impl_Signed.calls a2 t144 _ A7.out).mono ?_); rintro e w' ⟨rfl, ⟨nd, rfl⟩⟩; refine ⟨_, rfl, ?_⟩) | ((with_reducible refine gate_callee (f := 16) rfl ?_); refine goesL_ (some 140) rfl rfl Try.func16 (by kernel_rfl) rfl #[.int .i64 ji14] rfl (by (try simp only [List.map_toArray, List.map_cons, List.map_nil]); first | done | (simp only [hji14]; rfl) | rfl | (simp only [List.length_drop, List.length_take]; rfl)) ?_; (with_reducible refine (impl_Word.calls ji14 t147 _ A15.out).mono ?_); rintro e w' ⟨rfl, ⟨nd, rfl⟩⟩; refine ⟨_, rfl, ?_⟩))
          go_ret2
          exact ⟨by first | rfl | (simp; done) | (simp only [← hji14] <;> (first | rfl | simp)) | (simp [*]; done), by repeat (first | exact Drawn0.refl _ | apply Drawn0.step)⟩
        · rw [if_neg c13] at H
          exact absurd H (by simp)
      · rw [if_neg c12] at H
        have c12b0 : (a0 == 3) = false := beq_eq_false_iff_ne.mpr c12
        have c12b1 : (a0 != 3) = true := bne_iff_ne.mpr c12
        by_cases c16 : a0 = 4
        · rw [if_pos c16] at H
          have c16b0 : (a0 == 4) = true := beq_iff_eq.mpr c16
          have c16b1 : (a0 != 4) = false := bne_eq_false_iff_eq.mpr c16
          clear c16
          replace H := Option.bind_eq_some_iff.mp H
          obtain ⟨t148, A170, H⟩ := H
          replace H : ((impl_Word.f t148).bind fun t149 => (some (t149, true))) = some (r1, r2) := H
          have A17 := Aside0.mk A170
          clear A170
          replace H := Option.bind_eq_some_iff.mp H
          obtain ⟨t149, A180, H⟩ := H
          replace H : (some (t149, true)) = some (r1, r2) := H
          have A18 := Aside0.mk A180
          clear A180
          simp only [Option.some.injEq, Prod.mk.injEq] at H
          obtain ⟨rfl, rfl⟩ := H
          go_enter Try.func28, Try.ntmps28
          go_wp2_with (first | ((with_reducible refine gate_callee (f := 16) rfl ?_); refine goesL_ (some 16) rfl rfl Try.func16 (by kernel_rfl) rfl #[.int .i64 a1] rfl (by (try simp only [List.map_toArray, List.map_cons, List.map_nil]); first | done | rfl | (simp only [List.length_drop, List.length_take]; rfl)) ?_; (with_reducible refine (impl_Word.calls a1 t141 _ A4.out).mono ?_); rintro e w' ⟨rfl, ⟨nd, rfl⟩⟩; refine ⟨_, rfl, ?_⟩) | ((with_reducible refine gate_callee (f := 16) rfl ?_); refine goesL_ (some 18) rfl rfl Try.func16 (by kernel_rfl) rfl #[.int .i64 a2] rfl (by (try simp only [List.map_toArray, List.map_cons, List.map_nil]); first | done | rfl | (simp only [List.length_drop, List.length_take]; rfl)) ?_; (with_reducible refine (impl_Word.calls a2 t142 _ A5.out).mono ?_); rintro e w' ⟨rfl, ⟨nd, rfl⟩⟩; refine ⟨_, rfl, ?_⟩) | ((with_reducible refine gate_callee (f := 18) rfl ?_); refine goesL_ (some 20) rfl rfl Try.func18 (by kernel_rfl) rfl #[.int .i64 a1] rfl (by (try simp only [List.map_toArray, List.map_cons, List.map_nil]); first | done | rfl | (simp only [List.length_drop, List.length_take]; rfl)) ?_; (with_reducible refine (impl_Signed.calls a1 t143 _ A6.out).mono ?_); rintro e w' ⟨rfl, ⟨nd, rfl⟩⟩; refine ⟨_, rfl, ?_⟩) | ((with_reducible refine gate_callee (f := 18) rfl ?_); refine goesL_ (some 22) rfl rfl Try.func18 (by kernel_rfl) rfl #[.int .i64 a2] rfl (by (try simp only [List.map_toArray, List.map_cons, List.map_nil]); first | done | rfl | (simp only [List.length_drop, List.length_take]; rfl)) ?_; (with_reducible refine (impl_Signed.calls a2 t144 _ A7.out).mono ?_); rintro e w' ⟨rfl, ⟨nd, rfl⟩⟩; refine ⟨_, rfl, ?_⟩) | ((with_reducible refine gate_callee (f := 53) rfl ?_); refine goesL_ (some 45) rfl rfl Try.func53 (by kernel_rfl) rfl #[.bool (decide (t143 < t144))] rfl (by (try simp only [List.map_toArray, List.map_cons, List.map_nil]); first | done | rfl | (simp only [List.length_drop, List.length_take]; rfl)) ?_; (with_reducible refine (impl_truth.calls (decide (t143 < t144)) t148 _ A17.out).mono ?_); rintro e w' ⟨rfl, ⟨nd, rfl⟩⟩; refine ⟨_, rfl, ?_⟩) | ((with_reducible refine gate_callee (f := 16) rfl ?_); refine goesL_ (some 140) rfl rfl Try.func16 (by kernel_rfl) rfl #[.int .i64 t148] rfl (by (try simp only [List.map_toArray, List.map_cons, List.map_nil]); first | done | rfl | (simp only [List.length_drop, List.length_take]; rfl)) ?_; (with_reducible refine (impl_Word.calls t148 t149 _ A18.out).mono ?_); rintro e w' ⟨rfl, ⟨nd, rfl⟩⟩; refine ⟨_, rfl, ?_⟩))
          go_ret2
          exact ⟨by first | rfl | (simp; done) | (simp [*]; done), by repeat (first | exact Drawn0.refl _ | apply Drawn0.step)⟩
        · rw [if_neg c16] at H
          have c16b0 : (a0 == 4) = false := beq_eq_false_iff_ne.mpr c16
          have c16b1 : (a0 != 4) = true := bne_iff_ne.mpr c16
          by_cases c19 : a0 = 5
          · rw [if_pos c19] at H
            have c19b0 : (a0 == 5) = true := beq_iff_eq.mpr c19
            have c19b1 : (a0 != 5) = false := bne_eq_false_iff_eq.mpr c19
            clear c19
            replace H := Option.bind_eq_some_iff.mp H
            obtain ⟨t150, A200, H⟩ := H
            replace H : ((impl_Word.f t150).bind fun t151 => (some (t151, true))) = some (r1, r2) := H
            have A20 := Aside0.mk A200
            clear A200
            replace H := Option.bind_eq_some_iff.mp H
            obtain ⟨t151, A210, H⟩ := H
            replace H : (some (t151, true)) = some (r1, r2) := H
            have A21 := Aside0.mk A210
            clear A210
            simp only [Option.some.injEq, Prod.mk.injEq] at H
            obtain ⟨rfl, rfl⟩ := H
            go_enter Try.func28, Try.ntmps28
            go_wp2_with (first | ((with_reducible refine gate_callee (f := 16) rfl ?_); refine goesL_ (some 16) rfl rfl Try.func16 (by kernel_rfl) rfl #[.int .i64 a1] rfl (by (try simp only [List.map_toArray, List.map_cons, List.map_nil]); first | done | rfl | (simp only [List.length_drop, List.length_take]; rfl)) ?_; (with_reducible refine (impl_Word.calls a1 t141 _ A4.out).mono ?_); rintro e w' ⟨rfl, ⟨nd, rfl⟩⟩; refine ⟨_, rfl, ?_⟩) | ((with_reducible refine gate_callee (f := 16) rfl ?_); refine goesL_ (some 18) rfl rfl Try.func16 (by kernel_rfl) rfl #[.int .i64 a2] rfl (by (try simp only [List.map_toArray, List.map_cons, List.map_nil]); first | done | rfl | (simp only [List.length_drop, List.length_take]; rfl)) ?_; (with_reducible refine (impl_Word.calls a2 t142 _ A5.out).mono ?_); rintro e w' ⟨rfl, ⟨nd, rfl⟩⟩; refine ⟨_, rfl, ?_⟩) | ((with_reducible refine gate_callee (f := 18) rfl ?_); refine goesL_ (some 20) rfl rfl Try.func18 (by kernel_rfl) rfl #[.int .i64 a1] rfl (by (try simp only [List.map_toArray, List.map_cons, List.map_nil]); first | done | rfl | (simp only [List.length_drop, List.length_take]; rfl)) ?_; (with_reducible refine (impl_Signed.calls a1 t143 _ A6.out).mono ?_); rintro e w' ⟨rfl, ⟨nd, rfl⟩⟩; refine ⟨_, rfl, ?_⟩) | ((with_reducible refine gate_callee (f := 18) rfl ?_); refine goesL_ (some 22) rfl rfl Try.func18 (by kernel_rfl) rfl #[.int .i64 a2] rfl (by (try simp only [List.map_toArray, List.map_cons, List.map_nil]); first | done | rfl | (simp only [List.length_drop, List.length_take]; rfl)) ?_; (with_reducible refine (impl_Signed.calls a2 t144 _ A7.out).mono ?_); rintro e w' ⟨rfl, ⟨nd, rfl⟩⟩; refine ⟨_, rfl, ?_⟩) | ((with_reducible refine gate_callee (f := 53) rfl ?_); refine goesL_ (some 51) rfl rfl Try.func53 (by kernel_rfl) rfl #[.bool (decide (t141 < t142))] rfl (by (try simp only [List.map_toArray, List.map_cons, List.map_nil]); first | done | rfl | (simp only [List.length_drop, List.length_take]; rfl)) ?_; (with_reducible refine (impl_truth.calls (decide (t141 < t142)) t150 _ A20.out).mono ?_); rintro e w' ⟨rfl, ⟨nd, rfl⟩⟩; refine ⟨_, rfl, ?_⟩) | ((with_reducible refine gate_callee (f := 16) rfl ?_); refine goesL_ (some 140) rfl rfl Try.func16 (by kernel_rfl) rfl #[.int .i64 t150] rfl (by (try simp only [List.map_toArray, List.map_cons, List.map_nil]); first | done | rfl | (simp only [List.length_drop, List.length_take]; rfl)) ?_; (with_reducible refine (impl_Word.calls t150 t151 _ A21.out).mono ?_); rintro e w' ⟨rfl, ⟨nd, rfl⟩⟩; refine ⟨_, rfl, ?_⟩))
            go_ret2
            exact ⟨by first | rfl | (simp; done) | (simp [*]; done), by repeat (first | exact Drawn0.refl _ | apply Drawn0.step)⟩
          · rw [if_neg c19] at H
            have c19b0 : (a0 == 5) = false := beq_eq_false_iff_ne.mpr c19
            have c19b1 : (a0 != 5) = true := bne_iff_ne.mpr c19
            by_cases c22 : a0 = 6
            · rw [if_pos c22] at H
              have c22b0 : (a0 == 6) = true := beq_iff_eq.mpr c22
              have c22b1 : (a0 != 6) = false := bne_eq_false_iff_eq.mpr c22
              clear c22
              replace H := Option.bind_eq_some_iff.mp H
              obtain ⟨t152, A230, H⟩ := H
              replace H : (some (t152, true)) = some (r1, r2) := H
              have A23 := Aside0.mk A230
              clear A230
              simp only [Option.some.injEq, Prod.mk.injEq] at H
              obtain ⟨rfl, rfl⟩ := H
              go_enter Try.func28, Try.ntmps28
              go_wp2_with (first | ((with_reducible refine gate_callee (f := 16) rfl ?_); refine goesL_ (some 16) rfl rfl Try.func16 (by kernel_rfl) rfl #[.int .i64 a1] rfl (by (try simp only [List.map_toArray, List.map_cons, List.map_nil]); first | done | rfl | (simp only [List.length_drop, List.length_take]; rfl)) ?_; (with_reducible refine (impl_Word.calls a1 t141 _ A4.out).mono ?_); rintro e w' ⟨rfl, ⟨nd, rfl⟩⟩; refine ⟨_, rfl, ?_⟩) | ((with_reducible refine gate_callee (f := 16) rfl ?_); refine goesL_ (some 18) rfl rfl Try.func16 (by kernel_rfl) rfl #[.int .i64 a2] rfl (by (try simp only [List.map_toArray, List.map_cons, List.map_nil]); first | done | rfl | (simp only [List.length_drop, List.length_take]; rfl)) ?_; (with_reducible refine (impl_Word.calls a2 t142 _ A5.out).mono ?_); rintro e w' ⟨rfl, ⟨nd, rfl⟩⟩; refine ⟨_, rfl, ?_⟩) | ((with_reducible refine gate_callee (f := 18) rfl ?_); refine goesL_ (some 20) rfl rfl Try.func18 (by kernel_rfl) rfl #[.int .i64 a1] rfl (by (try simp only [List.map_toArray, List.map_cons, List.map_nil]); first | done | rfl | (simp only [List.length_drop, List.length_take]; rfl)) ?_; (with_reducible refine (impl_Signed.calls a1 t143 _ A6.out).mono ?_); rintro e w' ⟨rfl, ⟨nd, rfl⟩⟩; refine ⟨_, rfl, ?_⟩) | ((with_reducible refine gate_callee (f := 18) rfl ?_); refine goesL_ (some 22) rfl rfl Try.func18 (by kernel_rfl) rfl #[.int .i64 a2] rfl (by (try simp only [List.map_toArray, List.map_cons, List.map_nil]); first | done | rfl | (simp only [List.length_drop, List.length_take]; rfl)) ?_; (with_reducible refine (impl_Signed.calls a2 t144 _ A7.out).mono ?_); rintro e w' ⟨rfl, ⟨nd, rfl⟩⟩; refine ⟨_, rfl, ?_⟩) | ((with_reducible refine gate_callee (f := 16) rfl ?_); refine goesL_ (some 140) rfl rfl Try.func16 (by kernel_rfl) rfl #[.int .i64 (Go.bits .xor .i64 t141 t142)] rfl (by (try simp only [List.map_toArray, List.map_cons, List.map_nil]); first | done | rfl | (simp only [List.length_drop, List.length_take]; rfl)) ?_; (with_reducible refine (impl_Word.calls (Go.bits .xor .i64 t141 t142) t152 _ A23.out).mono ?_); rintro e w' ⟨rfl, ⟨nd, rfl⟩⟩; refine ⟨_, rfl, ?_⟩))
              go_ret2
              exact ⟨by first | rfl | (simp; done) | (simp [*]; done), by repeat (first | exact Drawn0.refl _ | apply Drawn0.step)⟩
            · rw [if_neg c22] at H
              have c22b0 : (a0 == 6) = false := beq_eq_false_iff_ne.mpr c22
              have c22b1 : (a0 != 6) = true := bne_iff_ne.mpr c22
              by_cases c24 : a0 = 7
              · rw [if_pos c24] at H
                have c24b0 : (a0 == 7) = true := beq_iff_eq.mpr c24
                have c24b1 : (a0 != 7) = false := bne_eq_false_iff_eq.mpr c24
                clear c24
                by_cases c25 : 0 ≤ (Go.bits .and .i64 t142 31)
                · rw [if_pos c25] at H
                  have c25b0 := eq_true c25
                  have c25b1 : decide (0 ≤ (Go.bits .and .i64 t142 31)) = true := decide_eq_true c25
                  clear c25
                  obtain ⟨ji26, hji26⟩ : ∃ j_ : Int, (shr .i64 t141 (Go.bits .and .i64 t142 31)) = j_ := ⟨_, rfl⟩
                  replace H : ((impl_Word.f (ji26)).bind fun t153 => (some (t153, true))) = some (r1, r2) := by first | (rw [hji26] at H; exact H) | (simp only [hji26] at H ⊢; exact H)
                  (try rw [hji26] at A4)
                  (try rw [hji26] at A5)
                  (try rw [hji26] at A6)
                  (try rw [hji26] at A7)
                  have hji26_ : (t141 / 2 ^ min (Go.bits .and .i64 t142 31).toNat 64) = ji26 := hji26
                  have hji26z : (Go.bits .and .i64 t142 31) ≤ 64 → (t141 / 2 ^ (Go.bits .and .i64 t142 31).toNat) = ji26 := shr_small hji26
                  replace H := Option.bind_eq_some_iff.mp H
                  obtain ⟨t153, A270, H⟩ := H
                  replace H : (some (t153, true)) = some (r1, r2) := H
                  have A27 := Aside0.mk A270
                  clear A270
                  simp only [Option.some.injEq, Prod.mk.injEq] at H
                  obtain ⟨rfl, rfl⟩ := H
                  go_enter Try.func28, Try.ntmps28
                  go_wp2_with (first | ((with_reducible refine gate_callee (f := 16) rfl ?_); refine goesL_ (some 16) rfl rfl Try.func16 (by kernel_rfl) rfl #[.int .i64 a1] rfl (by (try simp only [List.map_toArray, List.map_cons, List.map_nil]); first | done | rfl | (simp only [List.length_drop, List.length_take]; rfl)) ?_; (with_reducible refine (impl_Word.calls a1 t141 _ A4.out).mono ?_); rintro e w' ⟨rfl, ⟨nd, rfl⟩⟩; refine ⟨_, rfl, ?_⟩) | ((with_reducible refine gate_callee (f := 16) rfl ?_); refine goesL_ (some 18) rfl rfl Try.func16 (by kernel_rfl) rfl #[.int .i64 a2] rfl (by (try simp only [List.map_toArray, List.map_cons, List.map_nil]); first | done | rfl | (simp only [List.length_drop, List.length_take]; rfl)) ?_; (with_reducible refine (impl_Word.calls a2 t142 _ A5.out).mono ?_); rintro e w' ⟨rfl, ⟨nd, rfl⟩⟩; refine ⟨_, rfl, ?_⟩) | ((with_reducible refine gate_callee (f := 18) rfl ?_); refine goesL_ (some 20) rfl rfl Try.func18 (by kernel_rfl) rfl #[.int .i64 a1] rfl (by (try simp only [List.map_toArray, List.map_cons, List.map_nil]); first | done | rfl | (simp only [List.length_drop, List.length_take]; rfl)) ?_; (with_reducible refine (impl_Signed.calls a1 t143 _ A6.out).mono ?_); rintro e w' ⟨rfl, ⟨nd, rfl⟩⟩; refine ⟨_, rfl, ?_⟩) | ((with_reducible refine gate_callee (f := 18) rfl ?_); refine goesL_ (some 22) rfl rfl Try.func18 (by kernel_rfl) rfl #[.int .i64 a2] rfl (by (try simp only [List.map_toArray, List.map_cons, List.map_nil]); first | done | rfl | (simp only [List.length_drop, List.length_take]; rfl)) ?_; (with_reducible refine (impl_Signed.calls a2 t144 _ A7.out).mono ?_); rintro e w' ⟨rfl, ⟨nd, rfl⟩⟩; refine ⟨_, rfl, ?_⟩) | ((with_reducible refine gate_callee (f := 16) rfl ?_); refine goesL_ (some 140) rfl rfl Try.func16 (by kernel_rfl) rfl #[.int .i64 ji26] rfl (by (try simp only [List.map_toArray, List.map_cons, List.map_nil]); first | done | (simp only [hji26]; rfl) | rfl | (simp only [List.length_drop, List.length_take]; rfl)) ?_; (with_reducible refine (impl_Word.calls ji26 t153 _ A27.out).mono ?_); rintro e w' ⟨rfl, ⟨nd, rfl⟩⟩; refine ⟨_, rfl, ?_⟩))
                  go_ret2
                  exact ⟨by first | rfl | (simp; done) | (simp only [← hji26] <;> (first | rfl | simp)) | (simp [*]; done), by repeat (first | exact Drawn0.refl _ | apply Drawn0.step)⟩
                · rw [if_neg c25] at H
                  exact absurd H (by simp)
              · rw [if_neg c24] at H
                have c24b0 : (a0 == 7) = false := beq_eq_false_iff_ne.mpr c24
                have c24b1 : (a0 != 7) = true := bne_iff_ne.mpr c24
                by_cases c28 : a0 = 8
                · rw [if_pos c28] at H
                  have c28b0 : (a0 == 8) = true := beq_iff_eq.mpr c28
                  have c28b1 : (a0 != 8) = false := bne_eq_false_iff_eq.mpr c28
                  clear c28
                  by_cases c29 : 0 ≤ (Go.bits .and .i64 t142 31)
                  · rw [if_pos c29] at H
                    have c29b0 := eq_true c29
                    have c29b1 : decide (0 ≤ (Go.bits .and .i64 t142 31)) = true := decide_eq_true c29
                    clear c29
                    obtain ⟨ji30, hji30⟩ : ∃ j_ : Int, (shr .i64 t143 (Go.bits .and .i64 t142 31)) = j_ := ⟨_, rfl⟩
                    replace H : ((impl_Word.f (ji30)).bind fun t154 => (some (t154, true))) = some (r1, r2) := by first | (rw [hji30] at H; exact H) | (simp only [hji30] at H ⊢; exact H)
                    (try rw [hji30] at A4)
                    (try rw [hji30] at A5)
                    (try rw [hji30] at A6)
                    (try rw [hji30] at A7)
                    have hji30_ : (t143 / 2 ^ min (Go.bits .and .i64 t142 31).toNat 64) = ji30 := hji30
                    have hji30z : (Go.bits .and .i64 t142 31) ≤ 64 → (t143 / 2 ^ (Go.bits .and .i64 t142 31).toNat) = ji30 := shr_small hji30
                    replace H := Option.bind_eq_some_iff.mp H
                    obtain ⟨t154, A310, H⟩ := H
                    replace H : (some (t154, true)) = some (r1, r2) := H
                    have A31 := Aside0.mk A310
                    clear A310
                    simp only [Option.some.injEq, Prod.mk.injEq] at H
                    obtain ⟨rfl, rfl⟩ := H
                    go_enter Try.func28, Try.ntmps28
                    go_wp2_with (first | ((with_reducible refine gate_callee (f := 16) rfl ?_); refine goesL_ (some 16) rfl rfl Try.func16 (by kernel_rfl) rfl #[.int .i64 a1] rfl (by (try simp only [List.map_toArray, List.map_cons, List.map_nil]); first | done | rfl | (simp only [List.length_drop, List.length_take]; rfl)) ?_; (with_reducible refine (impl_Word.calls a1 t141 _ A4.out).mono ?_); rintro e w' ⟨rfl, ⟨nd, rfl⟩⟩; refine ⟨_, rfl, ?_⟩) | ((with_reducible refine gate_callee (f := 16) rfl ?_); refine goesL_ (some 18) rfl rfl Try.func16 (by kernel_rfl) rfl #[.int .i64 a2] rfl (by (try simp only [List.map_toArray, List.map_cons, List.map_nil]); first | done | rfl | (simp only [List.length_drop, List.length_take]; rfl)) ?_; (with_reducible refine (impl_Word.calls a2 t142 _ A5.out).mono ?_); rintro e w' ⟨rfl, ⟨nd, rfl⟩⟩; refine ⟨_, rfl, ?_⟩) | ((with_reducible refine gate_callee (f := 18) rfl ?_); refine goesL_ (some 20) rfl rfl Try.func18 (by kernel_rfl) rfl #[.int .i64 a1] rfl (by (try simp only [List.map_toArray, List.map_cons, List.map_nil]); first | done | rfl | (simp only [List.length_drop, List.length_take]; rfl)) ?_; (with_reducible refine (impl_Signed.calls a1 t143 _ A6.out).mono ?_); rintro e w' ⟨rfl, ⟨nd, rfl⟩⟩; refine ⟨_, rfl, ?_⟩) | ((with_reducible refine gate_callee (f := 18) rfl ?_); refine goesL_ (some 22) rfl rfl Try.func18 (by kernel_rfl) rfl #[.int .i64 a2] rfl (by (try simp only [List.map_toArray, List.map_cons, List.map_nil]); first | done | rfl | (simp only [List.length_drop, List.length_take]; rfl)) ?_; (with_reducible refine (impl_Signed.calls a2 t144 _ A7.out).mono ?_); rintro e w' ⟨rfl, ⟨nd, rfl⟩⟩; refine ⟨_, rfl, ?_⟩) | ((with_reducible refine gate_callee (f := 16) rfl ?_); refine goesL_ (some 140) rfl rfl Try.func16 (by kernel_rfl) rfl #[.int .i64 ji30] rfl (by (try simp only [List.map_toArray, List.map_cons, List.map_nil]); first | done | (simp only [hji30]; rfl) | rfl | (simp only [List.length_drop, List.length_take]; rfl)) ?_; (with_reducible refine (impl_Word.calls ji30 t154 _ A31.out).mono ?_); rintro e w' ⟨rfl, ⟨nd, rfl⟩⟩; refine ⟨_, rfl, ?_⟩))
                    go_ret2
                    exact ⟨by first | rfl | (simp; done) | (simp only [← hji30] <;> (first | rfl | simp)) | (simp [*]; done), by repeat (first | exact Drawn0.refl _ | apply Drawn0.step)⟩
                  · rw [if_neg c29] at H
                    exact absurd H (by simp)
                · rw [if_neg c28] at H
                  have c28b0 : (a0 == 8) = false := beq_eq_false_iff_ne.mpr c28
                  have c28b1 : (a0 != 8) = true := bne_iff_ne.mpr c28
                  by_cases c32 : a0 = 9
                  · rw [if_pos c32] at H
                    have c32b0 : (a0 == 9) = true := beq_iff_eq.mpr c32
                    have c32b1 : (a0 != 9) = false := bne_eq_false_iff_eq.mpr c32
                    clear c32
                    replace H := Option.bind_eq_some_iff.mp H
                    obtain ⟨t155, A330, H⟩ := H
                    replace H : (some (t155, true)) = some (r1, r2) := H
                    have A33 := Aside0.mk A330
                    clear A330
                    simp only [Option.some.injEq, Prod.mk.injEq] at H
                    obtain ⟨rfl, rfl⟩ := H
                    go_enter Try.func28, Try.ntmps28
                    go_wp2_with (first | ((with_reducible refine gate_callee (f := 16) rfl ?_); refine goesL_ (some 16) rfl rfl Try.func16 (by kernel_rfl) rfl #[.int .i64 a1] rfl (by (try simp only [List.map_toArray, List.map_cons, List.map_nil]); first | done | rfl | (simp only [List.length_drop, List.length_take]; rfl)) ?_; (with_reducible refine (impl_Word.calls a1 t141 _ A4.out).mono ?_); rintro e w' ⟨rfl, ⟨nd, rfl⟩⟩; refine ⟨_, rfl, ?_⟩) | ((with_reducible refine gate_callee (f := 16) rfl ?_); refine goesL_ (some 18) rfl rfl Try.func16 (by kernel_rfl) rfl #[.int .i64 a2] rfl (by (try simp only [List.map_toArray, List.map_cons, List.map_nil]); first | done | rfl | (simp only [List.length_drop, List.length_take]; rfl)) ?_; (with_reducible refine (impl_Word.calls a2 t142 _ A5.out).mono ?_); rintro e w' ⟨rfl, ⟨nd, rfl⟩⟩; refine ⟨_, rfl, ?_⟩) | ((with_reducible refine gate_callee (f := 18) rfl ?_); refine goesL_ (some 20) rfl rfl Try.func18 (by kernel_rfl) rfl #[.int .i64 a1] rfl (by (try simp only [List.map_toArray, List.map_cons, List.map_nil]); first | done | rfl | (simp only [List.length_drop, List.length_take]; rfl)) ?_; (with_reducible refine (impl_Signed.calls a1 t143 _ A6.out).mono ?_); rintro e w' ⟨rfl, ⟨nd, rfl⟩⟩; refine ⟨_, rfl, ?_⟩) | ((with_reducible refine gate_callee (f := 18) rfl ?_); refine goesL_ (some 22) rfl rfl Try.func18 (by kernel_rfl) rfl #[.int .i64 a2] rfl (by (try simp only [List.map_toArray, List.map_cons, List.map_nil]); first | done | rfl | (simp only [List.length_drop, List.length_take]; rfl)) ?_; (with_reducible refine (impl_Signed.calls a2 t144 _ A7.out).mono ?_); rintro e w' ⟨rfl, ⟨nd, rfl⟩⟩; refine ⟨_, rfl, ?_⟩) | ((with_reducible refine gate_callee (f := 16) rfl ?_); refine goesL_ (some 140) rfl rfl Try.func16 (by kernel_rfl) rfl #[.int .i64 (Go.bits .or .i64 t141 t142)] rfl (by (try simp only [List.map_toArray, List.map_cons, List.map_nil]); first | done | rfl | (simp only [List.length_drop, List.length_take]; rfl)) ?_; (with_reducible refine (impl_Word.calls (Go.bits .or .i64 t141 t142) t155 _ A33.out).mono ?_); rintro e w' ⟨rfl, ⟨nd, rfl⟩⟩; refine ⟨_, rfl, ?_⟩))
                    go_ret2
                    exact ⟨by first | rfl | (simp; done) | (simp [*]; done), by repeat (first | exact Drawn0.refl _ | apply Drawn0.step)⟩
                  · rw [if_neg c32] at H
                    have c32b0 : (a0 == 9) = false := beq_eq_false_iff_ne.mpr c32
                    have c32b1 : (a0 != 9) = true := bne_iff_ne.mpr c32
                    by_cases c34 : a0 = 10
                    · rw [if_pos c34] at H
                      have c34b0 : (a0 == 10) = true := beq_iff_eq.mpr c34
                      have c34b1 : (a0 != 10) = false := bne_eq_false_iff_eq.mpr c34
                      clear c34
                      replace H := Option.bind_eq_some_iff.mp H
                      obtain ⟨t156, A350, H⟩ := H
                      replace H : (some (t156, true)) = some (r1, r2) := H
                      have A35 := Aside0.mk A350
                      clear A350
                      simp only [Option.some.injEq, Prod.mk.injEq] at H
                      obtain ⟨rfl, rfl⟩ := H
                      go_enter Try.func28, Try.ntmps28
                      go_wp2_with (first | ((with_reducible refine gate_callee (f := 16) rfl ?_); refine goesL_ (some 16) rfl rfl Try.func16 (by kernel_rfl) rfl #[.int .i64 a1] rfl (by (try simp only [List.map_toArray, List.map_cons, List.map_nil]); first | done | rfl | (simp only [List.length_drop, List.length_take]; rfl)) ?_; (with_reducible refine (impl_Word.calls a1 t141 _ A4.out).mono ?_); rintro e w' ⟨rfl, ⟨nd, rfl⟩⟩; refine ⟨_, rfl, ?_⟩) | ((with_reducible refine gate_callee (f := 16) rfl ?_); refine goesL_ (some 18) rfl rfl Try.func16 (by kernel_rfl) rfl #[.int .i64 a2] rfl (by (try simp only [List.map_toArray, List.map_cons, List.map_nil]); first | done | rfl | (simp only [List.length_drop, List.length_take]; rfl)) ?_; (with_reducible refine (impl_Word.calls a2 t142 _ A5.out).mono ?_); rintro e w' ⟨rfl, ⟨nd, rfl⟩⟩; refine ⟨_, rfl, ?_⟩) | ((with_reducible refine gate_callee (f := 18) rfl ?_); refine goesL_ (some 20) rfl rfl Try.func18 (by kernel_rfl) rfl #[.int .i64 a1] rfl (by (try simp only [List.map_toArray, List.map_cons, List.map_nil]); first | done | rfl | (simp only [List.length_drop, List.length_take]; rfl)) ?_; (with_reducible refine (impl_Signed.calls a1 t143 _ A6.out).mono ?_); rintro e w' ⟨rfl, ⟨nd, rfl⟩⟩; refine ⟨_, rfl, ?_⟩) | ((with_reducible refine gate_callee (f := 18) rfl ?_); refine goesL_ (some 22) rfl rfl Try.func18 (by kernel_rfl) rfl #[.int .i64 a2] rfl (by (try simp only [List.map_toArray, List.map_cons, List.map_nil]); first | done | rfl | (simp only [List.length_drop, List.length_take]; rfl)) ?_; (with_reducible refine (impl_Signed.calls a2 t144 _ A7.out).mono ?_); rintro e w' ⟨rfl, ⟨nd, rfl⟩⟩; refine ⟨_, rfl, ?_⟩) | ((with_reducible refine gate_callee (f := 16) rfl ?_); refine goesL_ (some 140) rfl rfl Try.func16 (by kernel_rfl) rfl #[.int .i64 (Go.bits .and .i64 t141 t142)] rfl (by (try simp only [List.map_toArray, List.map_cons, List.map_nil]); first | done | rfl | (simp only [List.length_drop, List.length_take]; rfl)) ?_; (with_reducible refine (impl_Word.calls (Go.bits .and .i64 t141 t142) t156 _ A35.out).mono ?_); rintro e w' ⟨rfl, ⟨nd, rfl⟩⟩; refine ⟨_, rfl, ?_⟩))
                      go_ret2
                      exact ⟨by first | rfl | (simp; done) | (simp [*]; done), by repeat (first | exact Drawn0.refl _ | apply Drawn0.step)⟩
                    · rw [if_neg c34] at H
                      have c34b0 : (a0 == 10) = false := beq_eq_false_iff_ne.mpr c34
                      have c34b1 : (a0 != 10) = true := bne_iff_ne.mpr c34
                      by_cases c36 : a0 = 11
                      · rw [if_pos c36] at H
                        have c36b0 : (a0 == 11) = true := beq_iff_eq.mpr c36
                        have c36b1 : (a0 != 11) = false := bne_eq_false_iff_eq.mpr c36
                        clear c36
                        replace H := Option.bind_eq_some_iff.mp H
                        obtain ⟨t157, A370, H⟩ := H
                        replace H : (some (t157, true)) = some (r1, r2) := H
                        have A37 := Aside0.mk A370
                        clear A370
                        simp only [Option.some.injEq, Prod.mk.injEq] at H
                        obtain ⟨rfl, rfl⟩ := H
                        go_enter Try.func28, Try.ntmps28
                        go_wp2_with (first | ((with_reducible refine gate_callee (f := 16) rfl ?_); refine goesL_ (some 16) rfl rfl Try.func16 (by kernel_rfl) rfl #[.int .i64 a1] rfl (by (try simp only [List.map_toArray, List.map_cons, List.map_nil]); first | done | rfl | (simp only [List.length_drop, List.length_take]; rfl)) ?_; (with_reducible refine (impl_Word.calls a1 t141 _ A4.out).mono ?_); rintro e w' ⟨rfl, ⟨nd, rfl⟩⟩; refine ⟨_, rfl, ?_⟩) | ((with_reducible refine gate_callee (f := 16) rfl ?_); refine goesL_ (some 18) rfl rfl Try.func16 (by kernel_rfl) rfl #[.int .i64 a2] rfl (by (try simp only [List.map_toArray, List.map_cons, List.map_nil]); first | done | rfl | (simp only [List.length_drop, List.length_take]; rfl)) ?_; (with_reducible refine (impl_Word.calls a2 t142 _ A5.out).mono ?_); rintro e w' ⟨rfl, ⟨nd, rfl⟩⟩; refine ⟨_, rfl, ?_⟩) | ((with_reducible refine gate_callee (f := 18) rfl ?_); refine goesL_ (some 20) rfl rfl Try.func18 (by kernel_rfl) rfl #[.int .i64 a1] rfl (by (try simp only [List.map_toArray, List.map_cons, List.map_nil]); first | done | rfl | (simp only [List.length_drop, List.length_take]; rfl)) ?_; (with_reducible refine (impl_Signed.calls a1 t143 _ A6.out).mono ?_); rintro e w' ⟨rfl, ⟨nd, rfl⟩⟩; refine ⟨_, rfl, ?_⟩) | ((with_reducible refine gate_callee (f := 18) rfl ?_); refine goesL_ (some 22) rfl rfl Try.func18 (by kernel_rfl) rfl #[.int .i64 a2] rfl (by (try simp only [List.map_toArray, List.map_cons, List.map_nil]); first | done | rfl | (simp only [List.length_drop, List.length_take]; rfl)) ?_; (with_reducible refine (impl_Signed.calls a2 t144 _ A7.out).mono ?_); rintro e w' ⟨rfl, ⟨nd, rfl⟩⟩; refine ⟨_, rfl, ?_⟩) | ((with_reducible refine gate_callee (f := 16) rfl ?_); refine goesL_ (some 140) rfl rfl Try.func16 (by kernel_rfl) rfl #[.int .i64 (wrap64 (t143 * t144))] rfl (by (try simp only [List.map_toArray, List.map_cons, List.map_nil]); first | done | rfl | (simp only [List.length_drop, List.length_take]; rfl)) ?_; (with_reducible refine (impl_Word.calls (wrap64 (t143 * t144)) t157 _ A37.out).mono ?_); rintro e w' ⟨rfl, ⟨nd, rfl⟩⟩; refine ⟨_, rfl, ?_⟩))
                        go_ret2
                        exact ⟨by first | rfl | (simp; done) | (simp [*]; done), by repeat (first | exact Drawn0.refl _ | apply Drawn0.step)⟩
                      · rw [if_neg c36] at H
                        have c36b0 : (a0 == 11) = false := beq_eq_false_iff_ne.mpr c36
                        have c36b1 : (a0 != 11) = true := bne_iff_ne.mpr c36
                        by_cases c38 : a0 = 12
                        · rw [if_pos c38] at H
                          have c38b0 : (a0 == 12) = true := beq_iff_eq.mpr c38
                          have c38b1 : (a0 != 12) = false := bne_eq_false_iff_eq.mpr c38
                          clear c38
                          replace H := Option.bind_eq_some_iff.mp H
                          obtain ⟨t158, A390, H⟩ := H
                          replace H : (some (t158, true)) = some (r1, r2) := H
                          have A39 := Aside0.mk A390
                          clear A390
                          simp only [Option.some.injEq, Prod.mk.injEq] at H
                          obtain ⟨rfl, rfl⟩ := H
                          go_enter Try.func28, Try.ntmps28
                          go_wp2_with (first | ((with_reducible refine gate_callee (f := 16) rfl ?_); refine goesL_ (some 16) rfl rfl Try.func16 (by kernel_rfl) rfl #[.int .i64 a1] rfl (by (try simp only [List.map_toArray, List.map_cons, List.map_nil]); first | done | rfl | (simp only [List.length_drop, List.length_take]; rfl)) ?_; (with_reducible refine (impl_Word.calls a1 t141 _ A4.out).mono ?_); rintro e w' ⟨rfl, ⟨nd, rfl⟩⟩; refine ⟨_, rfl, ?_⟩) | ((with_reducible refine gate_callee (f := 16) rfl ?_); refine goesL_ (some 18) rfl rfl Try.func16 (by kernel_rfl) rfl #[.int .i64 a2] rfl (by (try simp only [List.map_toArray, List.map_cons, List.map_nil]); first | done | rfl | (simp only [List.length_drop, List.length_take]; rfl)) ?_; (with_reducible refine (impl_Word.calls a2 t142 _ A5.out).mono ?_); rintro e w' ⟨rfl, ⟨nd, rfl⟩⟩; refine ⟨_, rfl, ?_⟩) | ((with_reducible refine gate_callee (f := 18) rfl ?_); refine goesL_ (some 20) rfl rfl Try.func18 (by kernel_rfl) rfl #[.int .i64 a1] rfl (by (try simp only [List.map_toArray, List.map_cons, List.map_nil]); first | done | rfl | (simp only [List.length_drop, List.length_take]; rfl)) ?_; (with_reducible refine (impl_Signed.calls a1 t143 _ A6.out).mono ?_); rintro e w' ⟨rfl, ⟨nd, rfl⟩⟩; refine ⟨_, rfl, ?_⟩) | ((with_reducible refine gate_callee (f := 18) rfl ?_); refine goesL_ (some 22) rfl rfl Try.func18 (by kernel_rfl) rfl #[.int .i64 a2] rfl (by (try simp only [List.map_toArray, List.map_cons, List.map_nil]); first | done | rfl | (simp only [List.length_drop, List.length_take]; rfl)) ?_; (with_reducible refine (impl_Signed.calls a2 t144 _ A7.out).mono ?_); rintro e w' ⟨rfl, ⟨nd, rfl⟩⟩; refine ⟨_, rfl, ?_⟩) | ((with_reducible refine gate_callee (f := 16) rfl ?_); refine goesL_ (some 140) rfl rfl Try.func16 (by kernel_rfl) rfl #[.int .i64 ((wrap64 (t143 * t144)) / 4294967296)] rfl (by (try simp only [List.map_toArray, List.map_cons, List.map_nil]); first | done | rfl | (simp only [List.length_drop, List.length_take]; rfl)) ?_; (with_reducible refine (impl_Word.calls ((wrap64 (t143 * t144)) / 4294967296) t158 _ A39.out).mono ?_); rintro e w' ⟨rfl, ⟨nd, rfl⟩⟩; refine ⟨_, rfl, ?_⟩))
                          go_ret2
                          exact ⟨by first | rfl | (simp; done) | (simp [*]; done), by repeat (first | exact Drawn0.refl _ | apply Drawn0.step)⟩
                        · rw [if_neg c38] at H
                          have c38b0 : (a0 == 12) = false := beq_eq_false_iff_ne.mpr c38
                          have c38b1 : (a0 != 12) = true := bne_iff_ne.mpr c38
                          by_cases c40 : a0 = 13
                          · rw [if_pos c40] at H
                            have c40b0 : (a0 == 13) = true := beq_iff_eq.mpr c40
                            have c40b1 : (a0 != 13) = false := bne_eq_false_iff_eq.mpr c40
                            clear c40
                            replace H := Option.bind_eq_some_iff.mp H
                            obtain ⟨t159, A410, H⟩ := H
                            replace H : (some (t159, true)) = some (r1, r2) := H
                            have A41 := Aside0.mk A410
                            clear A410
                            simp only [Option.some.injEq, Prod.mk.injEq] at H
                            obtain ⟨rfl, rfl⟩ := H
                            go_enter Try.func28, Try.ntmps28
                            go_wp2_with (first | ((with_reducible refine gate_callee (f := 16) rfl ?_); refine goesL_ (some 16) rfl rfl Try.func16 (by kernel_rfl) rfl #[.int .i64 a1] rfl (by (try simp only [List.map_toArray, List.map_cons, List.map_nil]); first | done | rfl | (simp only [List.length_drop, List.length_take]; rfl)) ?_; (with_reducible refine (impl_Word.calls a1 t141 _ A4.out).mono ?_); rintro e w' ⟨rfl, ⟨nd, rfl⟩⟩; refine ⟨_, rfl, ?_⟩) | ((with_reducible refine gate_callee (f := 16) rfl ?_); refine goesL_ (some 18) rfl rfl Try.func16 (by kernel_rfl) rfl #[.int .i64 a2] rfl (by (try simp only [List.map_toArray, List.map_cons, List.map_nil]); first | done | rfl | (simp only [List.length_drop, List.length_take]; rfl)) ?_; (with_reducible refine (impl_Word.calls a2 t142 _ A5.out).mono ?_); rintro e w' ⟨rfl, ⟨nd, rfl⟩⟩; refine ⟨_, rfl, ?_⟩) | ((with_reducible refine gate_callee (f := 18) rfl ?_); refine goesL_ (some 20) rfl rfl Try.func18 (by kernel_rfl) rfl #[.int .i64 a1] rfl (by (try simp only [List.map_toArray, List.map_cons, List.map_nil]); first | done | rfl | (simp only [List.length_drop, List.length_take]; rfl)) ?_; (with_reducible refine (impl_Signed.calls a1 t143 _ A6.out).mono ?_); rintro e w' ⟨rfl, ⟨nd, rfl⟩⟩; refine ⟨_, rfl, ?_⟩) | ((with_reducible refine gate_callee (f := 18) rfl ?_); refine goesL_ (some 22) rfl rfl Try.func18 (by kernel_rfl) rfl #[.int .i64 a2] rfl (by (try simp only [List.map_toArray, List.map_cons, List.map_nil]); first | done | rfl | (simp only [List.length_drop, List.length_take]; rfl)) ?_; (with_reducible refine (impl_Signed.calls a2 t144 _ A7.out).mono ?_); rintro e w' ⟨rfl, ⟨nd, rfl⟩⟩; refine ⟨_, rfl, ?_⟩) | ((with_reducible refine gate_callee (f := 16) rfl ?_); refine goesL_ (some 140) rfl rfl Try.func16 (by kernel_rfl) rfl #[.int .i64 ((wrap64 (t143 * t142)) / 4294967296)] rfl (by (try simp only [List.map_toArray, List.map_cons, List.map_nil]); first | done | rfl | (simp only [List.length_drop, List.length_take]; rfl)) ?_; (with_reducible refine (impl_Word.calls ((wrap64 (t143 * t142)) / 4294967296) t159 _ A41.out).mono ?_); rintro e w' ⟨rfl, ⟨nd, rfl⟩⟩; refine ⟨_, rfl, ?_⟩))
                            go_ret2
                            exact ⟨by first | rfl | (simp; done) | (simp [*]; done), by repeat (first | exact Drawn0.refl _ | apply Drawn0.step)⟩
                          · rw [if_neg c40] at H
                            have c40b0 : (a0 == 13) = false := beq_eq_false_iff_ne.mpr c40
                            have c40b1 : (a0 != 13) = true := bne_iff_ne.mpr c40
                            by_cases c42 : a0 = 14
                            · rw [if_pos c42] at H
                              have c42b0 : (a0 == 14) = true := beq_iff_eq.mpr c42
                              have c42b1 : (a0 != 14) = false := bne_eq_false_iff_eq.mpr c42
                              clear c42
                              replace H := Option.bind_eq_some_iff.mp H
                              obtain ⟨⟨t160, t161⟩, A430, H⟩ := H
                              replace H : ((impl_Word.f (wrap64 (t161 / 4294967296))).bind fun t162 => (some (t162, true))) = some (r1, r2) := H
                              have A43 := Aside0.mk A430
                              clear A430
                              replace H := Option.bind_eq_some_iff.mp H
                              obtain ⟨t162, A440, H⟩ := H
                              replace H : (some (t162, true)) = some (r1, r2) := H
                              have A44 := Aside0.mk A440
                              clear A440
                              simp only [Option.some.injEq, Prod.mk.injEq] at H
                              obtain ⟨rfl, rfl⟩ := H
                              go_enter Try.func28, Try.ntmps28
                              go_wp2_with (first | ((with_reducible refine gate_callee (f := 16) rfl ?_); refine goesL_ (some 16) rfl rfl Try.func16 (by kernel_rfl) rfl #[.int .i64 a1] rfl (by (try simp only [List.map_toArray, List.map_cons, List.map_nil]); first | done | rfl | (simp only [List.length_drop, List.length_take]; rfl)) ?_; (with_reducible refine (impl_Word.calls a1 t141 _ A4.out).mono ?_); rintro e w' ⟨rfl, ⟨nd, rfl⟩⟩; refine ⟨_, rfl, ?_⟩) | ((with_reducible refine gate_callee (f := 16) rfl ?_); refine goesL_ (some 18) rfl rfl Try.func16 (by kernel_rfl) rfl #[.int .i64 a2] rfl (by (try simp only [List.map_toArray, List.map_cons, List.map_nil]); first | done | rfl | (simp only [List.length_drop, List.length_take]; rfl)) ?_; (with_reducible refine (impl_Word.calls a2 t142 _ A5.out).mono ?_); rintro e w' ⟨rfl, ⟨nd, rfl⟩⟩; refine ⟨_, rfl, ?_⟩) | ((with_reducible refine gate_callee (f := 18) rfl ?_); refine goesL_ (some 20) rfl rfl Try.func18 (by kernel_rfl) rfl #[.int .i64 a1] rfl (by (try simp only [List.map_toArray, List.map_cons, List.map_nil]); first | done | rfl | (simp only [List.length_drop, List.length_take]; rfl)) ?_; (with_reducible refine (impl_Signed.calls a1 t143 _ A6.out).mono ?_); rintro e w' ⟨rfl, ⟨nd, rfl⟩⟩; refine ⟨_, rfl, ?_⟩) | ((with_reducible refine gate_callee (f := 18) rfl ?_); refine goesL_ (some 22) rfl rfl Try.func18 (by kernel_rfl) rfl #[.int .i64 a2] rfl (by (try simp only [List.map_toArray, List.map_cons, List.map_nil]); first | done | rfl | (simp only [List.length_drop, List.length_take]; rfl)) ?_; (with_reducible refine (impl_Signed.calls a2 t144 _ A7.out).mono ?_); rintro e w' ⟨rfl, ⟨nd, rfl⟩⟩; refine ⟨_, rfl, ?_⟩) | ((with_reducible refine gate_callee (f := 54) rfl ?_); refine goesL_ (some 103) rfl rfl Try.func54 (by kernel_rfl) rfl #[.int .u64 (IntKind.u64.wrap (t141)), .int .u64 (IntKind.u64.wrap (t142))] rfl (by (try simp only [List.map_toArray, List.map_cons, List.map_nil]); first | done | rfl | (simp only [List.length_drop, List.length_take]; rfl)) ?_; (with_reducible refine (bits_Mul64.calls (IntKind.u64.wrap (t141)) (IntKind.u64.wrap (t142)) t160 t161 _ A43.out).mono ?_); rintro e w' ⟨rfl, ⟨nd, rfl⟩⟩; refine ⟨_, rfl, ?_⟩) | ((with_reducible refine gate_callee (f := 16) rfl ?_); refine goesL_ (some 140) rfl rfl Try.func16 (by kernel_rfl) rfl #[.int .i64 (wrap64 (t161 / 4294967296))] rfl (by (try simp only [List.map_toArray, List.map_cons, List.map_nil]); first | done | rfl | (simp only [List.length_drop, List.length_take]; rfl)) ?_; (with_reducible refine (impl_Word.calls (wrap64 (t161 / 4294967296)) t162 _ A44.out).mono ?_); rintro e w' ⟨rfl, ⟨nd, rfl⟩⟩; refine ⟨_, rfl, ?_⟩))
                              go_ret2
                              exact ⟨by first | rfl | (simp; done) | (simp [*]; done), by repeat (first | exact Drawn0.refl _ | apply Drawn0.step)⟩
                            · rw [if_neg c42] at H
                              have c42b0 : (a0 == 14) = false := beq_eq_false_iff_ne.mpr c42
                              have c42b1 : (a0 != 14) = true := bne_iff_ne.mpr c42
                              by_cases c45 : a0 = 15
                              · rw [if_pos c45] at H
                                have c45b0 : (a0 == 15) = true := beq_iff_eq.mpr c45
                                have c45b1 : (a0 != 15) = false := bne_eq_false_iff_eq.mpr c45
                                clear c45
                                by_cases c46 : t144 = 0
                                · rw [if_pos c46] at H
                                  have c46b0 : (t144 == 0) = true := beq_iff_eq.mpr c46
                                  have c46b1 : (t144 != 0) = false := bne_eq_false_iff_eq.mpr c46
                                  clear c46
                                  replace H := Option.bind_eq_some_iff.mp H
                                  obtain ⟨t163, A470, H⟩ := H
                                  replace H : (some (t163, true)) = some (r1, r2) := H
                                  have A47 := Aside0.mk A470
                                  clear A470
                                  simp only [Option.some.injEq, Prod.mk.injEq] at H
                                  obtain ⟨rfl, rfl⟩ := H
                                  go_enter Try.func28, Try.ntmps28
                                  go_wp2_with (first | ((with_reducible refine gate_callee (f := 16) rfl ?_); refine goesL_ (some 16) rfl rfl Try.func16 (by kernel_rfl) rfl #[.int .i64 a1] rfl (by (try simp only [List.map_toArray, List.map_cons, List.map_nil]); first | done | rfl | (simp only [List.length_drop, List.length_take]; rfl)) ?_; (with_reducible refine (impl_Word.calls a1 t141 _ A4.out).mono ?_); rintro e w' ⟨rfl, ⟨nd, rfl⟩⟩; refine ⟨_, rfl, ?_⟩) | ((with_reducible refine gate_callee (f := 16) rfl ?_); refine goesL_ (some 18) rfl rfl Try.func16 (by kernel_rfl) rfl #[.int .i64 a2] rfl (by (try simp only [List.map_toArray, List.map_cons, List.map_nil]); first | done | rfl | (simp only [List.length_drop, List.length_take]; rfl)) ?_; (with_reducible refine (impl_Word.calls a2 t142 _ A5.out).mono ?_); rintro e w' ⟨rfl, ⟨nd, rfl⟩⟩; refine ⟨_, rfl, ?_⟩) | ((with_reducible refine gate_callee (f := 18) rfl ?_); refine goesL_ (some 20) rfl rfl Try.func18 (by kernel_rfl) rfl #[.int .i64 a1] rfl (by (try simp only [List.map_toArray, List.map_cons, List.map_nil]); first | done | rfl | (simp only [List.length_drop, List.length_take]; rfl)) ?_; (with_reducible refine (impl_Signed.calls a1 t143 _ A6.out).mono ?_); rintro e w' ⟨rfl, ⟨nd, rfl⟩⟩; refine ⟨_, rfl, ?_⟩) | ((with_reducible refine gate_callee (f := 18) rfl ?_); refine goesL_ (some 22) rfl rfl Try.func18 (by kernel_rfl) rfl #[.int .i64 a2] rfl (by (try simp only [List.map_toArray, List.map_cons, List.map_nil]); first | done | rfl | (simp only [List.length_drop, List.length_take]; rfl)) ?_; (with_reducible refine (impl_Signed.calls a2 t144 _ A7.out).mono ?_); rintro e w' ⟨rfl, ⟨nd, rfl⟩⟩; refine ⟨_, rfl, ?_⟩) | ((with_reducible refine gate_callee (f := 16) rfl ?_); refine goesL_ (some 140) rfl rfl Try.func16 (by kernel_rfl) rfl #[.int .i64 (-1)] rfl (by (try simp only [List.map_toArray, List.map_cons, List.map_nil]); first | done | rfl | (simp only [List.length_drop, List.length_take]; rfl)) ?_; (with_reducible refine (impl_Word.calls (-1) t163 _ A47.out).mono ?_); rintro e w' ⟨rfl, ⟨nd, rfl⟩⟩; refine ⟨_, rfl, ?_⟩))
                                  go_ret2
                                  exact ⟨by first | rfl | (simp; done) | (simp [*]; done), by repeat (first | exact Drawn0.refl _ | apply Drawn0.step)⟩
                                · rw [if_neg c46] at H
                                  have c46b0 : (t144 == 0) = false := beq_eq_false_iff_ne.mpr c46
                                  have c46b1 : (t144 != 0) = true := bne_iff_ne.mpr c46
                                  replace H := Option.bind_eq_some_iff.mp H
                                  obtain ⟨t164, A480, H⟩ := H
                                  replace H : (some (t164, true)) = some (r1, r2) := H
                                  have A48 := Aside0.mk A480
                                  clear A480
                                  simp only [Option.some.injEq, Prod.mk.injEq] at H
                                  obtain ⟨rfl, rfl⟩ := H
                                  go_enter Try.func28, Try.ntmps28
                                  go_wp2_with (first | ((with_reducible refine gate_callee (f := 16) rfl ?_); refine goesL_ (some 16) rfl rfl Try.func16 (by kernel_rfl) rfl #[.int .i64 a1] rfl (by (try simp only [List.map_toArray, List.map_cons, List.map_nil]); first | done | rfl | (simp only [List.length_drop, List.length_take]; rfl)) ?_; (with_reducible refine (impl_Word.calls a1 t141 _ A4.out).mono ?_); rintro e w' ⟨rfl, ⟨nd, rfl⟩⟩; refine ⟨_, rfl, ?_⟩) | ((with_reducible refine gate_callee (f := 16) rfl ?_); refine goesL_ (some 18) rfl rfl Try.func16 (by kernel_rfl) rfl #[.int .i64 a2] rfl (by (try simp only [List.map_toArray, List.map_cons, List.map_nil]); first | done | rfl | (simp only [List.length_drop, List.length_take]; rfl)) ?_; (with_reducible refine (impl_Word.calls a2 t142 _ A5.out).mono ?_); rintro e w' ⟨rfl, ⟨nd, rfl⟩⟩; refine ⟨_, rfl, ?_⟩) | ((with_reducible refine gate_callee (f := 18) rfl ?_); refine goesL_ (some 20) rfl rfl Try.func18 (by kernel_rfl) rfl #[.int .i64 a1] rfl (by (try simp only [List.map_toArray, List.map_cons, List.map_nil]); first | done | rfl | (simp only [List.length_drop, List.length_take]; rfl)) ?_; (with_reducible refine (impl_Signed.calls a1 t143 _ A6.out).mono ?_); rintro e w' ⟨rfl, ⟨nd, rfl⟩⟩; refine ⟨_, rfl, ?_⟩) | ((with_reducible refine gate_callee (f := 18) rfl ?_); refine goesL_ (some 22) rfl rfl Try.func18 (by kernel_rfl) rfl #[.int .i64 a2] rfl (by (try simp only [List.map_toArray, List.map_cons, List.map_nil]); first | done | rfl | (simp only [List.length_drop, List.length_take]; rfl)) ?_; (with_reducible refine (impl_Signed.calls a2 t144 _ A7.out).mono ?_); rintro e w' ⟨rfl, ⟨nd, rfl⟩⟩; refine ⟨_, rfl, ?_⟩) | ((with_reducible refine gate_callee (f := 16) rfl ?_); refine goesL_ (some 140) rfl rfl Try.func16 (by kernel_rfl) rfl #[.int .i64 (wrap64 (Int.tdiv t143 t144))] rfl (by (try simp only [List.map_toArray, List.map_cons, List.map_nil]); first | done | rfl | (simp only [List.length_drop, List.length_take]; rfl)) ?_; (with_reducible refine (impl_Word.calls (wrap64 (Int.tdiv t143 t144)) t164 _ A48.out).mono ?_); rintro e w' ⟨rfl, ⟨nd, rfl⟩⟩; refine ⟨_, rfl, ?_⟩))
                                  go_ret2
                                  exact ⟨by first | rfl | (simp; done) | (simp [*]; done), by repeat (first | exact Drawn0.refl _ | apply Drawn0.step)⟩
                              · rw [if_neg c45] at H
                                have c45b0 : (a0 == 15) = false := beq_eq_false_iff_ne.mpr c45
                                have c45b1 : (a0 != 15) = true := bne_iff_ne.mpr c45
                                by_cases c49 : a0 = 16
                                · rw [if_pos c49] at H
                                  have c49b0 : (a0 == 16) = true := beq_iff_eq.mpr c49
                                  have c49b1 : (a0 != 16) = false := bne_eq_false_iff_eq.mpr c49
                                  clear c49
                                  by_cases c50 : t142 = 0
                                  · rw [if_pos c50] at H
                                    have c50b0 : (t142 == 0) = true := beq_iff_eq.mpr c50
                                    have c50b1 : (t142 != 0) = false := bne_eq_false_iff_eq.mpr c50
                                    clear c50
                                    replace H := Option.bind_eq_some_iff.mp H
                                    obtain ⟨t165, A510, H⟩ := H
                                    replace H : (some (t165, true)) = some (r1, r2) := H
                                    have A51 := Aside0.mk A510
                                    clear A510
                                    simp only [Option.some.injEq, Prod.mk.injEq] at H
                                    obtain ⟨rfl, rfl⟩ := H
                                    go_enter Try.func28, Try.ntmps28
                                    go_wp2_with (first | ((with_reducible refine gate_callee (f := 16) rfl ?_); refine goesL_ (some 16) rfl rfl Try.func16 (by kernel_rfl) rfl #[.int .i64 a1] rfl (by (try simp only [List.map_toArray, List.map_cons, List.map_nil]); first | done | rfl | (simp only [List.length_drop, List.length_take]; rfl)) ?_; (with_reducible refine (impl_Word.calls a1 t141 _ A4.out).mono ?_); rintro e w' ⟨rfl, ⟨nd, rfl⟩⟩; refine ⟨_, rfl, ?_⟩) | ((with_reducible refine gate_callee (f := 16) rfl ?_); refine goesL_ (some 18) rfl rfl Try.func16 (by kernel_rfl) rfl #[.int .i64 a2] rfl (by (try simp only [List.map_toArray, List.map_cons, List.map_nil]); first | done | rfl | (simp only [List.length_drop, List.length_take]; rfl)) ?_; (with_reducible refine (impl_Word.calls a2 t142 _ A5.out).mono ?_); rintro e w' ⟨rfl, ⟨nd, rfl⟩⟩; refine ⟨_, rfl, ?_⟩) | ((with_reducible refine gate_callee (f := 18) rfl ?_); refine goesL_ (some 20) rfl rfl Try.func18 (by kernel_rfl) rfl #[.int .i64 a1] rfl (by (try simp only [List.map_toArray, List.map_cons, List.map_nil]); first | done | rfl | (simp only [List.length_drop, List.length_take]; rfl)) ?_; (with_reducible refine (impl_Signed.calls a1 t143 _ A6.out).mono ?_); rintro e w' ⟨rfl, ⟨nd, rfl⟩⟩; refine ⟨_, rfl, ?_⟩) | ((with_reducible refine gate_callee (f := 18) rfl ?_); refine goesL_ (some 22) rfl rfl Try.func18 (by kernel_rfl) rfl #[.int .i64 a2] rfl (by (try simp only [List.map_toArray, List.map_cons, List.map_nil]); first | done | rfl | (simp only [List.length_drop, List.length_take]; rfl)) ?_; (with_reducible refine (impl_Signed.calls a2 t144 _ A7.out).mono ?_); rintro e w' ⟨rfl, ⟨nd, rfl⟩⟩; refine ⟨_, rfl, ?_⟩) | ((with_reducible refine gate_callee (f := 16) rfl ?_); refine goesL_ (some 140) rfl rfl Try.func16 (by kernel_rfl) rfl #[.int .i64 (-1)] rfl (by (try simp only [List.map_toArray, List.map_cons, List.map_nil]); first | done | rfl | (simp only [List.length_drop, List.length_take]; rfl)) ?_; (with_reducible refine (impl_Word.calls (-1) t165 _ A51.out).mono ?_); rintro e w' ⟨rfl, ⟨nd, rfl⟩⟩; refine ⟨_, rfl, ?_⟩))
                                    go_ret2
                                    exact ⟨by first | rfl | (simp; done) | (simp [*]; done), by repeat (first | exact Drawn0.refl _ | apply Drawn0.step)⟩
                                  · rw [if_neg c50] at H
                                    have c50b0 : (t142 == 0) = false := beq_eq_false_iff_ne.mpr c50
                                    have c50b1 : (t142 != 0) = true := bne_iff_ne.mpr c50
                                    replace H := Option.bind_eq_some_iff.mp H
                                    obtain ⟨t166, A520, H⟩ := H
                                    replace H : (some (t166, true)) = some (r1, r2) := H
                                    have A52 := Aside0.mk A520
                                    clear A520
                                    simp only [Option.some.injEq, Prod.mk.injEq] at H
                                    obtain ⟨rfl, rfl⟩ := H
                                    go_enter Try.func28, Try.ntmps28
                                    go_wp2_with (first | ((with_reducible refine gate_callee (f := 16) rfl ?_); refine goesL_ (some 16) rfl rfl Try.func16 (by kernel_rfl) rfl #[.int .i64 a1] rfl (by (try simp only [List.map_toArray, List.map_cons, List.map_nil]); first | done | rfl | (simp only [List.length_drop, List.length_take]; rfl)) ?_; (with_reducible refine (impl_Word.calls a1 t141 _ A4.out).mono ?_); rintro e w' ⟨rfl, ⟨nd, rfl⟩⟩; refine ⟨_, rfl, ?_⟩) | ((with_reducible refine gate_callee (f := 16) rfl ?_); refine goesL_ (some 18) rfl rfl Try.func16 (by kernel_rfl) rfl #[.int .i64 a2] rfl (by (try simp only [List.map_toArray, List.map_cons, List.map_nil]); first | done | rfl | (simp only [List.length_drop, List.length_take]; rfl)) ?_; (with_reducible refine (impl_Word.calls a2 t142 _ A5.out).mono ?_); rintro e w' ⟨rfl, ⟨nd, rfl⟩⟩; refine ⟨_, rfl, ?_⟩) | ((with_reducible refine gate_callee (f := 18) rfl ?_); refine goesL_ (some 20) rfl rfl Try.func18 (by kernel_rfl) rfl #[.int .i64 a1] rfl (by (try simp only [List.map_toArray, List.map_cons, List.map_nil]); first | done | rfl | (simp only [List.length_drop, List.length_take]; rfl)) ?_; (with_reducible refine (impl_Signed.calls a1 t143 _ A6.out).mono ?_); rintro e w' ⟨rfl, ⟨nd, rfl⟩⟩; refine ⟨_, rfl, ?_⟩) | ((with_reducible refine gate_callee (f := 18) rfl ?_); refine goesL_ (some 22) rfl rfl Try.func18 (by kernel_rfl) rfl #[.int .i64 a2] rfl (by (try simp only [List.map_toArray, List.map_cons, List.map_nil]); first | done | rfl | (simp only [List.length_drop, List.length_take]; rfl)) ?_; (with_reducible refine (impl_Signed.calls a2 t144 _ A7.out).mono ?_); rintro e w' ⟨rfl, ⟨nd, rfl⟩⟩; refine ⟨_, rfl, ?_⟩) | ((with_reducible refine gate_callee (f := 16) rfl ?_); refine goesL_ (some 140) rfl rfl Try.func16 (by kernel_rfl) rfl #[.int .i64 (wrap64 (Int.tdiv t141 t142))] rfl (by (try simp only [List.map_toArray, List.map_cons, List.map_nil]); first | done | rfl | (simp only [List.length_drop, List.length_take]; rfl)) ?_; (with_reducible refine (impl_Word.calls (wrap64 (Int.tdiv t141 t142)) t166 _ A52.out).mono ?_); rintro e w' ⟨rfl, ⟨nd, rfl⟩⟩; refine ⟨_, rfl, ?_⟩))
                                    go_ret2
                                    exact ⟨by first | rfl | (simp; done) | (simp [*]; done), by repeat (first | exact Drawn0.refl _ | apply Drawn0.step)⟩
                                · rw [if_neg c49] at H
                                  have c49b0 : (a0 == 16) = false := beq_eq_false_iff_ne.mpr c49
                                  have c49b1 : (a0 != 16) = true := bne_iff_ne.mpr c49
                                  by_cases c53 : a0 = 17
                                  · rw [if_pos c53] at H
                                    have c53b0 : (a0 == 17) = true := beq_iff_eq.mpr c53
                                    have c53b1 : (a0 != 17) = false := bne_eq_false_iff_eq.mpr c53
                                    clear c53
                                    by_cases c54 : t144 = 0
                                    · rw [if_pos c54] at H
                                      have c54b0 : (t144 == 0) = true := beq_iff_eq.mpr c54
                                      have c54b1 : (t144 != 0) = false := bne_eq_false_iff_eq.mpr c54
                                      clear c54
                                      replace H := Option.bind_eq_some_iff.mp H
                                      obtain ⟨t167, A550, H⟩ := H
                                      replace H : (some (t167, true)) = some (r1, r2) := H
                                      have A55 := Aside0.mk A550
                                      clear A550
                                      simp only [Option.some.injEq, Prod.mk.injEq] at H
                                      obtain ⟨rfl, rfl⟩ := H
                                      go_enter Try.func28, Try.ntmps28
                                      go_wp2_with (first | ((with_reducible refine gate_callee (f := 16) rfl ?_); refine goesL_ (some 16) rfl rfl Try.func16 (by kernel_rfl) rfl #[.int .i64 a1] rfl (by (try simp only [List.map_toArray, List.map_cons, List.map_nil]); first | done | rfl | (simp only [List.length_drop, List.length_take]; rfl)) ?_; (with_reducible refine (impl_Word.calls a1 t141 _ A4.out).mono ?_); rintro e w' ⟨rfl, ⟨nd, rfl⟩⟩; refine ⟨_, rfl, ?_⟩) | ((with_reducible refine gate_callee (f := 16) rfl ?_); refine goesL_ (some 18) rfl rfl Try.func16 (by kernel_rfl) rfl #[.int .i64 a2] rfl (by (try simp only [List.map_toArray, List.map_cons, List.map_nil]); first | done | rfl | (simp only [List.length_drop, List.length_take]; rfl)) ?_; (with_reducible refine (impl_Word.calls a2 t142 _ A5.out).mono ?_); rintro e w' ⟨rfl, ⟨nd, rfl⟩⟩; refine ⟨_, rfl, ?_⟩) | ((with_reducible refine gate_callee (f := 18) rfl ?_); refine goesL_ (some 20) rfl rfl Try.func18 (by kernel_rfl) rfl #[.int .i64 a1] rfl (by (try simp only [List.map_toArray, List.map_cons, List.map_nil]); first | done | rfl | (simp only [List.length_drop, List.length_take]; rfl)) ?_; (with_reducible refine (impl_Signed.calls a1 t143 _ A6.out).mono ?_); rintro e w' ⟨rfl, ⟨nd, rfl⟩⟩; refine ⟨_, rfl, ?_⟩) | ((with_reducible refine gate_callee (f := 18) rfl ?_); refine goesL_ (some 22) rfl rfl Try.func18 (by kernel_rfl) rfl #[.int .i64 a2] rfl (by (try simp only [List.map_toArray, List.map_cons, List.map_nil]); first | done | rfl | (simp only [List.length_drop, List.length_take]; rfl)) ?_; (with_reducible refine (impl_Signed.calls a2 t144 _ A7.out).mono ?_); rintro e w' ⟨rfl, ⟨nd, rfl⟩⟩; refine ⟨_, rfl, ?_⟩) | ((with_reducible refine gate_callee (f := 16) rfl ?_); refine goesL_ (some 140) rfl rfl Try.func16 (by kernel_rfl) rfl #[.int .i64 t143] rfl (by (try simp only [List.map_toArray, List.map_cons, List.map_nil]); first | done | rfl | (simp only [List.length_drop, List.length_take]; rfl)) ?_; (with_reducible refine (impl_Word.calls t143 t167 _ A55.out).mono ?_); rintro e w' ⟨rfl, ⟨nd, rfl⟩⟩; refine ⟨_, rfl, ?_⟩))
                                      go_ret2
                                      exact ⟨by first | rfl | (simp; done) | (simp [*]; done), by repeat (first | exact Drawn0.refl _ | apply Drawn0.step)⟩
                                    · rw [if_neg c54] at H
                                      have c54b0 : (t144 == 0) = false := beq_eq_false_iff_ne.mpr c54
                                      have c54b1 : (t144 != 0) = true := bne_iff_ne.mpr c54
                                      replace H := Option.bind_eq_some_iff.mp H
                                      obtain ⟨t168, A560, H⟩ := H
                                      replace H : (some (t168, true)) = some (r1, r2) := H
                                      have A56 := Aside0.mk A560
                                      clear A560
                                      simp only [Option.some.injEq, Prod.mk.injEq] at H
                                      obtain ⟨rfl, rfl⟩ := H
                                      go_enter Try.func28, Try.ntmps28
                                      go_wp2_with (first | ((with_reducible refine gate_callee (f := 16) rfl ?_); refine goesL_ (some 16) rfl rfl Try.func16 (by kernel_rfl) rfl #[.int .i64 a1] rfl (by (try simp only [List.map_toArray, List.map_cons, List.map_nil]); first | done | rfl | (simp only [List.length_drop, List.length_take]; rfl)) ?_; (with_reducible refine (impl_Word.calls a1 t141 _ A4.out).mono ?_); rintro e w' ⟨rfl, ⟨nd, rfl⟩⟩; refine ⟨_, rfl, ?_⟩) | ((with_reducible refine gate_callee (f := 16) rfl ?_); refine goesL_ (some 18) rfl rfl Try.func16 (by kernel_rfl) rfl #[.int .i64 a2] rfl (by (try simp only [List.map_toArray, List.map_cons, List.map_nil]); first | done | rfl | (simp only [List.length_drop, List.length_take]; rfl)) ?_; (with_reducible refine (impl_Word.calls a2 t142 _ A5.out).mono ?_); rintro e w' ⟨rfl, ⟨nd, rfl⟩⟩; refine ⟨_, rfl, ?_⟩) | ((with_reducible refine gate_callee (f := 18) rfl ?_); refine goesL_ (some 20) rfl rfl Try.func18 (by kernel_rfl) rfl #[.int .i64 a1] rfl (by (try simp only [List.map_toArray, List.map_cons, List.map_nil]); first | done | rfl | (simp only [List.length_drop, List.length_take]; rfl)) ?_; (with_reducible refine (impl_Signed.calls a1 t143 _ A6.out).mono ?_); rintro e w' ⟨rfl, ⟨nd, rfl⟩⟩; refine ⟨_, rfl, ?_⟩) | ((with_reducible refine gate_callee (f := 18) rfl ?_); refine goesL_ (some 22) rfl rfl Try.func18 (by kernel_rfl) rfl #[.int .i64 a2] rfl (by (try simp only [List.map_toArray, List.map_cons, List.map_nil]); first | done | rfl | (simp only [List.length_drop, List.length_take]; rfl)) ?_; (with_reducible refine (impl_Signed.calls a2 t144 _ A7.out).mono ?_); rintro e w' ⟨rfl, ⟨nd, rfl⟩⟩; refine ⟨_, rfl, ?_⟩) | ((with_reducible refine gate_callee (f := 16) rfl ?_); refine goesL_ (some 140) rfl rfl Try.func16 (by kernel_rfl) rfl #[.int .i64 (Int.tmod t143 t144)] rfl (by (try simp only [List.map_toArray, List.map_cons, List.map_nil]); first | done | rfl | (simp only [List.length_drop, List.length_take]; rfl)) ?_; (with_reducible refine (impl_Word.calls (Int.tmod t143 t144) t168 _ A56.out).mono ?_); rintro e w' ⟨rfl, ⟨nd, rfl⟩⟩; refine ⟨_, rfl, ?_⟩))
                                      go_ret2
                                      exact ⟨by first | rfl | (simp; done) | (simp [*]; done), by repeat (first | exact Drawn0.refl _ | apply Drawn0.step)⟩
                                  · rw [if_neg c53] at H
                                    have c53b0 : (a0 == 17) = false := beq_eq_false_iff_ne.mpr c53
                                    have c53b1 : (a0 != 17) = true := bne_iff_ne.mpr c53
                                    by_cases c57 : a0 = 18
                                    · rw [if_pos c57] at H
                                      have c57b0 : (a0 == 18) = true := beq_iff_eq.mpr c57
                                      have c57b1 : (a0 != 18) = false := bne_eq_false_iff_eq.mpr c57
                                      clear c57
                                      by_cases c58 : t142 = 0
                                      · rw [if_pos c58] at H
                                        have c58b0 : (t142 == 0) = true := beq_iff_eq.mpr c58
                                        have c58b1 : (t142 != 0) = false := bne_eq_false_iff_eq.mpr c58
                                        clear c58
                                        replace H := Option.bind_eq_some_iff.mp H
                                        obtain ⟨t169, A590, H⟩ := H
                                        replace H : (some (t169, true)) = some (r1, r2) := H
                                        have A59 := Aside0.mk A590
                                        clear A590
                                        simp only [Option.some.injEq, Prod.mk.injEq] at H
                                        obtain ⟨rfl, rfl⟩ := H
                                        go_enter Try.func28, Try.ntmps28
                                        go_wp2_with (first | ((with_reducible refine gate_callee (f := 16) rfl ?_); refine goesL_ (some 16) rfl rfl Try.func16 (by kernel_rfl) rfl #[.int .i64 a1] rfl (by (try simp only [List.map_toArray, List.map_cons, List.map_nil]); first | done | rfl | (simp only [List.length_drop, List.length_take]; rfl)) ?_; (with_reducible refine (impl_Word.calls a1 t141 _ A4.out).mono ?_); rintro e w' ⟨rfl, ⟨nd, rfl⟩⟩; refine ⟨_, rfl, ?_⟩) | ((with_reducible refine gate_callee (f := 16) rfl ?_); refine goesL_ (some 18) rfl rfl Try.func16 (by kernel_rfl) rfl #[.int .i64 a2] rfl (by (try simp only [List.map_toArray, List.map_cons, List.map_nil]); first | done | rfl | (simp only [List.length_drop, List.length_take]; rfl)) ?_; (with_reducible refine (impl_Word.calls a2 t142 _ A5.out).mono ?_); rintro e w' ⟨rfl, ⟨nd, rfl⟩⟩; refine ⟨_, rfl, ?_⟩) | ((with_reducible refine gate_callee (f := 18) rfl ?_); refine goesL_ (some 20) rfl rfl Try.func18 (by kernel_rfl) rfl #[.int .i64 a1] rfl (by (try simp only [List.map_toArray, List.map_cons, List.map_nil]); first | done | rfl | (simp only [List.length_drop, List.length_take]; rfl)) ?_; (with_reducible refine (impl_Signed.calls a1 t143 _ A6.out).mono ?_); rintro e w' ⟨rfl, ⟨nd, rfl⟩⟩; refine ⟨_, rfl, ?_⟩) | ((with_reducible refine gate_callee (f := 18) rfl ?_); refine goesL_ (some 22) rfl rfl Try.func18 (by kernel_rfl) rfl #[.int .i64 a2] rfl (by (try simp only [List.map_toArray, List.map_cons, List.map_nil]); first | done | rfl | (simp only [List.length_drop, List.length_take]; rfl)) ?_; (with_reducible refine (impl_Signed.calls a2 t144 _ A7.out).mono ?_); rintro e w' ⟨rfl, ⟨nd, rfl⟩⟩; refine ⟨_, rfl, ?_⟩) | ((with_reducible refine gate_callee (f := 16) rfl ?_); refine goesL_ (some 140) rfl rfl Try.func16 (by kernel_rfl) rfl #[.int .i64 t141] rfl (by (try simp only [List.map_toArray, List.map_cons, List.map_nil]); first | done | rfl | (simp only [List.length_drop, List.length_take]; rfl)) ?_; (with_reducible refine (impl_Word.calls t141 t169 _ A59.out).mono ?_); rintro e w' ⟨rfl, ⟨nd, rfl⟩⟩; refine ⟨_, rfl, ?_⟩))
                                        go_ret2
                                        exact ⟨by first | rfl | (simp; done) | (simp [*]; done), by repeat (first | exact Drawn0.refl _ | apply Drawn0.step)⟩
                                      · rw [if_neg c58] at H
                                        have c58b0 : (t142 == 0) = false := beq_eq_false_iff_ne.mpr c58
                                        have c58b1 : (t142 != 0) = true := bne_iff_ne.mpr c58
                                        replace H := Option.bind_eq_some_iff.mp H
                                        obtain ⟨t170, A600, H⟩ := H
                                        replace H : (some (t170, true)) = some (r1, r2) := H
                                        have A60 := Aside0.mk A600
                                        clear A600
                                        simp only [Option.some.injEq, Prod.mk.injEq] at H
                                        obtain ⟨rfl, rfl⟩ := H
                                        go_enter Try.func28, Try.ntmps28
                                        go_wp2_with (first | ((with_reducible refine gate_callee (f := 16) rfl ?_); refine goesL_ (some 16) rfl rfl Try.func16 (by kernel_rfl) rfl #[.int .i64 a1] rfl (by (try simp only [List.map_toArray, List.map_cons, List.map_nil]); first | done | rfl | (simp only [List.length_drop, List.length_take]; rfl)) ?_; (with_reducible refine (impl_Word.calls a1 t141 _ A4.out).mono ?_); rintro e w' ⟨rfl, ⟨nd, rfl⟩⟩; refine ⟨_, rfl, ?_⟩) | ((with_reducible refine gate_callee (f := 16) rfl ?_); refine goesL_ (some 18) rfl rfl Try.func16 (by kernel_rfl) rfl #[.int .i64 a2] rfl (by (try simp only [List.map_toArray, List.map_cons, List.map_nil]); first | done | rfl | (simp only [List.length_drop, List.length_take]; rfl)) ?_; (with_reducible refine (impl_Word.calls a2 t142 _ A5.out).mono ?_); rintro e w' ⟨rfl, ⟨nd, rfl⟩⟩; refine ⟨_, rfl, ?_⟩) | ((with_reducible refine gate_callee (f := 18) rfl ?_); refine goesL_ (some 20) rfl rfl Try.func18 (by kernel_rfl) rfl #[.int .i64 a1] rfl (by (try simp only [List.map_toArray, List.map_cons, List.map_nil]); first | done | rfl | (simp only [List.length_drop, List.length_take]; rfl)) ?_; (with_reducible refine (impl_Signed.calls a1 t143 _ A6.out).mono ?_); rintro e w' ⟨rfl, ⟨nd, rfl⟩⟩; refine ⟨_, rfl, ?_⟩) | ((with_reducible refine gate_callee (f := 18) rfl ?_); refine goesL_ (some 22) rfl rfl Try.func18 (by kernel_rfl) rfl #[.int .i64 a2] rfl (by (try simp only [List.map_toArray, List.map_cons, List.map_nil]); first | done | rfl | (simp only [List.length_drop, List.length_take]; rfl)) ?_; (with_reducible refine (impl_Signed.calls a2 t144 _ A7.out).mono ?_); rintro e w' ⟨rfl, ⟨nd, rfl⟩⟩; refine ⟨_, rfl, ?_⟩) | ((with_reducible refine gate_callee (f := 16) rfl ?_); refine goesL_ (some 140) rfl rfl Try.func16 (by kernel_rfl) rfl #[.int .i64 (Int.tmod t141 t142)] rfl (by (try simp only [List.map_toArray, List.map_cons, List.map_nil]); first | done | rfl | (simp only [List.length_drop, List.length_take]; rfl)) ?_; (with_reducible refine (impl_Word.calls (Int.tmod t141 t142) t170 _ A60.out).mono ?_); rintro e w' ⟨rfl, ⟨nd, rfl⟩⟩; refine ⟨_, rfl, ?_⟩))
                                        go_ret2
                                        exact ⟨by first | rfl | (simp; done) | (simp [*]; done), by repeat (first | exact Drawn0.refl _ | apply Drawn0.step)⟩
                                    · rw [if_neg c57] at H
                                      have c57b0 : (a0 == 18) = false := beq_eq_false_iff_ne.mpr c57
                                      have c57b1 : (a0 != 18) = true := bne_iff_ne.mpr c57
                                      simp only [Option.some.injEq, Prod.mk.injEq] at H
                                      obtain ⟨rfl, rfl⟩ := H
                                      go_enter Try.func28, Try.ntmps28
                                      go_wp2_with (first | ((with_reducible refine gate_callee (f := 16) rfl ?_); refine goesL_ (some 16) rfl rfl Try.func16 (by kernel_rfl) rfl #[.int .i64 a1] rfl (by (try simp only [List.map_toArray, List.map_cons, List.map_nil]); first | done | rfl | (simp only [List.length_drop, List.length_take]; rfl)) ?_; (with_reducible refine (impl_Word.calls a1 t141 _ A4.out).mono ?_); rintro e w' ⟨rfl, ⟨nd, rfl⟩⟩; refine ⟨_, rfl, ?_⟩) | ((with_reducible refine gate_callee (f := 16) rfl ?_); refine goesL_ (some 18) rfl rfl Try.func16 (by kernel_rfl) rfl #[.int .i64 a2] rfl (by (try simp only [List.map_toArray, List.map_cons, List.map_nil]); first | done | rfl | (simp only [List.length_drop, List.length_take]; rfl)) ?_; (with_reducible refine (impl_Word.calls a2 t142 _ A5.out).mono ?_); rintro e w' ⟨rfl, ⟨nd, rfl⟩⟩; refine ⟨_, rfl, ?_⟩) | ((with_reducible refine gate_callee (f := 18) rfl ?_); refine goesL_ (some 20) rfl rfl Try.func18 (by kernel_rfl) rfl #[.int .i64 a1] rfl (by (try simp only [List.map_toArray, List.map_cons, List.map_nil]); first | done | rfl | (simp only [List.length_drop, List.length_take]; rfl)) ?_; (with_reducible refine (impl_Signed.calls a1 t143 _ A6.out).mono ?_); rintro e w' ⟨rfl, ⟨nd, rfl⟩⟩; refine ⟨_, rfl, ?_⟩) | ((with_reducible refine gate_callee (f := 18) rfl ?_); refine goesL_ (some 22) rfl rfl Try.func18 (by kernel_rfl) rfl #[.int .i64 a2] rfl (by (try simp only [List.map_toArray, List.map_cons, List.map_nil]); first | done | rfl | (simp only [List.length_drop, List.length_take]; rfl)) ?_; (with_reducible refine (impl_Signed.calls a2 t144 _ A7.out).mono ?_); rintro e w' ⟨rfl, ⟨nd, rfl⟩⟩; refine ⟨_, rfl, ?_⟩))
                                      go_ret2
                                      exact ⟨by first | rfl | (simp; done) | (simp [*]; done), by repeat (first | exact Drawn0.refl _ | apply Drawn0.step)⟩

/-! ### laws_FnExactAlu: function 10 -/
def laws_FnExactAlu.f (k : Nat) (a0 : Int) (a1 : Int) (a2 : Int) : Option (Bool) := (spec_Alu.f k a0 a1 a2).bind fun bt171 => ((impl_Alu.f a0 a1 a2).bind fun bt173 => (if bt173.1 = bt171.1 then (if (bt173.2 != bt171.2) = true then (some false) else (some true)) else (some false)))
theorem laws_FnExactAlu.mono : ∀ a0 a1 a2 k, LeO (laws_FnExactAlu.f k a0 a1 a2) (laws_FnExactAlu.f (k + 1) a0 a1 a2) := by
  intro a0 a1 a2 k
  unfold laws_FnExactAlu.f
  repeat' first
      | (with_reducible exact spec_Alu.mono _ _ _ _)
      | (with_reducible exact LeO.refl _)
      | (with_reducible exact LeO.none _)
      | (with_reducible refine LeO.ite ?_ ?_)
      | (with_reducible refine LeO.bind ?_ (fun _ => ?_))
      | exact spec_Alu.mono _ _ _ _
      | exact LeO.none _
      | refine LeO.ite ?_ ?_
      | refine LeO.bind ?_ (fun _ => ?_)
set_option maxHeartbeats 8000000 in
set_option maxRecDepth 100000 in
theorem laws_FnExactAlu.calls (k : Nat) (a0 : Int) (a1 : Int) (a2 : Int) (r : Bool) (w : World) (h : laws_FnExactAlu.f k a0 a1 a2 = some r) :
    Calls Try.prog 10 #[.int .i64 a0, .int .i64 a1, .int .i64 a2] w fun e w' => e = .returned (.bool r) ∧ Drawn0 w w' := by
  have H : ((spec_Alu.f k a0 a1 a2).bind fun bt171 => ((impl_Alu.f a0 a1 a2).bind fun bt173 => (if bt173.1 = bt171.1 then (if (bt173.2 != bt171.2) = true then (some false) else (some true)) else (some false)))) = some r := h
  clear h
  replace H := Option.bind_eq_some_iff.mp H
  obtain ⟨⟨t171, t172⟩, A40, H⟩ := H
  replace H : ((impl_Alu.f a0 a1 a2).bind fun bt173 => (if bt173.1 = t171 then (if (bt173.2 != t172) = true then (some false) else (some true)) else (some false))) = some r := H
  have A4 := Aside0.mk A40
  clear A40
  replace H := Option.bind_eq_some_iff.mp H
  obtain ⟨⟨t173, t174⟩, A50, H⟩ := H
  replace H : (if t173 = t171 then (if (t174 != t172) = true then (some false) else (some true)) else (some false)) = some r := H
  have A5 := Aside0.mk A50
  clear A50
  by_cases c6 : t173 = t171
  · rw [if_pos c6] at H
    have c6b0 : (t173 == t171) = true := beq_iff_eq.mpr c6
    have c6b1 : (t173 != t171) = false := bne_eq_false_iff_eq.mpr c6
    clear c6
    by_cases c7 : (t174 != t172) = true
    · rw [if_pos c7] at H
      have c7b0 : (t174 != t172) = true := c7
      (try (have c7b1 : decide (t174 = t172) = false := by simpa using c7))
      (try (have c7b2 : (t174 == t172) = false := by simpa using c7))
      (try (have c7b3 : ¬ (t174 = t172) := by simpa using c7))
      clear c7
      obtain rfl := Option.some.inj H
      go_enter Try.func10, Try.ntmps10
      go_wp2_with (first | ((with_reducible refine gate_callee (f := 27) rfl ?_); refine goesL_ (some 15) rfl rfl Try.func27 (by kernel_rfl) rfl #[.int .i64 a0, .int .i64 a1, .int .i64 a2] rfl (by (try simp only [List.map_toArray, List.map_cons, List.map_nil]); first | done | rfl | (simp only [List.length_drop, List.length_take]; rfl)) ?_; (with_reducible refine (spec_Alu.calls k a0 a1 a2 t171 t172 _ A4.out).mono ?_); rintro e w' ⟨rfl, ⟨nd, rfl⟩⟩; refine ⟨_, rfl, ?_⟩) | ((with_reducible refine gate_callee (f := 28) rfl ?_); refine goesL_ (some 22) rfl rfl Try.func28 (by kernel_rfl) rfl #[.int .i64 a0, .int .i64 a1, .int .i64 a2] rfl (by (try simp only [List.map_toArray, List.map_cons, List.map_nil]); first | done | rfl | (simp only [List.length_drop, List.length_take]; rfl)) ?_; (with_reducible refine (impl_Alu.calls a0 a1 a2 t173 t174 _ A5.out).mono ?_); rintro e w' ⟨rfl, ⟨nd, rfl⟩⟩; refine ⟨_, rfl, ?_⟩))
      go_ret
      exact ⟨by first | rfl | (simp; done) | (simp [*]; done), by repeat (first | exact Drawn0.refl _ | apply Drawn0.step)⟩
    · rw [if_neg c7] at H
      have c7b0 : (t174 != t172) = false := by simpa using c7
      (try (have c7b1 : decide (t174 = t172) = true := by simpa using c7))
      (try (have c7b2 : (t174 == t172) = true := by simpa using c7))
      clear c7
      obtain rfl := Option.some.inj H
      go_enter Try.func10, Try.ntmps10
      go_wp2_with (first | ((with_reducible refine gate_callee (f := 27) rfl ?_); refine goesL_ (some 15) rfl rfl Try.func27 (by kernel_rfl) rfl #[.int .i64 a0, .int .i64 a1, .int .i64 a2] rfl (by (try simp only [List.map_toArray, List.map_cons, List.map_nil]); first | done | rfl | (simp only [List.length_drop, List.length_take]; rfl)) ?_; (with_reducible refine (spec_Alu.calls k a0 a1 a2 t171 t172 _ A4.out).mono ?_); rintro e w' ⟨rfl, ⟨nd, rfl⟩⟩; refine ⟨_, rfl, ?_⟩) | ((with_reducible refine gate_callee (f := 28) rfl ?_); refine goesL_ (some 22) rfl rfl Try.func28 (by kernel_rfl) rfl #[.int .i64 a0, .int .i64 a1, .int .i64 a2] rfl (by (try simp only [List.map_toArray, List.map_cons, List.map_nil]); first | done | rfl | (simp only [List.length_drop, List.length_take]; rfl)) ?_; (with_reducible refine (impl_Alu.calls a0 a1 a2 t173 t174 _ A5.out).mono ?_); rintro e w' ⟨rfl, ⟨nd, rfl⟩⟩; refine ⟨_, rfl, ?_⟩))
      go_ret
      exact ⟨by first | rfl | (simp; done) | (simp [*]; done), by repeat (first | exact Drawn0.refl _ | apply Drawn0.step)⟩
  · rw [if_neg c6] at H
    have c6b0 : (t173 == t171) = false := beq_eq_false_iff_ne.mpr c6
    have c6b1 : (t173 != t171) = true := bne_iff_ne.mpr c6
    obtain rfl := Option.some.inj H
    go_enter Try.func10, Try.ntmps10
    go_wp2_with (first | ((with_reducible refine gate_callee (f := 27) rfl ?_); refine goesL_ (some 15) rfl rfl Try.func27 (by kernel_rfl) rfl #[.int .i64 a0, .int .i64 a1, .int .i64 a2] rfl (by (try simp only [List.map_toArray, List.map_cons, List.map_nil]); first | done | rfl | (simp only [List.length_drop, List.length_take]; rfl)) ?_; (with_reducible refine (spec_Alu.calls k a0 a1 a2 t171 t172 _ A4.out).mono ?_); rintro e w' ⟨rfl, ⟨nd, rfl⟩⟩; refine ⟨_, rfl, ?_⟩) | ((with_reducible refine gate_callee (f := 28) rfl ?_); refine goesL_ (some 22) rfl rfl Try.func28 (by kernel_rfl) rfl #[.int .i64 a0, .int .i64 a1, .int .i64 a2] rfl (by (try simp only [List.map_toArray, List.map_cons, List.map_nil]); first | done | rfl | (simp only [List.length_drop, List.length_take]; rfl)) ?_; (with_reducible refine (impl_Alu.calls a0 a1 a2 t173 t174 _ A5.out).mono ?_); rintro e w' ⟨rfl, ⟨nd, rfl⟩⟩; refine ⟨_, rfl, ?_⟩))
    go_ret
    exact ⟨by first | rfl | (simp; done) | (simp [*]; done), by repeat (first | exact Drawn0.refl _ | apply Drawn0.step)⟩

/-- THE ONE PURE STATEMENT of laws_FnExactAlu: yours. -/
def laws_FnExactAlu.Pure : Prop := ∀ (a0 : Int) (a1 : Int) (a2 : Int), (Lit.int .i64 a0).wf = true → (Lit.int .i64 a1).wf = true → (Lit.int .i64 a2).wf = true → ∃ k, laws_FnExactAlu.f k a0 a1 a2 = some true
theorem laws_FnExactAlu.walk (P : laws_FnExactAlu.Pure) (a0 : Int) (a1 : Int) (a2 : Int) (w : World) (w0 : (Lit.int .i64 a0).wf = true) (w1 : (Lit.int .i64 a1).wf = true) (w2 : (Lit.int .i64 a2).wf = true) :
    Calls Try.prog 10 #[.int .i64 a0, .int .i64 a1, .int .i64 a2] w fun e w' => e = .returned (.bool true) ∧ Below w.heap.size w w' := by
  obtain ⟨k, h⟩ := P a0 a1 a2 w0 w1 w2
  refine (laws_FnExactAlu.calls k a0 a1 a2 true w h).mono ?_
  rintro e w' ⟨rfl, hd⟩
  exact ⟨rfl, hd.below⟩

end Go.Proofs.Ytgbpofhabhabcaa.PFnExactAlu
