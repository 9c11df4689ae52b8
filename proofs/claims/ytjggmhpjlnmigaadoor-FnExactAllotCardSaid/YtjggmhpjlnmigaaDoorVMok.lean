/- Walks: valid images and machines, kinds, narrowing. -/
import Derived.Test.YtjggmhpjlnmigaaDoorVMac
namespace Go.Proofs.YtjggmhpjlnmigaaDoor
open Go.RowKit
set_option maxRecDepth 20000
set_option linter.unusedSimpArgs false
set_option linter.unusedVariables false
def isW (n : Int) : Bool := decide (0 ≤ n ∧ n ≤ 4294967295)
def codeOk (l : List Int) : Bool := decide (1 ≤ l.length ∧ l.length ≤ 16384) && l.all isW
def stackOk (n : Int) : Bool := decide (0 ≤ n ∧ n ≤ 65536 ∧ n % 16 = 0)
theorem l3WordOk_c (n : Int) (h : Hp) : HC Tryd.prog 87 [.int .i64 n] h fun v h' => v = .bool (isW n) ∧ h' = h := by
  refine hc_of Tryd.func87 (rfl : Tryd.f87.body = some _) Tryd.ntmps87 Tryd.results87 Tryd.call87 rfl ?_; have HS := Sep.nil h; conv => whnf
  repeat' ((first | (with_reducible first | refine EvSeq.go ?_ | refine EvIf.tt ?_ | refine EvIf.ff ?_) | ((with_reducible refine EvIf.mk (fun c => ?_) (fun c => ?_)) <;> (try simp only [cs_] at c) <;> (try (exfalso; first | omega | (revert c; decide))))) <;> conv => whnf)
  all_goals
    refine ⟨?_, rfl⟩
    congr 1
    simp [isW]
    try omega
theorem notWord_c (n : Int) (h : Hp) : HC Tryd.prog 90 [.int .i64 n] h fun v h' => v = .bool (!isW n) ∧ h' = h := by
  refine hc_of Tryd.func90 (rfl : Tryd.f90.body = some _) Tryd.ntmps90 Tryd.results90 Tryd.call90 rfl ?_; have HS := Sep.nil h; conv => whnf
  repeat' (((with_reducible refine EvCall.mk (HC.mono (iWord_c _ _) ?_)); (rintro _ _ ⟨rfl, rfl⟩)) <;> conv => whnf)
  refine ⟨congrArg Value.bool ?_, rfl⟩
  rw [Bool.eq_iff_iff]
  simp [isW]
  omega
theorem tmod16 (n : Int) : Int.tmod n 16 = 0 ↔ n % 16 = 0 := by
  by_cases h : 0 ≤ n
  · rw [tmod_pos h]
  · rw [tmod_neg (by omega)]; omega
theorem indexW_c {h : Hp} {A : Option Addr} {n c : Nat} {l : List Int} (r : Rd h A (ints .i64 l)) (hl : l.length = n) (hn : n ≤ 1000000000) : HC Tryd.prog 94 [.slice A n c, .func (.func 90) #[] #[]] h fun v h' => (∃ k, v = .int .i64 k ∧ (0 ≤ k ↔ l.all isW = false)) ∧ h' = h := by
  refine hc_of Tryd.func94 (rfl : Tryd.f94.body = some _) Tryd.ntmps94 Tryd.results94 Tryd.call94 rfl ?_; have HS := Sep.nil h; conv => whnf
  repeat' ((with_reducible first | refine EvSeq.go ?_ | refine EvIf.tt ?_ | refine EvIf.ff ?_) <;> conv => whnf)
  refine EvLoop.keep ([4, 5, 8, 9, 10, 11, 12, 13, 14, 15, 16, 17, 18], 6) (α := Int) (fun x => [(8, .int .i64 x), (7, .int .i64 n)]) (fun x h' => h' = h ∧ ∃ k : Nat, k ≤ n ∧ x = k ∧ (l.take k).all isW = true) (fun x => ((n : Int) - x).toNat) 0 (by (repeat' (first | exact trivial | refine ⟨rfl, ?_⟩))) ⟨rfl, 0, by omega, rfl, rfl⟩ ?_
  rintro _ _ ⟨rfl, k, hk, rfl, ht⟩
  conv => whnf
  repeat' ((first | ((with_reducible refine EvIdx.rd r (by simpa using hl) (by omega) (by omega) ?_); intro bI oI eI hI) | ((with_reducible refine EvLd.row (by assumption) (by omega) ?_)) | ((with_reducible refine EvCall.mk (HC.mono (notWord_c _ _) ?_)); (rintro _ _ ⟨rfl, rfl⟩)) | (with_reducible first | refine EvSeq.go ?_ | refine EvIf.tt ?_ | refine EvIf.ff ?_) | ((with_reducible refine EvIf.mk (fun c => ?_) (fun c => ?_)) <;> (try simp only [cs_] at c) <;> (try (exfalso; first | omega | (revert c; decide))))) <;> conv => whnf)
  · refine ⟨⟨_, rfl, ?_⟩, rfl⟩
    have : l.all isW = false := by
      rw [Bool.eq_false_iff]
      intro hall
      rw [List.all_eq_true] at hall
      rw [hall _ (List.getElem_mem _)] at c
      cases c
    rw [this]
    simp
  · refine ⟨_, (by (repeat' (first | exact trivial | refine ⟨rfl, ?_⟩))), ⟨rfl, k + 1, by omega, ?_, ?_⟩, ?_⟩
    · show IntKind.i64.wrap _ = _
      rw [i64w _ (by omega) (by omega)]; omega
    · simp only [Int.toNat_natCast] at c
      rw [List.take_succ_eq_append_getElem (by omega), List.all_append, ht]
      simp [c]
    · show ((n : Int) - IntKind.i64.wrap _).toNat < _
      rw [i64w _ (by omega) (by omega)]; omega
  · refine ⟨⟨_, rfl, ?_⟩, rfl⟩
    rw [List.take_of_length_le (by omega)] at ht
    rw [ht]
    simp
theorem containsW_c {h : Hp} {A : Option Addr} {n c : Nat} {l : List Int} (r : Rd h A (ints .i64 l)) (hl : l.length = n) (hn : n ≤ 1000000000) : HC Tryd.prog 89 [.slice A n c, .func (.func 90) #[] #[]] h fun v h' => v = .bool (!l.all isW) ∧ h' = h := by
  refine hc_of Tryd.func89 (rfl : Tryd.f89.body = some _) Tryd.ntmps89 Tryd.results89 Tryd.call89 rfl ?_; have HS := Sep.nil h; conv => whnf
  repeat' (fail <;> conv => whnf)
  refine EvCall.mk ((indexW_c r hl hn).mono ?_)
  rintro _ _ ⟨⟨k, rfl, hk⟩, rfl⟩
  conv => whnf
  repeat' (fail <;> conv => whnf)
  refine ⟨congrArg Value.bool ?_, rfl⟩
  cases ha : l.all isW
  · exact decide_eq_true (hk.mpr ha)
  · refine decide_eq_false (fun e => ?_)
    have := hk.mp e
    rw [ha] at this
    cases this
theorem isWord_c {h : Hp} {A : Option Addr} {n c : Nat} {l : List Int} (r : Rd h A (ints .i64 l)) (hl : l.length = n) (hn : n ≤ 1000000000) : HC Tryd.prog 82 [.slice A n c] h fun v h' => v = .bool (l.all isW) ∧ h' = h := by
  refine hc_of Tryd.func82 (rfl : Tryd.f82.body = some _) Tryd.ntmps82 Tryd.results82 Tryd.call82 rfl ?_; have HS := Sep.nil h; conv => whnf
  repeat' (((with_reducible refine EvCall.mk (HC.mono (containsW_c r hl hn) ?_)); (rintro _ _ ⟨rfl, rfl⟩)) <;> conv => whnf)
  refine ⟨congrArg Value.bool ?_, rfl⟩
  cases l.all isW <;> rfl
def mok (m : Mac) : Bool := codeOk m.code && (decide (m.data.length ≤ 65536) && (stackOk m.stack.length && (isW m.pc && (decide (m.regs.length = 32) && (m.regs.all isW && (decide (m.regs.getD 0 0 = 0) && (decide (m.inp.length ≤ 10000) && (decide (m.out.length ≤ 10000) && (decide (0 ≤ m.steps ∧ m.steps ≤ 1000000) && (decide (0 ≤ m.fin ∧ m.fin ≤ 3) && isW m.value))))))))))
end Go.Proofs.YtjggmhpjlnmigaaDoor
