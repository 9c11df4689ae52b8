/- Places: the reference's small functions. -/
import Derived.Test.YtjggmhpjlnmigaaDoorVAllot0
import Derived.Test.YtjggmhpjlnmigaaDoorVPl2
namespace Go.Proofs.YtjggmhpjlnmigaaDoor
open Go.RowKit
set_option maxRecDepth 20000
set_option linter.unusedSimpArgs false
set_option linter.unusedVariables false
theorem has_c {h : Hp} {A : Option Addr} {n c : Nat} {l : List Int} (r : Rd h A (ints .i64 l)) (hl : l.length = n) (hn : n ≤ 1000000) (x : Int) : HC Tryd.prog 73 [.slice A n c, .int .i64 x] h fun v h' => v = .bool (decide (x ∈ l)) ∧ h' = h := by
  refine hc_of Tryd.func73 (rfl : Tryd.f73.body = some _) Tryd.ntmps73 Tryd.results73 Tryd.call73 rfl ?_; have HS := Sep.nil h; conv => whnf
  repeat' ((with_reducible first | refine EvSeq.go ?_ | refine EvIf.tt ?_ | refine EvIf.ff ?_) <;> conv => whnf)
  refine EvLoop.keep ([4, 5, 6, 7, 8, 9, 10, 11, 12, 13, 14, 15, 16, 17], 6) (α := Nat) (fun k => [(5, .int .i64 k)]) (fun k h' => h' = h ∧ k ≤ n ∧ x ∉ l.take k) (fun k => n - k) 0 (by (repeat' (first | exact trivial | refine ⟨rfl, ?_⟩))) ⟨rfl, Nat.zero_le _, by simp⟩ ?_
  rintro k _ ⟨rfl, hk, ht⟩
  conv => whnf
  obtain hlt | hge := Nat.lt_or_ge k n
  · obtain ⟨y, hy⟩ : ∃ y, l[k]? = some y := ⟨_, List.getElem?_eq_getElem (by omega)⟩
    have hv : (ints .i64 l)[((k : Int)).toNat]? = some (.int .i64 y) := by simp [hy]
    repeat' ((first | ((with_reducible refine EvIdx.rd r (by simpa using hl) (by omega) (by omega) ?_); intro bI oI eI hI) | ((with_reducible refine EvLd.rowv (by assumption) hv ?_)) | (with_reducible first | refine EvSeq.go ?_ | refine EvIf.tt ?_ | refine EvIf.ff ?_) | ((with_reducible refine EvIf.mk (fun c => ?_) (fun c => ?_)) <;> (try simp only [cs_] at c) <;> (try (exfalso; first | omega | (revert c; decide))))) <;> conv => whnf)
    · refine ⟨congrArg Value.bool ?_, rfl⟩
      rw [eq_comm, decide_eq_true_eq, ← c]
      exact List.mem_of_getElem? hy
    · refine ⟨k + 1, ⟨congrArg (fun z => some (Value.int .i64 z)) ((i64w _ (by omega) (by omega)).trans (by omega)), (by (repeat' (first | exact trivial | refine ⟨rfl, ?_⟩)))⟩, ⟨rfl, by omega, ?_⟩, by omega⟩
      rw [List.take_add_one, hy, List.mem_append]
      simp only [Option.toList_some, List.mem_singleton]
      exact fun h => h.elim ht (fun e => c e.symm)
  · repeat' ((first | (with_reducible first | refine EvSeq.go ?_ | refine EvIf.tt ?_ | refine EvIf.ff ?_) | ((with_reducible refine EvIf.mk (fun c => ?_) (fun c => ?_)) <;> (try simp only [cs_] at c) <;> (try (exfalso; first | omega | (revert c; decide))))) <;> conv => whnf)
    rw [List.take_of_length_le (by omega)] at ht
    exact ⟨congrArg Value.bool (decide_eq_false ht).symm, rfl⟩
/-- the machine registers that may be given -/
def kept : List Int := [9, 18, 19, 20, 21, 22, 23, 24, 25, 26, 27, 8]
def usb (x : Bool) : List Int := if x then kept else [28, 29, 30, 31] ++ kept
theorem usable_c (x : Bool) (h : Hp) : HC Tryd.prog 72 [.bool x] h fun v h' => ∃ A c, v = .slice A (usb x).length c ∧ Sep h h' [Sl 3 A (usb x).length c (ints .i64 (usb x))] := by
  refine hc_of Tryd.func72 (rfl : Tryd.f72.body = some _) Tryd.ntmps72 Tryd.results72 Tryd.call72 rfl ?_; have HS := Sep.nil h; conv => whnf
  cases x with
  | true =>
    repeat' ((first | (with_reducible first | refine EvSeq.go ?_ | refine EvIf.tt ?_ | refine EvIf.ff ?_) | ((with_reducible refine EvNew.sep HS ?_); intro bN hN HS1 hX; replace HS := HS1; clear HS1)) <;> conv => whnf)
    have HS2 := (HS.row (vs := ints .i64 kept) (rest := []) (n := 12) (c := 12) rfl rfl)
    exact ⟨_, _, rfl, HS2.take [_]⟩
  | false =>
    repeat' ((first | (with_reducible first | refine EvSeq.go ?_ | refine EvIf.tt ?_ | refine EvIf.ff ?_) | ((with_reducible refine EvNew.sep HS ?_); intro bN hN HS1 hX; replace HS := HS1; clear HS1)) <;> conv => whnf)
    have HS2 := HS.row (vs := ints .i64 [28, 29, 30, 31]) (rest := []) (n := 4) (c := 4) rfl rfl
    refine EvApp.sli HS2 0 rfl (Rd.of_blk (HS.pt_i 1 rfl)) rfl (by simp [Value.oneCell']) (by omega) (by omega) ?_
    intro A2 c2 h2 HS3
    clear HS HS2
    have HS := HS3
    clear HS3
    dsimp only [List.eraseIdx] at HS
    conv => whnf
    repeat' (fail <;> conv => whnf)
    exact ⟨_, _, rfl, HS.take [_]⟩
end Go.Proofs.YtjggmhpjlnmigaaDoor
