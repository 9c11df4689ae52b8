/- Places: what holds a machine register, by the reference. -/
import Derived.Test.YtjggmhpjlnmigaaDoorVAl
import Derived.Test.YtjggmhpjlnmigaaDoorVLvM
namespace Go.Proofs.YtjggmhpjlnmigaaDoor
open Go.RowKit
set_option maxRecDepth 20000
set_option linter.unusedSimpArgs false
set_option linter.unusedVariables false
/-- does register r hold a machine register at the place fr? -/
def hld (ss : List Sp) (ps : List Pl) (fr : Int) (r : Nat) : Bool := decide (0 < (ps[r]?.map Pl.rg).getD 0 ∧ fr ≤ (ss[r]?.map Sp.to).getD 0)
theorem held_c {h : Hp} {A B : Option Addr} {n ca cb : Nat} {ss : List Sp} {ps : List Pl} (ra : Rd h A (ss.flatMap Sp.cells)) (rb : Rd h B (ps.flatMap Pl.cells)) (la : ss.length = n) (lb : ps.length = n) (hn : n ≤ 1000000) (fr : Int) :
    HC Tryd.prog 71 [.slice A n ca, .slice B n cb, .int .i64 fr] h fun v h' => ∃ A' m c', v = .slice A' m c' ∧ m ≤ n ∧ Sep h h' [Sl 3 A' m c' (ints .i64 (mkd (hld ss ps fr) n))] := by
  refine hc_of Tryd.func71 (rfl : Tryd.f71.body = some _) Tryd.ntmps71 Tryd.results71 Tryd.call71 rfl ?_; have HS := Sep.nil h; conv => whnf
  repeat' ((first | (with_reducible first | refine EvSeq.go ?_ | refine EvIf.tt ?_ | refine EvIf.ff ?_) | ((with_reducible refine EvNew.sep HS ?_); intro bN hN HS1 hX; replace HS := HS1; clear HS1)) <;> conv => whnf)
  have HS0 := HS.row (vs := []) (rest := []) (n := 0) (c := 0) rfl rfl
  clear HS
  refine EvLoop.keep ([7, 8, 10, 11, 12, 13, 14, 15, 16, 17, 18, 19, 20, 21, 22, 23, 24, 25, 26, 27, 28, 29, 30, 31, 32, 33, 34], 9) (α := Nat × Option Addr × Nat × Nat) (fun (k, C, m, d) => [(8, .int .i64 k), (7, .slice C m d)]) (fun (k, C, m, d) h' => k ≤ n ∧ m ≤ k ∧ Sep h h' [Sl 3 C m d (ints .i64 (mkd (hld ss ps fr) k))]) (fun (k, _, _, _) => n - k) (0, _, 0, 0) (by (repeat' (first | exact trivial | refine ⟨rfl, ?_⟩))) ⟨Nat.zero_le _, Nat.le_refl _, HS0⟩ ?_
  clear HS0
  rintro ⟨k, C, m, d⟩ h1 ⟨hk, hm, HS⟩
  conv => whnf
  obtain hlt | hge := Nat.lt_or_ge k n
  · obtain ⟨x, hx⟩ : ∃ x, ss[k]? = some x := ⟨_, List.getElem?_eq_getElem (by omega)⟩
    obtain ⟨y, hy⟩ : ∃ y, ps[k]? = some y := ⟨_, List.getElem?_eq_getElem (by omega)⟩
    have hh : hld ss ps fr k = decide (0 < y.rg ∧ fr ≤ x.to) := by
      unfold hld
      rw [hx, hy]
      rfl
    repeat' ((first | ((with_reducible refine EvIdx.el Pl.len (by decide) (rb.ext HS.to_ext) lb (by omega) (by omega) ?_); intro bI oI z eI hz hI; have hzy : y = z := Option.some.inj (hy.symm.trans hz); subst hzy) | ((with_reducible refine EvIdx.el Sp.len (by decide) (ra.ext HS.to_ext) la (by omega) (by omega) ?_); intro bI oI z eI hz hI; have hzx : x = z := Option.some.inj (hx.symm.trans hz); subst hzx) | ((with_reducible refine EvLd.el0 hI rfl ?_)) | ((with_reducible refine EvLd.el 1 hI rfl ?_)) | ((first | refine EvApp.sli HS 1 rfl (Rd.of_blk (HS.pt_i 0 rfl)) rfl (by simp [Value.oneCell']) (by omega) (by omega) ?_ | refine EvApp.sli HS 2 rfl (Rd.of_blk (HS.pt_i 0 rfl)) rfl (by simp [Value.oneCell']) (by omega) (by omega) ?_ | refine EvApp.sli HS 3 rfl (Rd.of_blk (HS.pt_i 0 rfl)) rfl (by simp [Value.oneCell']) (by omega) (by omega) ?_ | refine EvApp.sli HS 4 rfl (Rd.of_blk (HS.pt_i 0 rfl)) rfl (by simp [Value.oneCell']) (by omega) (by omega) ?_ | refine EvApp.sli HS 5 rfl (Rd.of_blk (HS.pt_i 0 rfl)) rfl (by simp [Value.oneCell']) (by omega) (by omega) ?_ | refine EvApp.sli HS 6 rfl (Rd.of_blk (HS.pt_i 0 rfl)) rfl (by simp [Value.oneCell']) (by omega) (by omega) ?_ | refine EvApp.sli HS 7 rfl (Rd.of_blk (HS.pt_i 0 rfl)) rfl (by simp [Value.oneCell']) (by omega) (by omega) ?_ | refine EvApp.sli HS 8 rfl (Rd.of_blk (HS.pt_i 0 rfl)) rfl (by simp [Value.oneCell']) (by omega) (by omega) ?_); intro AP cP hP HSP; replace HS := HSP; clear HSP; dsimp only [List.eraseIdx] at HS) | (with_reducible first | refine EvSeq.go ?_ | refine EvIf.tt ?_ | refine EvIf.ff ?_) | ((with_reducible refine EvIf.mk (fun c => ?_) (fun c => ?_)) <;> (try simp only [cs_] at c) <;> (try (exfalso; first | omega | (revert c; decide)))) | ((with_reducible refine EvNew.sep HS ?_); intro bN hN HS1 hX; replace HS := HS1; clear HS1)) <;> conv => whnf)
    · have hb : hld ss ps fr k = true := by rw [hh]; exact decide_eq_true ⟨by omega, by omega⟩
      refine ⟨(k + 1, _, _, _), ⟨congrArg (fun z => some (Value.int .i64 z)) ((i64w _ (by omega) (by omega)).trans (by omega)), rfl, (by (repeat' (first | exact trivial | refine ⟨rfl, ?_⟩)))⟩, ⟨by omega, (by show m + 1 ≤ k + 1; omega), ?_⟩, by show n - (k + 1) < n - k; omega⟩
      rw [mkd_succ, if_pos hb]
      have e2 : ints .i64 (mkd (hld ss ps fr) k ++ [(k : Int)]) = ints .i64 (mkd (hld ss ps fr) k) ++ [.int .i64 (k : Int)] := by simp
      rw [e2]
      exact HS.take [_]
    · have hb : hld ss ps fr k = false := by rw [hh]; exact decide_eq_false (by omega)
      refine ⟨(k + 1, _, _, _), ⟨congrArg (fun z => some (Value.int .i64 z)) ((i64w _ (by omega) (by omega)).trans (by omega)), rfl, (by (repeat' (first | exact trivial | refine ⟨rfl, ?_⟩)))⟩, ⟨by omega, by omega, ?_⟩, by show n - (k + 1) < n - k; omega⟩
      rw [mkd_succ, if_neg (by rw [hb]; decide)]
      exact HS
    · have hb : hld ss ps fr k = false := by rw [hh]; exact decide_eq_false (by omega)
      refine ⟨(k + 1, _, _, _), ⟨congrArg (fun z => some (Value.int .i64 z)) ((i64w _ (by omega) (by omega)).trans (by omega)), rfl, (by (repeat' (first | exact trivial | refine ⟨rfl, ?_⟩)))⟩, ⟨by omega, by omega, ?_⟩, by show n - (k + 1) < n - k; omega⟩
      rw [mkd_succ, if_neg (by rw [hb]; decide)]
      exact HS
  · repeat' ((first | (with_reducible first | refine EvSeq.go ?_ | refine EvIf.tt ?_ | refine EvIf.ff ?_) | ((with_reducible refine EvIf.mk (fun c => ?_) (fun c => ?_)) <;> (try simp only [cs_] at c) <;> (try (exfalso; first | omega | (revert c; decide))))) <;> conv => whnf)
    obtain rfl : k = n := by omega
    exact ⟨_, _, _, rfl, hm, HS⟩
end Go.Proofs.YtjggmhpjlnmigaaDoor
