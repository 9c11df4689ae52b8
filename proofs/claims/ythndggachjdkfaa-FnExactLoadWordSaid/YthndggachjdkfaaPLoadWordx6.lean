-- Lines for this claim, written by the session's own program wip/myprint.py. Not trusted: Lean checks them.
import Derived.Test.YthndggachjdkfaaPLoadWordx0
import Derived.Test.YthndggachjdkfaaPLoadWordx5
namespace Go.Proofs.Ythndggachjdkfaa.PLoadWord
open Go.RowKit Go.Proofs.YthndggachjdkfaaW.PrintWords Go.Proofs.YthndggachjdkfaaW.PrintLast Go.Proofs.YthndggachjdkfaaW.PrintMore
attribute [local go_sem] max2_int min2_int max_two min_two max_three min_three max_four min_four   -- for this text's walks alone
set_option linter.unusedVariables false
set_option linter.unusedSimpArgs false

/-! ### impl_Narrow: function 114 -/
def impl_Narrow.f (a0 : Int) (a1 : Int) : Option (Int × Bool) := if a0 = 1 then ((impl_Word.f (wrap64 (IntKind.i8.wrap (a1)))).bind fun t195 => (some (t195, true))) else (if a0 = 2 then (some (Go.bits .and .i64 a1 255, true)) else (if a0 = 3 then ((impl_Word.f (wrap64 (IntKind.i16.wrap (a1)))).bind fun t196 => (some (t196, true))) else (if a0 = 4 then (some (Go.bits .and .i64 a1 65535, true)) else (if a0 = 5 then ((impl_Word.f a1).bind fun t197 => (some (t197, true))) else (some (0, false))))))
set_option maxHeartbeats 8000000 in
set_option maxRecDepth 100000 in
theorem impl_Narrow.calls (a0 : Int) (a1 : Int) (r1 : Int) (r2 : Bool) (w : World) (h : impl_Narrow.f a0 a1 = some (r1, r2)) :
    Calls Try.prog 114 #[.int .i64 a0, .int .i64 a1] w fun e w' => e = .returned (.tuple #[.int .i64 r1, .bool r2]) ∧ Drawn0 w w' := by
  have H : (if a0 = 1 then ((impl_Word.f (wrap64 (IntKind.i8.wrap (a1)))).bind fun t195 => (some (t195, true))) else (if a0 = 2 then (some (Go.bits .and .i64 a1 255, true)) else (if a0 = 3 then ((impl_Word.f (wrap64 (IntKind.i16.wrap (a1)))).bind fun t196 => (some (t196, true))) else (if a0 = 4 then (some (Go.bits .and .i64 a1 65535, true)) else (if a0 = 5 then ((impl_Word.f a1).bind fun t197 => (some (t197, true))) else (some (0, false))))))) = some (r1, r2) := h
  clear h
  by_cases c3 : a0 = 1
  · rw [if_pos c3] at H
    have c3b0 : (a0 == 1) = true := beq_iff_eq.mpr c3
    have c3b1 : (a0 != 1) = false := bne_eq_false_iff_eq.mpr c3
    clear c3
    replace H := Option.bind_eq_some_iff.mp H
    obtain ⟨t195, A40, H⟩ := H
    replace H : (some (t195, true)) = some (r1, r2) := H
    have A4 := Aside0.mk A40
    clear A40
    simp only [Option.some.injEq, Prod.mk.injEq] at H
    obtain ⟨rfl, rfl⟩ := H
    go_enter Try.func114, Try.ntmps114
    go_wp2_with (first | ((with_reducible refine gate_callee (f := 101) rfl ?_); refine goesL_ (some 12) rfl rfl Try.func101 (by kernel_rfl) rfl #[.int .i64 (wrap64 (IntKind.i8.wrap (a1)))] rfl (by (try simp only [List.map_toArray, List.map_cons, List.map_nil]); first | done | rfl | (simp only [List.length_drop, List.length_take]; rfl)) ?_; (with_reducible refine (impl_Word.calls (wrap64 (IntKind.i8.wrap (a1))) t195 _ A4.out).mono ?_); rintro e w' ⟨rfl, ⟨nd, rfl⟩⟩; refine ⟨_, rfl, ?_⟩))
    go_ret2
    exact ⟨by first | rfl | (simp; done) | (simp [*]; done), by repeat (first | exact Drawn0.refl _ | apply Drawn0.step)⟩
  · rw [if_neg c3] at H
    have c3b0 : (a0 == 1) = false := beq_eq_false_iff_ne.mpr c3
    have c3b1 : (a0 != 1) = true := bne_iff_ne.mpr c3
    by_cases c5 : a0 = 2
    · rw [if_pos c5] at H
      have c5b0 : (a0 == 2) = true := beq_iff_eq.mpr c5
      have c5b1 : (a0 != 2) = false := bne_eq_false_iff_eq.mpr c5
      clear c5
      simp only [Option.some.injEq, Prod.mk.injEq] at H
      obtain ⟨rfl, rfl⟩ := H
      go_enter Try.func114, Try.ntmps114
      go_wp2
      go_ret2
      exact ⟨by first | rfl | (simp; done) | (simp [*]; done), by repeat (first | exact Drawn0.refl _ | apply Drawn0.step)⟩
    · rw [if_neg c5] at H
      have c5b0 : (a0 == 2) = false := beq_eq_false_iff_ne.mpr c5
      have c5b1 : (a0 != 2) = true := bne_iff_ne.mpr c5
      by_cases c6 : a0 = 3
      · rw [if_pos c6] at H
        have c6b0 : (a0 == 3) = true := beq_iff_eq.mpr c6
        have c6b1 : (a0 != 3) = false := bne_eq_false_iff_eq.mpr c6
        clear c6
        replace H := Option.bind_eq_some_iff.mp H
        obtain ⟨t196, A70, H⟩ := H
        replace H : (some (t196, true)) = some (r1, r2) := H
        have A7 := Aside0.mk A70
        clear A70
        simp only [Option.some.injEq, Prod.mk.injEq] at H
        obtain ⟨rfl, rfl⟩ := H
        go_enter Try.func114, Try.ntmps114
        go_wp2_with (first | ((with_reducible refine gate_callee (f := 101) rfl ?_); refine goesL_ (some 22) rfl rfl Try.func101 (by kernel_rfl) rfl #[.int .i64 (wrap64 (IntKind.i16.wrap (a1)))] rfl (by (try simp only [List.map_toArray, List.map_cons, List.map_nil]); first | done | rfl | (simp only [List.length_drop, List.length_take]; rfl)) ?_; (with_reducible refine (impl_Word.calls (wrap64 (IntKind.i16.wrap (a1))) t196 _ A7.out).mono ?_); rintro e w' ⟨rfl, ⟨nd, rfl⟩⟩; refine ⟨_, rfl, ?_⟩))
        go_ret2
        exact ⟨by first | rfl | (simp; done) | (simp [*]; done), by repeat (first | exact Drawn0.refl _ | apply Drawn0.step)⟩
      · rw [if_neg c6] at H
        have c6b0 : (a0 == 3) = false := beq_eq_false_iff_ne.mpr c6
        have c6b1 : (a0 != 3) = true := bne_iff_ne.mpr c6
        by_cases c8 : a0 = 4
        · rw [if_pos c8] at H
          have c8b0 : (a0 == 4) = true := beq_iff_eq.mpr c8
          have c8b1 : (a0 != 4) = false := bne_eq_false_iff_eq.mpr c8
          clear c8
          simp only [Option.some.injEq, Prod.mk.injEq] at H
          obtain ⟨rfl, rfl⟩ := H
          go_enter Try.func114, Try.ntmps114
          go_wp2
          go_ret2
          exact ⟨by first | rfl | (simp; done) | (simp [*]; done), by repeat (first | exact Drawn0.refl _ | apply Drawn0.step)⟩
        · rw [if_neg c8] at H
          have c8b0 : (a0 == 4) = false := beq_eq_false_iff_ne.mpr c8
          have c8b1 : (a0 != 4) = true := bne_iff_ne.mpr c8
          by_cases c9 : a0 = 5
          · rw [if_pos c9] at H
            have c9b0 : (a0 == 5) = true := beq_iff_eq.mpr c9
            have c9b1 : (a0 != 5) = false := bne_eq_false_iff_eq.mpr c9
            clear c9
            replace H := Option.bind_eq_some_iff.mp H
            obtain ⟨t197, A100, H⟩ := H
            replace H : (some (t197, true)) = some (r1, r2) := H
            have A10 := Aside0.mk A100
            clear A100
            simp only [Option.some.injEq, Prod.mk.injEq] at H
            obtain ⟨rfl, rfl⟩ := H
            go_enter Try.func114, Try.ntmps114
            go_wp2_with (first | ((with_reducible refine gate_callee (f := 101) rfl ?_); refine goesL_ (some 30) rfl rfl Try.func101 (by kernel_rfl) rfl #[.int .i64 a1] rfl (by (try simp only [List.map_toArray, List.map_cons, List.map_nil]); first | done | rfl | (simp only [List.length_drop, List.length_take]; rfl)) ?_; (with_reducible refine (impl_Word.calls a1 t197 _ A10.out).mono ?_); rintro e w' ⟨rfl, ⟨nd, rfl⟩⟩; refine ⟨_, rfl, ?_⟩))
            go_ret2
            exact ⟨by first | rfl | (simp; done) | (simp [*]; done), by repeat (first | exact Drawn0.refl _ | apply Drawn0.step)⟩
          · rw [if_neg c9] at H
            have c9b0 : (a0 == 5) = false := beq_eq_false_iff_ne.mpr c9
            have c9b1 : (a0 != 5) = true := bne_iff_ne.mpr c9
            simp only [Option.some.injEq, Prod.mk.injEq] at H
            obtain ⟨rfl, rfl⟩ := H
            go_enter Try.func114, Try.ntmps114
            go_wp2
            go_ret2
            exact ⟨by first | rfl | (simp; done) | (simp [*]; done), by repeat (first | exact Drawn0.refl _ | apply Drawn0.step)⟩

-- NOT PRINTED: function 66 (impl_Machine_load)

/-! ### impl_LoadWord: function 30 -/
/-- where n bytes at an address lie: 1 data, 2 stack, 0 nowhere; the place; the fault. -/
def spotF (n3 n4 n at_ : Int) : Int × Int × Int :=
  if n = 0 then (0, 0, 4) else if Int.tmod at_ n ≠ 0 then (0, 0, 3)
  else if 1048576 ≤ at_ ∧ at_ ≤ 1048576 + n3 - n then (1, at_ - 1048576, 0)
  else if 2097152 - n4 ≤ at_ ∧ at_ ≤ 2097152 - n then (2, at_ - (2097152 - n4), 0) else (0, 0, 4)
def cutV (A : Option Addr) (c : Nat) (i n : Int) : Value := .slice (if c = i.toNat then A else A.map (·.add (i.toNat * 1))) ((i + n).toNat - i.toNat) (c - i.toNat)
def placeV (A3 : Option Addr) (c3 : Nat) (A4 : Option Addr) (c4 : Nat) (n : Int) (s : Int × Int × Int) : Value :=
  if s.1 = 1 then cutV A3 c3 s.2.1 n else if s.1 = 2 then cutV A4 c4 s.2.1 n else .slice none 0 0
set_option maxHeartbeats 1600000 in
set_option maxRecDepth 100000 in
theorem place_raw (g : Nat) (v0 v1 v2 v5 v6 v7 v8 v9 : Value) (A3 : Option Addr) (c3 : Nat) (l3 : List Int) (A4 : Option Addr) (c4 : Nat) (l4 : List Int) (w : World)
    (hg : w.heap[g]? = some (.cells #[v0, v1, v2, .slice A3 l3.length c3, .slice A4 l4.length c4, v5, v6, v7, v8, v9] 36 (0, 0))) (h3 : l3.length ≤ c3) (h4 : l4.length ≤ c4) (m3 : l3.length ≤ 65536) (m4 : l4.length ≤ 65536)
    (kind at_ n : Int) (hn0 : 0 ≤ n) (hn : n ≤ 4) (hk : impl_KindSize.f kind = some n) (ha : -9223372036854775808 ≤ at_) (hb : at_ ≤ 9223372036854775807) :
    Calls Try.prog 113 #[.pointer (some ⟨g, 0, none⟩), .int .i64 kind, .int .i64 at_] w fun e w' => e = .returned (.tuple #[placeV A3 c3 A4 c4 n (spotF l3.length l4.length n at_), .int .i64 (spotF l3.length l4.length n at_).2.2]) ∧ Below w.heap.size w w' := by
  have HK := Aside0.mk hk
  clear hk
  have HG := Aside0.mk hg
  clear hg
  have hU := Try.underlying23
  have hTM := Try.underlying36
  have b3 := tmod_small at_ n hn0 hn ha hb
  by_cases c1 : n = 0
  · subst c1
    have e1 : spotF l3.length l4.length 0 at_ = (0, 0, 4) := by simp [spotF]
    rw [e1]
    clear e1
    (go_enter Try.func113, Try.ntmps113; go_wp2_with (go_at_call 138; (with_reducible refine (impl_KindSize.calls _ _ _ HK.out).mono ?_); rintro e w1 ⟨rfl, hb⟩; have HB := Aside0.mk hb; have hg1 : w1.heap[g]? = some (.cells #[v0, v1, v2, .slice A3 l3.length c3, .slice A4 l4.length c4, v5, v6, v7, v8, v9] 36 (0, 0)) := blk_below (g := g) (o := .cells #[v0, v1, v2, .slice A3 l3.length c3, .slice A4 l4.length c4, v5, v6, v7, v8, v9] 36 (0, 0)) (by (with_reducible repeat (first | refine blk_drewN ?_ _ | refine blk_drew ?_ | refine blk_alloc ?_ _)); exact HG.out) hb; have hcz0 : w1.cell? ⟨g, 3, none⟩ = some (.slice A3 l3.length c3) := (blk_cell hg1 3).trans rfl; have hcz1 : w1.cell? ⟨g, 4, none⟩ = some (.slice A4 l4.length c4) := (blk_cell hg1 4).trans rfl; clear hb hg1); all_goals go_ret2; all_goals exact ⟨rfl, (by repeat (first | exact Below.refl _ _ | exact HB.out | refine pw_below_drewN ?_ _ | refine below_alloc ?_ _ | refine below_drew ?_))⟩)
  have b1 : (n == 0) = false := beq_eq_false_iff_ne.mpr c1
  by_cases c2 : Int.tmod at_ n ≠ 0
  · have e1 : spotF l3.length l4.length n at_ = (0, 0, 3) := by unfold spotF; rw [if_neg c1, if_pos c2]
    rw [e1]
    clear e1
    have b2 : (Int.tmod at_ n != 0) = true := bne_iff_ne.mpr c2
    clear c2
    (go_enter Try.func113, Try.ntmps113; go_wp2_with (go_at_call 138; (with_reducible refine (impl_KindSize.calls _ _ _ HK.out).mono ?_); rintro e w1 ⟨rfl, hb⟩; have HB := Aside0.mk hb; have hg1 : w1.heap[g]? = some (.cells #[v0, v1, v2, .slice A3 l3.length c3, .slice A4 l4.length c4, v5, v6, v7, v8, v9] 36 (0, 0)) := blk_below (g := g) (o := .cells #[v0, v1, v2, .slice A3 l3.length c3, .slice A4 l4.length c4, v5, v6, v7, v8, v9] 36 (0, 0)) (by (with_reducible repeat (first | refine blk_drewN ?_ _ | refine blk_drew ?_ | refine blk_alloc ?_ _)); exact HG.out) hb; have hcz0 : w1.cell? ⟨g, 3, none⟩ = some (.slice A3 l3.length c3) := (blk_cell hg1 3).trans rfl; have hcz1 : w1.cell? ⟨g, 4, none⟩ = some (.slice A4 l4.length c4) := (blk_cell hg1 4).trans rfl; clear hb hg1); all_goals go_ret2; all_goals exact ⟨rfl, (by repeat (first | exact Below.refl _ _ | exact HB.out | refine pw_below_drewN ?_ _ | refine below_alloc ?_ _ | refine below_drew ?_))⟩)
  have b2 : (Int.tmod at_ n != 0) = false := by simpa using c2
  have w1 : wrap64 (l3.length : Int) = l3.length := Go.IntWalk.wrap64_in _ (by omega)
  have w2 : wrap64 (1048576 + (l3.length : Int)) = 1048576 + l3.length := Go.IntWalk.wrap64_in _ (by omega)
  have w3 : wrap64 (1048576 + (l3.length : Int) - n) = 1048576 + l3.length - n := Go.IntWalk.wrap64_in _ (by omega)
  have w4 : wrap64 (2097152 - (l4.length : Int)) = 2097152 - (l4.length : Int) := Go.IntWalk.wrap64_in _ (by omega)
  have w5 : wrap64 (2097152 - n) = 2097152 - n := Go.IntWalk.wrap64_in _ (by omega)
  by_cases c3' : 1048576 ≤ at_ ∧ at_ ≤ 1048576 + l3.length - n
  · have e1 : spotF l3.length l4.length n at_ = (1, at_ - 1048576, 0) := by unfold spotF; rw [if_neg c1, if_neg c2, if_pos c3']
    rw [e1]
    clear e1
    have b4 : decide (1048576 ≤ at_) = true := decide_eq_true c3'.1
    have hpos : 0 ≤ at_ := by omega
    have b5 : decide (at_ ≤ 1048576 + (l3.length : Int) - n) = true := decide_eq_true c3'.2
    have w6 : wrap64 (at_ - 1048576) = at_ - 1048576 := Go.IntWalk.wrap64_in _ (by omega)
    have w7 : wrap64 (at_ - 1048576 + n) = at_ - 1048576 + n := Go.IntWalk.wrap64_in _ (by omega)
    have hi : (Try.prog.info? 5).map (fun i => i.size) = some 1 := by kernel_rfl
    obtain ⟨i, hi1, hi2⟩ := Option.map_eq_some_iff.mp hi
    have hsl := cut_mid (P := Try.prog) 23 5 .i64 .i64 hU hi1 1 hi2 A3 l3.length c3 (at_ - 1048576) (at_ - 1048576 + n) (by omega) (by omega) (by omega) h3
    show Calls _ _ _ _ fun e w' => e = .returned (.tuple #[cutV A3 c3 (at_ - 1048576) n, .int .i64 0]) ∧ _
    unfold cutV
    clear c2 hi hi1 hi2
    rw [Int.tmod_eq_emod_of_nonneg hpos] at b2 b3
    (go_enter Try.func113, Try.ntmps113; go_wp2_with (go_at_call 138; (with_reducible refine (impl_KindSize.calls _ _ _ HK.out).mono ?_); rintro e w1 ⟨rfl, hb⟩; have HB := Aside0.mk hb; have hg1 : w1.heap[g]? = some (.cells #[v0, v1, v2, .slice A3 l3.length c3, .slice A4 l4.length c4, v5, v6, v7, v8, v9] 36 (0, 0)) := blk_below (g := g) (o := .cells #[v0, v1, v2, .slice A3 l3.length c3, .slice A4 l4.length c4, v5, v6, v7, v8, v9] 36 (0, 0)) (by (with_reducible repeat (first | refine blk_drewN ?_ _ | refine blk_drew ?_ | refine blk_alloc ?_ _)); exact HG.out) hb; have hcz0 : w1.cell? ⟨g, 3, none⟩ = some (.slice A3 l3.length c3) := (blk_cell hg1 3).trans rfl; have hcz1 : w1.cell? ⟨g, 4, none⟩ = some (.slice A4 l4.length c4) := (blk_cell hg1 4).trans rfl; clear hb hg1); all_goals go_ret2; all_goals exact ⟨rfl, (by repeat (first | exact Below.refl _ _ | exact HB.out | refine pw_below_drewN ?_ _ | refine below_alloc ?_ _ | refine below_drew ?_))⟩)
  by_cases c4' : 2097152 - (l4.length : Int) ≤ at_ ∧ at_ ≤ 2097152 - n
  · have e1 : spotF l3.length l4.length n at_ = (2, at_ - (2097152 - l4.length), 0) := by unfold spotF; rw [if_neg c1, if_neg c2, if_neg c3', if_pos c4']
    rw [e1]
    clear e1
    have hpos : 0 ≤ at_ := by omega
    have hpos2 : 1048576 ≤ at_ := by omega
    have b4 : decide (1048576 ≤ at_) = true := decide_eq_true hpos2
    have b5 : decide (at_ ≤ 1048576 + (l3.length : Int) - n) = false := decide_eq_false (fun h => c3' ⟨hpos2, h⟩)
    have b6 : decide (2097152 - (l4.length : Int) ≤ at_) = true := decide_eq_true c4'.1
    have b7 : decide (at_ ≤ 2097152 - n) = true := decide_eq_true c4'.2
    have w6 : wrap64 (at_ - (2097152 - (l4.length : Int))) = at_ - (2097152 - (l4.length : Int)) := Go.IntWalk.wrap64_in _ (by omega)
    have w7 : wrap64 (at_ - (2097152 - (l4.length : Int)) + n) = at_ - (2097152 - (l4.length : Int)) + n := Go.IntWalk.wrap64_in _ (by omega)
    have hi : (Try.prog.info? 5).map (fun i => i.size) = some 1 := by kernel_rfl
    obtain ⟨i, hi1, hi2⟩ := Option.map_eq_some_iff.mp hi
    have hsl := cut_mid (P := Try.prog) 23 5 .i64 .i64 hU hi1 1 hi2 A4 l4.length c4 (at_ - (2097152 - (l4.length : Int))) (at_ - (2097152 - (l4.length : Int)) + n) (by omega) (by omega) (by omega) h4
    show Calls _ _ _ _ fun e w' => e = .returned (.tuple #[cutV A4 c4 (at_ - (2097152 - l4.length)) n, .int .i64 0]) ∧ _
    unfold cutV
    clear c2 hi hi1 hi2 c3' c4'
    rw [Int.tmod_eq_emod_of_nonneg hpos] at b2 b3
    (go_enter Try.func113, Try.ntmps113; go_wp2_with (go_at_call 138; (with_reducible refine (impl_KindSize.calls _ _ _ HK.out).mono ?_); rintro e w1 ⟨rfl, hb⟩; have HB := Aside0.mk hb; have hg1 : w1.heap[g]? = some (.cells #[v0, v1, v2, .slice A3 l3.length c3, .slice A4 l4.length c4, v5, v6, v7, v8, v9] 36 (0, 0)) := blk_below (g := g) (o := .cells #[v0, v1, v2, .slice A3 l3.length c3, .slice A4 l4.length c4, v5, v6, v7, v8, v9] 36 (0, 0)) (by (with_reducible repeat (first | refine blk_drewN ?_ _ | refine blk_drew ?_ | refine blk_alloc ?_ _)); exact HG.out) hb; have hcz0 : w1.cell? ⟨g, 3, none⟩ = some (.slice A3 l3.length c3) := (blk_cell hg1 3).trans rfl; have hcz1 : w1.cell? ⟨g, 4, none⟩ = some (.slice A4 l4.length c4) := (blk_cell hg1 4).trans rfl; clear hb hg1); all_goals go_ret2; all_goals exact ⟨rfl, (by repeat (first | exact Below.refl _ _ | exact HB.out | refine pw_below_drewN ?_ _ | refine below_alloc ?_ _ | refine below_drew ?_))⟩)
  have e1 : spotF l3.length l4.length n at_ = (0, 0, 4) := by unfold spotF; rw [if_neg c1, if_neg c2, if_neg c3', if_neg c4']
  rw [e1]
  clear e1
  by_cases d1 : 1048576 ≤ at_
  · have hpos : 0 ≤ at_ := by omega
    rw [Int.tmod_eq_emod_of_nonneg hpos] at b2 b3
    have b4 : decide (1048576 ≤ at_) = true := decide_eq_true d1
    have b5 : decide (at_ ≤ 1048576 + (l3.length : Int) - n) = false := decide_eq_false (fun h => c3' ⟨d1, h⟩)
    by_cases d2 : 2097152 - (l4.length : Int) ≤ at_
    · have b6 : decide (2097152 - (l4.length : Int) ≤ at_) = true := decide_eq_true d2
      have b7 : decide (at_ ≤ 2097152 - n) = false := decide_eq_false (fun h => c4' ⟨d2, h⟩)
      clear c2 c3' c4'
      (go_enter Try.func113, Try.ntmps113; go_wp2_with (go_at_call 138; (with_reducible refine (impl_KindSize.calls _ _ _ HK.out).mono ?_); rintro e w1 ⟨rfl, hb⟩; have HB := Aside0.mk hb; have hg1 : w1.heap[g]? = some (.cells #[v0, v1, v2, .slice A3 l3.length c3, .slice A4 l4.length c4, v5, v6, v7, v8, v9] 36 (0, 0)) := blk_below (g := g) (o := .cells #[v0, v1, v2, .slice A3 l3.length c3, .slice A4 l4.length c4, v5, v6, v7, v8, v9] 36 (0, 0)) (by (with_reducible repeat (first | refine blk_drewN ?_ _ | refine blk_drew ?_ | refine blk_alloc ?_ _)); exact HG.out) hb; have hcz0 : w1.cell? ⟨g, 3, none⟩ = some (.slice A3 l3.length c3) := (blk_cell hg1 3).trans rfl; have hcz1 : w1.cell? ⟨g, 4, none⟩ = some (.slice A4 l4.length c4) := (blk_cell hg1 4).trans rfl; clear hb hg1); all_goals go_ret2; all_goals exact ⟨rfl, (by repeat (first | exact Below.refl _ _ | exact HB.out | refine pw_below_drewN ?_ _ | refine below_alloc ?_ _ | refine below_drew ?_))⟩)
    · have b6 : decide (2097152 - (l4.length : Int) ≤ at_) = false := decide_eq_false d2
      clear c2 c3' c4'
      (go_enter Try.func113, Try.ntmps113; go_wp2_with (go_at_call 138; (with_reducible refine (impl_KindSize.calls _ _ _ HK.out).mono ?_); rintro e w1 ⟨rfl, hb⟩; have HB := Aside0.mk hb; have hg1 : w1.heap[g]? = some (.cells #[v0, v1, v2, .slice A3 l3.length c3, .slice A4 l4.length c4, v5, v6, v7, v8, v9] 36 (0, 0)) := blk_below (g := g) (o := .cells #[v0, v1, v2, .slice A3 l3.length c3, .slice A4 l4.length c4, v5, v6, v7, v8, v9] 36 (0, 0)) (by (with_reducible repeat (first | refine blk_drewN ?_ _ | refine blk_drew ?_ | refine blk_alloc ?_ _)); exact HG.out) hb; have hcz0 : w1.cell? ⟨g, 3, none⟩ = some (.slice A3 l3.length c3) := (blk_cell hg1 3).trans rfl; have hcz1 : w1.cell? ⟨g, 4, none⟩ = some (.slice A4 l4.length c4) := (blk_cell hg1 4).trans rfl; clear hb hg1); all_goals go_ret2; all_goals exact ⟨rfl, (by repeat (first | exact Below.refl _ _ | exact HB.out | refine pw_below_drewN ?_ _ | refine below_alloc ?_ _ | refine below_drew ?_))⟩)
  · have b4 : decide (1048576 ≤ at_) = false := decide_eq_false d1
    have b6 : decide (2097152 - (l4.length : Int) ≤ at_) = false := decide_eq_false (by omega)
    clear c2 c3' c4'
    (go_enter Try.func113, Try.ntmps113; go_wp2_with (go_at_call 138; (with_reducible refine (impl_KindSize.calls _ _ _ HK.out).mono ?_); rintro e w1 ⟨rfl, hb⟩; have HB := Aside0.mk hb; have hg1 : w1.heap[g]? = some (.cells #[v0, v1, v2, .slice A3 l3.length c3, .slice A4 l4.length c4, v5, v6, v7, v8, v9] 36 (0, 0)) := blk_below (g := g) (o := .cells #[v0, v1, v2, .slice A3 l3.length c3, .slice A4 l4.length c4, v5, v6, v7, v8, v9] 36 (0, 0)) (by (with_reducible repeat (first | refine blk_drewN ?_ _ | refine blk_drew ?_ | refine blk_alloc ?_ _)); exact HG.out) hb; have hcz0 : w1.cell? ⟨g, 3, none⟩ = some (.slice A3 l3.length c3) := (blk_cell hg1 3).trans rfl; have hcz1 : w1.cell? ⟨g, 4, none⟩ = some (.slice A4 l4.length c4) := (blk_cell hg1 4).trans rfl; clear hb hg1); all_goals go_ret2; all_goals exact ⟨rfl, (by repeat (first | exact Below.refl _ _ | exact HB.out | refine pw_below_drewN ?_ _ | refine below_alloc ?_ _ | refine below_drew ?_))⟩)
/-- the cut of n bytes at i -/
def cutL (l : List Int) (i n : Int) : List Int := (l.take (i + n).toNat).drop i.toNat
def ldv (L : List Int) : Nat → Int
  | 0 => 0
  | k + 1 => Go.bits .or .i64 (ldv L k) (wrap64 (wrap64 (rd L k) * 2 ^ (8 * k)))
def loadF (l3 l4 : List Int) (kind n at_ : Int) : Option (Int × Int) :=
  let s := spotF l3.length l4.length n at_
  if s.2.2 ≠ 0 then some (0, s.2.2) else (impl_Narrow.f kind (ldv (cutL (if s.1 = 1 then l3 else l4) s.2.1 n) n.toNat)).map fun r => (r.1, 0)
set_option maxHeartbeats 1600000 in
set_option maxRecDepth 100000 in
theorem load_cut (g : Nat) (L : List Int) (A1 : Option Addr) (c1 : Nat) (kind at_ : Int) (r1 : Int) (r2 : Bool) (w : World) (hL : L.length ≤ 4)
    (hN : impl_Narrow.f kind (ldv L L.length) = some (r1, r2)) (hC : Kd.C (Kd.int .u8) w A1 L.length L)
    (hP : ∀ W, Below w.heap.size w W → Calls Try.prog 113 #[.pointer (some ⟨g, 0, none⟩), .int .i64 kind, .int .i64 at_] W fun e w' => e = .returned (.tuple #[.slice A1 L.length c1, .int .i64 0]) ∧ Below W.heap.size W w') :
    Calls Try.prog 66 #[.pointer (some ⟨g, 0, none⟩), .int .i64 kind, .int .i64 at_] w fun e w' => e = .returned (.tuple #[.int .i64 r1, .int .i64 0]) ∧ Below w.heap.size w w' := by
  have HP := Aside0.mk hP
  clear hP
  have HN := Aside0.mk hN
  clear hN
  have HR0 := Aside0.mk hC
  clear hC
  have hU := Try.underlying23
  go_enter Try.func66, Try.ntmps66
  go_wp2_with (go_at_call 113; (with_reducible refine (HP.out _ ?hp0).mono ?_); (case hp0 => repeat (first | exact Below.refl _ _ | refine pw_below_drewN ?_ _)); rintro e w1 ⟨rfl, hb⟩; have HB := Aside0.mk hb; clear hb)
  have HR := Aside0.mk (show ReadsInt w1 .u8 A1 L.length L from Kd.reads_of_C (enc := Value.int .u8) (d := 0) (h1 := fun _ => rfl) (Kd.C_below HR0.out (by repeat (first | exact Below.refl _ _ | exact HB.out | refine pw_below_drewN ?_ _ | refine below_alloc ?_ _ | refine below_drew ?_))))
  go_loopw [25, 10] (fun i x wr => ∃ k : Nat, k ≤ L.length ∧ i = .int .i64 k ∧ x = .int .i64 (ldv L k) ∧ Aside0 (∃ m, wr = w1.drewN m)) (fun i _ _ => L.length - (intOf i).toNat)
  case atStart => exact ⟨0, Nat.zero_le _, rfl, rfl, ⟨0, rfl⟩⟩
  case round =>
    obtain ⟨k, hk, rfl, rfl, ⟨m, rfl⟩⟩ := hrel
    by_cases hlt : k < L.length
    · obtain ⟨ad, rfl, hc⟩ := HR.out.at_ (k : Int) (by omega) (by omega)
      have hc' : w1.cell? (ad.add k) = some (.int .u8 (rd L k)) := by simpa using hc
      clear hc
      go_wp2
      go_roundw
      case rel => exact ⟨k + 1, by omega, by go_num, rfl, ⟨_, rfl⟩⟩
      case measure => simp [intOf]; omega
    · have hkn : k = L.length := by omega
      subst hkn
      go_wp2_with (go_at_call 114; (with_reducible refine (impl_Narrow.calls _ _ _ _ _ HN.out).mono ?_); rintro e w2 ⟨rfl, ⟨nd, rfl⟩⟩)
      go_ret2
      exact ⟨rfl, (by repeat (first | exact Below.refl _ _ | exact HB.out | refine pw_below_drewN ?_ _ | refine below_alloc ?_ _ | refine below_drew ?_))⟩
theorem spotF_cases (n3 n4 n at_ : Int) : ((spotF n3 n4 n at_).2.2 ≠ 0 ∧ (spotF n3 n4 n at_).1 = 0) ∨
    (∃ i, spotF n3 n4 n at_ = (1, i, 0) ∧ 0 ≤ i ∧ i + n ≤ n3 ∧ n ≠ 0) ∨ (∃ i, spotF n3 n4 n at_ = (2, i, 0) ∧ 0 ≤ i ∧ i + n ≤ n4 ∧ n ≠ 0) := by
  unfold spotF
  by_cases c1 : n = 0
  · rw [if_pos c1]; exact .inl ⟨by decide, rfl⟩
  rw [if_neg c1]
  by_cases c2 : Int.tmod at_ n ≠ 0
  · rw [if_pos c2]; exact .inl ⟨by decide, rfl⟩
  rw [if_neg c2]
  by_cases c3 : 1048576 ≤ at_ ∧ at_ ≤ 1048576 + n3 - n
  · rw [if_pos c3]; exact .inr (.inl ⟨_, rfl, by omega, by omega, c1⟩)
  rw [if_neg c3]
  by_cases c4 : 2097152 - n4 ≤ at_ ∧ at_ ≤ 2097152 - n
  · rw [if_pos c4]; exact .inr (.inr ⟨_, rfl, by omega, by omega, c1⟩)
  rw [if_neg c4]; exact .inl ⟨by decide, rfl⟩
theorem cutL_len (l : List Int) (i n : Int) (h0 : 0 ≤ i) (hn : 0 ≤ n) (h : i + n ≤ l.length) : (cutL l i n).length = n.toNat := by
  simp only [cutL, List.length_drop, List.length_take]; omega
theorem cut_reads {w : World} {A1 : Option Addr} {c1 : Nat} {l : List Int} {i n : Int} (hC : Kd.C (Kd.int .u8) w A1 l.length l) (hc : l.length ≤ c1) (h0 : 0 ≤ i) (hn : 0 ≤ n) (h : i + n ≤ l.length) :
    ∃ A2 c2, cutV A1 c1 i n = .slice A2 (cutL l i n).length c2 ∧ Kd.C (Kd.int .u8) w A2 (cutL l i n).length (cutL l i n) :=
  ⟨_, c1 - i.toNat, by rw [cutL_len l i n h0 hn h]; unfold cutV; rw [show (i + n).toNat - i.toNat = n.toNat by omega]; rfl, Kd.C_mid hC (by omega) (by omega) hc⟩
set_option maxHeartbeats 1600000 in
set_option maxRecDepth 100000 in
theorem load_fault (g : Nat) (v : Value) (kind at_ f : Int) (w : World) (hf : f ≠ 0)
    (hP : ∀ W, Below w.heap.size w W → Calls Try.prog 113 #[.pointer (some ⟨g, 0, none⟩), .int .i64 kind, .int .i64 at_] W fun e w' => e = .returned (.tuple #[v, .int .i64 f]) ∧ Below W.heap.size W w') :
    Calls Try.prog 66 #[.pointer (some ⟨g, 0, none⟩), .int .i64 kind, .int .i64 at_] w fun e w' => e = .returned (.tuple #[.int .i64 0, .int .i64 f]) ∧ Below w.heap.size w w' := by
  have HP := Aside0.mk hP
  clear hP
  have b1 : (f != 0) = true := bne_iff_ne.mpr hf
  go_enter Try.func66, Try.ntmps66
  go_wp2_with (go_at_call 113; (with_reducible refine (HP.out _ ?hp0).mono ?_); (case hp0 => repeat (first | exact Below.refl _ _ | refine pw_below_drewN ?_ _)); rintro e w1 ⟨rfl, hb⟩; have HB := Aside0.mk hb; clear hb)
  go_ret2
  exact ⟨rfl, (by repeat (first | exact Below.refl _ _ | exact HB.out | refine pw_below_drewN ?_ _ | refine below_alloc ?_ _ | refine below_drew ?_))⟩
theorem load_raw (g : Nat) (v0 v1 v2 v5 v6 v7 v8 v9 : Value) (A3 : Option Addr) (c3 : Nat) (l3 : List Int) (A4 : Option Addr) (c4 : Nat) (l4 : List Int) (w : World)
    (hg : w.heap[g]? = some (.cells #[v0, v1, v2, .slice A3 l3.length c3, .slice A4 l4.length c4, v5, v6, v7, v8, v9] 36 (0, 0))) (h3 : l3.length ≤ c3) (h4 : l4.length ≤ c4) (m3 : l3.length ≤ 65536) (m4 : l4.length ≤ 65536)
    (hC3 : Kd.C (Kd.int .u8) w A3 l3.length l3) (hC4 : Kd.C (Kd.int .u8) w A4 l4.length l4)
    (kind at_ n r1 r2 : Int) (hn0 : 0 ≤ n) (hn : n ≤ 4) (hk : impl_KindSize.f kind = some n) (ha : -9223372036854775808 ≤ at_) (hb : at_ ≤ 9223372036854775807)
    (h : loadF l3 l4 kind n at_ = some (r1, r2)) :
    Calls Try.prog 66 #[.pointer (some ⟨g, 0, none⟩), .int .i64 kind, .int .i64 at_] w fun e w' => e = .returned (.tuple #[.int .i64 r1, .int .i64 r2]) ∧ Below w.heap.size w w' := by
  have hP : ∀ W, Below w.heap.size w W → _ := fun W hW => place_raw g v0 v1 v2 v5 v6 v7 v8 v9 A3 c3 l3 A4 c4 l4 W (blk_below hg hW) h3 h4 m3 m4 kind at_ n hn0 hn hk ha hb
  unfold loadF at h
  rcases spotF_cases l3.length l4.length n at_ with ⟨hf, hz⟩ | ⟨i, hs, h0, hi, hne⟩ | ⟨i, hs, h0, hi, hne⟩
  · simp only [if_pos hf, Option.some.injEq, Prod.mk.injEq] at h
    obtain ⟨rfl, rfl⟩ := h
    exact load_fault g _ kind at_ _ w hf hP
  · rw [hs] at h hP
    simp only [ne_eq, not_true_eq_false, if_false, if_true] at h
    obtain ⟨⟨s1, s2⟩, hN, e⟩ := Option.map_eq_some_iff.mp h
    obtain ⟨rfl, rfl⟩ := Prod.mk.inj e
    obtain ⟨A2, c2, ev, hC⟩ := cut_reads hC3 h3 h0 hn0 hi
    simp only [placeV, if_true, ev] at hP
    have hl := cutL_len l3 i n h0 hn0 hi
    exact load_cut g (cutL l3 i n) A2 c2 kind at_ s1 s2 w (by omega) (by rw [hl]; exact hN) hC hP
  · rw [hs] at h hP
    simp only [ne_eq, not_true_eq_false, if_false, show ¬ ((2 : Int) = 1) by decide] at h
    obtain ⟨⟨s1, s2⟩, hN, e⟩ := Option.map_eq_some_iff.mp h
    obtain ⟨rfl, rfl⟩ := Prod.mk.inj e
    obtain ⟨A2, c2, ev, hC⟩ := cut_reads hC4 h4 h0 hn0 hi
    simp only [placeV, if_true, ev, show ¬ ((2 : Int) = 1) by decide, if_false] at hP
    have hl := cutL_len l4 i n h0 hn0 hi
    exact load_cut g (cutL l4 i n) A2 c2 kind at_ s1 s2 w (by omega) (by rw [hl]; exact hN) hC hP
def impl_LoadWord.f (l0_0 : List Int) (a0_1 : Int) (l0_2 l0_3 l0_4 l0_5 l0_6 : List Int) (a0_7 a0_8 a0_9 : Int) (a1 a2 : Int) : Option (Int × Int) :=
  (impl_MachineOk.f l0_0 a0_1 l0_2 l0_3 l0_4 l0_5 l0_6 a0_7 a0_8 a0_9).bind fun ok => if ok = true then
    (if l0_3.length ≤ 65536 ∧ l0_4.length ≤ 65536 ∧ -9223372036854775808 ≤ a2 ∧ a2 ≤ 9223372036854775807 then (impl_KindSize.f a1).bind fun n => if 0 ≤ n ∧ n ≤ 4 then loadF l0_3 l0_4 a1 n a2 else none else none)
  else some (0, 4)
set_option maxHeartbeats 1600000 in
set_option maxRecDepth 100000 in
theorem impl_LoadWord.calls (A0_0 : Option Addr) (c0_0 : Nat) (l0_0 : List Int) (a0_1 : Int) (A0_2 : Option Addr) (c0_2 : Nat) (l0_2 : List Int) (A0_3 : Option Addr) (c0_3 : Nat) (l0_3 : List Int) (A0_4 : Option Addr) (c0_4 : Nat) (l0_4 : List Int) (A0_5 : Option Addr) (c0_5 : Nat) (l0_5 : List Int) (A0_6 : Option Addr) (c0_6 : Nat) (l0_6 : List Int) (a0_7 : Int) (a0_8 : Int) (a0_9 : Int) (a1 : Int) (a2 : Int) (r1 : Int) (r2 : Int) (w : World) (hr0_0 : Kd.C (Kd.int .i64) w A0_0 l0_0.length l0_0) (hc0_0 : l0_0.length ≤ c0_0) (hr0_2 : Kd.C (Kd.int .i64) w A0_2 l0_2.length l0_2) (hc0_2 : l0_2.length ≤ c0_2) (hr0_3 : Kd.C (Kd.int .u8) w A0_3 l0_3.length l0_3) (hc0_3 : l0_3.length ≤ c0_3) (hr0_4 : Kd.C (Kd.int .u8) w A0_4 l0_4.length l0_4) (hc0_4 : l0_4.length ≤ c0_4) (hr0_5 : Kd.C (Kd.int .u8) w A0_5 l0_5.length l0_5) (hc0_5 : l0_5.length ≤ c0_5) (hr0_6 : Kd.C (Kd.int .u8) w A0_6 l0_6.length l0_6) (hc0_6 : l0_6.length ≤ c0_6) (h : impl_LoadWord.f l0_0 a0_1 l0_2 l0_3 l0_4 l0_5 l0_6 a0_7 a0_8 a0_9 a1 a2 = some (r1, r2)) :
    Calls Try.prog 30 #[.agg #[.slice A0_0 l0_0.length c0_0, .int .i64 a0_1, .slice A0_2 l0_2.length c0_2, .slice A0_3 l0_3.length c0_3, .slice A0_4 l0_4.length c0_4, .slice A0_5 l0_5.length c0_5, .slice A0_6 l0_6.length c0_6, .int .i64 a0_7, .int .i64 a0_8, .int .i64 a0_9], .int .i64 a1, .int .i64 a2] w fun e w' => e = .returned (.tuple #[.int .i64 r1, .int .i64 r2]) ∧ Below w.heap.size w w' := by
  unfold impl_LoadWord.f at h
  obtain ⟨ok, hok, h⟩ := Option.bind_eq_some_iff.mp h
  have HOK := Aside0.mk hok
  clear hok
  have HR0 := Aside0.mk hr0_0
  have HC0 := Aside0.mk hc0_0
  clear hr0_0 hc0_0
  have HR2 := Aside0.mk hr0_2
  have HC2 := Aside0.mk hc0_2
  clear hr0_2 hc0_2
  have HR3 := Aside0.mk hr0_3
  have HC3 := Aside0.mk hc0_3
  clear hr0_3 hc0_3
  have HR4 := Aside0.mk hr0_4
  have HC4 := Aside0.mk hc0_4
  clear hr0_4 hc0_4
  have HR5 := Aside0.mk hr0_5
  have HC5 := Aside0.mk hc0_5
  clear hr0_5 hc0_5
  have HR6 := Aside0.mk hr0_6
  have HC6 := Aside0.mk hc0_6
  clear hr0_6 hc0_6
  have hu := Try.underlying36
  have HG0 := Aside0.mk (show (w.alloc (.cells #[.slice A0_0 l0_0.length c0_0, .int .i64 a0_1, .slice A0_2 l0_2.length c0_2, .slice A0_3 l0_3.length c0_3, .slice A0_4 l0_4.length c0_4, .slice A0_5 l0_5.length c0_5, .slice A0_6 l0_6.length c0_6, .int .i64 a0_7, .int .i64 a0_8, .int .i64 a0_9] 36 (0, 0))).heap[w.heap.size]? = some (.cells #[.slice A0_0 l0_0.length c0_0, .int .i64 a0_1, .slice A0_2 l0_2.length c0_2, .slice A0_3 l0_3.length c0_3, .slice A0_4 l0_4.length c0_4, .slice A0_5 l0_5.length c0_5, .slice A0_6 l0_6.length c0_6, .int .i64 a0_7, .int .i64 a0_8, .int .i64 a0_9] 36 (0, 0)) by simpa using heap_alloc_new w _)
  have HB := Aside0.mk (below_alloc (Below.refl w.heap.size w) (.cells #[.slice A0_0 l0_0.length c0_0, .int .i64 a0_1, .slice A0_2 l0_2.length c0_2, .slice A0_3 l0_3.length c0_3, .slice A0_4 l0_4.length c0_4, .slice A0_5 l0_5.length c0_5, .slice A0_6 l0_6.length c0_6, .int .i64 a0_7, .int .i64 a0_8, .int .i64 a0_9] 36 (0, 0)))
  cases ok
  · rw [if_neg (by decide)] at h
    simp only [Option.some.injEq, Prod.mk.injEq] at h
    obtain ⟨rfl, rfl⟩ := h
    go_enter Try.func30, Try.ntmps30
    go_wp2_with (go_at_call 19; (with_reducible refine (impl_MachineOk.calls A0_0 c0_0 l0_0 a0_1 A0_2 c0_2 l0_2 A0_3 c0_3 l0_3 A0_4 c0_4 l0_4 A0_5 c0_5 l0_5 A0_6 c0_6 l0_6 a0_7 a0_8 a0_9 _ _ (Kd.C_below HR0.out (by repeat (first | exact Below.refl _ _ | exact HB.out | refine pw_below_drewN ?_ _ | refine below_alloc ?_ _ | refine below_drew ?_))) HC0.out (Kd.C_below HR2.out (by repeat (first | exact Below.refl _ _ | exact HB.out | refine pw_below_drewN ?_ _ | refine below_alloc ?_ _ | refine below_drew ?_))) HC2.out (Kd.C_below HR3.out (by repeat (first | exact Below.refl _ _ | exact HB.out | refine pw_below_drewN ?_ _ | refine below_alloc ?_ _ | refine below_drew ?_))) HC3.out (Kd.C_below HR4.out (by repeat (first | exact Below.refl _ _ | exact HB.out | refine pw_below_drewN ?_ _ | refine below_alloc ?_ _ | refine below_drew ?_))) HC4.out (Kd.C_below HR5.out (by repeat (first | exact Below.refl _ _ | exact HB.out | refine pw_below_drewN ?_ _ | refine below_alloc ?_ _ | refine below_drew ?_))) HC5.out (Kd.C_below HR6.out (by repeat (first | exact Below.refl _ _ | exact HB.out | refine pw_below_drewN ?_ _ | refine below_alloc ?_ _ | refine below_drew ?_))) HC6.out HOK.out).mono ?_); rintro e w1 ⟨rfl, hb⟩; have HB2 := Aside0.mk (show Below w.heap.size w w1 from below_step (by repeat (first | exact Below.refl _ _ | exact HB.out | refine pw_below_drewN ?_ _ | refine below_alloc ?_ _ | refine below_drew ?_)) hb); clear HB; have HB := HB2; clear HB2; have hg1 : w1.heap[w.heap.size]? = some (.cells #[.slice A0_0 l0_0.length c0_0, .int .i64 a0_1, .slice A0_2 l0_2.length c0_2, .slice A0_3 l0_3.length c0_3, .slice A0_4 l0_4.length c0_4, .slice A0_5 l0_5.length c0_5, .slice A0_6 l0_6.length c0_6, .int .i64 a0_7, .int .i64 a0_8, .int .i64 a0_9] 36 (0, 0)) := blk_below (g := w.heap.size) (o := .cells #[.slice A0_0 l0_0.length c0_0, .int .i64 a0_1, .slice A0_2 l0_2.length c0_2, .slice A0_3 l0_3.length c0_3, .slice A0_4 l0_4.length c0_4, .slice A0_5 l0_5.length c0_5, .slice A0_6 l0_6.length c0_6, .int .i64 a0_7, .int .i64 a0_8, .int .i64 a0_9] 36 (0, 0)) (by repeat (first | exact HG0.out | refine blk_drewN ?_ _ | refine blk_drew ?_ | refine blk_alloc ?_ _)) hb; have HG := Aside0.mk hg1; clear hb hg1)
    go_ret2
    exact ⟨rfl, (by repeat (first | exact Below.refl _ _ | exact HB.out | refine pw_below_drewN ?_ _ | refine below_alloc ?_ _ | refine below_drew ?_))⟩
  · rw [if_pos rfl] at h
    by_cases c1 : l0_3.length ≤ 65536 ∧ l0_4.length ≤ 65536 ∧ -9223372036854775808 ≤ a2 ∧ a2 ≤ 9223372036854775807
    · rw [if_pos c1] at h
      obtain ⟨n, hk, h⟩ := Option.bind_eq_some_iff.mp h
      by_cases c2 : 0 ≤ n ∧ n ≤ 4
      · rw [if_pos c2] at h
        have HK := Aside0.mk hk
        have HL := Aside0.mk h
        have C1 := Aside0.mk c1
        have C2 := Aside0.mk c2
        clear hk h c1 c2
        go_enter Try.func30, Try.ntmps30
        go_wp2_with (first | (go_at_call 19; (with_reducible refine (impl_MachineOk.calls A0_0 c0_0 l0_0 a0_1 A0_2 c0_2 l0_2 A0_3 c0_3 l0_3 A0_4 c0_4 l0_4 A0_5 c0_5 l0_5 A0_6 c0_6 l0_6 a0_7 a0_8 a0_9 _ _ (Kd.C_below HR0.out (by repeat (first | exact Below.refl _ _ | exact HB.out | refine pw_below_drewN ?_ _ | refine below_alloc ?_ _ | refine below_drew ?_))) HC0.out (Kd.C_below HR2.out (by repeat (first | exact Below.refl _ _ | exact HB.out | refine pw_below_drewN ?_ _ | refine below_alloc ?_ _ | refine below_drew ?_))) HC2.out (Kd.C_below HR3.out (by repeat (first | exact Below.refl _ _ | exact HB.out | refine pw_below_drewN ?_ _ | refine below_alloc ?_ _ | refine below_drew ?_))) HC3.out (Kd.C_below HR4.out (by repeat (first | exact Below.refl _ _ | exact HB.out | refine pw_below_drewN ?_ _ | refine below_alloc ?_ _ | refine below_drew ?_))) HC4.out (Kd.C_below HR5.out (by repeat (first | exact Below.refl _ _ | exact HB.out | refine pw_below_drewN ?_ _ | refine below_alloc ?_ _ | refine below_drew ?_))) HC5.out (Kd.C_below HR6.out (by repeat (first | exact Below.refl _ _ | exact HB.out | refine pw_below_drewN ?_ _ | refine below_alloc ?_ _ | refine below_drew ?_))) HC6.out HOK.out).mono ?_); rintro e w1 ⟨rfl, hb⟩; have HB2 := Aside0.mk (show Below w.heap.size w w1 from below_step (by repeat (first | exact Below.refl _ _ | exact HB.out | refine pw_below_drewN ?_ _ | refine below_alloc ?_ _ | refine below_drew ?_)) hb); clear HB; have HB := HB2; clear HB2; have hg1 : w1.heap[w.heap.size]? = some (.cells #[.slice A0_0 l0_0.length c0_0, .int .i64 a0_1, .slice A0_2 l0_2.length c0_2, .slice A0_3 l0_3.length c0_3, .slice A0_4 l0_4.length c0_4, .slice A0_5 l0_5.length c0_5, .slice A0_6 l0_6.length c0_6, .int .i64 a0_7, .int .i64 a0_8, .int .i64 a0_9] 36 (0, 0)) := blk_below (g := w.heap.size) (o := .cells #[.slice A0_0 l0_0.length c0_0, .int .i64 a0_1, .slice A0_2 l0_2.length c0_2, .slice A0_3 l0_3.length c0_3, .slice A0_4 l0_4.length c0_4, .slice A0_5 l0_5.length c0_5, .slice A0_6 l0_6.length c0_6, .int .i64 a0_7, .int .i64 a0_8, .int .i64 a0_9] 36 (0, 0)) (by repeat (first | exact HG0.out | refine blk_drewN ?_ _ | refine blk_drew ?_ | refine blk_alloc ?_ _)) hb; have HG := Aside0.mk hg1; clear hb hg1) | (go_at_call 66; (with_reducible refine (load_raw w.heap.size (.slice A0_0 l0_0.length c0_0) (.int .i64 a0_1) (.slice A0_2 l0_2.length c0_2) (.slice A0_5 l0_5.length c0_5) (.slice A0_6 l0_6.length c0_6) (.int .i64 a0_7) (.int .i64 a0_8) (.int .i64 a0_9) A0_3 c0_3 l0_3 A0_4 c0_4 l0_4 _ HG.out HC3.out HC4.out C1.out.1 C1.out.2.1 (Kd.C_below HR3.out ?hb3) (Kd.C_below HR4.out ?hb4) a1 a2 n r1 r2 C2.out.1 C2.out.2 HK.out C1.out.2.2.1 C1.out.2.2.2 HL.out).mono ?_); (case hb3 => exact (by repeat (first | exact Below.refl _ _ | exact HB.out | refine pw_below_drewN ?_ _ | refine below_alloc ?_ _ | refine below_drew ?_))); (case hb4 => exact (by repeat (first | exact Below.refl _ _ | exact HB.out | refine pw_below_drewN ?_ _ | refine below_alloc ?_ _ | refine below_drew ?_))); rintro e w2 ⟨rfl, hb⟩; have HB2 := Aside0.mk (show Below w.heap.size w w2 from below_step (by repeat (first | exact Below.refl _ _ | exact HB.out | refine pw_below_drewN ?_ _ | refine below_alloc ?_ _ | refine below_drew ?_)) hb); clear HB; have HB := HB2; clear HB2 hb))
        go_ret2
        exact ⟨rfl, (by repeat (first | exact Below.refl _ _ | exact HB.out | refine pw_below_drewN ?_ _ | refine below_alloc ?_ _ | refine below_drew ?_))⟩
      · rw [if_neg c2] at h; cases h
    · rw [if_neg c1] at h; cases h

end Go.Proofs.Ythndggachjdkfaa.PLoadWord
