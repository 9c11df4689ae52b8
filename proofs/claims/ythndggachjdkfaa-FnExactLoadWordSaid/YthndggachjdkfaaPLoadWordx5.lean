-- Lines for this claim, written by the session's own program wip/myprint.py. Not trusted: Lean checks them.
import Derived.Test.YthndggachjdkfaaPLoadWordx0
import Derived.Test.YthndggachjdkfaaPLoadWordx3
import Derived.Test.YthndggachjdkfaaPLoadWordx4
namespace Go.Proofs.Ythndggachjdkfaa.PLoadWord
open Go.RowKit Go.Proofs.YthndggachjdkfaaW.PrintWords Go.Proofs.YthndggachjdkfaaW.PrintLast Go.Proofs.YthndggachjdkfaaW.PrintMore
attribute [local go_sem] max2_int min2_int max_two min_two max_three min_three max_four min_four   -- for this text's walks alone
set_option linter.unusedVariables false
set_option linter.unusedSimpArgs false

/-! ### spec_LoadWord: function 29 -/
theorem tmod_small (a n : Int) (h0 : 0 ≤ n) (h4 : n ≤ 4) (ha : -9223372036854775808 ≤ a) (hb : a ≤ 9223372036854775807) : wrap64 (Int.tmod a n) = Int.tmod a n := by
  apply Go.IntWalk.wrap64_in
  have h1 : (Int.tmod a n).natAbs ≤ a.natAbs := by rw [Int.natAbs_tmod]; exact Nat.mod_le _ _
  rcases Int.le_total 0 a with h | h
  · have h2 := Int.tmod_nonneg n h
    omega
  · have h2 := Int.tmod_nonneg (a := -a) n (by omega)
    rw [Int.neg_tmod] at h2
    omega
/-- the reference's: where, and the place -/
def spotS (n3 n4 n at_ : Int) : Int × Int :=
  if 1048576 ≤ at_ ∧ at_ ≤ 1048576 + n3 - n then (1, at_ - 1048576)
  else if 2097152 - n4 ≤ at_ ∧ at_ ≤ 2097152 - n then (2, at_ - (2097152 - n4)) else (0, 0)
theorem spotS_of (n3 n4 n at_ : Int) (p3 : 0 ≤ n3) (p4 : 0 ≤ n4) (m3 : n3 ≤ 65536) (m4 : n4 ≤ 65536) (hn0 : 1 ≤ n) (hn : n ≤ 4) (ha : -9223372036854775808 ≤ at_) (hb : at_ ≤ 9223372036854775807) :
    spotS n3 n4 n at_ = if 0 ≤ wrap64 (at_ - 1048576) ∧ wrap64 (at_ - 1048576) ≤ wrap64 (n3 - n) then (1, wrap64 (at_ - 1048576)) else
      if 0 ≤ wrap64 (at_ - (2097152 - n4)) ∧ wrap64 (at_ - (2097152 - n4)) ≤ wrap64 (n4 - n) then (2, wrap64 (at_ - (2097152 - n4))) else (0, 0) := by
  rw [Go.IntWalk.wrap64_in (n3 - n) (by omega), Go.IntWalk.wrap64_in (n4 - n) (by omega)]
  by_cases hf : at_ < -9000000000000000000
  · have f1 : wrap64 (at_ - 1048576) > 70000 ∨ wrap64 (at_ - 1048576) < 0 := by unfold wrap64; omega
    have f2 : wrap64 (at_ - (2097152 - n4)) > 70000 ∨ wrap64 (at_ - (2097152 - n4)) < 0 := by unfold wrap64; omega
    unfold spotS
    rw [if_neg (by omega), if_neg (by omega), if_neg (by omega), if_neg (by omega)]
  · rw [Go.IntWalk.wrap64_in (at_ - 1048576) (by omega), Go.IntWalk.wrap64_in (at_ - (2097152 - n4)) (by omega)]
    unfold spotS
    by_cases c3 : 1048576 ≤ at_ ∧ at_ ≤ 1048576 + n3 - n
    · rw [if_pos c3, if_pos (by omega)]
    rw [if_neg c3, if_neg (show ¬ (0 ≤ at_ - 1048576 ∧ at_ - 1048576 ≤ n3 - n) by omega)]
    by_cases c4 : 2097152 - n4 ≤ at_ ∧ at_ ≤ 2097152 - n
    · rw [if_pos c4, if_pos (by omega)]
    rw [if_neg c4, if_neg (by omega)]
set_option maxHeartbeats 1600000 in
set_option maxRecDepth 100000 in
theorem l3Spot_raw (g : Nat) (v0 v1 v2 v5 v6 v7 v8 v9 : Value) (A3 : Option Addr) (c3 : Nat) (l3 : List Int) (A4 : Option Addr) (c4 : Nat) (l4 : List Int) (w : World) (hg : w.heap[g]? = some (.cells #[v0, v1, v2, .slice A3 l3.length c3, .slice A4 l4.length c4, v5, v6, v7, v8, v9] 36 (0, 0))) (m3 : l3.length ≤ 65536) (m4 : l4.length ≤ 65536)
    (at_ n : Int) (hn0 : 1 ≤ n) (hn : n ≤ 4) (ha : -9223372036854775808 ≤ at_) (hb : at_ ≤ 9223372036854775807) :
    Calls Try.prog 112 #[.pointer (some ⟨g, 0, none⟩), .int .i64 at_, .int .i64 n] w fun e w' => e = .returned (.tuple #[.int .i64 (spotS l3.length l4.length n at_).1, .int .i64 (spotS l3.length l4.length n at_).2]) ∧ Drawn0 w w' := by
  have hTM := Try.underlying36
  have hcz0 : w.cell? ⟨g, 3, none⟩ = some (.slice A3 l3.length c3) := (blk_cell hg 3).trans rfl
  have hcz1 : w.cell? ⟨g, 4, none⟩ = some (.slice A4 l4.length c4) := (blk_cell hg 4).trans rfl
  have key := spotS_of l3.length l4.length n at_ (by omega) (by omega) (by omega) (by omega) hn0 hn ha hb
  obtain ⟨w4', hw4⟩ : ∃ q, wrap64 (2097152 - (l4.length : Int)) = q := ⟨_, rfl⟩
  have w4 : wrap64 (2097152 - (l4.length : Int)) = 2097152 - (l4.length : Int) := Go.IntWalk.wrap64_in _ (by omega)
  have e4 : w4' = 2097152 - (l4.length : Int) := hw4.symm.trans w4
  clear w4
  obtain ⟨q3, h3⟩ : ∃ q, wrap64 ((l3.length : Int) - n) = q := ⟨_, rfl⟩
  obtain ⟨q4, h4⟩ : ∃ q, wrap64 ((l4.length : Int) - n) = q := ⟨_, rfl⟩
  obtain ⟨d, hd⟩ : ∃ q, wrap64 (at_ - 1048576) = q := ⟨_, rfl⟩
  obtain ⟨u, hu⟩ : ∃ q, wrap64 (at_ - w4') = q := ⟨_, rfl⟩
  rw [← e4, h3, h4, hd, hu] at key
  have KEY := Aside0.mk key
  clear key hg e4 ha hb hn hn0 m3 m4
  by_cases x1 : 0 ≤ d
  · have y1 : decide (0 ≤ d) = true := decide_eq_true x1
    by_cases x2 : d ≤ q3
    · have y2 : decide (d ≤ q3) = true := decide_eq_true x2
      have E := KEY.out
      rw [if_pos ⟨x1, x2⟩] at E
      rw [E]
      clear x1 x2 E
      (go_enter Try.func112, Try.ntmps112; go_wp2; all_goals go_ret2; all_goals subst hd hu; all_goals exact ⟨rfl, by first | exact Drawn0.refl _ | exact ⟨_, rfl⟩⟩)
    · have y2 : decide (d ≤ q3) = false := decide_eq_false x2
      have E := KEY.out
      rw [if_neg (fun h => x2 h.2)] at E
      clear x1 x2
      by_cases x3 : 0 ≤ u
      · have y3 : decide (0 ≤ u) = true := decide_eq_true x3
        by_cases x4 : u ≤ q4
        · have y4 : decide (u ≤ q4) = true := decide_eq_true x4
          rw [if_pos ⟨x3, x4⟩] at E
          rw [E]
          clear x3 x4 E
          (go_enter Try.func112, Try.ntmps112; go_wp2; all_goals go_ret2; all_goals subst hd hu; all_goals exact ⟨rfl, by first | exact Drawn0.refl _ | exact ⟨_, rfl⟩⟩)
        · have y4 : decide (u ≤ q4) = false := decide_eq_false x4
          rw [if_neg (fun h => x4 h.2)] at E
          rw [E]
          clear x3 x4 E
          (go_enter Try.func112, Try.ntmps112; go_wp2; all_goals go_ret2; all_goals subst hd hu; all_goals exact ⟨rfl, by first | exact Drawn0.refl _ | exact ⟨_, rfl⟩⟩)
      · have y3 : decide (0 ≤ u) = false := decide_eq_false x3
        rw [if_neg (fun h => x3 h.1)] at E
        rw [E]
        clear x3 E
        (go_enter Try.func112, Try.ntmps112; go_wp2; all_goals go_ret2; all_goals subst hd hu; all_goals exact ⟨rfl, by first | exact Drawn0.refl _ | exact ⟨_, rfl⟩⟩)
  · have y1 : decide (0 ≤ d) = false := decide_eq_false x1
    have E := KEY.out
    rw [if_neg (fun h => x1 h.1)] at E
    clear x1
    by_cases x3 : 0 ≤ u
    · have y3 : decide (0 ≤ u) = true := decide_eq_true x3
      by_cases x4 : u ≤ q4
      · have y4 : decide (u ≤ q4) = true := decide_eq_true x4
        rw [if_pos ⟨x3, x4⟩] at E
        rw [E]
        clear x3 x4 E
        (go_enter Try.func112, Try.ntmps112; go_wp2; all_goals go_ret2; all_goals subst hd hu; all_goals exact ⟨rfl, by first | exact Drawn0.refl _ | exact ⟨_, rfl⟩⟩)
      · have y4 : decide (u ≤ q4) = false := decide_eq_false x4
        rw [if_neg (fun h => x4 h.2)] at E
        rw [E]
        clear x3 x4 E
        (go_enter Try.func112, Try.ntmps112; go_wp2; all_goals go_ret2; all_goals subst hd hu; all_goals exact ⟨rfl, by first | exact Drawn0.refl _ | exact ⟨_, rfl⟩⟩)
    · have y3 : decide (0 ≤ u) = false := decide_eq_false x3
      rw [if_neg (fun h => x3 h.1)] at E
      rw [E]
      clear x3 E
      (go_enter Try.func112, Try.ntmps112; go_wp2; all_goals go_ret2; all_goals subst hd hu; all_goals exact ⟨rfl, by first | exact Drawn0.refl _ | exact ⟨_, rfl⟩⟩)
/-- what the loop has behind j rounds -/
def ldg (l : List Int) (p n : Int) : Nat → Int
  | 0 => 0
  | j + 1 => wrap64 (wrap64 (ldg l p n j * 256) + wrap64 (rd l (p + (n - 1 - j))))
def l3LoadF (k : Nat) (l3 l4 : List Int) (kind n at_ : Int) : Option (Int × Int) :=
  if Int.tmod at_ n ≠ 0 then some (0, 3) else
  let s := spotS l3.length l4.length n at_
  if s.1 = 0 then some (0, 4) else (spec_Narrow.f k kind (ldg (if s.1 = 2 then l4 else l3) s.2 n n.toNat)).bind fun r => some (r.1, 0)
theorem spotS_cases (n3 n4 n at_ : Int) : (spotS n3 n4 n at_ = (0, 0)) ∨
    (∃ i, spotS n3 n4 n at_ = (1, i) ∧ 0 ≤ i ∧ i + n ≤ n3) ∨ (∃ i, spotS n3 n4 n at_ = (2, i) ∧ 0 ≤ i ∧ i + n ≤ n4) := by
  unfold spotS
  by_cases c3 : 1048576 ≤ at_ ∧ at_ ≤ 1048576 + n3 - n
  · rw [if_pos c3]; exact .inr (.inl ⟨_, rfl, by omega, by omega⟩)
  rw [if_neg c3]
  by_cases c4 : 2097152 - n4 ≤ at_ ∧ at_ ≤ 2097152 - n
  · rw [if_pos c4]; exact .inr (.inr ⟨_, rfl, by omega, by omega⟩)
  rw [if_neg c4]; exact .inl rfl
set_option maxHeartbeats 1600000 in
set_option maxRecDepth 100000 in
theorem l3Load_raw (k : Nat) (g : Nat) (v0 v1 v2 v5 v6 v7 v8 v9 : Value) (A3 : Option Addr) (c3 : Nat) (l3 : List Int) (A4 : Option Addr) (c4 : Nat) (l4 : List Int) (w : World) (hg : w.heap[g]? = some (.cells #[v0, v1, v2, .slice A3 l3.length c3, .slice A4 l4.length c4, v5, v6, v7, v8, v9] 36 (0, 0))) (m3 : l3.length ≤ 65536) (m4 : l4.length ≤ 65536)
    (at_ n : Int) (hn0 : 1 ≤ n) (hn : n ≤ 4) (ha : -9223372036854775808 ≤ at_) (hb : at_ ≤ 9223372036854775807) (kind r1 r2 : Int) (hk : spec_KindSize.f k kind = some n)
    (hC3 : Kd.C (Kd.int .u8) w A3 l3.length l3) (hC4 : Kd.C (Kd.int .u8) w A4 l4.length l4) (h : l3LoadF k l3 l4 kind n at_ = some (r1, r2)) :
    Calls Try.prog 65 #[.pointer (some ⟨g, 0, none⟩), .int .i64 kind, .int .i64 at_] w fun e w' => e = .returned (.tuple #[.int .i64 r1, .int .i64 r2]) ∧ Drawn0 w w' := by
  have HK := Aside0.mk hk
  clear hk
  have hTM := Try.underlying36
  have hU := Try.underlying23
  have hcz0 : w.cell? ⟨g, 3, none⟩ = some (.slice A3 l3.length c3) := (blk_cell hg 3).trans rfl
  have hcz1 : w.cell? ⟨g, 4, none⟩ = some (.slice A4 l4.length c4) := (blk_cell hg 4).trans rfl
  have c1 : n ≠ 0 := by omega
  have b3 := tmod_small at_ n (by omega) hn ha hb
  unfold l3LoadF at h
  have hsp := fun m => l3Spot_raw g v0 v1 v2 v5 v6 v7 v8 v9 A3 c3 l3 A4 c4 l4 (w.drewN m) hg m3 m4 at_ n hn0 hn ha hb
  clear hg
  by_cases c2 : Int.tmod at_ n ≠ 0
  · rw [if_pos c2] at h
    simp only [Option.some.injEq, Prod.mk.injEq] at h
    obtain ⟨rfl, rfl⟩ := h
    have b2 : (Int.tmod at_ n != 0) = true := bne_iff_ne.mpr c2
    clear c2
    go_enter Try.func65, Try.ntmps65
    go_wp2_with (go_at_call 64; (with_reducible refine (spec_KindSize.calls _ _ _ _ HK.out).mono ?_); rintro e w1 ⟨rfl, ⟨nd, rfl⟩⟩)
    go_ret2
    exact ⟨rfl, ⟨_, rfl⟩⟩
  rw [if_neg c2] at h
  have b2 : (Int.tmod at_ n != 0) = false := by simpa using c2
  rcases spotS_cases l3.length l4.length n at_ with hs | ⟨i, hs, h0, hi⟩ | ⟨i, hs, h0, hi⟩
  · rw [hs] at h hsp
    simp only [if_true, Option.some.injEq, Prod.mk.injEq] at h
    obtain ⟨rfl, rfl⟩ := h
    have HSP := Aside0.mk hsp
    clear hsp hs c2
    go_enter Try.func65, Try.ntmps65
    go_wp2_with (first | (go_at_call 64; (with_reducible refine (spec_KindSize.calls _ _ _ _ HK.out).mono ?_); rintro e w1 ⟨rfl, ⟨nd, rfl⟩⟩) | (go_at_call 112; (with_reducible refine (HSP.out _).mono ?_); rintro e w1 ⟨rfl, ⟨nd, rfl⟩⟩))
    go_ret2
    exact ⟨rfl, ⟨_, rfl⟩⟩
  · rw [hs] at h hsp
    simp only [ne_eq, not_true_eq_false, if_false, if_true, show ¬ ((1 : Int) = 0) by decide, show ¬ ((1 : Int) = 2) by decide] at h
    obtain ⟨⟨s1, s2⟩, hN, e⟩ := Option.bind_eq_some_iff.mp h
    obtain ⟨rfl, rfl⟩ := Prod.mk.inj (Option.some.inj e)
    clear e h hs c2
    have HSP := Aside0.mk hsp
    have HN := Aside0.mk hN
    clear hsp hN
    have w5 : wrap64 (n - 1) = n - 1 := Go.IntWalk.wrap64_in _ (by omega)
    have HR := Aside0.mk (show ReadsInt w .u8 A3 l3.length l3 from Kd.reads_of_C (enc := Value.int .u8) (d := 0) (h1 := fun _ => rfl) hC3)
    have B1 := Aside0.mk (show i + n ≤ l3.length ∧ 0 ≤ i from ⟨hi, h0⟩)
    clear hC3 hC4 hi h0
    go_enter Try.func65, Try.ntmps65
    go_wp2_with (first | (go_at_call 64; (with_reducible refine (spec_KindSize.calls _ _ _ _ HK.out).mono ?_); rintro e w1 ⟨rfl, ⟨nd, rfl⟩⟩) | (go_at_call 112; (with_reducible refine (HSP.out _).mono ?_); rintro e w1 ⟨rfl, ⟨nd, rfl⟩⟩))
    go_loopw [13, 12] (fun x v wr => ∃ (j : Nat) (y : Int), Aside0 ((j : Int) ≤ n ∧ y = n - 1 - j) ∧ x = .int .i64 y ∧ v = .int .i64 (ldg l3 i n j) ∧ Aside0 (∃ m, wr = w.drewN m)) (fun x _ _ => (intOf x + 1).toNat)
    case atStart => exact ⟨0, n - 1, ⟨by omega, by omega⟩, by simp, rfl, ⟨_, rfl⟩⟩
    case round =>
      obtain ⟨j, y, HJ, rfl, rfl, ⟨m, rfl⟩⟩ := hrel
      have hj := HJ.out
      by_cases hlt : (j : Int) < n
      · have d1 : decide (0 ≤ y) = true := decide_eq_true (by omega)
        obtain ⟨z, hz⟩ : ∃ z, z = i + y := ⟨_, rfl⟩
        have b := B1.out
        have d2 : wrap64 (i + y) = z := hz ▸ Go.IntWalk.wrap64_in _ (by omega)
        have d3 : wrap64 (y - 1) = y - 1 := Go.IntWalk.wrap64_in _ (by omega)
        have d4 : 0 ≤ z := by omega
        have d5 : z < l3.length := by omega
        have HZ := Aside0.mk hz
        have HLT := Aside0.mk hlt
        clear hj b hz hlt
        obtain ⟨ad, rfl, hc⟩ := HR.out.at_ z d4 d5
        go_wp2
        go_roundw
        case rel =>
          have hj := HJ.out
          have hlt := HLT.out
          have hz := HZ.out
          refine ⟨j + 1, y - 1, ⟨by omega, by omega⟩, by rw [d3], ?_, ⟨_, rfl⟩⟩
          rw [ldg, show i + (n - 1 - (j : Int)) = z by omega]
          try rfl
        case measure =>
          have hj := HJ.out
          have hlt := HLT.out
          simp [intOf]; omega
      · have d1 : decide (0 ≤ y) = false := decide_eq_false (by omega)
        have HN2 := Aside0.mk (show spec_Narrow.f k kind (ldg l3 i n j) = some (s1, s2) by rw [show j = n.toNat by omega]; exact HN.out)
        clear hj hlt
        go_wp2_with (go_at_call 35; (with_reducible refine (spec_Narrow.calls _ _ _ _ _ _ HN2.out).mono ?_); rintro e w2 ⟨rfl, ⟨nd, rfl⟩⟩)
        go_ret2
        exact ⟨rfl, ⟨_, rfl⟩⟩
  · rw [hs] at h hsp
    simp only [ne_eq, not_true_eq_false, if_false, if_true, show ¬ ((2 : Int) = 0) by decide] at h
    obtain ⟨⟨s1, s2⟩, hN, e⟩ := Option.bind_eq_some_iff.mp h
    obtain ⟨rfl, rfl⟩ := Prod.mk.inj (Option.some.inj e)
    clear e h hs c2
    have HSP := Aside0.mk hsp
    have HN := Aside0.mk hN
    clear hsp hN
    have w5 : wrap64 (n - 1) = n - 1 := Go.IntWalk.wrap64_in _ (by omega)
    have HR := Aside0.mk (show ReadsInt w .u8 A4 l4.length l4 from Kd.reads_of_C (enc := Value.int .u8) (d := 0) (h1 := fun _ => rfl) hC4)
    have B1 := Aside0.mk (show i + n ≤ l4.length ∧ 0 ≤ i from ⟨hi, h0⟩)
    clear hC3 hC4 hi h0
    go_enter Try.func65, Try.ntmps65
    go_wp2_with (first | (go_at_call 64; (with_reducible refine (spec_KindSize.calls _ _ _ _ HK.out).mono ?_); rintro e w1 ⟨rfl, ⟨nd, rfl⟩⟩) | (go_at_call 112; (with_reducible refine (HSP.out _).mono ?_); rintro e w1 ⟨rfl, ⟨nd, rfl⟩⟩))
    go_loopw [13, 12] (fun x v wr => ∃ (j : Nat) (y : Int), Aside0 ((j : Int) ≤ n ∧ y = n - 1 - j) ∧ x = .int .i64 y ∧ v = .int .i64 (ldg l4 i n j) ∧ Aside0 (∃ m, wr = w.drewN m)) (fun x _ _ => (intOf x + 1).toNat)
    case atStart => exact ⟨0, n - 1, ⟨by omega, by omega⟩, by simp, rfl, ⟨_, rfl⟩⟩
    case round =>
      obtain ⟨j, y, HJ, rfl, rfl, ⟨m, rfl⟩⟩ := hrel
      have hj := HJ.out
      by_cases hlt : (j : Int) < n
      · have d1 : decide (0 ≤ y) = true := decide_eq_true (by omega)
        obtain ⟨z, hz⟩ : ∃ z, z = i + y := ⟨_, rfl⟩
        have b := B1.out
        have d2 : wrap64 (i + y) = z := hz ▸ Go.IntWalk.wrap64_in _ (by omega)
        have d3 : wrap64 (y - 1) = y - 1 := Go.IntWalk.wrap64_in _ (by omega)
        have d4 : 0 ≤ z := by omega
        have d5 : z < l4.length := by omega
        have HZ := Aside0.mk hz
        have HLT := Aside0.mk hlt
        clear hj b hz hlt
        obtain ⟨ad, rfl, hc⟩ := HR.out.at_ z d4 d5
        go_wp2
        go_roundw
        case rel =>
          have hj := HJ.out
          have hlt := HLT.out
          have hz := HZ.out
          refine ⟨j + 1, y - 1, ⟨by omega, by omega⟩, by rw [d3], ?_, ⟨_, rfl⟩⟩
          rw [ldg, show i + (n - 1 - (j : Int)) = z by omega]
          try rfl
        case measure =>
          have hj := HJ.out
          have hlt := HLT.out
          simp [intOf]; omega
      · have d1 : decide (0 ≤ y) = false := decide_eq_false (by omega)
        have HN2 := Aside0.mk (show spec_Narrow.f k kind (ldg l4 i n j) = some (s1, s2) by rw [show j = n.toNat by omega]; exact HN.out)
        clear hj hlt
        go_wp2_with (go_at_call 35; (with_reducible refine (spec_Narrow.calls _ _ _ _ _ _ HN2.out).mono ?_); rintro e w2 ⟨rfl, ⟨nd, rfl⟩⟩)
        go_ret2
        exact ⟨rfl, ⟨_, rfl⟩⟩
def spec_LoadWord.f (k : Nat) (l0_0 : List Int) (a0_1 : Int) (l0_2 l0_3 l0_4 l0_5 l0_6 : List Int) (a0_7 a0_8 a0_9 : Int) (a1 a2 : Int) : Option (Int × Int) :=
  (spec_MachineOk.f k l0_0 a0_1 l0_2 l0_3 l0_4 l0_5 l0_6 a0_7 a0_8 a0_9).bind fun ok => if ok = true then
    ((spec_KindSize.f k a1).bind fun n => if n = 0 then some (0, 4) else if l0_3.length ≤ 65536 ∧ l0_4.length ≤ 65536 ∧ -9223372036854775808 ≤ a2 ∧ a2 ≤ 9223372036854775807 then (if 1 ≤ n ∧ n ≤ 4 then l3LoadF k l0_3 l0_4 a1 n a2 else none) else none)
  else some (0, 4)
theorem spec_LoadWord.mono : ∀ b0 b1 b2 b3 b4 b5 b6 b7 b8 b9 b10 b11 k, LeO (spec_LoadWord.f k b0 b1 b2 b3 b4 b5 b6 b7 b8 b9 b10 b11) (spec_LoadWord.f (k + 1) b0 b1 b2 b3 b4 b5 b6 b7 b8 b9 b10 b11) := by
  intro b0 b1 b2 b3 b4 b5 b6 b7 b8 b9 b10 b11 k
  have i1 := fun x0 x1 x2 x3 x4 x5 x6 x7 x8 x9 => spec_MachineOk.mono x0 x1 x2 x3 x4 x5 x6 x7 x8 x9 k
  have i2 := fun x => spec_KindSize.mono x k
  have i3 := fun x y => spec_Narrow.mono x y k
  unfold spec_LoadWord.f l3LoadF
  dsimp only
  repeat' first
  | (with_reducible exact LeO.refl _)
  | (with_reducible exact LeO.none _)
  | exact i1 _ _ _ _ _ _ _ _ _ _
  | exact i2 _
  | exact i3 _ _
  | (with_reducible refine LeO.ite ?_ ?_)
  | (with_reducible refine LeO.bind ?_ (fun _ => ?_))
set_option maxHeartbeats 1600000 in
set_option maxRecDepth 100000 in
theorem spec_LoadWord.calls (k : Nat) (A0_0 : Option Addr) (c0_0 : Nat) (l0_0 : List Int) (a0_1 : Int) (A0_2 : Option Addr) (c0_2 : Nat) (l0_2 : List Int) (A0_3 : Option Addr) (c0_3 : Nat) (l0_3 : List Int) (A0_4 : Option Addr) (c0_4 : Nat) (l0_4 : List Int) (A0_5 : Option Addr) (c0_5 : Nat) (l0_5 : List Int) (A0_6 : Option Addr) (c0_6 : Nat) (l0_6 : List Int) (a0_7 : Int) (a0_8 : Int) (a0_9 : Int) (a1 : Int) (a2 : Int) (r1 : Int) (r2 : Int) (w : World) (hr0_0 : Kd.C (Kd.int .i64) w A0_0 l0_0.length l0_0) (hc0_0 : l0_0.length ≤ c0_0) (hr0_2 : Kd.C (Kd.int .i64) w A0_2 l0_2.length l0_2) (hc0_2 : l0_2.length ≤ c0_2) (hr0_3 : Kd.C (Kd.int .u8) w A0_3 l0_3.length l0_3) (hc0_3 : l0_3.length ≤ c0_3) (hr0_4 : Kd.C (Kd.int .u8) w A0_4 l0_4.length l0_4) (hc0_4 : l0_4.length ≤ c0_4) (hr0_5 : Kd.C (Kd.int .u8) w A0_5 l0_5.length l0_5) (hc0_5 : l0_5.length ≤ c0_5) (hr0_6 : Kd.C (Kd.int .u8) w A0_6 l0_6.length l0_6) (hc0_6 : l0_6.length ≤ c0_6) (h : spec_LoadWord.f k l0_0 a0_1 l0_2 l0_3 l0_4 l0_5 l0_6 a0_7 a0_8 a0_9 a1 a2 = some (r1, r2)) :
    Calls Try.prog 29 #[.agg #[.slice A0_0 l0_0.length c0_0, .int .i64 a0_1, .slice A0_2 l0_2.length c0_2, .slice A0_3 l0_3.length c0_3, .slice A0_4 l0_4.length c0_4, .slice A0_5 l0_5.length c0_5, .slice A0_6 l0_6.length c0_6, .int .i64 a0_7, .int .i64 a0_8, .int .i64 a0_9], .int .i64 a1, .int .i64 a2] w fun e w' => e = .returned (.tuple #[.int .i64 r1, .int .i64 r2]) ∧ Below w.heap.size w w' := by
  unfold spec_LoadWord.f at h
  obtain ⟨ok, hok, h⟩ := Option.bind_eq_some_iff.mp h
  have HOK := Aside0.mk hok
  clear hok
  have HR0 := Aside0.mk hr0_0
  have HC0 := Aside0.mk hc0_0
  clear hr0_0 hc0_0
  have HR2 := Aside0.mk hr0_2
  have HC2 := Aside0.mk hc0_2
  clear hr0_2 hc0_2
  have HR3 := Aside0.mk hr0_3
  have HC3 := Aside0.mk hc0_3
  clear hr0_3 hc0_3
  have HR4 := Aside0.mk hr0_4
  have HC4 := Aside0.mk hc0_4
  clear hr0_4 hc0_4
  have HR5 := Aside0.mk hr0_5
  have HC5 := Aside0.mk hc0_5
  clear hr0_5 hc0_5
  have HR6 := Aside0.mk hr0_6
  have HC6 := Aside0.mk hc0_6
  clear hr0_6 hc0_6
  have hu := Try.underlying36
  have HG0 := Aside0.mk (show (w.alloc (.cells #[.slice A0_0 l0_0.length c0_0, .int .i64 a0_1, .slice A0_2 l0_2.length c0_2, .slice A0_3 l0_3.length c0_3, .slice A0_4 l0_4.length c0_4, .slice A0_5 l0_5.length c0_5, .slice A0_6 l0_6.length c0_6, .int .i64 a0_7, .int .i64 a0_8, .int .i64 a0_9] 36 (0, 0))).heap[w.heap.size]? = some (.cells #[.slice A0_0 l0_0.length c0_0, .int .i64 a0_1, .slice A0_2 l0_2.length c0_2, .slice A0_3 l0_3.length c0_3, .slice A0_4 l0_4.length c0_4, .slice A0_5 l0_5.length c0_5, .slice A0_6 l0_6.length c0_6, .int .i64 a0_7, .int .i64 a0_8, .int .i64 a0_9] 36 (0, 0)) by simpa using heap_alloc_new w _)
  have HB := Aside0.mk (below_alloc (Below.refl w.heap.size w) (.cells #[.slice A0_0 l0_0.length c0_0, .int .i64 a0_1, .slice A0_2 l0_2.length c0_2, .slice A0_3 l0_3.length c0_3, .slice A0_4 l0_4.length c0_4, .slice A0_5 l0_5.length c0_5, .slice A0_6 l0_6.length c0_6, .int .i64 a0_7, .int .i64 a0_8, .int .i64 a0_9] 36 (0, 0)))
  cases ok
  · rw [if_neg (by decide)] at h
    simp only [Option.some.injEq, Prod.mk.injEq] at h
    obtain ⟨rfl, rfl⟩ := h
    go_enter Try.func29, Try.ntmps29
    go_wp2_with (go_at_call 17; (with_reducible refine (spec_MachineOk.calls k A0_0 c0_0 l0_0 a0_1 A0_2 c0_2 l0_2 A0_3 c0_3 l0_3 A0_4 c0_4 l0_4 A0_5 c0_5 l0_5 A0_6 c0_6 l0_6 a0_7 a0_8 a0_9 _ _ (Kd.C_below HR0.out (by repeat (first | exact Below.refl _ _ | exact HB.out | refine pw_below_drewN ?_ _ | refine below_alloc ?_ _ | refine below_drew ?_))) HC0.out (Kd.C_below HR2.out (by repeat (first | exact Below.refl _ _ | exact HB.out | refine pw_below_drewN ?_ _ | refine below_alloc ?_ _ | refine below_drew ?_))) HC2.out (Kd.C_below HR3.out (by repeat (first | exact Below.refl _ _ | exact HB.out | refine pw_below_drewN ?_ _ | refine below_alloc ?_ _ | refine below_drew ?_))) HC3.out (Kd.C_below HR4.out (by repeat (first | exact Below.refl _ _ | exact HB.out | refine pw_below_drewN ?_ _ | refine below_alloc ?_ _ | refine below_drew ?_))) HC4.out (Kd.C_below HR5.out (by repeat (first | exact Below.refl _ _ | exact HB.out | refine pw_below_drewN ?_ _ | refine below_alloc ?_ _ | refine below_drew ?_))) HC5.out (Kd.C_below HR6.out (by repeat (first | exact Below.refl _ _ | exact HB.out | refine pw_below_drewN ?_ _ | refine below_alloc ?_ _ | refine below_drew ?_))) HC6.out HOK.out).mono ?_); rintro e w1 ⟨rfl, hb⟩; have HB2 := Aside0.mk (show Below w.heap.size w w1 from below_step (by repeat (first | exact Below.refl _ _ | exact HB.out | refine pw_below_drewN ?_ _ | refine below_alloc ?_ _ | refine below_drew ?_)) hb); clear HB; have HB := HB2; clear HB2; have hg1 : w1.heap[w.heap.size]? = some (.cells #[.slice A0_0 l0_0.length c0_0, .int .i64 a0_1, .slice A0_2 l0_2.length c0_2, .slice A0_3 l0_3.length c0_3, .slice A0_4 l0_4.length c0_4, .slice A0_5 l0_5.length c0_5, .slice A0_6 l0_6.length c0_6, .int .i64 a0_7, .int .i64 a0_8, .int .i64 a0_9] 36 (0, 0)) := blk_below (g := w.heap.size) (o := .cells #[.slice A0_0 l0_0.length c0_0, .int .i64 a0_1, .slice A0_2 l0_2.length c0_2, .slice A0_3 l0_3.length c0_3, .slice A0_4 l0_4.length c0_4, .slice A0_5 l0_5.length c0_5, .slice A0_6 l0_6.length c0_6, .int .i64 a0_7, .int .i64 a0_8, .int .i64 a0_9] 36 (0, 0)) (by repeat (first | exact HG0.out | refine blk_drewN ?_ _ | refine blk_drew ?_ | refine blk_alloc ?_ _)) hb; have HG := Aside0.mk hg1; clear hb hg1)
    go_ret2
    exact ⟨rfl, (by repeat (first | exact Below.refl _ _ | exact HB.out | refine pw_below_drewN ?_ _ | refine below_alloc ?_ _ | refine below_drew ?_))⟩
  · rw [if_pos rfl] at h
    obtain ⟨n, hk, h⟩ := Option.bind_eq_some_iff.mp h
    have HK := Aside0.mk hk
    clear hk
    by_cases c0 : n = 0
    · rw [if_pos c0] at h
      simp only [Option.some.injEq, Prod.mk.injEq] at h
      obtain ⟨rfl, rfl⟩ := h
      subst c0
      go_enter Try.func29, Try.ntmps29
      go_wp2_with (first | (go_at_call 17; (with_reducible refine (spec_MachineOk.calls k A0_0 c0_0 l0_0 a0_1 A0_2 c0_2 l0_2 A0_3 c0_3 l0_3 A0_4 c0_4 l0_4 A0_5 c0_5 l0_5 A0_6 c0_6 l0_6 a0_7 a0_8 a0_9 _ _ (Kd.C_below HR0.out (by repeat (first | exact Below.refl _ _ | exact HB.out | refine pw_below_drewN ?_ _ | refine below_alloc ?_ _ | refine below_drew ?_))) HC0.out (Kd.C_below HR2.out (by repeat (first | exact Below.refl _ _ | exact HB.out | refine pw_below_drewN ?_ _ | refine below_alloc ?_ _ | refine below_drew ?_))) HC2.out (Kd.C_below HR3.out (by repeat (first | exact Below.refl _ _ | exact HB.out | refine pw_below_drewN ?_ _ | refine below_alloc ?_ _ | refine below_drew ?_))) HC3.out (Kd.C_below HR4.out (by repeat (first | exact Below.refl _ _ | exact HB.out | refine pw_below_drewN ?_ _ | refine below_alloc ?_ _ | refine below_drew ?_))) HC4.out (Kd.C_below HR5.out (by repeat (first | exact Below.refl _ _ | exact HB.out | refine pw_below_drewN ?_ _ | refine below_alloc ?_ _ | refine below_drew ?_))) HC5.out (Kd.C_below HR6.out (by repeat (first | exact Below.refl _ _ | exact HB.out | refine pw_below_drewN ?_ _ | refine below_alloc ?_ _ | refine below_drew ?_))) HC6.out HOK.out).mono ?_); rintro e w1 ⟨rfl, hb⟩; have HB2 := Aside0.mk (show Below w.heap.size w w1 from below_step (by repeat (first | exact Below.refl _ _ | exact HB.out | refine pw_below_drewN ?_ _ | refine below_alloc ?_ _ | refine below_drew ?_)) hb); clear HB; have HB := HB2; clear HB2; have hg1 : w1.heap[w.heap.size]? = some (.cells #[.slice A0_0 l0_0.length c0_0, .int .i64 a0_1, .slice A0_2 l0_2.length c0_2, .slice A0_3 l0_3.length c0_3, .slice A0_4 l0_4.length c0_4, .slice A0_5 l0_5.length c0_5, .slice A0_6 l0_6.length c0_6, .int .i64 a0_7, .int .i64 a0_8, .int .i64 a0_9] 36 (0, 0)) := blk_below (g := w.heap.size) (o := .cells #[.slice A0_0 l0_0.length c0_0, .int .i64 a0_1, .slice A0_2 l0_2.length c0_2, .slice A0_3 l0_3.length c0_3, .slice A0_4 l0_4.length c0_4, .slice A0_5 l0_5.length c0_5, .slice A0_6 l0_6.length c0_6, .int .i64 a0_7, .int .i64 a0_8, .int .i64 a0_9] 36 (0, 0)) (by repeat (first | exact HG0.out | refine blk_drewN ?_ _ | refine blk_drew ?_ | refine blk_alloc ?_ _)) hb; have HG := Aside0.mk hg1; clear hb hg1) | (go_at_call 64; (with_reducible refine (spec_KindSize.calls _ _ _ _ HK.out).mono ?_); rintro e w1 ⟨rfl, ⟨nd, rfl⟩⟩))
      go_ret2
      exact ⟨rfl, (by repeat (first | exact Below.refl _ _ | exact HB.out | refine pw_below_drewN ?_ _ | refine below_alloc ?_ _ | refine below_drew ?_))⟩
    · rw [if_neg c0] at h
      by_cases c1 : l0_3.length ≤ 65536 ∧ l0_4.length ≤ 65536 ∧ -9223372036854775808 ≤ a2 ∧ a2 ≤ 9223372036854775807
      · rw [if_pos c1] at h
        by_cases c2 : 1 ≤ n ∧ n ≤ 4
        · rw [if_pos c2] at h
          have HL := Aside0.mk h
          have C1 := Aside0.mk c1
          have C2 := Aside0.mk c2
          have b0 : (n == 0) = false := beq_eq_false_iff_ne.mpr c0
          clear h c1 c2
          go_enter Try.func29, Try.ntmps29
          go_wp2_with (first | (go_at_call 17; (with_reducible refine (spec_MachineOk.calls k A0_0 c0_0 l0_0 a0_1 A0_2 c0_2 l0_2 A0_3 c0_3 l0_3 A0_4 c0_4 l0_4 A0_5 c0_5 l0_5 A0_6 c0_6 l0_6 a0_7 a0_8 a0_9 _ _ (Kd.C_below HR0.out (by repeat (first | exact Below.refl _ _ | exact HB.out | refine pw_below_drewN ?_ _ | refine below_alloc ?_ _ | refine below_drew ?_))) HC0.out (Kd.C_below HR2.out (by repeat (first | exact Below.refl _ _ | exact HB.out | refine pw_below_drewN ?_ _ | refine below_alloc ?_ _ | refine below_drew ?_))) HC2.out (Kd.C_below HR3.out (by repeat (first | exact Below.refl _ _ | exact HB.out | refine pw_below_drewN ?_ _ | refine below_alloc ?_ _ | refine below_drew ?_))) HC3.out (Kd.C_below HR4.out (by repeat (first | exact Below.refl _ _ | exact HB.out | refine pw_below_drewN ?_ _ | refine below_alloc ?_ _ | refine below_drew ?_))) HC4.out (Kd.C_below HR5.out (by repeat (first | exact Below.refl _ _ | exact HB.out | refine pw_below_drewN ?_ _ | refine below_alloc ?_ _ | refine below_drew ?_))) HC5.out (Kd.C_below HR6.out (by repeat (first | exact Below.refl _ _ | exact HB.out | refine pw_below_drewN ?_ _ | refine below_alloc ?_ _ | refine below_drew ?_))) HC6.out HOK.out).mono ?_); rintro e w1 ⟨rfl, hb⟩; have HB2 := Aside0.mk (show Below w.heap.size w w1 from below_step (by repeat (first | exact Below.refl _ _ | exact HB.out | refine pw_below_drewN ?_ _ | refine below_alloc ?_ _ | refine below_drew ?_)) hb); clear HB; have HB := HB2; clear HB2; have hg1 : w1.heap[w.heap.size]? = some (.cells #[.slice A0_0 l0_0.length c0_0, .int .i64 a0_1, .slice A0_2 l0_2.length c0_2, .slice A0_3 l0_3.length c0_3, .slice A0_4 l0_4.length c0_4, .slice A0_5 l0_5.length c0_5, .slice A0_6 l0_6.length c0_6, .int .i64 a0_7, .int .i64 a0_8, .int .i64 a0_9] 36 (0, 0)) := blk_below (g := w.heap.size) (o := .cells #[.slice A0_0 l0_0.length c0_0, .int .i64 a0_1, .slice A0_2 l0_2.length c0_2, .slice A0_3 l0_3.length c0_3, .slice A0_4 l0_4.length c0_4, .slice A0_5 l0_5.length c0_5, .slice A0_6 l0_6.length c0_6, .int .i64 a0_7, .int .i64 a0_8, .int .i64 a0_9] 36 (0, 0)) (by repeat (first | exact HG0.out | refine blk_drewN ?_ _ | refine blk_drew ?_ | refine blk_alloc ?_ _)) hb; have HG := Aside0.mk hg1; clear hb hg1) | (go_at_call 64; (with_reducible refine (spec_KindSize.calls _ _ _ _ HK.out).mono ?_); rintro e w1 ⟨rfl, ⟨nd, rfl⟩⟩) | (go_at_call 65; (with_reducible refine (l3Load_raw k w.heap.size (.slice A0_0 l0_0.length c0_0) (.int .i64 a0_1) (.slice A0_2 l0_2.length c0_2) (.slice A0_5 l0_5.length c0_5) (.slice A0_6 l0_6.length c0_6) (.int .i64 a0_7) (.int .i64 a0_8) (.int .i64 a0_9) A0_3 c0_3 l0_3 A0_4 c0_4 l0_4 _ ?hg C1.out.1 C1.out.2.1 a2 n C2.out.1 C2.out.2 C1.out.2.2.1 C1.out.2.2.2 a1 r1 r2 HK.out (Kd.C_below HR3.out ?hb3) (Kd.C_below HR4.out ?hb4) HL.out).mono ?_); (case hg => exact HG.out); (case hb3 => exact (by repeat (first | exact Below.refl _ _ | exact HB.out | refine pw_below_drewN ?_ _ | refine below_alloc ?_ _ | refine below_drew ?_))); (case hb4 => exact (by repeat (first | exact Below.refl _ _ | exact HB.out | refine pw_below_drewN ?_ _ | refine below_alloc ?_ _ | refine below_drew ?_))); rintro e w2 ⟨rfl, ⟨nd, rfl⟩⟩))
          go_ret2
          exact ⟨rfl, (by repeat (first | exact Below.refl _ _ | exact HB.out | refine pw_below_drewN ?_ _ | refine below_alloc ?_ _ | refine below_drew ?_))⟩
        · rw [if_neg c2] at h; cases h
      · rw [if_neg c1] at h; cases h

-- NOT PRINTED: function 137 (slices_IndexFunc_int_int)

-- NOT PRINTED: function 108 (slices_ContainsFunc_int_int)

/-! ### impl_isWord: function 56 -/
/-- A number is a word. -/
def okw (x : Int) : Bool := decide (0 ≤ x ∧ x ≤ 4294967295)
def impl_isWord.f (l0 : List Int) : Option Bool := some (l0.all okw)
theorem iw_and (x : Int) : Go.bits .and .i64 x 4294967295 = x % 4294967296 := by
  have h := BitVec.toNat_and (BitVec.ofInt 64 x) (BitVec.ofInt 64 4294967295)
  have e2 : (BitVec.ofInt 64 4294967295).toNat = 2 ^ 32 - 1 := by decide
  rw [e2, Nat.and_two_pow_sub_one_eq_mod, BitVec.toNat_ofInt] at h
  show IntKind.wrap .i64 (((BitVec.ofInt 64 x &&& BitVec.ofInt 64 4294967295).toNat : Nat) : Int) = _
  rw [h]
  simp only [IntKind.wrap, IntKind.signed, IntKind.bits, Bool.true_and]
  have g : ((x % ((2 ^ 64 : Nat) : Int)).toNat % 2 ^ 32 : Nat) < 2 ^ 32 := Nat.mod_lt _ (by decide)
  have e3 : (((x % ((2 ^ 64 : Nat) : Int)).toNat % 2 ^ 32 : Nat) : Int) = x % 4294967296 := by omega
  rw [if_neg (by simp; omega)]
  omega
theorem iw_word (x : Int) (w : World) : Calls Try.prog 101 #[.int .i64 x] w fun e w' => e = .returned (.int .i64 (Go.bits .and .i64 x 4294967295)) ∧ w' = w := by
  go_enter Try.func101, Try.ntmps101
  go_wp2
  go_ret
  exact ⟨rfl, rfl⟩
theorem iw_bad (x : Int) : (x != Go.bits .and .i64 x 4294967295) = !okw x := by
  rw [iw_and]
  unfold okw
  by_cases h : 0 ≤ x ∧ x ≤ 4294967295
  · rw [decide_eq_true h]; simp; omega
  · rw [decide_eq_false h]; simp; omega
set_option maxHeartbeats 1600000 in
theorem iw_one (x : Int) (w : World) : Calls Try.prog 109 #[.int .i64 x] w fun e w' => e = .returned (.bool (!okw x)) ∧ ∃ m, w' = w.drewN m := by
  have hb := iw_bad x
  have HB := Aside0.mk hb
  clear hb
  go_enter Try.func109, Try.ntmps109
  go_wp2_with (go_at_call 101; refine (iw_word _ _).mono ?_; rintro e w' ⟨rfl, rfl⟩)
  go_ret
  exact ⟨by rw [← HB.out]; rfl, 0, rfl⟩
def Found (l : List Int) (w : World) (e : Ending) (w' : World) : Prop := ∃ i : Int, decide (0 ≤ i) = !(l.all okw) ∧ e = .returned (.int .i64 i) ∧ ∃ m, w' = w.drewN m
set_option maxHeartbeats 1600000 in
set_option maxRecDepth 100000 in
theorem iw_index (A : Option Addr) (c : Nat) (l : List Int) (w : World) (hr : ReadsInt w .i64 A l.length l) :
    Calls Try.prog 137 #[.slice A l.length c, .func (.func 109) #[] #[]] w (Found l w) := by
  have hn := hr.2.1
  have HR := Aside0.mk hr
  clear hr
  go_enter Try.func137, Try.ntmps137
  go_wp2
  go_loopw [5, 8] (fun _ i wr => ∃ k : Nat, k ≤ l.length ∧ i = .int .i64 k ∧ Aside0 ((l.take k).all okw = true) ∧ Aside0 (∃ m, wr = w.drewN m)) (fun _ i _ => l.length - (intOf i).toNat)
  case atStart => exact ⟨0, Nat.zero_le _, rfl, ⟨by simp⟩, ⟨0, rfl⟩⟩
  case round =>
    obtain ⟨k, hk, rfl, hall, ⟨m, rfl⟩⟩ := hrel
    by_cases hlt : k < l.length
    · obtain ⟨ad, rfl, hc⟩ := HR.out.at_ (k : Int) (by omega) (by omega)
      have hc' : w.cell? (ad.add k) = some (.int .i64 l[k]) := by
        have e : rd l (k : Int) = l[k] := by simp [rd, List.getD_eq_getElem?_getD, List.getElem?_eq_getElem hlt]
        rw [← e]; simpa using hc
      clear hc
      cases hb : okw l[k]
      · have HBB := Aside0.mk hb
        clear hb
        go_wp2_with (go_at_call 109; refine (iw_one _ _).mono ?_; rintro e w' ⟨rfl, ⟨nd, rfl⟩⟩; rw [HBB.out])
        go_ret
        refine ⟨k, ?_, rfl, _, rfl⟩
        have h2 : l.all okw = false := by
          rw [List.all_eq_false]
          exact ⟨l[k], List.getElem_mem hlt, by rw [HBB.out]; simp⟩
        rw [h2]; simp
      · have HBB := Aside0.mk hb
        clear hb
        go_wp2_with (go_at_call 109; refine (iw_one _ _).mono ?_; rintro e w' ⟨rfl, ⟨nd, rfl⟩⟩; rw [HBB.out])
        go_roundw
        case rel =>
          refine ⟨k + 1, by omega, by go_num, ⟨?_⟩, ⟨_, rfl⟩⟩
          rw [List.take_succ_eq_append_getElem hlt, List.all_append, hall.out]
          simp [HBB.out]
        case measure => simp [intOf]; omega
    · go_wp2
      go_ret
      refine ⟨-1, ?_, rfl, _, rfl⟩
      have : l.take k = l := List.take_of_length_le (by omega)
      rw [this] at hall
      rw [hall.out]; decide
theorem impl_isWord.calls (A0 : Option Addr) (c0 : Nat) (l0 : List Int) (r : Bool) (w : World) (hr0 : Kd.C (Kd.int .i64) w A0 l0.length l0) (hc0 : l0.length ≤ c0) (h : impl_isWord.f l0 = some r) :
    Calls Try.prog 56 #[.slice A0 l0.length c0] w fun e w' => e = .returned (.bool r) ∧ Drawn0 w w' := by
  obtain rfl := Option.some.inj h
  clear h
  have hr : ReadsInt w .i64 A0 l0.length l0 := Kd.reads_of_C (enc := Value.int .i64) (d := 0) (h1 := fun _ => rfl) hr0
  have HR := Aside0.mk hr
  clear hr hr0
  have hcf : ∀ W, (∃ m, W = w.drewN m) → Calls Try.prog 108 #[.slice A0 l0.length c0, .func (.func 109) #[] #[]] W fun e w' => e = .returned (.bool (!(l0.all okw))) ∧ ∃ m, w' = w.drewN m := by
    rintro W ⟨m, rfl⟩
    have HRm := Aside0.mk (HR.out.below (pw_below_drewN (Below.refl w.heap.size w) m))
    go_enter Try.func108, Try.ntmps108
    go_wp2_with (go_at_call 137; refine (iw_index A0 c0 l0 _ HRm.out).mono ?_; rintro e w' ⟨i, hi, rfl, ⟨nd, rfl⟩⟩; have HI := Aside0.mk hi; clear hi)
    go_ret
    exact ⟨by rw [← HI.out]; rfl, _, rfl⟩
  have HC := Aside0.mk hcf
  clear hcf
  go_enter Try.func56, Try.ntmps56
  go_wp2_with (go_at_call 108; refine (HC.out _ ⟨0, rfl⟩).mono ?_; rintro e w' ⟨rfl, ⟨nd, rfl⟩⟩)
  go_ret
  exact ⟨by simp, ⟨_, rfl⟩⟩

/-! ### impl_inside: function 57 -/
def impl_inside.f (a0 : Int) (a1 : Int) (a2 : Int) : Option (Bool) := if a0 ≥ a1 then (some (decide (a0 ≤ a2))) else (some false)
set_option maxHeartbeats 8000000 in
set_option maxRecDepth 100000 in
theorem impl_inside.calls (a0 : Int) (a1 : Int) (a2 : Int) (r : Bool) (w : World) (h : impl_inside.f a0 a1 a2 = some r) :
    Calls Try.prog 57 #[.int .i64 a0, .int .i64 a1, .int .i64 a2] w fun e w' => e = .returned (.bool r) ∧ Drawn0 w w' := by
  have H : (if a0 ≥ a1 then (some (decide (a0 ≤ a2))) else (some false)) = some r := h
  clear h
  by_cases c4 : a0 ≥ a1
  · rw [if_pos c4] at H
    have c4b0 : decide (a1 ≤ a0) = true := decide_eq_true c4
    clear c4
    obtain rfl := Option.some.inj H
    go_enter Try.func57, Try.ntmps57
    go_wp2
    go_ret
    exact ⟨by first | rfl | (simp; done) | (simp [*]; done), by repeat (first | exact Drawn0.refl _ | apply Drawn0.step)⟩
  · rw [if_neg c4] at H
    have c4b0 : decide (a1 ≤ a0) = false := decide_eq_false c4
    clear c4
    obtain rfl := Option.some.inj H
    go_enter Try.func57, Try.ntmps57
    go_wp2
    go_ret
    exact ⟨by first | rfl | (simp; done) | (simp [*]; done), by repeat (first | exact Drawn0.refl _ | apply Drawn0.step)⟩

/-! ### impl_codeOk: function 51 -/
def impl_codeOk.f (l0 : List Int) : Option (Bool) := (impl_inside.f (l0.length : Int) 1 16384).bind fun t176 => (if t176 = true then ((impl_isWord.f l0).bind fun t177 => (some t177)) else (some false))
set_option maxHeartbeats 8000000 in
set_option maxRecDepth 100000 in
theorem impl_codeOk.calls (A0 : Option Addr) (c0 : Nat) (l0 : List Int) (r : Bool) (w : World) (hr0 : Kd.C (Kd.int .i64) w A0 l0.length l0) (hc0 : l0.length ≤ c0) (h : impl_codeOk.f l0 = some r) :
    Calls Try.prog 51 #[.slice A0 l0.length c0] w fun e w' => e = .returned (.bool r) ∧ Drawn0 w w' := by
  have HR0 := Aside0.mk hr0
  have HC0 := Aside0.mk hc0
  clear hr0 hc0
  have H : ((impl_inside.f (l0.length : Int) 1 16384).bind fun t176 => (if t176 = true then ((impl_isWord.f l0).bind fun t177 => (some t177)) else (some false))) = some r := h
  clear h
  replace H := Option.bind_eq_some_iff.mp H
  obtain ⟨t176, A20, H⟩ := H
  replace H : (if t176 = true then ((impl_isWord.f l0).bind fun t177 => (some t177)) else (some false)) = some r := H
  have A2 := Aside0.mk A20
  clear A20
  by_cases c3 : t176 = true
  · subst c3
    have H1 : ((impl_isWord.f l0).bind fun t177 => (some t177)) = some r := by rw [if_pos rfl] at H; exact H
    clear H
    have H := H1
    clear H1
    replace H := Option.bind_eq_some_iff.mp H
    obtain ⟨t177, A40, H⟩ := H
    replace H : (some t177) = some r := H
    have A4 := Aside0.mk A40
    clear A40
    obtain rfl := Option.some.inj H
    go_enter Try.func51, Try.ntmps51
    go_wp2_with (first | ((with_reducible refine gate_callee (f := 57) rfl ?_); refine goesL_ (some 5) rfl rfl Try.func57 (by kernel_rfl) rfl #[.int .i64 (l0.length : Int), .int .i64 1, .int .i64 16384] rfl (by (try simp only [List.map_toArray, List.map_cons, List.map_nil]); first | done | rfl | (simp only [List.length_drop, List.length_take]; rfl)) ?_; (with_reducible refine (impl_inside.calls (l0.length : Int) 1 16384 true _ A2.out).mono ?_); rintro e w' ⟨rfl, ⟨nd, rfl⟩⟩; refine ⟨_, rfl, ?_⟩) | (go_at_call 56; (with_reducible refine (impl_isWord.calls _ _ l0 t177 _ ?side1 ?side2 A4.out).mono ?_); (case side1 => repeat (first | exact HR0.out | (with_reducible refine Kd.C_alloc ?_ _) | (with_reducible refine Kd.C_drewN ?_ _) | (with_reducible refine Kd.C_drew ?_))); (case side2 => exact HC0.out); rintro e w' ⟨rfl, ⟨nd, rfl⟩⟩))
    go_ret
    exact ⟨by first | rfl | (simp; done) | (simp [*]; done), by repeat (first | exact Drawn0.refl _ | apply Drawn0.step)⟩
  · replace c3 := Bool.eq_false_iff.mpr c3
    subst c3
    have H1 : (some false) = some r := by rw [if_neg (show ¬ (false = true) by decide)] at H; exact H
    clear H
    have H := H1
    clear H1
    obtain rfl := Option.some.inj H
    go_enter Try.func51, Try.ntmps51
    go_wp2_with (first | ((with_reducible refine gate_callee (f := 57) rfl ?_); refine goesL_ (some 5) rfl rfl Try.func57 (by kernel_rfl) rfl #[.int .i64 (l0.length : Int), .int .i64 1, .int .i64 16384] rfl (by (try simp only [List.map_toArray, List.map_cons, List.map_nil]); first | done | rfl | (simp only [List.length_drop, List.length_take]; rfl)) ?_; (with_reducible refine (impl_inside.calls (l0.length : Int) 1 16384 false _ A2.out).mono ?_); rintro e w' ⟨rfl, ⟨nd, rfl⟩⟩; refine ⟨_, rfl, ?_⟩))
    go_ret
    exact ⟨by first | rfl | (simp; done) | (simp [*]; done), by repeat (first | exact Drawn0.refl _ | apply Drawn0.step)⟩

/-! ### impl_stackOk: function 53 -/
def impl_stackOk.f (a0 : Int) : Option (Bool) := (impl_inside.f a0 0 65536).bind fun t178 => (if t178 = true then (some ((Int.tmod a0 16) == 0)) else (some false))
set_option maxHeartbeats 8000000 in
set_option maxRecDepth 100000 in
theorem impl_stackOk.calls (a0 : Int) (r : Bool) (w : World) (h : impl_stackOk.f a0 = some r) :
    Calls Try.prog 53 #[.int .i64 a0] w fun e w' => e = .returned (.bool r) ∧ Drawn0 w w' := by
  have H : ((impl_inside.f a0 0 65536).bind fun t178 => (if t178 = true then (some ((Int.tmod a0 16) == 0)) else (some false))) = some r := h
  clear h
  replace H := Option.bind_eq_some_iff.mp H
  obtain ⟨t178, A20, H⟩ := H
  replace H : (if t178 = true then (some ((Int.tmod a0 16) == 0)) else (some false)) = some r := H
  have A2 := Aside0.mk A20
  clear A20
  by_cases c3 : t178 = true
  · subst c3
    have H1 : (some ((Int.tmod a0 16) == 0)) = some r := by rw [if_pos rfl] at H; exact H
    clear H
    have H := H1
    clear H1
    obtain rfl := Option.some.inj H
    go_enter Try.func53, Try.ntmps53
    go_wp2_with (first | ((with_reducible refine gate_callee (f := 57) rfl ?_); refine goesL_ (some 4) rfl rfl Try.func57 (by kernel_rfl) rfl #[.int .i64 a0, .int .i64 0, .int .i64 65536] rfl (by (try simp only [List.map_toArray, List.map_cons, List.map_nil]); first | done | rfl | (simp only [List.length_drop, List.length_take]; rfl)) ?_; (with_reducible refine (impl_inside.calls a0 0 65536 true _ A2.out).mono ?_); rintro e w' ⟨rfl, ⟨nd, rfl⟩⟩; refine ⟨_, rfl, ?_⟩))
    go_ret
    exact ⟨by first | rfl | (simp; done) | (simp [*]; done), by repeat (first | exact Drawn0.refl _ | apply Drawn0.step)⟩
  · replace c3 := Bool.eq_false_iff.mpr c3
    subst c3
    have H1 : (some false) = some r := by rw [if_neg (show ¬ (false = true) by decide)] at H; exact H
    clear H
    have H := H1
    clear H1
    obtain rfl := Option.some.inj H
    go_enter Try.func53, Try.ntmps53
    go_wp2_with (first | ((with_reducible refine gate_callee (f := 57) rfl ?_); refine goesL_ (some 4) rfl rfl Try.func57 (by kernel_rfl) rfl #[.int .i64 a0, .int .i64 0, .int .i64 65536] rfl (by (try simp only [List.map_toArray, List.map_cons, List.map_nil]); first | done | rfl | (simp only [List.length_drop, List.length_take]; rfl)) ?_; (with_reducible refine (impl_inside.calls a0 0 65536 false _ A2.out).mono ?_); rintro e w' ⟨rfl, ⟨nd, rfl⟩⟩; refine ⟨_, rfl, ?_⟩))
    go_ret
    exact ⟨by first | rfl | (simp; done) | (simp [*]; done), by repeat (first | exact Drawn0.refl _ | apply Drawn0.step)⟩

/-! ### impl_MachineOk: function 19 -/
def impl_MachineOk.f (l0_0 : List Int) (a0_1 : Int) (l0_2 : List Int) (l0_3 : List Int) (l0_4 : List Int) (l0_5 : List Int) (l0_6 : List Int) (a0_7 : Int) (a0_8 : Int) (a0_9 : Int) : Option (Bool) := (impl_codeOk.f l0_0).bind fun t180 => (if t180 = true then (if (l0_3.length : Int) ≤ 65536 then ((impl_stackOk.f (l0_4.length : Int)).bind fun t181 => (if t181 = true then ((impl_isWord.f (([a0_1, a0_9] : List Int))).bind fun t185 => (if t185 = true then (if (l0_2.length : Int) = 32 then ((impl_isWord.f l0_2).bind fun t186 => (if t186 = true then (if 0 < (l0_2.length : Int) then (if (rd l0_2 0) = 0 then (if (l0_5.length : Int) ≤ 10000 then (if (l0_6.length : Int) ≤ 10000 then ((impl_inside.f a0_7 0 1000000).bind fun t188 => (if t188 = true then ((impl_inside.f a0_8 0 3).bind fun t189 => (some t189)) else (some false))) else (some false)) else (some false)) else (some false)) else (none)) else (some false))) else (some false)) else (some false))) else (some false))) else (some false)) else (some false))
set_option maxHeartbeats 8000000 in
set_option maxRecDepth 100000 in
theorem impl_MachineOk.calls (A0_0 : Option Addr) (c0_0 : Nat) (l0_0 : List Int) (a0_1 : Int) (A0_2 : Option Addr) (c0_2 : Nat) (l0_2 : List Int) (A0_3 : Option Addr) (c0_3 : Nat) (l0_3 : List Int) (A0_4 : Option Addr) (c0_4 : Nat) (l0_4 : List Int) (A0_5 : Option Addr) (c0_5 : Nat) (l0_5 : List Int) (A0_6 : Option Addr) (c0_6 : Nat) (l0_6 : List Int) (a0_7 : Int) (a0_8 : Int) (a0_9 : Int) (r : Bool) (w : World) (hr0_0 : Kd.C (Kd.int .i64) w A0_0 l0_0.length l0_0) (hc0_0 : l0_0.length ≤ c0_0) (hr0_2 : Kd.C (Kd.int .i64) w A0_2 l0_2.length l0_2) (hc0_2 : l0_2.length ≤ c0_2) (hr0_3 : Kd.C (Kd.int .u8) w A0_3 l0_3.length l0_3) (hc0_3 : l0_3.length ≤ c0_3) (hr0_4 : Kd.C (Kd.int .u8) w A0_4 l0_4.length l0_4) (hc0_4 : l0_4.length ≤ c0_4) (hr0_5 : Kd.C (Kd.int .u8) w A0_5 l0_5.length l0_5) (hc0_5 : l0_5.length ≤ c0_5) (hr0_6 : Kd.C (Kd.int .u8) w A0_6 l0_6.length l0_6) (hc0_6 : l0_6.length ≤ c0_6) (h : impl_MachineOk.f l0_0 a0_1 l0_2 l0_3 l0_4 l0_5 l0_6 a0_7 a0_8 a0_9 = some r) :
    Calls Try.prog 19 #[.agg #[.slice A0_0 l0_0.length c0_0, .int .i64 a0_1, .slice A0_2 l0_2.length c0_2, .slice A0_3 l0_3.length c0_3, .slice A0_4 l0_4.length c0_4, .slice A0_5 l0_5.length c0_5, .slice A0_6 l0_6.length c0_6, .int .i64 a0_7, .int .i64 a0_8, .int .i64 a0_9]] w fun e w' => e = .returned (.bool r) ∧ Below w.heap.size w w' := by
  have hu36 := Try.underlying36
  have HR0_0 := Aside0.mk hr0_0
  have HC0_0 := Aside0.mk hc0_0
  clear hr0_0 hc0_0
  have HR0_2 := Aside0.mk hr0_2
  have HC0_2 := Aside0.mk hc0_2
  clear hr0_2 hc0_2
  have HR0_3 := Aside0.mk hr0_3
  have HC0_3 := Aside0.mk hc0_3
  clear hr0_3 hc0_3
  have HR0_4 := Aside0.mk hr0_4
  have HC0_4 := Aside0.mk hc0_4
  clear hr0_4 hc0_4
  have HR0_5 := Aside0.mk hr0_5
  have HC0_5 := Aside0.mk hc0_5
  clear hr0_5 hc0_5
  have HR0_6 := Aside0.mk hr0_6
  have HC0_6 := Aside0.mk hc0_6
  clear hr0_6 hc0_6
  have HB := Aside0.mk (Below.refl w.heap.size w)
  have H : ((impl_codeOk.f l0_0).bind fun t180 => (if t180 = true then (if (l0_3.length : Int) ≤ 65536 then ((impl_stackOk.f (l0_4.length : Int)).bind fun t181 => (if t181 = true then ((impl_isWord.f (([a0_1, a0_9] : List Int))).bind fun t185 => (if t185 = true then (if (l0_2.length : Int) = 32 then ((impl_isWord.f l0_2).bind fun t186 => (if t186 = true then (if 0 < (l0_2.length : Int) then (if (rd l0_2 0) = 0 then (if (l0_5.length : Int) ≤ 10000 then (if (l0_6.length : Int) ≤ 10000 then ((impl_inside.f a0_7 0 1000000).bind fun t188 => (if t188 = true then ((impl_inside.f a0_8 0 3).bind fun t189 => (some t189)) else (some false))) else (some false)) else (some false)) else (some false)) else (none)) else (some false))) else (some false)) else (some false))) else (some false))) else (some false)) else (some false))) = some r := h
  clear h
  replace H := Option.bind_eq_some_iff.mp H
  obtain ⟨t180, A20, H⟩ := H
  replace H : (if t180 = true then (if (l0_3.length : Int) ≤ 65536 then ((impl_stackOk.f (l0_4.length : Int)).bind fun t181 => (if t181 = true then ((impl_isWord.f (([a0_1, a0_9] : List Int))).bind fun t185 => (if t185 = true then (if (l0_2.length : Int) = 32 then ((impl_isWord.f l0_2).bind fun t186 => (if t186 = true then (if 0 < (l0_2.length : Int) then (if (rd l0_2 0) = 0 then (if (l0_5.length : Int) ≤ 10000 then (if (l0_6.length : Int) ≤ 10000 then ((impl_inside.f a0_7 0 1000000).bind fun t188 => (if t188 = true then ((impl_inside.f a0_8 0 3).bind fun t189 => (some t189)) else (some false))) else (some false)) else (some false)) else (some false)) else (none)) else (some false))) else (some false)) else (some false))) else (some false))) else (some false)) else (some false)) = some r := H
  have A2 := Aside0.mk A20
  clear A20
  by_cases c3 : t180 = true
  · subst c3
    have H1 : (if (l0_3.length : Int) ≤ 65536 then ((impl_stackOk.f (l0_4.length : Int)).bind fun t181 => (if t181 = true then ((impl_isWord.f (([a0_1, a0_9] : List Int))).bind fun t185 => (if t185 = true then (if (l0_2.length : Int) = 32 then ((impl_isWord.f l0_2).bind fun t186 => (if t186 = true then (if 0 < (l0_2.length : Int) then (if (rd l0_2 0) = 0 then (if (l0_5.length : Int) ≤ 10000 then (if (l0_6.length : Int) ≤ 10000 then ((impl_inside.f a0_7 0 1000000).bind fun t188 => (if t188 = true then ((impl_inside.f a0_8 0 3).bind fun t189 => (some t189)) else (some false))) else (some false)) else (some false)) else (some false)) else (none)) else (some false))) else (some false)) else (some false))) else (some false))) else (some false)) = some r := by rw [if_pos rfl] at H; exact H
    clear H
    have H := H1
    clear H1
    by_cases c4 : (l0_3.length : Int) ≤ 65536
    · rw [if_pos c4] at H
      have c4b0 : decide ((l0_3.length : Int) ≤ 65536) = true := decide_eq_true c4
      have c4b1 : decide (l0_3.length ≤ 65536) = true := decide_eq_true (by omega)
      clear c4
      replace H := Option.bind_eq_some_iff.mp H
      obtain ⟨t181, A50, H⟩ := H
      replace H : (if t181 = true then ((impl_isWord.f (([a0_1, a0_9] : List Int))).bind fun t185 => (if t185 = true then (if (l0_2.length : Int) = 32 then ((impl_isWord.f l0_2).bind fun t186 => (if t186 = true then (if 0 < (l0_2.length : Int) then (if (rd l0_2 0) = 0 then (if (l0_5.length : Int) ≤ 10000 then (if (l0_6.length : Int) ≤ 10000 then ((impl_inside.f a0_7 0 1000000).bind fun t188 => (if t188 = true then ((impl_inside.f a0_8 0 3).bind fun t189 => (some t189)) else (some false))) else (some false)) else (some false)) else (some false)) else (none)) else (some false))) else (some false)) else (some false))) else (some false)) = some r := H
      have A5 := Aside0.mk A50
      clear A50
      by_cases c6 : t181 = true
      · subst c6
        have H1 : ((impl_isWord.f (([a0_1, a0_9] : List Int))).bind fun t185 => (if t185 = true then (if (l0_2.length : Int) = 32 then ((impl_isWord.f l0_2).bind fun t186 => (if t186 = true then (if 0 < (l0_2.length : Int) then (if (rd l0_2 0) = 0 then (if (l0_5.length : Int) ≤ 10000 then (if (l0_6.length : Int) ≤ 10000 then ((impl_inside.f a0_7 0 1000000).bind fun t188 => (if t188 = true then ((impl_inside.f a0_8 0 3).bind fun t189 => (some t189)) else (some false))) else (some false)) else (some false)) else (some false)) else (none)) else (some false))) else (some false)) else (some false))) = some r := by rw [if_pos rfl] at H; exact H
        clear H
        have H := H1
        clear H1
        obtain ⟨y182, hy182⟩ : ∃ y_ : List Int, y_ = (([a0_1, a0_9] : List Int)) := ⟨_, rfl⟩
        replace H : ((impl_isWord.f y182).bind fun t185 => (if t185 = true then (if (l0_2.length : Int) = 32 then ((impl_isWord.f l0_2).bind fun t186 => (if t186 = true then (if 0 < (l0_2.length : Int) then (if (rd l0_2 0) = 0 then (if (l0_5.length : Int) ≤ 10000 then (if (l0_6.length : Int) ≤ 10000 then ((impl_inside.f a0_7 0 1000000).bind fun t188 => (if t188 = true then ((impl_inside.f a0_8 0 3).bind fun t189 => (some t189)) else (some false))) else (some false)) else (some false)) else (some false)) else (none)) else (some false))) else (some false)) else (some false))) = some r := by first | (rw [hy182]; with_reducible exact H) | (have H2_ := (Option.bind_some _ _).symm.trans H; rw [hy182]; with_reducible exact H2_) | (have H2_ := (Option.bind_some _ _).symm.trans H; with_reducible exact H2_) | with_reducible exact H | (rw [hy182]; exact H) | exact H
        have Ny182 := Aside0.mk hy182
        clear hy182
        replace H := Option.bind_eq_some_iff.mp H
        obtain ⟨t185, A70, H⟩ := H
        replace H : (if t185 = true then (if (l0_2.length : Int) = 32 then ((impl_isWord.f l0_2).bind fun t186 => (if t186 = true then (if 0 < (l0_2.length : Int) then (if (rd l0_2 0) = 0 then (if (l0_5.length : Int) ≤ 10000 then (if (l0_6.length : Int) ≤ 10000 then ((impl_inside.f a0_7 0 1000000).bind fun t188 => (if t188 = true then ((impl_inside.f a0_8 0 3).bind fun t189 => (some t189)) else (some false))) else (some false)) else (some false)) else (some false)) else (none)) else (some false))) else (some false)) else (some false)) = some r := H
        have A7 := Aside0.mk A70
        clear A70
        by_cases c8 : t185 = true
        · subst c8
          have H1 : (if (l0_2.length : Int) = 32 then ((impl_isWord.f l0_2).bind fun t186 => (if t186 = true then (if 0 < (l0_2.length : Int) then (if (rd l0_2 0) = 0 then (if (l0_5.length : Int) ≤ 10000 then (if (l0_6.length : Int) ≤ 10000 then ((impl_inside.f a0_7 0 1000000).bind fun t188 => (if t188 = true then ((impl_inside.f a0_8 0 3).bind fun t189 => (some t189)) else (some false))) else (some false)) else (some false)) else (some false)) else (none)) else (some false))) else (some false)) = some r := by rw [if_pos rfl] at H; exact H
          clear H
          have H := H1
          clear H1
          by_cases c9 : (l0_2.length : Int) = 32
          · rw [if_pos c9] at H
            have c9b0 : ((l0_2.length : Int) == 32) = true := beq_iff_eq.mpr c9
            have c9b1 : ((l0_2.length : Int) != 32) = false := bne_eq_false_iff_eq.mpr c9
            clear c9
            replace H := Option.bind_eq_some_iff.mp H
            obtain ⟨t186, A100, H⟩ := H
            replace H : (if t186 = true then (if 0 < (l0_2.length : Int) then (if (rd l0_2 0) = 0 then (if (l0_5.length : Int) ≤ 10000 then (if (l0_6.length : Int) ≤ 10000 then ((impl_inside.f a0_7 0 1000000).bind fun t188 => (if t188 = true then ((impl_inside.f a0_8 0 3).bind fun t189 => (some t189)) else (some false))) else (some false)) else (some false)) else (some false)) else (none)) else (some false)) = some r := H
            have A10 := Aside0.mk A100
            clear A100
            by_cases c11 : t186 = true
            · subst c11
              have H1 : (if 0 < (l0_2.length : Int) then (if (rd l0_2 0) = 0 then (if (l0_5.length : Int) ≤ 10000 then (if (l0_6.length : Int) ≤ 10000 then ((impl_inside.f a0_7 0 1000000).bind fun t188 => (if t188 = true then ((impl_inside.f a0_8 0 3).bind fun t189 => (some t189)) else (some false))) else (some false)) else (some false)) else (some false)) else (none)) = some r := by rw [if_pos rfl] at H; exact H
              clear H
              have H := H1
              clear H1
              by_cases c12 : 0 < (l0_2.length : Int)
              · rw [if_pos c12] at H
                have c12b0 : decide (0 < (l0_2.length : Int)) = true := decide_eq_true c12
                have c12b1 : decide (0 < l0_2.length) = true := decide_eq_true (by omega)
                clear c12
                by_cases c13 : (rd l0_2 0) = 0
                · rw [if_pos c13] at H
                  have c13b0 : ((rd l0_2 0) == 0) = true := beq_iff_eq.mpr c13
                  have c13b1 : ((rd l0_2 0) != 0) = false := bne_eq_false_iff_eq.mpr c13
                  clear c13
                  by_cases c14 : (l0_5.length : Int) ≤ 10000
                  · rw [if_pos c14] at H
                    have c14b0 : decide ((l0_5.length : Int) ≤ 10000) = true := decide_eq_true c14
                    have c14b1 : decide (l0_5.length ≤ 10000) = true := decide_eq_true (by omega)
                    clear c14
                    by_cases c15 : (l0_6.length : Int) ≤ 10000
                    · rw [if_pos c15] at H
                      have c15b0 : decide ((l0_6.length : Int) ≤ 10000) = true := decide_eq_true c15
                      have c15b1 : decide (l0_6.length ≤ 10000) = true := decide_eq_true (by omega)
                      clear c15
                      replace H := Option.bind_eq_some_iff.mp H
                      obtain ⟨t188, A160, H⟩ := H
                      replace H : (if t188 = true then ((impl_inside.f a0_8 0 3).bind fun t189 => (some t189)) else (some false)) = some r := H
                      have A16 := Aside0.mk A160
                      clear A160
                      by_cases c17 : t188 = true
                      · subst c17
                        have H1 : ((impl_inside.f a0_8 0 3).bind fun t189 => (some t189)) = some r := by rw [if_pos rfl] at H; exact H
                        clear H
                        have H := H1
                        clear H1
                        replace H := Option.bind_eq_some_iff.mp H
                        obtain ⟨t189, A180, H⟩ := H
                        replace H : (some t189) = some r := H
                        have A18 := Aside0.mk A180
                        clear A180
                        obtain rfl := Option.some.inj H
                        go_enter Try.func19, Try.ntmps19
                        go_wp2_with (first | ((with_reducible refine gate_dst (N := 1) rfl ?_); (try (refine gate_guard (by rfl) ?_; dsimp only)); refine box_event ?hg (N := 1) ?hd (cs := #[.slice A0_0 l0_0.length c0_0, .int .i64 a0_1, .slice A0_2 l0_2.length c0_2, .slice A0_3 l0_3.length c0_3, .slice A0_4 l0_4.length c0_4, .slice A0_5 l0_5.length c0_5, .slice A0_6 l0_6.length c0_6, .int .i64 a0_7, .int .i64 a0_8, .int .i64 a0_9]) (t := 36) ?hr ?_; (case hd => rfl); (case hg => rfl); (case hr => first | (go_simp; done) | (go_simp; rfl)); intro gb179 hg w19 hbox hb; have n0_ := Aside0.mk (below_step (by repeat (first | (with_reducible first | exact HB.out | apply below_alloc | apply pw_below_drewN | apply below_drew1) | exact HB.out)) hb); have n1_ := Aside0.mk (hbox); have n2_ := Aside0.mk ((by rw [hg]; exact (below_size (by repeat (first | (with_reducible first | exact HB.out | apply below_alloc | apply pw_below_drewN | apply below_drew1) | exact HB.out))) : w.heap.size ≤ gb179)); have n3_ := Aside0.mk ((by rw [hg]; exact (below_size (by repeat (first | (with_reducible first | exact HB.out | apply below_alloc | apply pw_below_drewN | apply below_drew1) | exact HB.out))) : w.heap.size ≤ gb179)); clear HB; have HB := n0_; have BK179 := n1_; have GW179 := n2_; have GE179 := n3_; clear n0_ n1_ n2_ n3_; clear hb hbox hg; have hcz20_0 : w19.cell? ⟨gb179, 0, none⟩ = some (.slice A0_0 l0_0.length c0_0) := (blk_cell BK179.out 0).trans rfl; have hcz20_1 : w19.cell? ⟨gb179, 1, none⟩ = some (.int .i64 a0_1) := (blk_cell BK179.out 1).trans rfl; have hcz20_2 : w19.cell? ⟨gb179, 2, none⟩ = some (.slice A0_2 l0_2.length c0_2) := (blk_cell BK179.out 2).trans rfl; have hcz20_3 : w19.cell? ⟨gb179, 3, none⟩ = some (.slice A0_3 l0_3.length c0_3) := (blk_cell BK179.out 3).trans rfl; have hcz20_4 : w19.cell? ⟨gb179, 4, none⟩ = some (.slice A0_4 l0_4.length c0_4) := (blk_cell BK179.out 4).trans rfl; have hcz20_5 : w19.cell? ⟨gb179, 5, none⟩ = some (.slice A0_5 l0_5.length c0_5) := (blk_cell BK179.out 5).trans rfl; have hcz20_6 : w19.cell? ⟨gb179, 6, none⟩ = some (.slice A0_6 l0_6.length c0_6) := (blk_cell BK179.out 6).trans rfl; have hcz20_7 : w19.cell? ⟨gb179, 7, none⟩ = some (.int .i64 a0_7) := (blk_cell BK179.out 7).trans rfl; have hcz20_8 : w19.cell? ⟨gb179, 8, none⟩ = some (.int .i64 a0_8) := (blk_cell BK179.out 8).trans rfl; have hcz20_9 : w19.cell? ⟨gb179, 9, none⟩ = some (.int .i64 a0_9) := (blk_cell BK179.out 9).trans rfl; have hfz20_0 := blk_frozen BK179.out 0; have hfz20_1 := blk_frozen BK179.out 1; have hfz20_2 := blk_frozen BK179.out 2; have hfz20_3 := blk_frozen BK179.out 3; have hfz20_4 := blk_frozen BK179.out 4; have hfz20_5 := blk_frozen BK179.out 5; have hfz20_6 := blk_frozen BK179.out 6; have hfz20_7 := blk_frozen BK179.out 7; have hfz20_8 := blk_frozen BK179.out 8; have hfz20_9 := blk_frozen BK179.out 9) | ((with_reducible refine gate_callee (f := 51) rfl ?_); refine goesL_ (some 5) rfl rfl Try.func51 (by kernel_rfl) rfl #[.slice A0_0 l0_0.length c0_0] rfl (by (try simp only [List.map_toArray, List.map_cons, List.map_nil]); first | done | rfl | (simp only [List.length_drop, List.length_take]; rfl)) ?_; (with_reducible refine (impl_codeOk.calls _ _ l0_0 true _ ?side1 ?side2 A2.out).mono ?_); (case side1 => repeat (first | exact (Kd.C_below HR0_0.out HB.out) | (with_reducible refine Kd.C_alloc ?_ _) | (with_reducible refine Kd.C_drewN ?_ _) | (with_reducible refine Kd.C_drew ?_))); (case side2 => exact HC0_0.out); rintro e w' ⟨rfl, ⟨nd, rfl⟩⟩; refine ⟨_, rfl, ?_⟩) | (go_at_call 53; (with_reducible refine (impl_stackOk.calls (l0_4.length : Int) true _ A5.out).mono ?_); rintro e w' ⟨rfl, ⟨nd, rfl⟩⟩) | ((with_reducible refine gate_dst (N := 23) rfl ?_); (try (refine gate_guard (by rfl) ?_; dsimp only)); refine Kd.R_lit (Kd.int .i64) _ 3 ?hg (N := 23) ?hd (xs := ([a0_1, a0_9] : List Int)) (inner := [.int .i64 a0_1, .int .i64 a0_9]) (ok := fun _ => True) (okp := fun _ => True) ?hr ?hp (fun _ hk => hk) trivial (Below.refl _ _) (Nat.le_refl _) (by simp) ?_; (case hd => rfl); (case hg => rfl); (case hr => first | (go_simp; done) | (go_simp; rfl)); (case hp => exact (Reps.one (show Kd.M (Kd.int .i64) _ _ _ a0_1 [.int .i64 a0_1] from rfl) (Reps.one (show Kd.M (Kd.int .i64) _ _ _ a0_9 [.int .i64 a0_9] from rfl) (Reps.none _ _)))); intro v183 w21 ho22 hb hg_ hnew_; clear hg_ hnew_; (first | rw [← Ny182.out] at ho22 | (simp only [Int.reduceToNat] at ho22; rw [← Ny182.out] at ho22)); have n0_ := Aside0.mk (Kd.R_lower ho22 (below_size (by repeat (first | (with_reducible first | exact HB.out | apply below_alloc | apply pw_below_drewN | apply below_drew1 | refine below_set ?_ GE179.out) | exact HB.out)))); have n1_ := Aside0.mk (blk_below (g := gb179) (o := .cells #[.slice A0_0 l0_0.length c0_0, .int .i64 a0_1, .slice A0_2 l0_2.length c0_2, .slice A0_3 l0_3.length c0_3, .slice A0_4 l0_4.length c0_4, .slice A0_5 l0_5.length c0_5, .slice A0_6 l0_6.length c0_6, .int .i64 a0_7, .int .i64 a0_8, .int .i64 a0_9] 36 (0, 0)) (by (with_reducible repeat (first | refine blk_drewN ?_ _ | refine blk_drew ?_ | refine blk_alloc ?_ _)); exact BK179.out) hb); have n2_ := Aside0.mk (below_step (by repeat (first | (with_reducible first | exact HB.out | apply below_alloc | apply pw_below_drewN | apply below_drew1 | refine below_set ?_ GE179.out) | exact HB.out)) hb); clear BK179; clear HB; have HO184 := n0_; have BK179 := n1_; have HB := n2_; clear n0_ n1_ n2_; clear hb ho22; obtain ⟨Ao23, co23, eo23⟩ := Kd.R_slice HO184.out; subst eo23) | (go_at_call 56; (with_reducible refine (impl_isWord.calls _ _ y182 true _ ?side1 ?side2 A7.out).mono ?_); (case side1 => repeat (first | exact (Kd.R_reads' HO184.out).2.2 | (with_reducible refine Kd.C_alloc ?_ _) | (with_reducible refine Kd.C_drewN ?_ _) | (with_reducible refine Kd.C_drew ?_))); (case side2 => exact (Kd.R_reads' HO184.out).2.1); rintro e w' ⟨rfl, ⟨nd, rfl⟩⟩; have hcz24_0 : w21.cell? ⟨gb179, 0, none⟩ = some (.slice A0_0 l0_0.length c0_0) := (blk_cell BK179.out 0).trans rfl; have hcz24_1 : w21.cell? ⟨gb179, 1, none⟩ = some (.int .i64 a0_1) := (blk_cell BK179.out 1).trans rfl; have hcz24_2 : w21.cell? ⟨gb179, 2, none⟩ = some (.slice A0_2 l0_2.length c0_2) := (blk_cell BK179.out 2).trans rfl; have hcz24_3 : w21.cell? ⟨gb179, 3, none⟩ = some (.slice A0_3 l0_3.length c0_3) := (blk_cell BK179.out 3).trans rfl; have hcz24_4 : w21.cell? ⟨gb179, 4, none⟩ = some (.slice A0_4 l0_4.length c0_4) := (blk_cell BK179.out 4).trans rfl; have hcz24_5 : w21.cell? ⟨gb179, 5, none⟩ = some (.slice A0_5 l0_5.length c0_5) := (blk_cell BK179.out 5).trans rfl; have hcz24_6 : w21.cell? ⟨gb179, 6, none⟩ = some (.slice A0_6 l0_6.length c0_6) := (blk_cell BK179.out 6).trans rfl; have hcz24_7 : w21.cell? ⟨gb179, 7, none⟩ = some (.int .i64 a0_7) := (blk_cell BK179.out 7).trans rfl; have hcz24_8 : w21.cell? ⟨gb179, 8, none⟩ = some (.int .i64 a0_8) := (blk_cell BK179.out 8).trans rfl; have hcz24_9 : w21.cell? ⟨gb179, 9, none⟩ = some (.int .i64 a0_9) := (blk_cell BK179.out 9).trans rfl; have hfz24_0 := blk_frozen BK179.out 0; have hfz24_1 := blk_frozen BK179.out 1; have hfz24_2 := blk_frozen BK179.out 2; have hfz24_3 := blk_frozen BK179.out 3; have hfz24_4 := blk_frozen BK179.out 4; have hfz24_5 := blk_frozen BK179.out 5; have hfz24_6 := blk_frozen BK179.out 6; have hfz24_7 := blk_frozen BK179.out 7; have hfz24_8 := blk_frozen BK179.out 8; have hfz24_9 := blk_frozen BK179.out 9) | (go_at_call 56; (with_reducible refine (impl_isWord.calls _ _ l0_2 true _ ?side1 ?side2 A10.out).mono ?_); (case side1 => repeat (first | exact (Kd.C_below HR0_2.out (by repeat (first | (with_reducible first | exact HB.out | apply below_alloc | apply pw_below_drewN | apply below_drew1 | refine below_set ?_ GE179.out) | exact HB.out))) | (with_reducible refine Kd.C_alloc ?_ _) | (with_reducible refine Kd.C_drewN ?_ _) | (with_reducible refine Kd.C_drew ?_))); (case side2 => exact HC0_2.out); rintro e w' ⟨rfl, ⟨nd, rfl⟩⟩; have p187 : 0 ≤ (0 : Int) := (by omega); have q187 : 0 < (l0_2.length : Int) := of_decide_eq_true (by first | (with_reducible assumption) | assumption); obtain ⟨ad187, e187, hx187_0⟩ := Kd.at_int HR0_2.out 0 p187 q187; cases e187; have qi187 : (0 < l0_2.length) = True := eq_true (by omega); (try rw [show ((0 : Int)).toNat = 0 from rfl] at hx187_0); (try rw [Addr.add_zero'] at hx187_0); replace hx187_0 := (HB.out.cell (World.block_lt_of_cell? w _ hx187_0)).trans hx187_0; replace p187 := eq_true p187; replace q187 := eq_true q187) | (go_at_call 57; (with_reducible refine (impl_inside.calls a0_7 0 1000000 true _ A16.out).mono ?_); rintro e w' ⟨rfl, ⟨nd, rfl⟩⟩) | (go_at_call 57; (with_reducible refine (impl_inside.calls a0_8 0 3 t189 _ A18.out).mono ?_); rintro e w' ⟨rfl, ⟨nd, rfl⟩⟩))
                        go_ret
                        exact ⟨by first | rfl | (simp [errW_none, errW_some] <;> rfl) | (simp [*, errW_none, errW_some] <;> rfl), by repeat (first | (with_reducible first | exact HB.out | apply below_alloc | apply pw_below_drewN | apply below_drew1 | refine below_set ?_ GE179.out) | exact HB.out)⟩
                      · replace c17 := Bool.eq_false_iff.mpr c17
                        subst c17
                        have H1 : (some false) = some r := by rw [if_neg (show ¬ (false = true) by decide)] at H; exact H
                        clear H
                        have H := H1
                        clear H1
                        obtain rfl := Option.some.inj H
                        go_enter Try.func19, Try.ntmps19
                        go_wp2_with (first | ((with_reducible refine gate_dst (N := 1) rfl ?_); (try (refine gate_guard (by rfl) ?_; dsimp only)); refine box_event ?hg (N := 1) ?hd (cs := #[.slice A0_0 l0_0.length c0_0, .int .i64 a0_1, .slice A0_2 l0_2.length c0_2, .slice A0_3 l0_3.length c0_3, .slice A0_4 l0_4.length c0_4, .slice A0_5 l0_5.length c0_5, .slice A0_6 l0_6.length c0_6, .int .i64 a0_7, .int .i64 a0_8, .int .i64 a0_9]) (t := 36) ?hr ?_; (case hd => rfl); (case hg => rfl); (case hr => first | (go_simp; done) | (go_simp; rfl)); intro gb179 hg w25 hbox hb; have n0_ := Aside0.mk (below_step (by repeat (first | (with_reducible first | exact HB.out | apply below_alloc | apply pw_below_drewN | apply below_drew1) | exact HB.out)) hb); have n1_ := Aside0.mk (hbox); have n2_ := Aside0.mk ((by rw [hg]; exact (below_size (by repeat (first | (with_reducible first | exact HB.out | apply below_alloc | apply pw_below_drewN | apply below_drew1) | exact HB.out))) : w.heap.size ≤ gb179)); have n3_ := Aside0.mk ((by rw [hg]; exact (below_size (by repeat (first | (with_reducible first | exact HB.out | apply below_alloc | apply pw_below_drewN | apply below_drew1) | exact HB.out))) : w.heap.size ≤ gb179)); clear HB; have HB := n0_; have BK179 := n1_; have GW179 := n2_; have GE179 := n3_; clear n0_ n1_ n2_ n3_; clear hb hbox hg; have hcz26_0 : w25.cell? ⟨gb179, 0, none⟩ = some (.slice A0_0 l0_0.length c0_0) := (blk_cell BK179.out 0).trans rfl; have hcz26_1 : w25.cell? ⟨gb179, 1, none⟩ = some (.int .i64 a0_1) := (blk_cell BK179.out 1).trans rfl; have hcz26_2 : w25.cell? ⟨gb179, 2, none⟩ = some (.slice A0_2 l0_2.length c0_2) := (blk_cell BK179.out 2).trans rfl; have hcz26_3 : w25.cell? ⟨gb179, 3, none⟩ = some (.slice A0_3 l0_3.length c0_3) := (blk_cell BK179.out 3).trans rfl; have hcz26_4 : w25.cell? ⟨gb179, 4, none⟩ = some (.slice A0_4 l0_4.length c0_4) := (blk_cell BK179.out 4).trans rfl; have hcz26_5 : w25.cell? ⟨gb179, 5, none⟩ = some (.slice A0_5 l0_5.length c0_5) := (blk_cell BK179.out 5).trans rfl; have hcz26_6 : w25.cell? ⟨gb179, 6, none⟩ = some (.slice A0_6 l0_6.length c0_6) := (blk_cell BK179.out 6).trans rfl; have hcz26_7 : w25.cell? ⟨gb179, 7, none⟩ = some (.int .i64 a0_7) := (blk_cell BK179.out 7).trans rfl; have hcz26_8 : w25.cell? ⟨gb179, 8, none⟩ = some (.int .i64 a0_8) := (blk_cell BK179.out 8).trans rfl; have hcz26_9 : w25.cell? ⟨gb179, 9, none⟩ = some (.int .i64 a0_9) := (blk_cell BK179.out 9).trans rfl; have hfz26_0 := blk_frozen BK179.out 0; have hfz26_1 := blk_frozen BK179.out 1; have hfz26_2 := blk_frozen BK179.out 2; have hfz26_3 := blk_frozen BK179.out 3; have hfz26_4 := blk_frozen BK179.out 4; have hfz26_5 := blk_frozen BK179.out 5; have hfz26_6 := blk_frozen BK179.out 6; have hfz26_7 := blk_frozen BK179.out 7; have hfz26_8 := blk_frozen BK179.out 8; have hfz26_9 := blk_frozen BK179.out 9) | ((with_reducible refine gate_callee (f := 51) rfl ?_); refine goesL_ (some 5) rfl rfl Try.func51 (by kernel_rfl) rfl #[.slice A0_0 l0_0.length c0_0] rfl (by (try simp only [List.map_toArray, List.map_cons, List.map_nil]); first | done | rfl | (simp only [List.length_drop, List.length_take]; rfl)) ?_; (with_reducible refine (impl_codeOk.calls _ _ l0_0 true _ ?side1 ?side2 A2.out).mono ?_); (case side1 => repeat (first | exact (Kd.C_below HR0_0.out HB.out) | (with_reducible refine Kd.C_alloc ?_ _) | (with_reducible refine Kd.C_drewN ?_ _) | (with_reducible refine Kd.C_drew ?_))); (case side2 => exact HC0_0.out); rintro e w' ⟨rfl, ⟨nd, rfl⟩⟩; refine ⟨_, rfl, ?_⟩) | (go_at_call 53; (with_reducible refine (impl_stackOk.calls (l0_4.length : Int) true _ A5.out).mono ?_); rintro e w' ⟨rfl, ⟨nd, rfl⟩⟩) | ((with_reducible refine gate_dst (N := 23) rfl ?_); (try (refine gate_guard (by rfl) ?_; dsimp only)); refine Kd.R_lit (Kd.int .i64) _ 3 ?hg (N := 23) ?hd (xs := ([a0_1, a0_9] : List Int)) (inner := [.int .i64 a0_1, .int .i64 a0_9]) (ok := fun _ => True) (okp := fun _ => True) ?hr ?hp (fun _ hk => hk) trivial (Below.refl _ _) (Nat.le_refl _) (by simp) ?_; (case hd => rfl); (case hg => rfl); (case hr => first | (go_simp; done) | (go_simp; rfl)); (case hp => exact (Reps.one (show Kd.M (Kd.int .i64) _ _ _ a0_1 [.int .i64 a0_1] from rfl) (Reps.one (show Kd.M (Kd.int .i64) _ _ _ a0_9 [.int .i64 a0_9] from rfl) (Reps.none _ _)))); intro v183 w27 ho28 hb hg_ hnew_; clear hg_ hnew_; (first | rw [← Ny182.out] at ho28 | (simp only [Int.reduceToNat] at ho28; rw [← Ny182.out] at ho28)); have n0_ := Aside0.mk (Kd.R_lower ho28 (below_size (by repeat (first | (with_reducible first | exact HB.out | apply below_alloc | apply pw_below_drewN | apply below_drew1 | refine below_set ?_ GE179.out) | exact HB.out)))); have n1_ := Aside0.mk (blk_below (g := gb179) (o := .cells #[.slice A0_0 l0_0.length c0_0, .int .i64 a0_1, .slice A0_2 l0_2.length c0_2, .slice A0_3 l0_3.length c0_3, .slice A0_4 l0_4.length c0_4, .slice A0_5 l0_5.length c0_5, .slice A0_6 l0_6.length c0_6, .int .i64 a0_7, .int .i64 a0_8, .int .i64 a0_9] 36 (0, 0)) (by (with_reducible repeat (first | refine blk_drewN ?_ _ | refine blk_drew ?_ | refine blk_alloc ?_ _)); exact BK179.out) hb); have n2_ := Aside0.mk (below_step (by repeat (first | (with_reducible first | exact HB.out | apply below_alloc | apply pw_below_drewN | apply below_drew1 | refine below_set ?_ GE179.out) | exact HB.out)) hb); clear BK179; clear HB; have HO184 := n0_; have BK179 := n1_; have HB := n2_; clear n0_ n1_ n2_; clear hb ho28; obtain ⟨Ao29, co29, eo29⟩ := Kd.R_slice HO184.out; subst eo29) | (go_at_call 56; (with_reducible refine (impl_isWord.calls _ _ y182 true _ ?side1 ?side2 A7.out).mono ?_); (case side1 => repeat (first | exact (Kd.R_reads' HO184.out).2.2 | (with_reducible refine Kd.C_alloc ?_ _) | (with_reducible refine Kd.C_drewN ?_ _) | (with_reducible refine Kd.C_drew ?_))); (case side2 => exact (Kd.R_reads' HO184.out).2.1); rintro e w' ⟨rfl, ⟨nd, rfl⟩⟩; have hcz30_0 : w27.cell? ⟨gb179, 0, none⟩ = some (.slice A0_0 l0_0.length c0_0) := (blk_cell BK179.out 0).trans rfl; have hcz30_1 : w27.cell? ⟨gb179, 1, none⟩ = some (.int .i64 a0_1) := (blk_cell BK179.out 1).trans rfl; have hcz30_2 : w27.cell? ⟨gb179, 2, none⟩ = some (.slice A0_2 l0_2.length c0_2) := (blk_cell BK179.out 2).trans rfl; have hcz30_3 : w27.cell? ⟨gb179, 3, none⟩ = some (.slice A0_3 l0_3.length c0_3) := (blk_cell BK179.out 3).trans rfl; have hcz30_4 : w27.cell? ⟨gb179, 4, none⟩ = some (.slice A0_4 l0_4.length c0_4) := (blk_cell BK179.out 4).trans rfl; have hcz30_5 : w27.cell? ⟨gb179, 5, none⟩ = some (.slice A0_5 l0_5.length c0_5) := (blk_cell BK179.out 5).trans rfl; have hcz30_6 : w27.cell? ⟨gb179, 6, none⟩ = some (.slice A0_6 l0_6.length c0_6) := (blk_cell BK179.out 6).trans rfl; have hcz30_7 : w27.cell? ⟨gb179, 7, none⟩ = some (.int .i64 a0_7) := (blk_cell BK179.out 7).trans rfl; have hcz30_8 : w27.cell? ⟨gb179, 8, none⟩ = some (.int .i64 a0_8) := (blk_cell BK179.out 8).trans rfl; have hcz30_9 : w27.cell? ⟨gb179, 9, none⟩ = some (.int .i64 a0_9) := (blk_cell BK179.out 9).trans rfl; have hfz30_0 := blk_frozen BK179.out 0; have hfz30_1 := blk_frozen BK179.out 1; have hfz30_2 := blk_frozen BK179.out 2; have hfz30_3 := blk_frozen BK179.out 3; have hfz30_4 := blk_frozen BK179.out 4; have hfz30_5 := blk_frozen BK179.out 5; have hfz30_6 := blk_frozen BK179.out 6; have hfz30_7 := blk_frozen BK179.out 7; have hfz30_8 := blk_frozen BK179.out 8; have hfz30_9 := blk_frozen BK179.out 9) | (go_at_call 56; (with_reducible refine (impl_isWord.calls _ _ l0_2 true _ ?side1 ?side2 A10.out).mono ?_); (case side1 => repeat (first | exact (Kd.C_below HR0_2.out (by repeat (first | (with_reducible first | exact HB.out | apply below_alloc | apply pw_below_drewN | apply below_drew1 | refine below_set ?_ GE179.out) | exact HB.out))) | (with_reducible refine Kd.C_alloc ?_ _) | (with_reducible refine Kd.C_drewN ?_ _) | (with_reducible refine Kd.C_drew ?_))); (case side2 => exact HC0_2.out); rintro e w' ⟨rfl, ⟨nd, rfl⟩⟩; have p187 : 0 ≤ (0 : Int) := (by omega); have q187 : 0 < (l0_2.length : Int) := of_decide_eq_true (by first | (with_reducible assumption) | assumption); obtain ⟨ad187, e187, hx187_0⟩ := Kd.at_int HR0_2.out 0 p187 q187; cases e187; have qi187 : (0 < l0_2.length) = True := eq_true (by omega); (try rw [show ((0 : Int)).toNat = 0 from rfl] at hx187_0); (try rw [Addr.add_zero'] at hx187_0); replace hx187_0 := (HB.out.cell (World.block_lt_of_cell? w _ hx187_0)).trans hx187_0; replace p187 := eq_true p187; replace q187 := eq_true q187) | (go_at_call 57; (with_reducible refine (impl_inside.calls a0_7 0 1000000 false _ A16.out).mono ?_); rintro e w' ⟨rfl, ⟨nd, rfl⟩⟩))
                        go_ret
                        exact ⟨by first | rfl | (simp [errW_none, errW_some] <;> rfl) | (simp [*, errW_none, errW_some] <;> rfl), by repeat (first | (with_reducible first | exact HB.out | apply below_alloc | apply pw_below_drewN | apply below_drew1 | refine below_set ?_ GE179.out) | exact HB.out)⟩
                    · rw [if_neg c15] at H
                      have c15b0 : decide ((l0_6.length : Int) ≤ 10000) = false := decide_eq_false c15
                      have c15b1 : decide (l0_6.length ≤ 10000) = false := decide_eq_false (by omega)
                      clear c15
                      obtain rfl := Option.some.inj H
                      go_enter Try.func19, Try.ntmps19
                      go_wp2_with (first | ((with_reducible refine gate_dst (N := 1) rfl ?_); (try (refine gate_guard (by rfl) ?_; dsimp only)); refine box_event ?hg (N := 1) ?hd (cs := #[.slice A0_0 l0_0.length c0_0, .int .i64 a0_1, .slice A0_2 l0_2.length c0_2, .slice A0_3 l0_3.length c0_3, .slice A0_4 l0_4.length c0_4, .slice A0_5 l0_5.length c0_5, .slice A0_6 l0_6.length c0_6, .int .i64 a0_7, .int .i64 a0_8, .int .i64 a0_9]) (t := 36) ?hr ?_; (case hd => rfl); (case hg => rfl); (case hr => first | (go_simp; done) | (go_simp; rfl)); intro gb179 hg w31 hbox hb; have n0_ := Aside0.mk (below_step (by repeat (first | (with_reducible first | exact HB.out | apply below_alloc | apply pw_below_drewN | apply below_drew1) | exact HB.out)) hb); have n1_ := Aside0.mk (hbox); have n2_ := Aside0.mk ((by rw [hg]; exact (below_size (by repeat (first | (with_reducible first | exact HB.out | apply below_alloc | apply pw_below_drewN | apply below_drew1) | exact HB.out))) : w.heap.size ≤ gb179)); have n3_ := Aside0.mk ((by rw [hg]; exact (below_size (by repeat (first | (with_reducible first | exact HB.out | apply below_alloc | apply pw_below_drewN | apply below_drew1) | exact HB.out))) : w.heap.size ≤ gb179)); clear HB; have HB := n0_; have BK179 := n1_; have GW179 := n2_; have GE179 := n3_; clear n0_ n1_ n2_ n3_; clear hb hbox hg; have hcz32_0 : w31.cell? ⟨gb179, 0, none⟩ = some (.slice A0_0 l0_0.length c0_0) := (blk_cell BK179.out 0).trans rfl; have hcz32_1 : w31.cell? ⟨gb179, 1, none⟩ = some (.int .i64 a0_1) := (blk_cell BK179.out 1).trans rfl; have hcz32_2 : w31.cell? ⟨gb179, 2, none⟩ = some (.slice A0_2 l0_2.length c0_2) := (blk_cell BK179.out 2).trans rfl; have hcz32_3 : w31.cell? ⟨gb179, 3, none⟩ = some (.slice A0_3 l0_3.length c0_3) := (blk_cell BK179.out 3).trans rfl; have hcz32_4 : w31.cell? ⟨gb179, 4, none⟩ = some (.slice A0_4 l0_4.length c0_4) := (blk_cell BK179.out 4).trans rfl; have hcz32_5 : w31.cell? ⟨gb179, 5, none⟩ = some (.slice A0_5 l0_5.length c0_5) := (blk_cell BK179.out 5).trans rfl; have hcz32_6 : w31.cell? ⟨gb179, 6, none⟩ = some (.slice A0_6 l0_6.length c0_6) := (blk_cell BK179.out 6).trans rfl; have hcz32_7 : w31.cell? ⟨gb179, 7, none⟩ = some (.int .i64 a0_7) := (blk_cell BK179.out 7).trans rfl; have hcz32_8 : w31.cell? ⟨gb179, 8, none⟩ = some (.int .i64 a0_8) := (blk_cell BK179.out 8).trans rfl; have hcz32_9 : w31.cell? ⟨gb179, 9, none⟩ = some (.int .i64 a0_9) := (blk_cell BK179.out 9).trans rfl; have hfz32_0 := blk_frozen BK179.out 0; have hfz32_1 := blk_frozen BK179.out 1; have hfz32_2 := blk_frozen BK179.out 2; have hfz32_3 := blk_frozen BK179.out 3; have hfz32_4 := blk_frozen BK179.out 4; have hfz32_5 := blk_frozen BK179.out 5; have hfz32_6 := blk_frozen BK179.out 6; have hfz32_7 := blk_frozen BK179.out 7; have hfz32_8 := blk_frozen BK179.out 8; have hfz32_9 := blk_frozen BK179.out 9) | ((with_reducible refine gate_callee (f := 51) rfl ?_); refine goesL_ (some 5) rfl rfl Try.func51 (by kernel_rfl) rfl #[.slice A0_0 l0_0.length c0_0] rfl (by (try simp only [List.map_toArray, List.map_cons, List.map_nil]); first | done | rfl | (simp only [List.length_drop, List.length_take]; rfl)) ?_; (with_reducible refine (impl_codeOk.calls _ _ l0_0 true _ ?side1 ?side2 A2.out).mono ?_); (case side1 => repeat (first | exact (Kd.C_below HR0_0.out HB.out) | (with_reducible refine Kd.C_alloc ?_ _) | (with_reducible refine Kd.C_drewN ?_ _) | (with_reducible refine Kd.C_drew ?_))); (case side2 => exact HC0_0.out); rintro e w' ⟨rfl, ⟨nd, rfl⟩⟩; refine ⟨_, rfl, ?_⟩) | (go_at_call 53; (with_reducible refine (impl_stackOk.calls (l0_4.length : Int) true _ A5.out).mono ?_); rintro e w' ⟨rfl, ⟨nd, rfl⟩⟩) | ((with_reducible refine gate_dst (N := 23) rfl ?_); (try (refine gate_guard (by rfl) ?_; dsimp only)); refine Kd.R_lit (Kd.int .i64) _ 3 ?hg (N := 23) ?hd (xs := ([a0_1, a0_9] : List Int)) (inner := [.int .i64 a0_1, .int .i64 a0_9]) (ok := fun _ => True) (okp := fun _ => True) ?hr ?hp (fun _ hk => hk) trivial (Below.refl _ _) (Nat.le_refl _) (by simp) ?_; (case hd => rfl); (case hg => rfl); (case hr => first | (go_simp; done) | (go_simp; rfl)); (case hp => exact (Reps.one (show Kd.M (Kd.int .i64) _ _ _ a0_1 [.int .i64 a0_1] from rfl) (Reps.one (show Kd.M (Kd.int .i64) _ _ _ a0_9 [.int .i64 a0_9] from rfl) (Reps.none _ _)))); intro v183 w33 ho34 hb hg_ hnew_; clear hg_ hnew_; (first | rw [← Ny182.out] at ho34 | (simp only [Int.reduceToNat] at ho34; rw [← Ny182.out] at ho34)); have n0_ := Aside0.mk (Kd.R_lower ho34 (below_size (by repeat (first | (with_reducible first | exact HB.out | apply below_alloc | apply pw_below_drewN | apply below_drew1 | refine below_set ?_ GE179.out) | exact HB.out)))); have n1_ := Aside0.mk (blk_below (g := gb179) (o := .cells #[.slice A0_0 l0_0.length c0_0, .int .i64 a0_1, .slice A0_2 l0_2.length c0_2, .slice A0_3 l0_3.length c0_3, .slice A0_4 l0_4.length c0_4, .slice A0_5 l0_5.length c0_5, .slice A0_6 l0_6.length c0_6, .int .i64 a0_7, .int .i64 a0_8, .int .i64 a0_9] 36 (0, 0)) (by (with_reducible repeat (first | refine blk_drewN ?_ _ | refine blk_drew ?_ | refine blk_alloc ?_ _)); exact BK179.out) hb); have n2_ := Aside0.mk (below_step (by repeat (first | (with_reducible first | exact HB.out | apply below_alloc | apply pw_below_drewN | apply below_drew1 | refine below_set ?_ GE179.out) | exact HB.out)) hb); clear BK179; clear HB; have HO184 := n0_; have BK179 := n1_; have HB := n2_; clear n0_ n1_ n2_; clear hb ho34; obtain ⟨Ao35, co35, eo35⟩ := Kd.R_slice HO184.out; subst eo35) | (go_at_call 56; (with_reducible refine (impl_isWord.calls _ _ y182 true _ ?side1 ?side2 A7.out).mono ?_); (case side1 => repeat (first | exact (Kd.R_reads' HO184.out).2.2 | (with_reducible refine Kd.C_alloc ?_ _) | (with_reducible refine Kd.C_drewN ?_ _) | (with_reducible refine Kd.C_drew ?_))); (case side2 => exact (Kd.R_reads' HO184.out).2.1); rintro e w' ⟨rfl, ⟨nd, rfl⟩⟩; have hcz36_0 : w33.cell? ⟨gb179, 0, none⟩ = some (.slice A0_0 l0_0.length c0_0) := (blk_cell BK179.out 0).trans rfl; have hcz36_1 : w33.cell? ⟨gb179, 1, none⟩ = some (.int .i64 a0_1) := (blk_cell BK179.out 1).trans rfl; have hcz36_2 : w33.cell? ⟨gb179, 2, none⟩ = some (.slice A0_2 l0_2.length c0_2) := (blk_cell BK179.out 2).trans rfl; have hcz36_3 : w33.cell? ⟨gb179, 3, none⟩ = some (.slice A0_3 l0_3.length c0_3) := (blk_cell BK179.out 3).trans rfl; have hcz36_4 : w33.cell? ⟨gb179, 4, none⟩ = some (.slice A0_4 l0_4.length c0_4) := (blk_cell BK179.out 4).trans rfl; have hcz36_5 : w33.cell? ⟨gb179, 5, none⟩ = some (.slice A0_5 l0_5.length c0_5) := (blk_cell BK179.out 5).trans rfl; have hcz36_6 : w33.cell? ⟨gb179, 6, none⟩ = some (.slice A0_6 l0_6.length c0_6) := (blk_cell BK179.out 6).trans rfl; have hcz36_7 : w33.cell? ⟨gb179, 7, none⟩ = some (.int .i64 a0_7) := (blk_cell BK179.out 7).trans rfl; have hcz36_8 : w33.cell? ⟨gb179, 8, none⟩ = some (.int .i64 a0_8) := (blk_cell BK179.out 8).trans rfl; have hcz36_9 : w33.cell? ⟨gb179, 9, none⟩ = some (.int .i64 a0_9) := (blk_cell BK179.out 9).trans rfl; have hfz36_0 := blk_frozen BK179.out 0; have hfz36_1 := blk_frozen BK179.out 1; have hfz36_2 := blk_frozen BK179.out 2; have hfz36_3 := blk_frozen BK179.out 3; have hfz36_4 := blk_frozen BK179.out 4; have hfz36_5 := blk_frozen BK179.out 5; have hfz36_6 := blk_frozen BK179.out 6; have hfz36_7 := blk_frozen BK179.out 7; have hfz36_8 := blk_frozen BK179.out 8; have hfz36_9 := blk_frozen BK179.out 9) | (go_at_call 56; (with_reducible refine (impl_isWord.calls _ _ l0_2 true _ ?side1 ?side2 A10.out).mono ?_); (case side1 => repeat (first | exact (Kd.C_below HR0_2.out (by repeat (first | (with_reducible first | exact HB.out | apply below_alloc | apply pw_below_drewN | apply below_drew1 | refine below_set ?_ GE179.out) | exact HB.out))) | (with_reducible refine Kd.C_alloc ?_ _) | (with_reducible refine Kd.C_drewN ?_ _) | (with_reducible refine Kd.C_drew ?_))); (case side2 => exact HC0_2.out); rintro e w' ⟨rfl, ⟨nd, rfl⟩⟩; have p187 : 0 ≤ (0 : Int) := (by omega); have q187 : 0 < (l0_2.length : Int) := of_decide_eq_true (by first | (with_reducible assumption) | assumption); obtain ⟨ad187, e187, hx187_0⟩ := Kd.at_int HR0_2.out 0 p187 q187; cases e187; have qi187 : (0 < l0_2.length) = True := eq_true (by omega); (try rw [show ((0 : Int)).toNat = 0 from rfl] at hx187_0); (try rw [Addr.add_zero'] at hx187_0); replace hx187_0 := (HB.out.cell (World.block_lt_of_cell? w _ hx187_0)).trans hx187_0; replace p187 := eq_true p187; replace q187 := eq_true q187))
                      go_ret
                      exact ⟨by first | rfl | (simp [errW_none, errW_some] <;> rfl) | (simp [*, errW_none, errW_some] <;> rfl), by repeat (first | (with_reducible first | exact HB.out | apply below_alloc | apply pw_below_drewN | apply below_drew1 | refine below_set ?_ GE179.out) | exact HB.out)⟩
                  · rw [if_neg c14] at H
                    have c14b0 : decide ((l0_5.length : Int) ≤ 10000) = false := decide_eq_false c14
                    have c14b1 : decide (l0_5.length ≤ 10000) = false := decide_eq_false (by omega)
                    clear c14
                    obtain rfl := Option.some.inj H
                    go_enter Try.func19, Try.ntmps19
                    go_wp2_with (first | ((with_reducible refine gate_dst (N := 1) rfl ?_); (try (refine gate_guard (by rfl) ?_; dsimp only)); refine box_event ?hg (N := 1) ?hd (cs := #[.slice A0_0 l0_0.length c0_0, .int .i64 a0_1, .slice A0_2 l0_2.length c0_2, .slice A0_3 l0_3.length c0_3, .slice A0_4 l0_4.length c0_4, .slice A0_5 l0_5.length c0_5, .slice A0_6 l0_6.length c0_6, .int .i64 a0_7, .int .i64 a0_8, .int .i64 a0_9]) (t := 36) ?hr ?_; (case hd => rfl); (case hg => rfl); (case hr => first | (go_simp; done) | (go_simp; rfl)); intro gb179 hg w37 hbox hb; have n0_ := Aside0.mk (below_step (by repeat (first | (with_reducible first | exact HB.out | apply below_alloc | apply pw_below_drewN | apply below_drew1) | exact HB.out)) hb); have n1_ := Aside0.mk (hbox); have n2_ := Aside0.mk ((by rw [hg]; exact (below_size (by repeat (first | (with_reducible first | exact HB.out | apply below_alloc | apply pw_below_drewN | apply below_drew1) | exact HB.out))) : w.heap.size ≤ gb179)); have n3_ := Aside0.mk ((by rw [hg]; exact (below_size (by repeat (first | (with_reducible first | exact HB.out | apply below_alloc | apply pw_below_drewN | apply below_drew1) | exact HB.out))) : w.heap.size ≤ gb179)); clear HB; have HB := n0_; have BK179 := n1_; have GW179 := n2_; have GE179 := n3_; clear n0_ n1_ n2_ n3_; clear hb hbox hg; have hcz38_0 : w37.cell? ⟨gb179, 0, none⟩ = some (.slice A0_0 l0_0.length c0_0) := (blk_cell BK179.out 0).trans rfl; have hcz38_1 : w37.cell? ⟨gb179, 1, none⟩ = some (.int .i64 a0_1) := (blk_cell BK179.out 1).trans rfl; have hcz38_2 : w37.cell? ⟨gb179, 2, none⟩ = some (.slice A0_2 l0_2.length c0_2) := (blk_cell BK179.out 2).trans rfl; have hcz38_3 : w37.cell? ⟨gb179, 3, none⟩ = some (.slice A0_3 l0_3.length c0_3) := (blk_cell BK179.out 3).trans rfl; have hcz38_4 : w37.cell? ⟨gb179, 4, none⟩ = some (.slice A0_4 l0_4.length c0_4) := (blk_cell BK179.out 4).trans rfl; have hcz38_5 : w37.cell? ⟨gb179, 5, none⟩ = some (.slice A0_5 l0_5.length c0_5) := (blk_cell BK179.out 5).trans rfl; have hcz38_6 : w37.cell? ⟨gb179, 6, none⟩ = some (.slice A0_6 l0_6.length c0_6) := (blk_cell BK179.out 6).trans rfl; have hcz38_7 : w37.cell? ⟨gb179, 7, none⟩ = some (.int .i64 a0_7) := (blk_cell BK179.out 7).trans rfl; have hcz38_8 : w37.cell? ⟨gb179, 8, none⟩ = some (.int .i64 a0_8) := (blk_cell BK179.out 8).trans rfl; have hcz38_9 : w37.cell? ⟨gb179, 9, none⟩ = some (.int .i64 a0_9) := (blk_cell BK179.out 9).trans rfl; have hfz38_0 := blk_frozen BK179.out 0; have hfz38_1 := blk_frozen BK179.out 1; have hfz38_2 := blk_frozen BK179.out 2; have hfz38_3 := blk_frozen BK179.out 3; have hfz38_4 := blk_frozen BK179.out 4; have hfz38_5 := blk_frozen BK179.out 5; have hfz38_6 := blk_frozen BK179.out 6; have hfz38_7 := blk_frozen BK179.out 7; have hfz38_8 := blk_frozen BK179.out 8; have hfz38_9 := blk_frozen BK179.out 9) | ((with_reducible refine gate_callee (f := 51) rfl ?_); refine goesL_ (some 5) rfl rfl Try.func51 (by kernel_rfl) rfl #[.slice A0_0 l0_0.length c0_0] rfl (by (try simp only [List.map_toArray, List.map_cons, List.map_nil]); first | done | rfl | (simp only [List.length_drop, List.length_take]; rfl)) ?_; (with_reducible refine (impl_codeOk.calls _ _ l0_0 true _ ?side1 ?side2 A2.out).mono ?_); (case side1 => repeat (first | exact (Kd.C_below HR0_0.out HB.out) | (with_reducible refine Kd.C_alloc ?_ _) | (with_reducible refine Kd.C_drewN ?_ _) | (with_reducible refine Kd.C_drew ?_))); (case side2 => exact HC0_0.out); rintro e w' ⟨rfl, ⟨nd, rfl⟩⟩; refine ⟨_, rfl, ?_⟩) | (go_at_call 53; (with_reducible refine (impl_stackOk.calls (l0_4.length : Int) true _ A5.out).mono ?_); rintro e w' ⟨rfl, ⟨nd, rfl⟩⟩) | ((with_reducible refine gate_dst (N := 23) rfl ?_); (try (refine gate_guard (by rfl) ?_; dsimp only)); refine Kd.R_lit (Kd.int .i64) _ 3 ?hg (N := 23) ?hd (xs := ([a0_1, a0_9] : List Int)) (inner := [.int .i64 a0_1, .int .i64 a0_9]) (ok := fun _ => True) (okp := fun _ => True) ?hr ?hp (fun _ hk => hk) trivial (Below.refl _ _) (Nat.le_refl _) (by simp) ?_; (case hd => rfl); (case hg => rfl); (case hr => first | (go_simp; done) | (go_simp; rfl)); (case hp => exact (Reps.one (show Kd.M (Kd.int .i64) _ _ _ a0_1 [.int .i64 a0_1] from rfl) (Reps.one (show Kd.M (Kd.int .i64) _ _ _ a0_9 [.int .i64 a0_9] from rfl) (Reps.none _ _)))); intro v183 w39 ho40 hb hg_ hnew_; clear hg_ hnew_; (first | rw [← Ny182.out] at ho40 | (simp only [Int.reduceToNat] at ho40; rw [← Ny182.out] at ho40)); have n0_ := Aside0.mk (Kd.R_lower ho40 (below_size (by repeat (first | (with_reducible first | exact HB.out | apply below_alloc | apply pw_below_drewN | apply below_drew1 | refine below_set ?_ GE179.out) | exact HB.out)))); have n1_ := Aside0.mk (blk_below (g := gb179) (o := .cells #[.slice A0_0 l0_0.length c0_0, .int .i64 a0_1, .slice A0_2 l0_2.length c0_2, .slice A0_3 l0_3.length c0_3, .slice A0_4 l0_4.length c0_4, .slice A0_5 l0_5.length c0_5, .slice A0_6 l0_6.length c0_6, .int .i64 a0_7, .int .i64 a0_8, .int .i64 a0_9] 36 (0, 0)) (by (with_reducible repeat (first | refine blk_drewN ?_ _ | refine blk_drew ?_ | refine blk_alloc ?_ _)); exact BK179.out) hb); have n2_ := Aside0.mk (below_step (by repeat (first | (with_reducible first | exact HB.out | apply below_alloc | apply pw_below_drewN | apply below_drew1 | refine below_set ?_ GE179.out) | exact HB.out)) hb); clear BK179; clear HB; have HO184 := n0_; have BK179 := n1_; have HB := n2_; clear n0_ n1_ n2_; clear hb ho40; obtain ⟨Ao41, co41, eo41⟩ := Kd.R_slice HO184.out; subst eo41) | (go_at_call 56; (with_reducible refine (impl_isWord.calls _ _ y182 true _ ?side1 ?side2 A7.out).mono ?_); (case side1 => repeat (first | exact (Kd.R_reads' HO184.out).2.2 | (with_reducible refine Kd.C_alloc ?_ _) | (with_reducible refine Kd.C_drewN ?_ _) | (with_reducible refine Kd.C_drew ?_))); (case side2 => exact (Kd.R_reads' HO184.out).2.1); rintro e w' ⟨rfl, ⟨nd, rfl⟩⟩; have hcz42_0 : w39.cell? ⟨gb179, 0, none⟩ = some (.slice A0_0 l0_0.length c0_0) := (blk_cell BK179.out 0).trans rfl; have hcz42_1 : w39.cell? ⟨gb179, 1, none⟩ = some (.int .i64 a0_1) := (blk_cell BK179.out 1).trans rfl; have hcz42_2 : w39.cell? ⟨gb179, 2, none⟩ = some (.slice A0_2 l0_2.length c0_2) := (blk_cell BK179.out 2).trans rfl; have hcz42_3 : w39.cell? ⟨gb179, 3, none⟩ = some (.slice A0_3 l0_3.length c0_3) := (blk_cell BK179.out 3).trans rfl; have hcz42_4 : w39.cell? ⟨gb179, 4, none⟩ = some (.slice A0_4 l0_4.length c0_4) := (blk_cell BK179.out 4).trans rfl; have hcz42_5 : w39.cell? ⟨gb179, 5, none⟩ = some (.slice A0_5 l0_5.length c0_5) := (blk_cell BK179.out 5).trans rfl; have hcz42_6 : w39.cell? ⟨gb179, 6, none⟩ = some (.slice A0_6 l0_6.length c0_6) := (blk_cell BK179.out 6).trans rfl; have hcz42_7 : w39.cell? ⟨gb179, 7, none⟩ = some (.int .i64 a0_7) := (blk_cell BK179.out 7).trans rfl; have hcz42_8 : w39.cell? ⟨gb179, 8, none⟩ = some (.int .i64 a0_8) := (blk_cell BK179.out 8).trans rfl; have hcz42_9 : w39.cell? ⟨gb179, 9, none⟩ = some (.int .i64 a0_9) := (blk_cell BK179.out 9).trans rfl; have hfz42_0 := blk_frozen BK179.out 0; have hfz42_1 := blk_frozen BK179.out 1; have hfz42_2 := blk_frozen BK179.out 2; have hfz42_3 := blk_frozen BK179.out 3; have hfz42_4 := blk_frozen BK179.out 4; have hfz42_5 := blk_frozen BK179.out 5; have hfz42_6 := blk_frozen BK179.out 6; have hfz42_7 := blk_frozen BK179.out 7; have hfz42_8 := blk_frozen BK179.out 8; have hfz42_9 := blk_frozen BK179.out 9) | (go_at_call 56; (with_reducible refine (impl_isWord.calls _ _ l0_2 true _ ?side1 ?side2 A10.out).mono ?_); (case side1 => repeat (first | exact (Kd.C_below HR0_2.out (by repeat (first | (with_reducible first | exact HB.out | apply below_alloc | apply pw_below_drewN | apply below_drew1 | refine below_set ?_ GE179.out) | exact HB.out))) | (with_reducible refine Kd.C_alloc ?_ _) | (with_reducible refine Kd.C_drewN ?_ _) | (with_reducible refine Kd.C_drew ?_))); (case side2 => exact HC0_2.out); rintro e w' ⟨rfl, ⟨nd, rfl⟩⟩; have p187 : 0 ≤ (0 : Int) := (by omega); have q187 : 0 < (l0_2.length : Int) := of_decide_eq_true (by first | (with_reducible assumption) | assumption); obtain ⟨ad187, e187, hx187_0⟩ := Kd.at_int HR0_2.out 0 p187 q187; cases e187; have qi187 : (0 < l0_2.length) = True := eq_true (by omega); (try rw [show ((0 : Int)).toNat = 0 from rfl] at hx187_0); (try rw [Addr.add_zero'] at hx187_0); replace hx187_0 := (HB.out.cell (World.block_lt_of_cell? w _ hx187_0)).trans hx187_0; replace p187 := eq_true p187; replace q187 := eq_true q187))
                    go_ret
                    exact ⟨by first | rfl | (simp [errW_none, errW_some] <;> rfl) | (simp [*, errW_none, errW_some] <;> rfl), by repeat (first | (with_reducible first | exact HB.out | apply below_alloc | apply pw_below_drewN | apply below_drew1 | refine below_set ?_ GE179.out) | exact HB.out)⟩
                · rw [if_neg c13] at H
                  have c13b0 : ((rd l0_2 0) == 0) = false := beq_eq_false_iff_ne.mpr c13
                  have c13b1 : ((rd l0_2 0) != 0) = true := bne_iff_ne.mpr c13
                  obtain rfl := Option.some.inj H
                  go_enter Try.func19, Try.ntmps19
                  go_wp2_with (first | ((with_reducible refine gate_dst (N := 1) rfl ?_); (try (refine gate_guard (by rfl) ?_; dsimp only)); refine box_event ?hg (N := 1) ?hd (cs := #[.slice A0_0 l0_0.length c0_0, .int .i64 a0_1, .slice A0_2 l0_2.length c0_2, .slice A0_3 l0_3.length c0_3, .slice A0_4 l0_4.length c0_4, .slice A0_5 l0_5.length c0_5, .slice A0_6 l0_6.length c0_6, .int .i64 a0_7, .int .i64 a0_8, .int .i64 a0_9]) (t := 36) ?hr ?_; (case hd => rfl); (case hg => rfl); (case hr => first | (go_simp; done) | (go_simp; rfl)); intro gb179 hg w43 hbox hb; have n0_ := Aside0.mk (below_step (by repeat (first | (with_reducible first | exact HB.out | apply below_alloc | apply pw_below_drewN | apply below_drew1) | exact HB.out)) hb); have n1_ := Aside0.mk (hbox); have n2_ := Aside0.mk ((by rw [hg]; exact (below_size (by repeat (first | (with_reducible first | exact HB.out | apply below_alloc | apply pw_below_drewN | apply below_drew1) | exact HB.out))) : w.heap.size ≤ gb179)); have n3_ := Aside0.mk ((by rw [hg]; exact (below_size (by repeat (first | (with_reducible first | exact HB.out | apply below_alloc | apply pw_below_drewN | apply below_drew1) | exact HB.out))) : w.heap.size ≤ gb179)); clear HB; have HB := n0_; have BK179 := n1_; have GW179 := n2_; have GE179 := n3_; clear n0_ n1_ n2_ n3_; clear hb hbox hg; have hcz44_0 : w43.cell? ⟨gb179, 0, none⟩ = some (.slice A0_0 l0_0.length c0_0) := (blk_cell BK179.out 0).trans rfl; have hcz44_1 : w43.cell? ⟨gb179, 1, none⟩ = some (.int .i64 a0_1) := (blk_cell BK179.out 1).trans rfl; have hcz44_2 : w43.cell? ⟨gb179, 2, none⟩ = some (.slice A0_2 l0_2.length c0_2) := (blk_cell BK179.out 2).trans rfl; have hcz44_3 : w43.cell? ⟨gb179, 3, none⟩ = some (.slice A0_3 l0_3.length c0_3) := (blk_cell BK179.out 3).trans rfl; have hcz44_4 : w43.cell? ⟨gb179, 4, none⟩ = some (.slice A0_4 l0_4.length c0_4) := (blk_cell BK179.out 4).trans rfl; have hcz44_5 : w43.cell? ⟨gb179, 5, none⟩ = some (.slice A0_5 l0_5.length c0_5) := (blk_cell BK179.out 5).trans rfl; have hcz44_6 : w43.cell? ⟨gb179, 6, none⟩ = some (.slice A0_6 l0_6.length c0_6) := (blk_cell BK179.out 6).trans rfl; have hcz44_7 : w43.cell? ⟨gb179, 7, none⟩ = some (.int .i64 a0_7) := (blk_cell BK179.out 7).trans rfl; have hcz44_8 : w43.cell? ⟨gb179, 8, none⟩ = some (.int .i64 a0_8) := (blk_cell BK179.out 8).trans rfl; have hcz44_9 : w43.cell? ⟨gb179, 9, none⟩ = some (.int .i64 a0_9) := (blk_cell BK179.out 9).trans rfl; have hfz44_0 := blk_frozen BK179.out 0; have hfz44_1 := blk_frozen BK179.out 1; have hfz44_2 := blk_frozen BK179.out 2; have hfz44_3 := blk_frozen BK179.out 3; have hfz44_4 := blk_frozen BK179.out 4; have hfz44_5 := blk_frozen BK179.out 5; have hfz44_6 := blk_frozen BK179.out 6; have hfz44_7 := blk_frozen BK179.out 7; have hfz44_8 := blk_frozen BK179.out 8; have hfz44_9 := blk_frozen BK179.out 9) | ((with_reducible refine gate_callee (f := 51) rfl ?_); refine goesL_ (some 5) rfl rfl Try.func51 (by kernel_rfl) rfl #[.slice A0_0 l0_0.length c0_0] rfl (by (try simp only [List.map_toArray, List.map_cons, List.map_nil]); first | done | rfl | (simp only [List.length_drop, List.length_take]; rfl)) ?_; (with_reducible refine (impl_codeOk.calls _ _ l0_0 true _ ?side1 ?side2 A2.out).mono ?_); (case side1 => repeat (first | exact (Kd.C_below HR0_0.out HB.out) | (with_reducible refine Kd.C_alloc ?_ _) | (with_reducible refine Kd.C_drewN ?_ _) | (with_reducible refine Kd.C_drew ?_))); (case side2 => exact HC0_0.out); rintro e w' ⟨rfl, ⟨nd, rfl⟩⟩; refine ⟨_, rfl, ?_⟩) | (go_at_call 53; (with_reducible refine (impl_stackOk.calls (l0_4.length : Int) true _ A5.out).mono ?_); rintro e w' ⟨rfl, ⟨nd, rfl⟩⟩) | ((with_reducible refine gate_dst (N := 23) rfl ?_); (try (refine gate_guard (by rfl) ?_; dsimp only)); refine Kd.R_lit (Kd.int .i64) _ 3 ?hg (N := 23) ?hd (xs := ([a0_1, a0_9] : List Int)) (inner := [.int .i64 a0_1, .int .i64 a0_9]) (ok := fun _ => True) (okp := fun _ => True) ?hr ?hp (fun _ hk => hk) trivial (Below.refl _ _) (Nat.le_refl _) (by simp) ?_; (case hd => rfl); (case hg => rfl); (case hr => first | (go_simp; done) | (go_simp; rfl)); (case hp => exact (Reps.one (show Kd.M (Kd.int .i64) _ _ _ a0_1 [.int .i64 a0_1] from rfl) (Reps.one (show Kd.M (Kd.int .i64) _ _ _ a0_9 [.int .i64 a0_9] from rfl) (Reps.none _ _)))); intro v183 w45 ho46 hb hg_ hnew_; clear hg_ hnew_; (first | rw [← Ny182.out] at ho46 | (simp only [Int.reduceToNat] at ho46; rw [← Ny182.out] at ho46)); have n0_ := Aside0.mk (Kd.R_lower ho46 (below_size (by repeat (first | (with_reducible first | exact HB.out | apply below_alloc | apply pw_below_drewN | apply below_drew1 | refine below_set ?_ GE179.out) | exact HB.out)))); have n1_ := Aside0.mk (blk_below (g := gb179) (o := .cells #[.slice A0_0 l0_0.length c0_0, .int .i64 a0_1, .slice A0_2 l0_2.length c0_2, .slice A0_3 l0_3.length c0_3, .slice A0_4 l0_4.length c0_4, .slice A0_5 l0_5.length c0_5, .slice A0_6 l0_6.length c0_6, .int .i64 a0_7, .int .i64 a0_8, .int .i64 a0_9] 36 (0, 0)) (by (with_reducible repeat (first | refine blk_drewN ?_ _ | refine blk_drew ?_ | refine blk_alloc ?_ _)); exact BK179.out) hb); have n2_ := Aside0.mk (below_step (by repeat (first | (with_reducible first | exact HB.out | apply below_alloc | apply pw_below_drewN | apply below_drew1 | refine below_set ?_ GE179.out) | exact HB.out)) hb); clear BK179; clear HB; have HO184 := n0_; have BK179 := n1_; have HB := n2_; clear n0_ n1_ n2_; clear hb ho46; obtain ⟨Ao47, co47, eo47⟩ := Kd.R_slice HO184.out; subst eo47) | (go_at_call 56; (with_reducible refine (impl_isWord.calls _ _ y182 true _ ?side1 ?side2 A7.out).mono ?_); (case side1 => repeat (first | exact (Kd.R_reads' HO184.out).2.2 | (with_reducible refine Kd.C_alloc ?_ _) | (with_reducible refine Kd.C_drewN ?_ _) | (with_reducible refine Kd.C_drew ?_))); (case side2 => exact (Kd.R_reads' HO184.out).2.1); rintro e w' ⟨rfl, ⟨nd, rfl⟩⟩; have hcz48_0 : w45.cell? ⟨gb179, 0, none⟩ = some (.slice A0_0 l0_0.length c0_0) := (blk_cell BK179.out 0).trans rfl; have hcz48_1 : w45.cell? ⟨gb179, 1, none⟩ = some (.int .i64 a0_1) := (blk_cell BK179.out 1).trans rfl; have hcz48_2 : w45.cell? ⟨gb179, 2, none⟩ = some (.slice A0_2 l0_2.length c0_2) := (blk_cell BK179.out 2).trans rfl; have hcz48_3 : w45.cell? ⟨gb179, 3, none⟩ = some (.slice A0_3 l0_3.length c0_3) := (blk_cell BK179.out 3).trans rfl; have hcz48_4 : w45.cell? ⟨gb179, 4, none⟩ = some (.slice A0_4 l0_4.length c0_4) := (blk_cell BK179.out 4).trans rfl; have hcz48_5 : w45.cell? ⟨gb179, 5, none⟩ = some (.slice A0_5 l0_5.length c0_5) := (blk_cell BK179.out 5).trans rfl; have hcz48_6 : w45.cell? ⟨gb179, 6, none⟩ = some (.slice A0_6 l0_6.length c0_6) := (blk_cell BK179.out 6).trans rfl; have hcz48_7 : w45.cell? ⟨gb179, 7, none⟩ = some (.int .i64 a0_7) := (blk_cell BK179.out 7).trans rfl; have hcz48_8 : w45.cell? ⟨gb179, 8, none⟩ = some (.int .i64 a0_8) := (blk_cell BK179.out 8).trans rfl; have hcz48_9 : w45.cell? ⟨gb179, 9, none⟩ = some (.int .i64 a0_9) := (blk_cell BK179.out 9).trans rfl; have hfz48_0 := blk_frozen BK179.out 0; have hfz48_1 := blk_frozen BK179.out 1; have hfz48_2 := blk_frozen BK179.out 2; have hfz48_3 := blk_frozen BK179.out 3; have hfz48_4 := blk_frozen BK179.out 4; have hfz48_5 := blk_frozen BK179.out 5; have hfz48_6 := blk_frozen BK179.out 6; have hfz48_7 := blk_frozen BK179.out 7; have hfz48_8 := blk_frozen BK179.out 8; have hfz48_9 := blk_frozen BK179.out 9) | (go_at_call 56; (with_reducible refine (impl_isWord.calls _ _ l0_2 true _ ?side1 ?side2 A10.out).mono ?_); (case side1 => repeat (first | exact (Kd.C_below HR0_2.out (by repeat (first | (with_reducible first | exact HB.out | apply below_alloc | apply pw_below_drewN | apply below_drew1 | refine below_set ?_ GE179.out) | exact HB.out))) | (with_reducible refine Kd.C_alloc ?_ _) | (with_reducible refine Kd.C_drewN ?_ _) | (with_reducible refine Kd.C_drew ?_))); (case side2 => exact HC0_2.out); rintro e w' ⟨rfl, ⟨nd, rfl⟩⟩; have p187 : 0 ≤ (0 : Int) := (by omega); have q187 : 0 < (l0_2.length : Int) := of_decide_eq_true (by first | (with_reducible assumption) | assumption); obtain ⟨ad187, e187, hx187_0⟩ := Kd.at_int HR0_2.out 0 p187 q187; cases e187; have qi187 : (0 < l0_2.length) = True := eq_true (by omega); (try rw [show ((0 : Int)).toNat = 0 from rfl] at hx187_0); (try rw [Addr.add_zero'] at hx187_0); replace hx187_0 := (HB.out.cell (World.block_lt_of_cell? w _ hx187_0)).trans hx187_0; replace p187 := eq_true p187; replace q187 := eq_true q187))
                  go_ret
                  exact ⟨by first | rfl | (simp [errW_none, errW_some] <;> rfl) | (simp [*, errW_none, errW_some] <;> rfl), by repeat (first | (with_reducible first | exact HB.out | apply below_alloc | apply pw_below_drewN | apply below_drew1 | refine below_set ?_ GE179.out) | exact HB.out)⟩
              · rw [if_neg c12] at H
                exact absurd H (by simp)
            · replace c11 := Bool.eq_false_iff.mpr c11
              subst c11
              have H1 : (some false) = some r := by rw [if_neg (show ¬ (false = true) by decide)] at H; exact H
              clear H
              have H := H1
              clear H1
              obtain rfl := Option.some.inj H
              go_enter Try.func19, Try.ntmps19
              go_wp2_with (first | ((with_reducible refine gate_dst (N := 1) rfl ?_); (try (refine gate_guard (by rfl) ?_; dsimp only)); refine box_event ?hg (N := 1) ?hd (cs := #[.slice A0_0 l0_0.length c0_0, .int .i64 a0_1, .slice A0_2 l0_2.length c0_2, .slice A0_3 l0_3.length c0_3, .slice A0_4 l0_4.length c0_4, .slice A0_5 l0_5.length c0_5, .slice A0_6 l0_6.length c0_6, .int .i64 a0_7, .int .i64 a0_8, .int .i64 a0_9]) (t := 36) ?hr ?_; (case hd => rfl); (case hg => rfl); (case hr => first | (go_simp; done) | (go_simp; rfl)); intro gb179 hg w49 hbox hb; have n0_ := Aside0.mk (below_step (by repeat (first | (with_reducible first | exact HB.out | apply below_alloc | apply pw_below_drewN | apply below_drew1) | exact HB.out)) hb); have n1_ := Aside0.mk (hbox); have n2_ := Aside0.mk ((by rw [hg]; exact (below_size (by repeat (first | (with_reducible first | exact HB.out | apply below_alloc | apply pw_below_drewN | apply below_drew1) | exact HB.out))) : w.heap.size ≤ gb179)); have n3_ := Aside0.mk ((by rw [hg]; exact (below_size (by repeat (first | (with_reducible first | exact HB.out | apply below_alloc | apply pw_below_drewN | apply below_drew1) | exact HB.out))) : w.heap.size ≤ gb179)); clear HB; have HB := n0_; have BK179 := n1_; have GW179 := n2_; have GE179 := n3_; clear n0_ n1_ n2_ n3_; clear hb hbox hg; have hcz50_0 : w49.cell? ⟨gb179, 0, none⟩ = some (.slice A0_0 l0_0.length c0_0) := (blk_cell BK179.out 0).trans rfl; have hcz50_1 : w49.cell? ⟨gb179, 1, none⟩ = some (.int .i64 a0_1) := (blk_cell BK179.out 1).trans rfl; have hcz50_2 : w49.cell? ⟨gb179, 2, none⟩ = some (.slice A0_2 l0_2.length c0_2) := (blk_cell BK179.out 2).trans rfl; have hcz50_3 : w49.cell? ⟨gb179, 3, none⟩ = some (.slice A0_3 l0_3.length c0_3) := (blk_cell BK179.out 3).trans rfl; have hcz50_4 : w49.cell? ⟨gb179, 4, none⟩ = some (.slice A0_4 l0_4.length c0_4) := (blk_cell BK179.out 4).trans rfl; have hcz50_5 : w49.cell? ⟨gb179, 5, none⟩ = some (.slice A0_5 l0_5.length c0_5) := (blk_cell BK179.out 5).trans rfl; have hcz50_6 : w49.cell? ⟨gb179, 6, none⟩ = some (.slice A0_6 l0_6.length c0_6) := (blk_cell BK179.out 6).trans rfl; have hcz50_7 : w49.cell? ⟨gb179, 7, none⟩ = some (.int .i64 a0_7) := (blk_cell BK179.out 7).trans rfl; have hcz50_8 : w49.cell? ⟨gb179, 8, none⟩ = some (.int .i64 a0_8) := (blk_cell BK179.out 8).trans rfl; have hcz50_9 : w49.cell? ⟨gb179, 9, none⟩ = some (.int .i64 a0_9) := (blk_cell BK179.out 9).trans rfl; have hfz50_0 := blk_frozen BK179.out 0; have hfz50_1 := blk_frozen BK179.out 1; have hfz50_2 := blk_frozen BK179.out 2; have hfz50_3 := blk_frozen BK179.out 3; have hfz50_4 := blk_frozen BK179.out 4; have hfz50_5 := blk_frozen BK179.out 5; have hfz50_6 := blk_frozen BK179.out 6; have hfz50_7 := blk_frozen BK179.out 7; have hfz50_8 := blk_frozen BK179.out 8; have hfz50_9 := blk_frozen BK179.out 9) | ((with_reducible refine gate_callee (f := 51) rfl ?_); refine goesL_ (some 5) rfl rfl Try.func51 (by kernel_rfl) rfl #[.slice A0_0 l0_0.length c0_0] rfl (by (try simp only [List.map_toArray, List.map_cons, List.map_nil]); first | done | rfl | (simp only [List.length_drop, List.length_take]; rfl)) ?_; (with_reducible refine (impl_codeOk.calls _ _ l0_0 true _ ?side1 ?side2 A2.out).mono ?_); (case side1 => repeat (first | exact (Kd.C_below HR0_0.out HB.out) | (with_reducible refine Kd.C_alloc ?_ _) | (with_reducible refine Kd.C_drewN ?_ _) | (with_reducible refine Kd.C_drew ?_))); (case side2 => exact HC0_0.out); rintro e w' ⟨rfl, ⟨nd, rfl⟩⟩; refine ⟨_, rfl, ?_⟩) | (go_at_call 53; (with_reducible refine (impl_stackOk.calls (l0_4.length : Int) true _ A5.out).mono ?_); rintro e w' ⟨rfl, ⟨nd, rfl⟩⟩) | ((with_reducible refine gate_dst (N := 23) rfl ?_); (try (refine gate_guard (by rfl) ?_; dsimp only)); refine Kd.R_lit (Kd.int .i64) _ 3 ?hg (N := 23) ?hd (xs := ([a0_1, a0_9] : List Int)) (inner := [.int .i64 a0_1, .int .i64 a0_9]) (ok := fun _ => True) (okp := fun _ => True) ?hr ?hp (fun _ hk => hk) trivial (Below.refl _ _) (Nat.le_refl _) (by simp) ?_; (case hd => rfl); (case hg => rfl); (case hr => first | (go_simp; done) | (go_simp; rfl)); (case hp => exact (Reps.one (show Kd.M (Kd.int .i64) _ _ _ a0_1 [.int .i64 a0_1] from rfl) (Reps.one (show Kd.M (Kd.int .i64) _ _ _ a0_9 [.int .i64 a0_9] from rfl) (Reps.none _ _)))); intro v183 w51 ho52 hb hg_ hnew_; clear hg_ hnew_; (first | rw [← Ny182.out] at ho52 | (simp only [Int.reduceToNat] at ho52; rw [← Ny182.out] at ho52)); have n0_ := Aside0.mk (Kd.R_lower ho52 (below_size (by repeat (first | (with_reducible first | exact HB.out | apply below_alloc | apply pw_below_drewN | apply below_drew1 | refine below_set ?_ GE179.out) | exact HB.out)))); have n1_ := Aside0.mk (blk_below (g := gb179) (o := .cells #[.slice A0_0 l0_0.length c0_0, .int .i64 a0_1, .slice A0_2 l0_2.length c0_2, .slice A0_3 l0_3.length c0_3, .slice A0_4 l0_4.length c0_4, .slice A0_5 l0_5.length c0_5, .slice A0_6 l0_6.length c0_6, .int .i64 a0_7, .int .i64 a0_8, .int .i64 a0_9] 36 (0, 0)) (by (with_reducible repeat (first | refine blk_drewN ?_ _ | refine blk_drew ?_ | refine blk_alloc ?_ _)); exact BK179.out) hb); have n2_ := Aside0.mk (below_step (by repeat (first | (with_reducible first | exact HB.out | apply below_alloc | apply pw_below_drewN | apply below_drew1 | refine below_set ?_ GE179.out) | exact HB.out)) hb); clear BK179; clear HB; have HO184 := n0_; have BK179 := n1_; have HB := n2_; clear n0_ n1_ n2_; clear hb ho52; obtain ⟨Ao53, co53, eo53⟩ := Kd.R_slice HO184.out; subst eo53) | (go_at_call 56; (with_reducible refine (impl_isWord.calls _ _ y182 true _ ?side1 ?side2 A7.out).mono ?_); (case side1 => repeat (first | exact (Kd.R_reads' HO184.out).2.2 | (with_reducible refine Kd.C_alloc ?_ _) | (with_reducible refine Kd.C_drewN ?_ _) | (with_reducible refine Kd.C_drew ?_))); (case side2 => exact (Kd.R_reads' HO184.out).2.1); rintro e w' ⟨rfl, ⟨nd, rfl⟩⟩; have hcz54_0 : w51.cell? ⟨gb179, 0, none⟩ = some (.slice A0_0 l0_0.length c0_0) := (blk_cell BK179.out 0).trans rfl; have hcz54_1 : w51.cell? ⟨gb179, 1, none⟩ = some (.int .i64 a0_1) := (blk_cell BK179.out 1).trans rfl; have hcz54_2 : w51.cell? ⟨gb179, 2, none⟩ = some (.slice A0_2 l0_2.length c0_2) := (blk_cell BK179.out 2).trans rfl; have hcz54_3 : w51.cell? ⟨gb179, 3, none⟩ = some (.slice A0_3 l0_3.length c0_3) := (blk_cell BK179.out 3).trans rfl; have hcz54_4 : w51.cell? ⟨gb179, 4, none⟩ = some (.slice A0_4 l0_4.length c0_4) := (blk_cell BK179.out 4).trans rfl; have hcz54_5 : w51.cell? ⟨gb179, 5, none⟩ = some (.slice A0_5 l0_5.length c0_5) := (blk_cell BK179.out 5).trans rfl; have hcz54_6 : w51.cell? ⟨gb179, 6, none⟩ = some (.slice A0_6 l0_6.length c0_6) := (blk_cell BK179.out 6).trans rfl; have hcz54_7 : w51.cell? ⟨gb179, 7, none⟩ = some (.int .i64 a0_7) := (blk_cell BK179.out 7).trans rfl; have hcz54_8 : w51.cell? ⟨gb179, 8, none⟩ = some (.int .i64 a0_8) := (blk_cell BK179.out 8).trans rfl; have hcz54_9 : w51.cell? ⟨gb179, 9, none⟩ = some (.int .i64 a0_9) := (blk_cell BK179.out 9).trans rfl; have hfz54_0 := blk_frozen BK179.out 0; have hfz54_1 := blk_frozen BK179.out 1; have hfz54_2 := blk_frozen BK179.out 2; have hfz54_3 := blk_frozen BK179.out 3; have hfz54_4 := blk_frozen BK179.out 4; have hfz54_5 := blk_frozen BK179.out 5; have hfz54_6 := blk_frozen BK179.out 6; have hfz54_7 := blk_frozen BK179.out 7; have hfz54_8 := blk_frozen BK179.out 8; have hfz54_9 := blk_frozen BK179.out 9) | (go_at_call 56; (with_reducible refine (impl_isWord.calls _ _ l0_2 false _ ?side1 ?side2 A10.out).mono ?_); (case side1 => repeat (first | exact (Kd.C_below HR0_2.out (by repeat (first | (with_reducible first | exact HB.out | apply below_alloc | apply pw_below_drewN | apply below_drew1 | refine below_set ?_ GE179.out) | exact HB.out))) | (with_reducible refine Kd.C_alloc ?_ _) | (with_reducible refine Kd.C_drewN ?_ _) | (with_reducible refine Kd.C_drew ?_))); (case side2 => exact HC0_2.out); rintro e w' ⟨rfl, ⟨nd, rfl⟩⟩))
              go_ret
              exact ⟨by first | rfl | (simp [errW_none, errW_some] <;> rfl) | (simp [*, errW_none, errW_some] <;> rfl), by repeat (first | (with_reducible first | exact HB.out | apply below_alloc | apply pw_below_drewN | apply below_drew1 | refine below_set ?_ GE179.out) | exact HB.out)⟩
          · rw [if_neg c9] at H
            have c9b0 : ((l0_2.length : Int) == 32) = false := beq_eq_false_iff_ne.mpr c9
            have c9b1 : ((l0_2.length : Int) != 32) = true := bne_iff_ne.mpr c9
            obtain rfl := Option.some.inj H
            go_enter Try.func19, Try.ntmps19
            go_wp2_with (first | ((with_reducible refine gate_dst (N := 1) rfl ?_); (try (refine gate_guard (by rfl) ?_; dsimp only)); refine box_event ?hg (N := 1) ?hd (cs := #[.slice A0_0 l0_0.length c0_0, .int .i64 a0_1, .slice A0_2 l0_2.length c0_2, .slice A0_3 l0_3.length c0_3, .slice A0_4 l0_4.length c0_4, .slice A0_5 l0_5.length c0_5, .slice A0_6 l0_6.length c0_6, .int .i64 a0_7, .int .i64 a0_8, .int .i64 a0_9]) (t := 36) ?hr ?_; (case hd => rfl); (case hg => rfl); (case hr => first | (go_simp; done) | (go_simp; rfl)); intro gb179 hg w55 hbox hb; have n0_ := Aside0.mk (below_step (by repeat (first | (with_reducible first | exact HB.out | apply below_alloc | apply pw_below_drewN | apply below_drew1) | exact HB.out)) hb); have n1_ := Aside0.mk (hbox); have n2_ := Aside0.mk ((by rw [hg]; exact (below_size (by repeat (first | (with_reducible first | exact HB.out | apply below_alloc | apply pw_below_drewN | apply below_drew1) | exact HB.out))) : w.heap.size ≤ gb179)); have n3_ := Aside0.mk ((by rw [hg]; exact (below_size (by repeat (first | (with_reducible first | exact HB.out | apply below_alloc | apply pw_below_drewN | apply below_drew1) | exact HB.out))) : w.heap.size ≤ gb179)); clear HB; have HB := n0_; have BK179 := n1_; have GW179 := n2_; have GE179 := n3_; clear n0_ n1_ n2_ n3_; clear hb hbox hg; have hcz56_0 : w55.cell? ⟨gb179, 0, none⟩ = some (.slice A0_0 l0_0.length c0_0) := (blk_cell BK179.out 0).trans rfl; have hcz56_1 : w55.cell? ⟨gb179, 1, none⟩ = some (.int .i64 a0_1) := (blk_cell BK179.out 1).trans rfl; have hcz56_2 : w55.cell? ⟨gb179, 2, none⟩ = some (.slice A0_2 l0_2.length c0_2) := (blk_cell BK179.out 2).trans rfl; have hcz56_3 : w55.cell? ⟨gb179, 3, none⟩ = some (.slice A0_3 l0_3.length c0_3) := (blk_cell BK179.out 3).trans rfl; have hcz56_4 : w55.cell? ⟨gb179, 4, none⟩ = some (.slice A0_4 l0_4.length c0_4) := (blk_cell BK179.out 4).trans rfl; have hcz56_5 : w55.cell? ⟨gb179, 5, none⟩ = some (.slice A0_5 l0_5.length c0_5) := (blk_cell BK179.out 5).trans rfl; have hcz56_6 : w55.cell? ⟨gb179, 6, none⟩ = some (.slice A0_6 l0_6.length c0_6) := (blk_cell BK179.out 6).trans rfl; have hcz56_7 : w55.cell? ⟨gb179, 7, none⟩ = some (.int .i64 a0_7) := (blk_cell BK179.out 7).trans rfl; have hcz56_8 : w55.cell? ⟨gb179, 8, none⟩ = some (.int .i64 a0_8) := (blk_cell BK179.out 8).trans rfl; have hcz56_9 : w55.cell? ⟨gb179, 9, none⟩ = some (.int .i64 a0_9) := (blk_cell BK179.out 9).trans rfl; have hfz56_0 := blk_frozen BK179.out 0; have hfz56_1 := blk_frozen BK179.out 1; have hfz56_2 := blk_frozen BK179.out 2; have hfz56_3 := blk_frozen BK179.out 3; have hfz56_4 := blk_frozen BK179.out 4; have hfz56_5 := blk_frozen BK179.out 5; have hfz56_6 := blk_frozen BK179.out 6; have hfz56_7 := blk_frozen BK179.out 7; have hfz56_8 := blk_frozen BK179.out 8; have hfz56_9 := blk_frozen BK179.out 9) | ((with_reducible refine gate_callee (f := 51) rfl ?_); refine goesL_ (some 5) rfl rfl Try.func51 (by kernel_rfl) rfl #[.slice A0_0 l0_0.length c0_0] rfl (by (try simp only [List.map_toArray, List.map_cons, List.map_nil]); first | done | rfl | (simp only [List.length_drop, List.length_take]; rfl)) ?_; (with_reducible refine (impl_codeOk.calls _ _ l0_0 true _ ?side1 ?side2 A2.out).mono ?_); (case side1 => repeat (first | exact (Kd.C_below HR0_0.out HB.out) | (with_reducible refine Kd.C_alloc ?_ _) | (with_reducible refine Kd.C_drewN ?_ _) | (with_reducible refine Kd.C_drew ?_))); (case side2 => exact HC0_0.out); rintro e w' ⟨rfl, ⟨nd, rfl⟩⟩; refine ⟨_, rfl, ?_⟩) | (go_at_call 53; (with_reducible refine (impl_stackOk.calls (l0_4.length : Int) true _ A5.out).mono ?_); rintro e w' ⟨rfl, ⟨nd, rfl⟩⟩) | ((with_reducible refine gate_dst (N := 23) rfl ?_); (try (refine gate_guard (by rfl) ?_; dsimp only)); refine Kd.R_lit (Kd.int .i64) _ 3 ?hg (N := 23) ?hd (xs := ([a0_1, a0_9] : List Int)) (inner := [.int .i64 a0_1, .int .i64 a0_9]) (ok := fun _ => True) (okp := fun _ => True) ?hr ?hp (fun _ hk => hk) trivial (Below.refl _ _) (Nat.le_refl _) (by simp) ?_; (case hd => rfl); (case hg => rfl); (case hr => first | (go_simp; done) | (go_simp; rfl)); (case hp => exact (Reps.one (show Kd.M (Kd.int .i64) _ _ _ a0_1 [.int .i64 a0_1] from rfl) (Reps.one (show Kd.M (Kd.int .i64) _ _ _ a0_9 [.int .i64 a0_9] from rfl) (Reps.none _ _)))); intro v183 w57 ho58 hb hg_ hnew_; clear hg_ hnew_; (first | rw [← Ny182.out] at ho58 | (simp only [Int.reduceToNat] at ho58; rw [← Ny182.out] at ho58)); have n0_ := Aside0.mk (Kd.R_lower ho58 (below_size (by repeat (first | (with_reducible first | exact HB.out | apply below_alloc | apply pw_below_drewN | apply below_drew1 | refine below_set ?_ GE179.out) | exact HB.out)))); have n1_ := Aside0.mk (blk_below (g := gb179) (o := .cells #[.slice A0_0 l0_0.length c0_0, .int .i64 a0_1, .slice A0_2 l0_2.length c0_2, .slice A0_3 l0_3.length c0_3, .slice A0_4 l0_4.length c0_4, .slice A0_5 l0_5.length c0_5, .slice A0_6 l0_6.length c0_6, .int .i64 a0_7, .int .i64 a0_8, .int .i64 a0_9] 36 (0, 0)) (by (with_reducible repeat (first | refine blk_drewN ?_ _ | refine blk_drew ?_ | refine blk_alloc ?_ _)); exact BK179.out) hb); have n2_ := Aside0.mk (below_step (by repeat (first | (with_reducible first | exact HB.out | apply below_alloc | apply pw_below_drewN | apply below_drew1 | refine below_set ?_ GE179.out) | exact HB.out)) hb); clear BK179; clear HB; have HO184 := n0_; have BK179 := n1_; have HB := n2_; clear n0_ n1_ n2_; clear hb ho58; obtain ⟨Ao59, co59, eo59⟩ := Kd.R_slice HO184.out; subst eo59) | (go_at_call 56; (with_reducible refine (impl_isWord.calls _ _ y182 true _ ?side1 ?side2 A7.out).mono ?_); (case side1 => repeat (first | exact (Kd.R_reads' HO184.out).2.2 | (with_reducible refine Kd.C_alloc ?_ _) | (with_reducible refine Kd.C_drewN ?_ _) | (with_reducible refine Kd.C_drew ?_))); (case side2 => exact (Kd.R_reads' HO184.out).2.1); rintro e w' ⟨rfl, ⟨nd, rfl⟩⟩; have hcz60_0 : w57.cell? ⟨gb179, 0, none⟩ = some (.slice A0_0 l0_0.length c0_0) := (blk_cell BK179.out 0).trans rfl; have hcz60_1 : w57.cell? ⟨gb179, 1, none⟩ = some (.int .i64 a0_1) := (blk_cell BK179.out 1).trans rfl; have hcz60_2 : w57.cell? ⟨gb179, 2, none⟩ = some (.slice A0_2 l0_2.length c0_2) := (blk_cell BK179.out 2).trans rfl; have hcz60_3 : w57.cell? ⟨gb179, 3, none⟩ = some (.slice A0_3 l0_3.length c0_3) := (blk_cell BK179.out 3).trans rfl; have hcz60_4 : w57.cell? ⟨gb179, 4, none⟩ = some (.slice A0_4 l0_4.length c0_4) := (blk_cell BK179.out 4).trans rfl; have hcz60_5 : w57.cell? ⟨gb179, 5, none⟩ = some (.slice A0_5 l0_5.length c0_5) := (blk_cell BK179.out 5).trans rfl; have hcz60_6 : w57.cell? ⟨gb179, 6, none⟩ = some (.slice A0_6 l0_6.length c0_6) := (blk_cell BK179.out 6).trans rfl; have hcz60_7 : w57.cell? ⟨gb179, 7, none⟩ = some (.int .i64 a0_7) := (blk_cell BK179.out 7).trans rfl; have hcz60_8 : w57.cell? ⟨gb179, 8, none⟩ = some (.int .i64 a0_8) := (blk_cell BK179.out 8).trans rfl; have hcz60_9 : w57.cell? ⟨gb179, 9, none⟩ = some (.int .i64 a0_9) := (blk_cell BK179.out 9).trans rfl; have hfz60_0 := blk_frozen BK179.out 0; have hfz60_1 := blk_frozen BK179.out 1; have hfz60_2 := blk_frozen BK179.out 2; have hfz60_3 := blk_frozen BK179.out 3; have hfz60_4 := blk_frozen BK179.out 4; have hfz60_5 := blk_frozen BK179.out 5; have hfz60_6 := blk_frozen BK179.out 6; have hfz60_7 := blk_frozen BK179.out 7; have hfz60_8 := blk_frozen BK179.out 8; have hfz60_9 := blk_frozen BK179.out 9))
            go_ret
            exact ⟨by first | rfl | (simp [errW_none, errW_some] <;> rfl) | (simp [*, errW_none, errW_some] <;> rfl), by repeat (first | (with_reducible first | exact HB.out | apply below_alloc | apply pw_below_drewN | apply below_drew1 | refine below_set ?_ GE179.out) | exact HB.out)⟩
        · replace c8 := Bool.eq_false_iff.mpr c8
          subst c8
          have H1 : (some false) = some r := by rw [if_neg (show ¬ (false = true) by decide)] at H; exact H
          clear H
          have H := H1
          clear H1
          obtain rfl := Option.some.inj H
          go_enter Try.func19, Try.ntmps19
          go_wp2_with (first | ((with_reducible refine gate_dst (N := 1) rfl ?_); (try (refine gate_guard (by rfl) ?_; dsimp only)); refine box_event ?hg (N := 1) ?hd (cs := #[.slice A0_0 l0_0.length c0_0, .int .i64 a0_1, .slice A0_2 l0_2.length c0_2, .slice A0_3 l0_3.length c0_3, .slice A0_4 l0_4.length c0_4, .slice A0_5 l0_5.length c0_5, .slice A0_6 l0_6.length c0_6, .int .i64 a0_7, .int .i64 a0_8, .int .i64 a0_9]) (t := 36) ?hr ?_; (case hd => rfl); (case hg => rfl); (case hr => first | (go_simp; done) | (go_simp; rfl)); intro gb179 hg w61 hbox hb; have n0_ := Aside0.mk (below_step (by repeat (first | (with_reducible first | exact HB.out | apply below_alloc | apply pw_below_drewN | apply below_drew1) | exact HB.out)) hb); have n1_ := Aside0.mk (hbox); have n2_ := Aside0.mk ((by rw [hg]; exact (below_size (by repeat (first | (with_reducible first | exact HB.out | apply below_alloc | apply pw_below_drewN | apply below_drew1) | exact HB.out))) : w.heap.size ≤ gb179)); have n3_ := Aside0.mk ((by rw [hg]; exact (below_size (by repeat (first | (with_reducible first | exact HB.out | apply below_alloc | apply pw_below_drewN | apply below_drew1) | exact HB.out))) : w.heap.size ≤ gb179)); clear HB; have HB := n0_; have BK179 := n1_; have GW179 := n2_; have GE179 := n3_; clear n0_ n1_ n2_ n3_; clear hb hbox hg; have hcz62_0 : w61.cell? ⟨gb179, 0, none⟩ = some (.slice A0_0 l0_0.length c0_0) := (blk_cell BK179.out 0).trans rfl; have hcz62_1 : w61.cell? ⟨gb179, 1, none⟩ = some (.int .i64 a0_1) := (blk_cell BK179.out 1).trans rfl; have hcz62_2 : w61.cell? ⟨gb179, 2, none⟩ = some (.slice A0_2 l0_2.length c0_2) := (blk_cell BK179.out 2).trans rfl; have hcz62_3 : w61.cell? ⟨gb179, 3, none⟩ = some (.slice A0_3 l0_3.length c0_3) := (blk_cell BK179.out 3).trans rfl; have hcz62_4 : w61.cell? ⟨gb179, 4, none⟩ = some (.slice A0_4 l0_4.length c0_4) := (blk_cell BK179.out 4).trans rfl; have hcz62_5 : w61.cell? ⟨gb179, 5, none⟩ = some (.slice A0_5 l0_5.length c0_5) := (blk_cell BK179.out 5).trans rfl; have hcz62_6 : w61.cell? ⟨gb179, 6, none⟩ = some (.slice A0_6 l0_6.length c0_6) := (blk_cell BK179.out 6).trans rfl; have hcz62_7 : w61.cell? ⟨gb179, 7, none⟩ = some (.int .i64 a0_7) := (blk_cell BK179.out 7).trans rfl; have hcz62_8 : w61.cell? ⟨gb179, 8, none⟩ = some (.int .i64 a0_8) := (blk_cell BK179.out 8).trans rfl; have hcz62_9 : w61.cell? ⟨gb179, 9, none⟩ = some (.int .i64 a0_9) := (blk_cell BK179.out 9).trans rfl; have hfz62_0 := blk_frozen BK179.out 0; have hfz62_1 := blk_frozen BK179.out 1; have hfz62_2 := blk_frozen BK179.out 2; have hfz62_3 := blk_frozen BK179.out 3; have hfz62_4 := blk_frozen BK179.out 4; have hfz62_5 := blk_frozen BK179.out 5; have hfz62_6 := blk_frozen BK179.out 6; have hfz62_7 := blk_frozen BK179.out 7; have hfz62_8 := blk_frozen BK179.out 8; have hfz62_9 := blk_frozen BK179.out 9) | ((with_reducible refine gate_callee (f := 51) rfl ?_); refine goesL_ (some 5) rfl rfl Try.func51 (by kernel_rfl) rfl #[.slice A0_0 l0_0.length c0_0] rfl (by (try simp only [List.map_toArray, List.map_cons, List.map_nil]); first | done | rfl | (simp only [List.length_drop, List.length_take]; rfl)) ?_; (with_reducible refine (impl_codeOk.calls _ _ l0_0 true _ ?side1 ?side2 A2.out).mono ?_); (case side1 => repeat (first | exact (Kd.C_below HR0_0.out HB.out) | (with_reducible refine Kd.C_alloc ?_ _) | (with_reducible refine Kd.C_drewN ?_ _) | (with_reducible refine Kd.C_drew ?_))); (case side2 => exact HC0_0.out); rintro e w' ⟨rfl, ⟨nd, rfl⟩⟩; refine ⟨_, rfl, ?_⟩) | (go_at_call 53; (with_reducible refine (impl_stackOk.calls (l0_4.length : Int) true _ A5.out).mono ?_); rintro e w' ⟨rfl, ⟨nd, rfl⟩⟩) | ((with_reducible refine gate_dst (N := 23) rfl ?_); (try (refine gate_guard (by rfl) ?_; dsimp only)); refine Kd.R_lit (Kd.int .i64) _ 3 ?hg (N := 23) ?hd (xs := ([a0_1, a0_9] : List Int)) (inner := [.int .i64 a0_1, .int .i64 a0_9]) (ok := fun _ => True) (okp := fun _ => True) ?hr ?hp (fun _ hk => hk) trivial (Below.refl _ _) (Nat.le_refl _) (by simp) ?_; (case hd => rfl); (case hg => rfl); (case hr => first | (go_simp; done) | (go_simp; rfl)); (case hp => exact (Reps.one (show Kd.M (Kd.int .i64) _ _ _ a0_1 [.int .i64 a0_1] from rfl) (Reps.one (show Kd.M (Kd.int .i64) _ _ _ a0_9 [.int .i64 a0_9] from rfl) (Reps.none _ _)))); intro v183 w63 ho64 hb hg_ hnew_; clear hg_ hnew_; (first | rw [← Ny182.out] at ho64 | (simp only [Int.reduceToNat] at ho64; rw [← Ny182.out] at ho64)); have n0_ := Aside0.mk (Kd.R_lower ho64 (below_size (by repeat (first | (with_reducible first | exact HB.out | apply below_alloc | apply pw_below_drewN | apply below_drew1 | refine below_set ?_ GE179.out) | exact HB.out)))); have n1_ := Aside0.mk (blk_below (g := gb179) (o := .cells #[.slice A0_0 l0_0.length c0_0, .int .i64 a0_1, .slice A0_2 l0_2.length c0_2, .slice A0_3 l0_3.length c0_3, .slice A0_4 l0_4.length c0_4, .slice A0_5 l0_5.length c0_5, .slice A0_6 l0_6.length c0_6, .int .i64 a0_7, .int .i64 a0_8, .int .i64 a0_9] 36 (0, 0)) (by (with_reducible repeat (first | refine blk_drewN ?_ _ | refine blk_drew ?_ | refine blk_alloc ?_ _)); exact BK179.out) hb); have n2_ := Aside0.mk (below_step (by repeat (first | (with_reducible first | exact HB.out | apply below_alloc | apply pw_below_drewN | apply below_drew1 | refine below_set ?_ GE179.out) | exact HB.out)) hb); clear BK179; clear HB; have HO184 := n0_; have BK179 := n1_; have HB := n2_; clear n0_ n1_ n2_; clear hb ho64; obtain ⟨Ao65, co65, eo65⟩ := Kd.R_slice HO184.out; subst eo65) | (go_at_call 56; (with_reducible refine (impl_isWord.calls _ _ y182 false _ ?side1 ?side2 A7.out).mono ?_); (case side1 => repeat (first | exact (Kd.R_reads' HO184.out).2.2 | (with_reducible refine Kd.C_alloc ?_ _) | (with_reducible refine Kd.C_drewN ?_ _) | (with_reducible refine Kd.C_drew ?_))); (case side2 => exact (Kd.R_reads' HO184.out).2.1); rintro e w' ⟨rfl, ⟨nd, rfl⟩⟩))
          go_ret
          exact ⟨by first | rfl | (simp [errW_none, errW_some] <;> rfl) | (simp [*, errW_none, errW_some] <;> rfl), by repeat (first | (with_reducible first | exact HB.out | apply below_alloc | apply pw_below_drewN | apply below_drew1 | refine below_set ?_ GE179.out) | exact HB.out)⟩
      · replace c6 := Bool.eq_false_iff.mpr c6
        subst c6
        have H1 : (some false) = some r := by rw [if_neg (show ¬ (false = true) by decide)] at H; exact H
        clear H
        have H := H1
        clear H1
        obtain rfl := Option.some.inj H
        go_enter Try.func19, Try.ntmps19
        go_wp2_with (first | ((with_reducible refine gate_dst (N := 1) rfl ?_); (try (refine gate_guard (by rfl) ?_; dsimp only)); refine box_event ?hg (N := 1) ?hd (cs := #[.slice A0_0 l0_0.length c0_0, .int .i64 a0_1, .slice A0_2 l0_2.length c0_2, .slice A0_3 l0_3.length c0_3, .slice A0_4 l0_4.length c0_4, .slice A0_5 l0_5.length c0_5, .slice A0_6 l0_6.length c0_6, .int .i64 a0_7, .int .i64 a0_8, .int .i64 a0_9]) (t := 36) ?hr ?_; (case hd => rfl); (case hg => rfl); (case hr => first | (go_simp; done) | (go_simp; rfl)); intro gb179 hg w66 hbox hb; have n0_ := Aside0.mk (below_step (by repeat (first | (with_reducible first | exact HB.out | apply below_alloc | apply pw_below_drewN | apply below_drew1) | exact HB.out)) hb); have n1_ := Aside0.mk (hbox); have n2_ := Aside0.mk ((by rw [hg]; exact (below_size (by repeat (first | (with_reducible first | exact HB.out | apply below_alloc | apply pw_below_drewN | apply below_drew1) | exact HB.out))) : w.heap.size ≤ gb179)); have n3_ := Aside0.mk ((by rw [hg]; exact (below_size (by repeat (first | (with_reducible first | exact HB.out | apply below_alloc | apply pw_below_drewN | apply below_drew1) | exact HB.out))) : w.heap.size ≤ gb179)); clear HB; have HB := n0_; have BK179 := n1_; have GW179 := n2_; have GE179 := n3_; clear n0_ n1_ n2_ n3_; clear hb hbox hg; have hcz67_0 : w66.cell? ⟨gb179, 0, none⟩ = some (.slice A0_0 l0_0.length c0_0) := (blk_cell BK179.out 0).trans rfl; have hcz67_1 : w66.cell? ⟨gb179, 1, none⟩ = some (.int .i64 a0_1) := (blk_cell BK179.out 1).trans rfl; have hcz67_2 : w66.cell? ⟨gb179, 2, none⟩ = some (.slice A0_2 l0_2.length c0_2) := (blk_cell BK179.out 2).trans rfl; have hcz67_3 : w66.cell? ⟨gb179, 3, none⟩ = some (.slice A0_3 l0_3.length c0_3) := (blk_cell BK179.out 3).trans rfl; have hcz67_4 : w66.cell? ⟨gb179, 4, none⟩ = some (.slice A0_4 l0_4.length c0_4) := (blk_cell BK179.out 4).trans rfl; have hcz67_5 : w66.cell? ⟨gb179, 5, none⟩ = some (.slice A0_5 l0_5.length c0_5) := (blk_cell BK179.out 5).trans rfl; have hcz67_6 : w66.cell? ⟨gb179, 6, none⟩ = some (.slice A0_6 l0_6.length c0_6) := (blk_cell BK179.out 6).trans rfl; have hcz67_7 : w66.cell? ⟨gb179, 7, none⟩ = some (.int .i64 a0_7) := (blk_cell BK179.out 7).trans rfl; have hcz67_8 : w66.cell? ⟨gb179, 8, none⟩ = some (.int .i64 a0_8) := (blk_cell BK179.out 8).trans rfl; have hcz67_9 : w66.cell? ⟨gb179, 9, none⟩ = some (.int .i64 a0_9) := (blk_cell BK179.out 9).trans rfl; have hfz67_0 := blk_frozen BK179.out 0; have hfz67_1 := blk_frozen BK179.out 1; have hfz67_2 := blk_frozen BK179.out 2; have hfz67_3 := blk_frozen BK179.out 3; have hfz67_4 := blk_frozen BK179.out 4; have hfz67_5 := blk_frozen BK179.out 5; have hfz67_6 := blk_frozen BK179.out 6; have hfz67_7 := blk_frozen BK179.out 7; have hfz67_8 := blk_frozen BK179.out 8; have hfz67_9 := blk_frozen BK179.out 9) | ((with_reducible refine gate_callee (f := 51) rfl ?_); refine goesL_ (some 5) rfl rfl Try.func51 (by kernel_rfl) rfl #[.slice A0_0 l0_0.length c0_0] rfl (by (try simp only [List.map_toArray, List.map_cons, List.map_nil]); first | done | rfl | (simp only [List.length_drop, List.length_take]; rfl)) ?_; (with_reducible refine (impl_codeOk.calls _ _ l0_0 true _ ?side1 ?side2 A2.out).mono ?_); (case side1 => repeat (first | exact (Kd.C_below HR0_0.out HB.out) | (with_reducible refine Kd.C_alloc ?_ _) | (with_reducible refine Kd.C_drewN ?_ _) | (with_reducible refine Kd.C_drew ?_))); (case side2 => exact HC0_0.out); rintro e w' ⟨rfl, ⟨nd, rfl⟩⟩; refine ⟨_, rfl, ?_⟩) | (go_at_call 53; (with_reducible refine (impl_stackOk.calls (l0_4.length : Int) false _ A5.out).mono ?_); rintro e w' ⟨rfl, ⟨nd, rfl⟩⟩))
        go_ret
        exact ⟨by first | rfl | (simp [errW_none, errW_some] <;> rfl) | (simp [*, errW_none, errW_some] <;> rfl), by repeat (first | (with_reducible first | exact HB.out | apply below_alloc | apply pw_below_drewN | apply below_drew1 | refine below_set ?_ GE179.out) | exact HB.out)⟩
    · rw [if_neg c4] at H
      have c4b0 : decide ((l0_3.length : Int) ≤ 65536) = false := decide_eq_false c4
      have c4b1 : decide (l0_3.length ≤ 65536) = false := decide_eq_false (by omega)
      clear c4
      obtain rfl := Option.some.inj H
      go_enter Try.func19, Try.ntmps19
      go_wp2_with (first | ((with_reducible refine gate_dst (N := 1) rfl ?_); (try (refine gate_guard (by rfl) ?_; dsimp only)); refine box_event ?hg (N := 1) ?hd (cs := #[.slice A0_0 l0_0.length c0_0, .int .i64 a0_1, .slice A0_2 l0_2.length c0_2, .slice A0_3 l0_3.length c0_3, .slice A0_4 l0_4.length c0_4, .slice A0_5 l0_5.length c0_5, .slice A0_6 l0_6.length c0_6, .int .i64 a0_7, .int .i64 a0_8, .int .i64 a0_9]) (t := 36) ?hr ?_; (case hd => rfl); (case hg => rfl); (case hr => first | (go_simp; done) | (go_simp; rfl)); intro gb179 hg w68 hbox hb; have n0_ := Aside0.mk (below_step (by repeat (first | (with_reducible first | exact HB.out | apply below_alloc | apply pw_below_drewN | apply below_drew1) | exact HB.out)) hb); have n1_ := Aside0.mk (hbox); have n2_ := Aside0.mk ((by rw [hg]; exact (below_size (by repeat (first | (with_reducible first | exact HB.out | apply below_alloc | apply pw_below_drewN | apply below_drew1) | exact HB.out))) : w.heap.size ≤ gb179)); have n3_ := Aside0.mk ((by rw [hg]; exact (below_size (by repeat (first | (with_reducible first | exact HB.out | apply below_alloc | apply pw_below_drewN | apply below_drew1) | exact HB.out))) : w.heap.size ≤ gb179)); clear HB; have HB := n0_; have BK179 := n1_; have GW179 := n2_; have GE179 := n3_; clear n0_ n1_ n2_ n3_; clear hb hbox hg; have hcz69_0 : w68.cell? ⟨gb179, 0, none⟩ = some (.slice A0_0 l0_0.length c0_0) := (blk_cell BK179.out 0).trans rfl; have hcz69_1 : w68.cell? ⟨gb179, 1, none⟩ = some (.int .i64 a0_1) := (blk_cell BK179.out 1).trans rfl; have hcz69_2 : w68.cell? ⟨gb179, 2, none⟩ = some (.slice A0_2 l0_2.length c0_2) := (blk_cell BK179.out 2).trans rfl; have hcz69_3 : w68.cell? ⟨gb179, 3, none⟩ = some (.slice A0_3 l0_3.length c0_3) := (blk_cell BK179.out 3).trans rfl; have hcz69_4 : w68.cell? ⟨gb179, 4, none⟩ = some (.slice A0_4 l0_4.length c0_4) := (blk_cell BK179.out 4).trans rfl; have hcz69_5 : w68.cell? ⟨gb179, 5, none⟩ = some (.slice A0_5 l0_5.length c0_5) := (blk_cell BK179.out 5).trans rfl; have hcz69_6 : w68.cell? ⟨gb179, 6, none⟩ = some (.slice A0_6 l0_6.length c0_6) := (blk_cell BK179.out 6).trans rfl; have hcz69_7 : w68.cell? ⟨gb179, 7, none⟩ = some (.int .i64 a0_7) := (blk_cell BK179.out 7).trans rfl; have hcz69_8 : w68.cell? ⟨gb179, 8, none⟩ = some (.int .i64 a0_8) := (blk_cell BK179.out 8).trans rfl; have hcz69_9 : w68.cell? ⟨gb179, 9, none⟩ = some (.int .i64 a0_9) := (blk_cell BK179.out 9).trans rfl; have hfz69_0 := blk_frozen BK179.out 0; have hfz69_1 := blk_frozen BK179.out 1; have hfz69_2 := blk_frozen BK179.out 2; have hfz69_3 := blk_frozen BK179.out 3; have hfz69_4 := blk_frozen BK179.out 4; have hfz69_5 := blk_frozen BK179.out 5; have hfz69_6 := blk_frozen BK179.out 6; have hfz69_7 := blk_frozen BK179.out 7; have hfz69_8 := blk_frozen BK179.out 8; have hfz69_9 := blk_frozen BK179.out 9) | ((with_reducible refine gate_callee (f := 51) rfl ?_); refine goesL_ (some 5) rfl rfl Try.func51 (by kernel_rfl) rfl #[.slice A0_0 l0_0.length c0_0] rfl (by (try simp only [List.map_toArray, List.map_cons, List.map_nil]); first | done | rfl | (simp only [List.length_drop, List.length_take]; rfl)) ?_; (with_reducible refine (impl_codeOk.calls _ _ l0_0 true _ ?side1 ?side2 A2.out).mono ?_); (case side1 => repeat (first | exact (Kd.C_below HR0_0.out HB.out) | (with_reducible refine Kd.C_alloc ?_ _) | (with_reducible refine Kd.C_drewN ?_ _) | (with_reducible refine Kd.C_drew ?_))); (case side2 => exact HC0_0.out); rintro e w' ⟨rfl, ⟨nd, rfl⟩⟩; refine ⟨_, rfl, ?_⟩))
      go_ret
      exact ⟨by first | rfl | (simp [errW_none, errW_some] <;> rfl) | (simp [*, errW_none, errW_some] <;> rfl), by repeat (first | (with_reducible first | exact HB.out | apply below_alloc | apply pw_below_drewN | apply below_drew1 | refine below_set ?_ GE179.out) | exact HB.out)⟩
  · replace c3 := Bool.eq_false_iff.mpr c3
    subst c3
    have H1 : (some false) = some r := by rw [if_neg (show ¬ (false = true) by decide)] at H; exact H
    clear H
    have H := H1
    clear H1
    obtain rfl := Option.some.inj H
    go_enter Try.func19, Try.ntmps19
    go_wp2_with (first | ((with_reducible refine gate_dst (N := 1) rfl ?_); (try (refine gate_guard (by rfl) ?_; dsimp only)); refine box_event ?hg (N := 1) ?hd (cs := #[.slice A0_0 l0_0.length c0_0, .int .i64 a0_1, .slice A0_2 l0_2.length c0_2, .slice A0_3 l0_3.length c0_3, .slice A0_4 l0_4.length c0_4, .slice A0_5 l0_5.length c0_5, .slice A0_6 l0_6.length c0_6, .int .i64 a0_7, .int .i64 a0_8, .int .i64 a0_9]) (t := 36) ?hr ?_; (case hd => rfl); (case hg => rfl); (case hr => first | (go_simp; done) | (go_simp; rfl)); intro gb179 hg w70 hbox hb; have n0_ := Aside0.mk (below_step (by repeat (first | (with_reducible first | exact HB.out | apply below_alloc | apply pw_below_drewN | apply below_drew1) | exact HB.out)) hb); have n1_ := Aside0.mk (hbox); have n2_ := Aside0.mk ((by rw [hg]; exact (below_size (by repeat (first | (with_reducible first | exact HB.out | apply below_alloc | apply pw_below_drewN | apply below_drew1) | exact HB.out))) : w.heap.size ≤ gb179)); have n3_ := Aside0.mk ((by rw [hg]; exact (below_size (by repeat (first | (with_reducible first | exact HB.out | apply below_alloc | apply pw_below_drewN | apply below_drew1) | exact HB.out))) : w.heap.size ≤ gb179)); clear HB; have HB := n0_; have BK179 := n1_; have GW179 := n2_; have GE179 := n3_; clear n0_ n1_ n2_ n3_; clear hb hbox hg; have hcz71_0 : w70.cell? ⟨gb179, 0, none⟩ = some (.slice A0_0 l0_0.length c0_0) := (blk_cell BK179.out 0).trans rfl; have hcz71_1 : w70.cell? ⟨gb179, 1, none⟩ = some (.int .i64 a0_1) := (blk_cell BK179.out 1).trans rfl; have hcz71_2 : w70.cell? ⟨gb179, 2, none⟩ = some (.slice A0_2 l0_2.length c0_2) := (blk_cell BK179.out 2).trans rfl; have hcz71_3 : w70.cell? ⟨gb179, 3, none⟩ = some (.slice A0_3 l0_3.length c0_3) := (blk_cell BK179.out 3).trans rfl; have hcz71_4 : w70.cell? ⟨gb179, 4, none⟩ = some (.slice A0_4 l0_4.length c0_4) := (blk_cell BK179.out 4).trans rfl; have hcz71_5 : w70.cell? ⟨gb179, 5, none⟩ = some (.slice A0_5 l0_5.length c0_5) := (blk_cell BK179.out 5).trans rfl; have hcz71_6 : w70.cell? ⟨gb179, 6, none⟩ = some (.slice A0_6 l0_6.length c0_6) := (blk_cell BK179.out 6).trans rfl; have hcz71_7 : w70.cell? ⟨gb179, 7, none⟩ = some (.int .i64 a0_7) := (blk_cell BK179.out 7).trans rfl; have hcz71_8 : w70.cell? ⟨gb179, 8, none⟩ = some (.int .i64 a0_8) := (blk_cell BK179.out 8).trans rfl; have hcz71_9 : w70.cell? ⟨gb179, 9, none⟩ = some (.int .i64 a0_9) := (blk_cell BK179.out 9).trans rfl; have hfz71_0 := blk_frozen BK179.out 0; have hfz71_1 := blk_frozen BK179.out 1; have hfz71_2 := blk_frozen BK179.out 2; have hfz71_3 := blk_frozen BK179.out 3; have hfz71_4 := blk_frozen BK179.out 4; have hfz71_5 := blk_frozen BK179.out 5; have hfz71_6 := blk_frozen BK179.out 6; have hfz71_7 := blk_frozen BK179.out 7; have hfz71_8 := blk_frozen BK179.out 8; have hfz71_9 := blk_frozen BK179.out 9) | ((with_reducible refine gate_callee (f := 51) rfl ?_); refine goesL_ (some 5) rfl rfl Try.func51 (by kernel_rfl) rfl #[.slice A0_0 l0_0.length c0_0] rfl (by (try simp only [List.map_toArray, List.map_cons, List.map_nil]); first | done | rfl | (simp only [List.length_drop, List.length_take]; rfl)) ?_; (with_reducible refine (impl_codeOk.calls _ _ l0_0 false _ ?side1 ?side2 A2.out).mono ?_); (case side1 => repeat (first | exact (Kd.C_below HR0_0.out HB.out) | (with_reducible refine Kd.C_alloc ?_ _) | (with_reducible refine Kd.C_drewN ?_ _) | (with_reducible refine Kd.C_drew ?_))); (case side2 => exact HC0_0.out); rintro e w' ⟨rfl, ⟨nd, rfl⟩⟩; refine ⟨_, rfl, ?_⟩))
    go_ret
    exact ⟨by first | rfl | (simp [errW_none, errW_some] <;> rfl) | (simp [*, errW_none, errW_some] <;> rfl), by repeat (first | (with_reducible first | exact HB.out | apply below_alloc | apply pw_below_drewN | apply below_drew1 | refine below_set ?_ GE179.out) | exact HB.out)⟩

/-! ### impl_KindSize: function 138 -/
def impl_KindSize.f (a0 : Int) : Option (Int) := if a0 < 1 then (some 0) else (if a0 > 5 then (some 0) else ((some (([0, 1, 1, 2, 2, 4] : List Int) : List Int)).bind fun y190 => (if 0 ≤ a0 then (if a0 < (y190.length : Int) then (some (rd y190 a0)) else (none)) else (none))))
set_option maxHeartbeats 8000000 in
set_option maxRecDepth 100000 in
theorem impl_KindSize.calls (a0 : Int) (r : Int) (w : World) (h : impl_KindSize.f a0 = some r) :
    Calls Try.prog 138 #[.int .i64 a0] w fun e w' => e = .returned (.int .i64 r) ∧ Below w.heap.size w w' := by
  have HB := Aside0.mk (Below.refl w.heap.size w)
  have H : (if a0 < 1 then (some 0) else (if a0 > 5 then (some 0) else ((some (([0, 1, 1, 2, 2, 4] : List Int) : List Int)).bind fun y190 => (if 0 ≤ a0 then (if a0 < (y190.length : Int) then (some (rd y190 a0)) else (none)) else (none))))) = some r := h
  clear h
  by_cases c2 : a0 < 1
  · rw [if_pos c2] at H
    have c2b0 : decide (a0 < 1) = true := decide_eq_true c2
    clear c2
    obtain rfl := Option.some.inj H
    go_enter Try.func138, Try.ntmps138
    go_wp2
    go_ret
    exact ⟨by first | rfl | (simp [errW_none, errW_some] <;> rfl) | (simp [*, errW_none, errW_some] <;> rfl), by repeat (first | (with_reducible first | exact HB.out | apply below_alloc | apply pw_below_drewN | apply below_drew1) | exact HB.out)⟩
  · rw [if_neg c2] at H
    have c2b0 : decide (a0 < 1) = false := decide_eq_false c2
    clear c2
    by_cases c3 : a0 > 5
    · rw [if_pos c3] at H
      have c3b0 : decide (5 < a0) = true := decide_eq_true c3
      clear c3
      obtain rfl := Option.some.inj H
      go_enter Try.func138, Try.ntmps138
      go_wp2
      go_ret
      exact ⟨by first | rfl | (simp [errW_none, errW_some] <;> rfl) | (simp [*, errW_none, errW_some] <;> rfl), by repeat (first | (with_reducible first | exact HB.out | apply below_alloc | apply pw_below_drewN | apply below_drew1) | exact HB.out)⟩
    · rw [if_neg c3] at H
      have c3b0 : decide (5 < a0) = false := decide_eq_false c3
      clear c3
      obtain ⟨y190, hy190⟩ : ∃ y_ : List Int, y_ = (([0, 1, 1, 2, 2, 4] : List Int)) := ⟨_, rfl⟩
      replace H : (if 0 ≤ a0 then (if a0 < (y190.length : Int) then (some (rd y190 a0)) else (none)) else (none)) = some r := by first | (rw [hy190]; with_reducible exact H) | (have H2_ := (Option.bind_some _ _).symm.trans H; rw [hy190]; with_reducible exact H2_) | (have H2_ := (Option.bind_some _ _).symm.trans H; with_reducible exact H2_) | with_reducible exact H | (rw [hy190]; exact H) | exact H
      have Ny190 := Aside0.mk hy190
      clear hy190
      by_cases c4 : 0 ≤ a0
      · rw [if_pos c4] at H
        have c4b0 : decide (0 ≤ a0) = true := decide_eq_true c4
        clear c4
        by_cases c5 : a0 < (y190.length : Int)
        · rw [if_pos c5] at H
          have c5b0 : decide (a0 < (y190.length : Int)) = true := decide_eq_true c5
          clear c5
          obtain rfl := Option.some.inj H
          go_enter Try.func138, Try.ntmps138
          go_wp2_with (first | ((with_reducible refine gate_dst (N := 9) rfl ?_); refine Kd.R_lit (Kd.int .i64) _ 3 ?hg (N := 9) ?hd (xs := ([0, 1, 1, 2, 2, 4] : List Int)) (inner := [.int .i64 0, .int .i64 1, .int .i64 1, .int .i64 2, .int .i64 2, .int .i64 4]) (ok := fun _ => True) (okp := fun _ => True) ?hr ?hp (fun _ hk => hk) trivial (Below.refl _ _) (Nat.le_refl _) (by simp) ?_; (case hd => rfl); (case hg => rfl); (case hr => first | (go_simp; done) | (go_simp; rfl)); (case hp => exact (Reps.one (show Kd.M (Kd.int .i64) _ _ _ 0 [.int .i64 0] from rfl) (Reps.one (show Kd.M (Kd.int .i64) _ _ _ 1 [.int .i64 1] from rfl) (Reps.one (show Kd.M (Kd.int .i64) _ _ _ 1 [.int .i64 1] from rfl) (Reps.one (show Kd.M (Kd.int .i64) _ _ _ 2 [.int .i64 2] from rfl) (Reps.one (show Kd.M (Kd.int .i64) _ _ _ 2 [.int .i64 2] from rfl) (Reps.one (show Kd.M (Kd.int .i64) _ _ _ 4 [.int .i64 4] from rfl) (Reps.none _ _)))))))); intro v191 w6 ho7 hb hg_ hnew_; clear hg_ hnew_; (first | rw [← Ny190.out] at ho7 | (simp only [Int.reduceToNat] at ho7; rw [← Ny190.out] at ho7)); have n0_ := Aside0.mk (Kd.R_lower ho7 (below_size (by repeat (first | (with_reducible first | exact HB.out | apply below_alloc | apply pw_below_drewN | apply below_drew1) | exact HB.out)))); have n1_ := Aside0.mk (below_step (by repeat (first | (with_reducible first | exact HB.out | apply below_alloc | apply pw_below_drewN | apply below_drew1) | exact HB.out)) hb); clear HB; have HO192 := n0_; have HB := n1_; clear n0_ n1_; clear hb ho7; obtain ⟨Ao8, co8, eo8⟩ := Kd.R_slice HO192.out; subst eo8; have p193 : 0 ≤ (a0 : Int) := of_decide_eq_true (by first | (with_reducible assumption) | assumption); have q193 : a0 < (y190.length : Int) := of_decide_eq_true (by first | (with_reducible assumption) | assumption); obtain ⟨ad193, e193, hx193_0⟩ := Kd.at_int (Kd.R_reads' HO192.out).2.2 a0 p193 q193; cases e193; replace p193 := eq_true p193; replace q193 := eq_true q193))
          go_ret
          exact ⟨by first | rfl | (simp [errW_none, errW_some] <;> rfl) | (simp [*, errW_none, errW_some] <;> rfl), by repeat (first | (with_reducible first | exact HB.out | apply below_alloc | apply pw_below_drewN | apply below_drew1) | exact HB.out)⟩
        · rw [if_neg c5] at H
          exact absurd H (by simp)
      · rw [if_neg c4] at H
        exact absurd H (by simp)

-- NOT PRINTED: function 113 (impl_Machine_place)

/-! ### impl_Word: function 101 -/
def impl_Word.f (a0 : Int) : Option (Int) := some (Go.bits .and .i64 a0 4294967295)
set_option maxHeartbeats 8000000 in
set_option maxRecDepth 100000 in
theorem impl_Word.calls (a0 : Int) (r : Int) (w : World) (h : impl_Word.f a0 = some r) :
    Calls Try.prog 101 #[.int .i64 a0] w fun e w' => e = .returned (.int .i64 r) ∧ Drawn0 w w' := by
  have H : (some (Go.bits .and .i64 a0 4294967295)) = some r := h
  clear h
  obtain rfl := Option.some.inj H
  go_enter Try.func101, Try.ntmps101
  go_wp2
  go_ret
  exact ⟨by first | rfl | (simp; done) | (simp [*]; done), by repeat (first | exact Drawn0.refl _ | apply Drawn0.step)⟩

end Go.Proofs.Ythndggachjdkfaa.PLoadWord
