/- Rows of words, as sets of bits. -/
import Derived.Test.YtjggmhpjlnmigaaDoorVLvM
import Derived.Lib.TrailingZeros
namespace Go.Proofs.YtjggmhpjlnmigaaDoor
open Go.RowKit
set_option linter.unusedSimpArgs false
set_option linter.unusedVariables false
/-- is bit r in the row of words? -/
def bt (W : List Nat) (r : Nat) : Bool := (W[r / 64]?.getD 0).testBit (r % 64)
def B64 (W : List Nat) : Prop := ∀ w ∈ W, w < 18446744073709551616
theorem B64.at_ {W : List Nat} (b : B64 W) {i w : Nat} (h : W[i]? = some w) : w < 18446744073709551616 := b w (List.mem_of_getElem? h)
theorem B64.set {W : List Nat} (b : B64 W) {i w : Nat} (h : w < 18446744073709551616) : B64 (W.set i w) := fun x hx => by
  rcases List.mem_or_eq_of_mem_set hx with hx | rfl
  · exact b x hx
  · exact h
theorem bt_zero (n r : Nat) : bt (List.replicate n 0) r = false := by
  unfold bt
  rw [List.getElem?_replicate]
  split <;> simp
theorem bt_out {W : List Nat} {r : Nat} (h : 64 * W.length ≤ r) : bt W r = false := by
  unfold bt
  rw [List.getElem?_eq_none (by omega)]
  simp
/-- a word changed -/
theorem bt_set {W : List Nat} {k w : Nat} (hk : k < W.length) (r : Nat) : bt (W.set k w) r = if r / 64 = k then w.testBit (r % 64) else bt W r := by
  unfold bt
  rw [List.getElem?_set]
  by_cases e : k = r / 64
  · subst e
    rw [if_pos rfl, if_pos hk, if_pos rfl]
    rfl
  · rw [if_neg e, if_neg (Ne.symm e)]
theorem bt_at {W : List Nat} {k w : Nat} (h : W[k]? = some w) {r : Nat} (e : r / 64 = k) : bt W r = w.testBit (r % 64) := by
  unfold bt
  rw [e, h]
  rfl
theorem bt_put {W : List Nat} {s w : Nat} (h : W[s / 64]? = some w) (r : Nat) : bt (W.set (s / 64) (w ||| 2 ^ (s % 64))) r = (bt W r || decide (r = s)) := by
  have hlt := (List.getElem?_eq_some_iff.mp h).1
  rw [bt_set hlt]
  split
  · rename_i e
    rw [Nat.testBit_or, bt_at h e, Nat.testBit_two_pow]
    congr 1
    rw [decide_eq_decide]
    omega
  · rename_i e
    rw [decide_eq_false (p := r = s) (fun e2 => e (by rw [e2])), Bool.or_false]
theorem bt_cut {W : List Nat} {s w : Nat} (h : W[s / 64]? = some w) (hw : w < 18446744073709551616) (r : Nat) : bt (W.set (s / 64) (w &&& (18446744073709551615 - 2 ^ (s % 64)))) r = (bt W r && decide (r ≠ s)) := by
  have hlt := (List.getElem?_eq_some_iff.mp h).1
  have hp : 2 ^ (s % 64) < 2 ^ 64 := Nat.pow_lt_pow_right (by decide) (by omega)
  rw [bt_set hlt]
  split
  · rename_i e
    rw [Nat.testBit_and, bt_at h e]
    congr 1
    have e2 : 18446744073709551615 - 2 ^ (s % 64) = 2 ^ 64 - (2 ^ (s % 64) + 1) := by omega
    rw [e2, Nat.testBit_two_pow_sub_succ hp, Nat.testBit_two_pow]
    have h1 : decide (r % 64 < 64) = true := decide_eq_true (by omega)
    rw [h1, Bool.true_and, ← decide_not, decide_eq_decide]
    omega
  · rename_i e
    rw [decide_eq_true (p := r ≠ s) (fun e2 => e (by rw [e2])), Bool.and_true]
theorem bt_ext {W V : List Nat} (hl : W.length = V.length) (hW : B64 W) (hV : B64 V) (h : ∀ r, bt W r = bt V r) : W = V := by
  apply List.ext_getElem hl
  intro k h1 h2
  apply Nat.eq_of_testBit_eq
  intro i
  by_cases hi : i < 64
  · have := h (64 * k + i)
    unfold bt at this
    rw [show (64 * k + i) / 64 = k by omega, show (64 * k + i) % 64 = i by omega, List.getElem?_eq_getElem h1, List.getElem?_eq_getElem h2] at this
    exact this
  · rw [Nat.testBit_lt_two_pow (Nat.lt_of_lt_of_le (hW _ (List.getElem_mem h1)) (by have := Nat.pow_le_pow_right (n := 2) (by decide) (Nat.le_of_not_lt hi); omega)),
      Nat.testBit_lt_two_pow (Nat.lt_of_lt_of_le (hV _ (List.getElem_mem h2)) (by have := Nat.pow_le_pow_right (n := 2) (by decide) (Nat.le_of_not_lt hi); omega))]
/-! ### the bits of a word, least first -/
theorem filter_step {n t : Nat} {p q : Nat → Bool} (ht : t < n) (h1 : ∀ i, i < t → p i = false) (h2 : p t = true) (h3 : ∀ i, i ≤ t → q i = false) (h4 : ∀ i, t < i → q i = p i) : (List.range n).filter p = t :: (List.range n).filter q := by
  obtain ⟨m, rfl⟩ : ∃ m, n = (t + 1) + m := ⟨n - (t + 1), by omega⟩
  rw [List.range_add, List.filter_append, List.filter_append, List.range_succ, List.filter_append, List.filter_append]
  have a1 : (List.range t).filter p = [] := List.filter_eq_nil_iff.mpr (fun i hi => by rw [h1 i (List.mem_range.mp hi)]; decide)
  have a2 : (List.range t).filter q = [] := List.filter_eq_nil_iff.mpr (fun i hi => by rw [h3 i (Nat.le_of_lt (List.mem_range.mp hi))]; decide)
  have a3 : [t].filter p = [t] := by simp [h2]
  have a4 : [t].filter q = [] := by simp [h3 t (Nat.le_refl t)]
  have a5 : ((List.range m).map (fun x => t + 1 + x)).filter p = ((List.range m).map (fun x => t + 1 + x)).filter q := by
    refine List.filter_congr (fun i hi => ?_)
    obtain ⟨j, _, rfl⟩ := List.mem_map.mp hi
    exact (h4 _ (by omega)).symm
  rw [a1, a2, a3, a4, a5]
  rfl
theorem word_step {w : Nat} (h0 : w ≠ 0) (h : w < 18446744073709551616) : Lib.ctz 64 w < 64 ∧ (w &&& (w - 1)) < w ∧ (List.range 64).filter w.testBit = Lib.ctz 64 w :: (List.range 64).filter (w &&& (w - 1)).testBit := by
  have hc : Lib.ctz 64 w = Lib.ctzFrom 64 w := by unfold Lib.ctz; rw [if_neg h0]
  obtain ⟨m, hm, ht⟩ := Lib.ctzFrom_spec 64 w (Nat.pos_of_ne_zero h0) h
  rw [hc]
  obtain ⟨t, et⟩ : ∃ t, t = Lib.ctzFrom 64 w := ⟨_, rfl⟩
  rw [← et] at hm ht ⊢
  have hp : 0 < 2 ^ t := Nat.pow_pos (by decide)
  have e1 : w = 2 ^ (t + 1) * m + 2 ^ t := by rw [hm, Nat.pow_succ, Nat.mul_add, Nat.mul_one, Nat.mul_assoc]
  have e2 : w - 1 = 2 ^ (t + 1) * m + (2 ^ t - 1) := by omega
  have b1 : 2 ^ t < 2 ^ (t + 1) := Nat.pow_lt_pow_right (by decide) (by omega)
  have t1 : ∀ i, w.testBit i = if i < t + 1 then decide (t = i) else m.testBit (i - (t + 1)) := fun i => by
    rw [e1, Nat.testBit_two_pow_mul_add _ b1, Nat.testBit_two_pow]
  have t2 : ∀ i, (w - 1).testBit i = if i < t + 1 then decide (i < t) else m.testBit (i - (t + 1)) := fun i => by
    rw [e2, Nat.testBit_two_pow_mul_add _ (by omega), Nat.testBit_two_pow_sub_one]
  refine ⟨ht, ?_, ?_⟩
  · have := Nat.and_le_right (n := w) (m := w - 1)
    omega
  · refine filter_step ht (fun i hi => ?_) ?_ (fun i hi => ?_) (fun i hi => ?_)
    · rw [t1, if_pos (by omega)]
      exact decide_eq_false (by omega)
    · rw [t1, if_pos (by omega)]
      exact decide_eq_true rfl
    · rw [Nat.testBit_and, t1, t2, if_pos (by omega), if_pos (by omega)]
      by_cases e : t = i
      · subst e
        simp
      · simp [e]
    · rw [Nat.testBit_and, t1, t2, if_neg (by omega), if_neg (by omega), Bool.and_self]
theorem mkd_words (W : List Nat) {k w : Nat} (h : W[k]? = some w) : mkd (bt W) (64 * (k + 1)) = mkd (bt W) (64 * k) ++ ((List.range 64).filter w.testBit).map (fun t : Nat => 64 * (k : Int) + (t : Int)) := by
  unfold mkd
  rw [Nat.mul_add, Nat.mul_one, List.range_add, List.filter_append, List.map_append]
  congr 1
  rw [List.filter_map, List.map_map]
  have : (List.range 64).filter (bt W ∘ fun x => 64 * k + x) = (List.range 64).filter w.testBit := by
    refine List.filter_congr (fun i hi => ?_)
    have hi := List.mem_range.mp hi
    simp only [Function.comp]
    rw [bt_at h (by omega)]
    congr 1
    omega
  rw [this]
  refine List.map_congr_left (fun t _ => ?_)
  simp
end Go.Proofs.YtjggmhpjlnmigaaDoor
