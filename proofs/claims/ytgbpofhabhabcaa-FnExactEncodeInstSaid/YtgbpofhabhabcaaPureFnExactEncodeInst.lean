/- The program's EncodeInst answers as the reference's EncodeInst does, at every instruction (five numbers of 64 bits). No condition. -/
import Derived.Test.YtgbpofhabhabcaaPEncx
import Derived.Test.YtgbpofhabhabcaaBase
namespace Go.Proofs.Ytgbpofhabhabcaa.Pure
open Go.RowKit Go.Proofs.Ytgbpofhabhabcaa.PEnc Go.Proofs.YtgbpofhabhabcaaW.PrintWords Go.Proofs.YtgbpofhabhabcaaW.PrintLast Go.Proofs.YtgbpofhabhabcaaW.PrintMore Go.Proofs.Ytgbpofhabhabcaa.Base
set_option linter.unusedVariables false
set_option linter.unusedSimpArgs false
theorem spec_word (a : Int) : spec_Word.f a = some (a % 4294967296) := congrArg some (word_of a)
theorem power_loop (n : Int) (hn : n ≤ 62) (d : Nat) : ∀ (k : Nat) (v i : Int), 0 ≤ i → n - i = d → 0 ≤ v → v * 2 ^ d ≤ 4611686018427387904 → d < k →
    spec_l1Power.l0 k n v i = some (v * 2 ^ d) := by
  induction d with
  | zero =>
    intro k v i h0 h1 hv hm hk
    obtain ⟨k, rfl⟩ : ∃ m, k = m + 1 := ⟨k - 1, by omega⟩
    simp only [spec_l1Power.l0]
    rw [if_neg (by omega)]
    simp
  | succ d ih =>
    intro k v i h0 h1 hv hm hk
    obtain ⟨k, rfl⟩ : ∃ m, k = m + 1 := ⟨k - 1, by omega⟩
    have hp : (1 : Int) ≤ 2 ^ d := by have h_ : (0 : Int) < 2 ^ d := Int.pow_pos (by decide); omega
    have e : v * 2 ^ (d + 1) = (v * 2) * 2 ^ d := by rw [Int.pow_succ]; rw [Int.mul_assoc, Int.mul_comm 2]
    rw [e] at hm
    have hb : v * 2 ≤ (v * 2) * 2 ^ d := by
      have := Int.mul_le_mul_of_nonneg_left hp (show 0 ≤ v * 2 by omega)
      omega
    simp only [spec_l1Power.l0]
    rw [if_pos (by omega), w64 (by omega) (by omega), w64 (by omega) (by omega), e]
    exact ih k (v * 2) (i + 1) (by omega) (by omega) (by omega) hm (by omega)
theorem spec_power (k : Nat) (n : Nat) (hn : n ≤ 62) (hk : n < k) : spec_l1Power.f k (n : Int) = some (2 ^ n) := by
  unfold spec_l1Power.f
  have hp : (2 : Int) ^ n ≤ 2 ^ 62 := by
    have := Nat.pow_le_pow_right (show 0 < 2 by decide) hn
    have hc : ((2 ^ n : Nat) : Int) = (2 : Int) ^ n := by simp
    omega
  rw [power_loop (n : Int) (by omega) n k 1 0 (by omega) (by omega) (by omega) (by omega) hk]
  simp
/-- The form of an Op: R 1, I 2, H 3, S 4, B 5, U 6, J 7, E 8; 0 for none. -/
def frm (op : Int) : Int :=
  if 1 ≤ op ∧ op ≤ 18 then 1 else if 25 ≤ op ∧ op ≤ 27 then 3 else if 19 ≤ op ∧ op ≤ 33 then 2 else if 34 ≤ op ∧ op ≤ 36 then 4
  else if 37 ≤ op ∧ op ≤ 42 then 5 else if op = 43 ∨ op = 44 then 6 else if op = 45 then 7 else if op = 46 ∨ op = 47 then 8 else 0
/-- An instruction is well formed. -/
def iok (op d s t n : Int) : Bool := decide (frm op ≠ 0 ∧ (0 ≤ d ∧ d ≤ 31) ∧ (0 ≤ s ∧ s ≤ 31) ∧ (0 ≤ t ∧ t ≤ 31) ∧
  (frm op = 1 ∨ frm op = 2 ∨ frm op = 3 ∨ frm op = 6 ∨ frm op = 7 ∨ d = 0) ∧ (frm op = 1 ∨ frm op = 2 ∨ frm op = 3 ∨ frm op = 4 ∨ frm op = 5 ∨ s = 0) ∧ (frm op = 1 ∨ frm op = 4 ∨ frm op = 5 ∨ t = 0) ∧
  ((frm op = 2 ∨ frm op = 4) → -2048 ≤ n ∧ n ≤ 2047) ∧ (frm op = 3 → 0 ≤ n ∧ n ≤ 31) ∧ (frm op = 5 → -4096 ≤ n ∧ n ≤ 4094 ∧ n % 2 = 0) ∧ (frm op = 6 → 0 ≤ n ∧ n ≤ 1048575) ∧
  (frm op = 7 → -1048576 ≤ n ∧ n ≤ 1048574 ∧ n % 2 = 0) ∧ ((frm op = 1 ∨ frm op = 8) → n = 0))
theorem frm_cases (op : Int) : frm op = 0 ∨ frm op = 1 ∨ frm op = 2 ∨ frm op = 3 ∨ frm op = 4 ∨ frm op = 5 ∨ frm op = 6 ∨ frm op = 7 ∨ frm op = 8 := by
  unfold frm; omega
theorem spec_form (k : Nat) (op : Int) : spec_l2Form.f (k + 6) op = some (frm op) := by
  unfold spec_l2Form.f
  by_cases h1 : 1 ≤ op ∧ op ≤ 18
  · rw [if_pos h1.1, decide_eq_true h1.2]; simp only [spec_l2Form.j0, if_true]; unfold frm; rw [if_pos h1]
  have e1 : (if op ≥ 1 then (spec_l2Form.j0 (k + 6) op (decide (op ≤ 18))) else (spec_l2Form.j0 (k + 6) op false)) = spec_l2Form.j0 (k + 6) op false := by
    split
    · rw [decide_eq_false (by omega)]
    · rfl
  rw [e1]; simp only [spec_l2Form.j0, Bool.false_eq_true, if_false]
  by_cases h3 : 25 ≤ op ∧ op ≤ 27
  · rw [if_pos h3.1, decide_eq_true h3.2]; simp only [spec_l2Form.j1, if_true]; unfold frm; rw [if_neg h1, if_pos h3]
  have e2 : (if op ≥ 25 then (spec_l2Form.j1 (k + 5) op (decide (op ≤ 27))) else (spec_l2Form.j1 (k + 5) op false)) = spec_l2Form.j1 (k + 5) op false := by
    split
    · rw [decide_eq_false (by omega)]
    · rfl
  rw [e2]; simp only [spec_l2Form.j1, Bool.false_eq_true, if_false]
  by_cases h2 : 19 ≤ op ∧ op ≤ 33
  · rw [if_pos h2.1, decide_eq_true h2.2]; simp only [spec_l2Form.j2, if_true]; unfold frm; rw [if_neg h1, if_neg h3, if_pos h2]
  have e3 : (if op ≥ 19 then (spec_l2Form.j2 (k + 4) op (decide (op ≤ 33))) else (spec_l2Form.j2 (k + 4) op false)) = spec_l2Form.j2 (k + 4) op false := by
    split
    · rw [decide_eq_false (by omega)]
    · rfl
  rw [e3]; simp only [spec_l2Form.j2, Bool.false_eq_true, if_false]
  by_cases h4 : 34 ≤ op ∧ op ≤ 36
  · rw [if_pos h4.1, decide_eq_true h4.2]; simp only [spec_l2Form.j3, if_true]; unfold frm; rw [if_neg h1, if_neg h3, if_neg h2, if_pos h4]
  have e4 : (if op ≥ 34 then (spec_l2Form.j3 (k + 3) op (decide (op ≤ 36))) else (spec_l2Form.j3 (k + 3) op false)) = spec_l2Form.j3 (k + 3) op false := by
    split
    · rw [decide_eq_false (by omega)]
    · rfl
  rw [e4]; simp only [spec_l2Form.j3, Bool.false_eq_true, if_false]
  by_cases h5 : 37 ≤ op ∧ op ≤ 42
  · rw [if_pos h5.1, decide_eq_true h5.2]; simp only [spec_l2Form.j4, if_true]; unfold frm; rw [if_neg h1, if_neg h3, if_neg h2, if_neg h4, if_pos h5]
  have e5 : (if op ≥ 37 then (spec_l2Form.j4 (k + 2) op (decide (op ≤ 42))) else (spec_l2Form.j4 (k + 2) op false)) = spec_l2Form.j4 (k + 2) op false := by
    split
    · rw [decide_eq_false (by omega)]
    · rfl
  rw [e5]; simp only [spec_l2Form.j4, Bool.false_eq_true, if_false]
  unfold frm
  rw [if_neg h1, if_neg h3, if_neg h2, if_neg h4, if_neg h5]
  by_cases h6 : op = 43
  · subst h6; rfl
  by_cases h7 : op = 44
  · subst h7; rfl
  rw [if_neg h6, beq_eq_false_iff_ne.mpr h7, if_neg (by omega)]
  simp only [spec_l2Form.j5, Bool.false_eq_true, if_false]
  by_cases h8 : op = 45
  · rw [if_pos h8, if_pos h8]
  rw [if_neg h8, if_neg h8]
  by_cases h9 : op = 46
  · rw [if_pos h9, if_pos (by omega)]
  rw [if_neg h9]
  by_cases h10 : op = 47
  · rw [if_pos h10, if_pos (by omega)]
  · rw [if_neg h10, if_neg (by omega)]
/-- A form's letter. -/
def letr (f : Int) : Int := if f = 1 then 82 else if f = 2 then 73 else if f = 3 then 72 else if f = 4 then 83 else if f = 5 then 66 else if f = 6 then 85 else if f = 7 then 74 else if f = 8 then 69 else 0
theorem impl_form (k : Nat) (op : Int) : impl_formOf.f (k + 7) op = some (letr (frm op)) := by
  unfold impl_formOf.f
  by_cases h1 : 1 ≤ op ∧ op ≤ 18
  · rw [if_pos h1.1, decide_eq_true h1.2]; simp only [impl_formOf.j0, if_true]; unfold frm; rw [if_pos h1]; rfl
  have e1 : (if op ≥ 1 then (impl_formOf.j0 (k + 7) op (decide (op ≤ 18))) else (impl_formOf.j0 (k + 7) op false)) = impl_formOf.j0 (k + 7) op false := by
    split
    · rw [decide_eq_false (by omega)]
    · rfl
  rw [e1]; simp only [impl_formOf.j0, Bool.false_eq_true, if_false]
  have e2 : (if op ≥ 19 then (impl_formOf.j1 (k + 6) op (decide (op ≤ 24))) else (impl_formOf.j1 (k + 6) op false)) = impl_formOf.j1 (k + 6) op (decide (19 ≤ op ∧ op ≤ 24)) := by
    split
    · congr 1; simp only [decide_eq_decide]; omega
    · rw [decide_eq_false (p := 19 ≤ op ∧ op ≤ 24) (by omega)]
  rw [e2]; simp only [impl_formOf.j1]
  have e3 : (if decide (19 ≤ op ∧ op ≤ 24) = true then impl_formOf.j2 (k + 5) op (decide (19 ≤ op ∧ op ≤ 24)) else (if op ≥ 28 then (impl_formOf.j2 (k + 5) op (decide (op ≤ 33))) else (impl_formOf.j2 (k + 5) op false))) = impl_formOf.j2 (k + 5) op (decide ((19 ≤ op ∧ op ≤ 24) ∨ (28 ≤ op ∧ op ≤ 33))) := by
    by_cases c : 19 ≤ op ∧ op ≤ 24
    · rw [if_pos (decide_eq_true c), decide_eq_true c, decide_eq_true (Or.inl c)]
    · rw [if_neg (by simpa using c)]
      split
      · congr 1; simp only [decide_eq_decide]; omega
      · rw [decide_eq_false (p := _ ∨ _) (by omega)]
  rw [e3]; simp only [impl_formOf.j2]
  by_cases h3 : 25 ≤ op ∧ op ≤ 27
  · rw [if_neg (by simp; omega), if_pos h3.1, decide_eq_true h3.2]; simp only [impl_formOf.j3, if_true]; unfold frm; rw [if_neg h1, if_pos h3]; rfl
  by_cases h2 : 19 ≤ op ∧ op ≤ 33
  · rw [if_pos (by simp; omega)]; unfold frm; rw [if_neg h1, if_neg h3, if_pos h2]; rfl
  rw [if_neg (by simp; omega)]
  have e4 : (if op ≥ 25 then (impl_formOf.j3 (k + 4) op (decide (op ≤ 27))) else (impl_formOf.j3 (k + 4) op false)) = impl_formOf.j3 (k + 4) op false := by
    split
    · rw [decide_eq_false (by omega)]
    · rfl
  rw [e4]; simp only [impl_formOf.j3, Bool.false_eq_true, if_false]
  by_cases h4 : 34 ≤ op ∧ op ≤ 36
  · rw [if_pos h4.1, decide_eq_true h4.2]; simp only [impl_formOf.j4, if_true]; unfold frm; rw [if_neg h1, if_neg h3, if_neg h2, if_pos h4]; rfl
  have e5 : (if op ≥ 34 then (impl_formOf.j4 (k + 3) op (decide (op ≤ 36))) else (impl_formOf.j4 (k + 3) op false)) = impl_formOf.j4 (k + 3) op false := by
    split
    · rw [decide_eq_false (by omega)]
    · rfl
  rw [e5]; simp only [impl_formOf.j4, Bool.false_eq_true, if_false]
  by_cases h5 : 37 ≤ op ∧ op ≤ 42
  · rw [if_pos h5.1, decide_eq_true h5.2]; simp only [impl_formOf.j5, if_true]; unfold frm; rw [if_neg h1, if_neg h3, if_neg h2, if_neg h4, if_pos h5]; rfl
  have e6 : (if op ≥ 37 then (impl_formOf.j5 (k + 2) op (decide (op ≤ 42))) else (impl_formOf.j5 (k + 2) op false)) = impl_formOf.j5 (k + 2) op false := by
    split
    · rw [decide_eq_false (by omega)]
    · rfl
  rw [e6]; simp only [impl_formOf.j5, Bool.false_eq_true, if_false]
  unfold frm
  rw [if_neg h1, if_neg h3, if_neg h2, if_neg h4, if_neg h5]
  by_cases h6 : op = 43
  · subst h6; rfl
  by_cases h7 : op = 44
  · subst h7; rfl
  rw [if_neg h6, beq_eq_false_iff_ne.mpr h7, if_neg (by omega)]
  simp only [impl_formOf.j6, Bool.false_eq_true, if_false]
  by_cases h8 : op = 45
  · rw [if_pos h8, if_pos h8]; rfl
  rw [if_neg h8, if_neg h8]
  by_cases h9 : op = 46
  · rw [if_pos h9, if_pos (by omega)]; rfl
  rw [if_neg h9]
  by_cases h10 : op = 47
  · rw [if_pos h10, if_pos (by omega)]; rfl
  · rw [if_neg h10, if_neg (by omega)]; rfl
theorem inside_spec (x lo hi : Int) : impl_inside.f x lo hi = some (decide (lo ≤ x ∧ x ≤ hi)) := by
  unfold impl_inside.f
  by_cases h : x ≥ lo
  · rw [if_pos h]; congr 1; simp only [decide_eq_decide]; omega
  · rw [if_neg h, decide_eq_false (by omega)]
theorem isReg_loop (l : List Int) (hl : l.length ≤ 100) (d : Nat) : ∀ (k i : Nat), i + d = l.length → d < k → impl_isReg.l0 k l (l.length : Int) (i : Int) = some ((l.drop i).all fun x => decide (0 ≤ x ∧ x ≤ 31)) := by
  induction d with
  | zero =>
    intro k i hi hk
    obtain ⟨k, rfl⟩ : ∃ m, k = m + 1 := ⟨k - 1, by omega⟩
    simp only [impl_isReg.l0]
    rw [if_neg (by omega), List.drop_eq_nil_of_le (by omega)]; rfl
  | succ d ih =>
    intro k i hi hk
    obtain ⟨k, rfl⟩ : ∃ m, k = m + 1 := ⟨k - 1, by omega⟩
    have hlt : i < l.length := by omega
    simp only [impl_isReg.l0]
    rw [if_pos (by omega), if_pos (by omega), if_pos (by omega), inside_spec]
    simp only [Option.bind_some]
    rw [w64 (by omega) (by omega), show (i : Int) + 1 = ((i + 1 : Nat) : Int) by omega, ih k (i + 1) (by omega) (by omega)]
    have e : rd l (i : Int) = l[i] := by simp [rd, List.getD_eq_getElem?_getD, List.getElem?_eq_getElem hlt]
    rw [List.drop_eq_getElem_cons hlt, List.all_cons, e]
    cases decide (0 ≤ l[i] ∧ l[i] ≤ 31) <;> simp
theorem isReg_spec (k : Nat) (l : List Int) (hl : l.length ≤ 100) (hk : l.length < k) : impl_isReg.f k l = some (l.all fun x => decide (0 ≤ x ∧ x ≤ 31)) := by
  unfold impl_isReg.f
  have h := isReg_loop l hl l.length k 0 (by omega) hk
  simpa using h
theorem tmod2 (n : Int) : Int.tmod n 2 = 0 ↔ n % 2 = 0 := by
  by_cases h : 0 ≤ n
  · rw [tmod_pos h]
  · rw [tmod_neg (by omega)]; omega
theorem beq0 (x : Int) : ((0 : Int) == x) = decide (x = 0) := by
  by_cases h : x = 0
  · subst h; rfl
  · rw [decide_eq_false h]; exact beq_eq_false_iff_ne.mpr (fun e => h e.symm)
set_option maxHeartbeats 4000000 in
theorem impl_iok (k : Nat) (op d s t n : Int) : impl_InstOk.f (k + 10) op d s t n = some (iok op d s t n) := by
  unfold impl_InstOk.f
  rw [isReg_spec _ _ (by simp) (by simp)]; simp only [Option.bind_some, List.all_cons, List.all_nil, Bool.and_true]
  by_cases hr : (0 ≤ d ∧ d ≤ 31) ∧ (0 ≤ s ∧ s ≤ 31) ∧ (0 ≤ t ∧ t ≤ 31)
  · obtain ⟨h1, h2, h3⟩ := hr
    rw [decide_eq_true h1, decide_eq_true h2, decide_eq_true h3]
    simp only [Bool.and_true, if_true]
    rw [impl_form (k + 3)]; simp only [Option.bind_some, inside_spec]
    unfold iok
    have ht := tmod2 n
    rcases frm_cases op with e | e | e | e | e | e | e | e | e <;> rw [e] <;> simp only [show letr 0 = 0 from rfl, show letr 1 = 82 from rfl, show letr 2 = 73 from rfl, show letr 3 = 72 from rfl, show letr 4 = 83 from rfl, show letr 5 = 66 from rfl, show letr 6 = 85 from rfl, show letr 7 = 74 from rfl, show letr 8 = 69 from rfl, Int.reduceEq, if_true, if_false, beq0]
    all_goals (repeat' split) <;> (congr 1; try (rw [Bool.eq_iff_iff]; simp at *; try omega))
  · have hf : (decide (0 ≤ d ∧ d ≤ 31) && (decide (0 ≤ s ∧ s ≤ 31) && decide (0 ≤ t ∧ t ≤ 31))) = false := by
      rw [← Bool.not_eq_true]; simp only [Bool.and_eq_true, decide_eq_true_eq]; exact hr
    rw [hf]
    simp only [Bool.false_eq_true, if_false]
    unfold iok
    rw [decide_eq_false (fun h => hr ⟨h.2.1, h.2.2.1, h.2.2.2.1⟩)]
theorem spec_parts (f : Int) (h0 : 0 ≤ f) (h8 : f ≤ 8) : spec_l2Parts.f f = some (if f = 0 then 0 else if f = 1 then 7 else if f = 2 then 11 else if f = 3 then 11 else if f = 4 then 14 else if f = 5 then 14 else if f = 6 then 9 else if f = 7 then 9 else 0) := by
  obtain rfl | rfl | rfl | rfl | rfl | rfl | rfl | rfl | rfl : f = 0 ∨ f = 1 ∨ f = 2 ∨ f = 3 ∨ f = 4 ∨ f = 5 ∨ f = 6 ∨ f = 7 ∨ f = 8 := by omega
  all_goals rfl
theorem spec_range (k : Nat) (f : Int) (h0 : 1 ≤ f) (h8 : f ≤ 8) : spec_l2Range.f (k + 1) f = some (if f = 2 ∨ f = 4 then (-2048, 2047, 1) else if f = 3 then (0, 31, 1) else if f = 5 then (-4096, 4094, 2) else if f = 6 then (0, 1048575, 1) else if f = 7 then (-1048576, 1048574, 2) else (0, 0, 1)) := by
  obtain rfl | rfl | rfl | rfl | rfl | rfl | rfl | rfl : f = 1 ∨ f = 2 ∨ f = 3 ∨ f = 4 ∨ f = 5 ∨ f = 6 ∨ f = 7 ∨ f = 8 := by omega
  all_goals rfl
theorem round_spec (K : Nat) (hK : 5 ≤ K) (f P : Int) (L : List Int) (i : Nat) (op d s t n x : Int) (hL : L.length = 3) (hi : i < 3) (hx : rd L i = x) (hP : 0 ≤ P) (hP' : P < 16) :
    spec_InstOk.l0 (K + 1) f P L (i : Int) op d s t n = if x < 0 ∨ 31 < x ∨ (P / 2 ^ i % 2 = 0 ∧ x ≠ 0) then some false else spec_InstOk.l0 K f P L ((i + 1 : Nat) : Int) op d s t n := by
  simp only [spec_InstOk.l0]
  rw [if_pos (by omega), if_pos (by omega), if_pos (by omega), hx]
  by_cases h1 : x < 0
  · rw [if_pos h1, if_pos (by omega)]
  by_cases h2 : x > 31
  · rw [if_neg h1, if_pos h2, if_pos (by omega)]
  have hp : (0 : Int) < 2 ^ i := Int.pow_pos (by decide)
  have hd := ediv_le P (2 ^ i) hP (by omega)
  rw [if_neg h1, if_neg h2, spec_power K i (by omega) (by omega)]; simp only [Option.bind_some]
  rw [if_neg (by omega), tdiv_pos hP, w64 (n := P / 2 ^ i) (by omega) (by omega), tmod_pos (by omega), w64 (by omega) (by omega), show (i : Int) + 1 = ((i + 1 : Nat) : Int) by omega]
  by_cases h3 : P / 2 ^ i % 2 = 0
  · rw [if_pos h3]
    by_cases h4 : x = 0
    · rw [if_pos h4, if_neg (by omega)]
    · rw [if_neg h4, if_pos (by omega)]
  · rw [if_neg h3, if_neg (by omega)]
theorem tmod1 (n : Int) : Int.tmod n 1 = 0 := Int.tmod_one n
set_option maxHeartbeats 4000000 in
theorem spec_iok (k : Nat) (op d s t n : Int) : spec_InstOk.f (k + 20) op d s t n = some (iok op d s t n) := by
  unfold spec_InstOk.f
  rw [spec_form (k + 14)]; simp only [Option.bind_some]
  unfold iok
  by_cases h0 : frm op = 0
  · rw [if_pos h0, decide_eq_false (fun h => h.1 h0)]
  rw [if_neg h0, spec_parts _ (by have := frm_cases op; omega) (by have := frm_cases op; omega)]; simp only [Option.bind_some]
  have r0 : ∀ P : Int, 0 ≤ P → P < 16 → spec_InstOk.l0 (k + 20) (frm op) P [d, s, t] 0 op d s t n = if d < 0 ∨ 31 < d ∨ (P % 2 = 0 ∧ d ≠ 0) then some false else spec_InstOk.l0 (k + 19) (frm op) P [d, s, t] 1 op d s t n := fun P a b => by
    have h := round_spec (k + 19) (by omega) (frm op) P [d, s, t] 0 op d s t n d rfl (by omega) rfl a b
    rw [show P / 2 ^ 0 = P by simp] at h
    exact h
  have r1 : ∀ P : Int, 0 ≤ P → P < 16 → spec_InstOk.l0 (k + 19) (frm op) P [d, s, t] 1 op d s t n = if s < 0 ∨ 31 < s ∨ (P / 2 % 2 = 0 ∧ s ≠ 0) then some false else spec_InstOk.l0 (k + 18) (frm op) P [d, s, t] 2 op d s t n := fun P a b => by
    have h := round_spec (k + 18) (by omega) (frm op) P [d, s, t] 1 op d s t n s rfl (by omega) rfl a b
    exact h
  have r2 : ∀ P : Int, 0 ≤ P → P < 16 → spec_InstOk.l0 (k + 18) (frm op) P [d, s, t] 2 op d s t n = if t < 0 ∨ 31 < t ∨ (P / 4 % 2 = 0 ∧ t ≠ 0) then some false else spec_InstOk.l0 (k + 17) (frm op) P [d, s, t] 3 op d s t n := fun P a b => by
    have h := round_spec (k + 17) (by omega) (frm op) P [d, s, t] 2 op d s t n t rfl (by omega) rfl a b
    exact h
  have finK : ∀ (K : Nat) (P : Int), spec_InstOk.l0 (K + 1) (frm op) P [d, s, t] 3 op d s t n = (spec_l2Range.f K (frm op)).bind fun q => (if n ≥ q.1 then (if n ≤ q.2.1 then (if q.2.2 = 0 then none else some ((Int.tmod n q.2.2) == 0)) else (some false)) else (some false)) := by
    intro K P
    simp only [spec_InstOk.l0]
    rw [if_neg (by omega)]
  have fin := finK (k + 16)
  clear finK
  rw [spec_range (k + 15) _ (by have := frm_cases op; omega) (by have := frm_cases op; omega)] at fin
  simp only [Option.bind_some] at fin
  have ht := tmod2 n
  have hb : ((Int.tmod n 2 == 0) = true) ↔ n % 2 = 0 := by rw [beq_iff_eq]; exact ht
  have h1 : ((Int.tmod n 1 == 0) = true) := by rw [tmod1]; rfl
  rcases frm_cases op with e | e | e | e | e | e | e | e | e
  · exact absurd e h0
  all_goals
    rw [e] at r0 r1 r2 fin ⊢
    simp only [Int.reduceEq, if_true, if_false, or_true, true_or, or_false, false_or, ne_eq, not_false_eq_true, true_and, false_implies, forall_const, and_true] at fin ⊢
    rw [r0 _ (by decide) (by decide), r1 _ (by decide) (by decide), r2 _ (by decide) (by decide), fin]
    (repeat' split) <;> (congr 1; try (rw [Bool.eq_iff_iff]; simp [hb, h1] at *; try omega))
theorem op_cases {op : Int} (h1 : 1 ≤ op) (h2 : op ≤ 47) : op = 1 ∨ op = 2 ∨ op = 3 ∨ op = 4 ∨ op = 5 ∨ op = 6 ∨ op = 7 ∨ op = 8 ∨ op = 9 ∨ op = 10 ∨ op = 11 ∨ op = 12 ∨ op = 13 ∨ op = 14 ∨ op = 15 ∨ op = 16 ∨ op = 17 ∨ op = 18 ∨ op = 19 ∨ op = 20 ∨ op = 21 ∨ op = 22 ∨ op = 23 ∨ op = 24 ∨ op = 25 ∨ op = 26 ∨ op = 27 ∨ op = 28 ∨ op = 29 ∨ op = 30 ∨ op = 31 ∨ op = 32 ∨ op = 33 ∨ op = 34 ∨ op = 35 ∨ op = 36 ∨ op = 37 ∨ op = 38 ∨ op = 39 ∨ op = 40 ∨ op = 41 ∨ op = 42 ∨ op = 43 ∨ op = 44 ∨ op = 45 ∨ op = 46 ∨ op = 47 := by omega
theorem par_range (op : Int) (h1 : 1 ≤ op) (h2 : op ≤ 47) : 0 ≤ (par op).1 ∧ (par op).1 < 128 ∧ 0 ≤ (par op).2.1 ∧ (par op).2.1 ≤ 7 ∧ 0 ≤ (par op).2.2 ∧ (par op).2.2 ≤ 32 := by
  obtain rfl | rfl | rfl | rfl | rfl | rfl | rfl | rfl | rfl | rfl | rfl | rfl | rfl | rfl | rfl | rfl | rfl | rfl | rfl | rfl | rfl | rfl | rfl | rfl | rfl | rfl | rfl | rfl | rfl | rfl | rfl | rfl | rfl | rfl | rfl | rfl | rfl | rfl | rfl | rfl | rfl | rfl | rfl | rfl | rfl | rfl | rfl := op_cases h1 h2
  all_goals decide
theorem frm_range (op : Int) (h : frm op ≠ 0) : 1 ≤ op ∧ op ≤ 47 := by unfold frm at h; omega
theorem impl_par (op : Int) (h1 : 1 ≤ op) (h2 : op ≤ 47) : impl_partsOf.f op = some (par op) := by
  unfold impl_partsOf.f
  rw [if_pos ⟨h1, h2⟩]
theorem spec_c (op : Int) (h1 : 1 ≤ op) (h2 : op ≤ 47) : spec_l2C.f op = some (par op).1 := by
  obtain rfl | rfl | rfl | rfl | rfl | rfl | rfl | rfl | rfl | rfl | rfl | rfl | rfl | rfl | rfl | rfl | rfl | rfl | rfl | rfl | rfl | rfl | rfl | rfl | rfl | rfl | rfl | rfl | rfl | rfl | rfl | rfl | rfl | rfl | rfl | rfl | rfl | rfl | rfl | rfl | rfl | rfl | rfl | rfl | rfl | rfl | rfl := op_cases h1 h2
  all_goals decide +kernel
theorem spec_f3 (op : Int) (h1 : 1 ≤ op) (h2 : op ≤ 42) : spec_l2F3.f op = some (par op).2.1 := by
  obtain rfl | rfl | rfl | rfl | rfl | rfl | rfl | rfl | rfl | rfl | rfl | rfl | rfl | rfl | rfl | rfl | rfl | rfl | rfl | rfl | rfl | rfl | rfl | rfl | rfl | rfl | rfl | rfl | rfl | rfl | rfl | rfl | rfl | rfl | rfl | rfl | rfl | rfl | rfl | rfl | rfl | rfl | rfl | rfl | rfl | rfl | rfl := op_cases h1 (show op ≤ 47 by omega)
  all_goals first | exact absurd h2 (by decide) | decide +kernel
theorem spec_f7 (k : Nat) (op : Int) (h1 : 1 ≤ op) (h2 : op ≤ 47) : spec_l2F7.f (k + 1) op = some (par op).2.2 := by
  unfold spec_l2F7.f
  simp only [spec_l2F7.j0]
  obtain rfl | rfl | rfl | rfl | rfl | rfl | rfl | rfl | rfl | rfl | rfl | rfl | rfl | rfl | rfl | rfl | rfl | rfl | rfl | rfl | rfl | rfl | rfl | rfl | rfl | rfl | rfl | rfl | rfl | rfl | rfl | rfl | rfl | rfl | rfl | rfl | rfl | rfl | rfl | rfl | rfl | rfl | rfl | rfl | rfl | rfl | rfl := op_cases h1 h2
  all_goals decide +kernel
theorem or_sum (x y : Int) (k : Nat) (hx : 0 ≤ x) (hx' : x < 4611686018427387904) (hm : x % 2 ^ k = 0) (hy : 0 ≤ y) (hy' : y < 2 ^ k) (hk : (2 : Int) ^ k ≤ 4611686018427387904) : Go.bits .or .i64 x y = x + y := by
  have hp : (0 : Int) < 2 ^ k := Int.pow_pos (by decide)
  have hc : ((2 ^ k : Nat) : Int) = (2 : Int) ^ k := by simp
  have h := or_nat x.toNat y.toNat (by omega) (by omega)
  rw [Int.toNat_of_nonneg hx, Int.toNat_of_nonneg hy] at h
  rw [h]
  have e := Int.mul_ediv_add_emod x (2 ^ k)
  have hq := ediv_le x (2 ^ k) hx (by omega)
  have ex : x.toNat = 2 ^ k * (x / 2 ^ k).toNat := by
    have : ((2 ^ k * (x / 2 ^ k).toNat : Nat) : Int) = 2 ^ k * (x / 2 ^ k) := by rw [Int.natCast_mul, hc, Int.toNat_of_nonneg hq.1]
    omega
  rw [ex, ← Nat.two_pow_add_eq_or_of_lt (by omega)]
  omega
theorem or_sum' (x y : Int) (k : Nat) (hx : 0 ≤ x) (hx' : x < 4611686018427387904) (hm : x % 2 ^ k = 0) (hy : 0 ≤ y) (hy' : y < 2 ^ k) (hk : (2 : Int) ^ k ≤ 4611686018427387904) : Go.bits .or .i64 y x = y + x := by
  have h0 := or_sum x y k hx hx' hm hy hy' hk
  have h := or_nat x.toNat y.toNat (by omega) (by omega)
  have h' := or_nat y.toNat x.toNat (by omega) (by omega)
  rw [Int.toNat_of_nonneg hx, Int.toNat_of_nonneg hy] at h h'
  rw [h', Nat.or_comm, ← h, h0]
  omega
/-- Bits h to l. -/
def fl (h l n : Int) : Int := n % 4294967296 / 2 ^ l.toNat % 2 ^ (h - l + 1).toNat
theorem fl_range (h l n : Int) : 0 ≤ fl h l n ∧ fl h l n < 2 ^ (h - l + 1).toNat := by
  have hp : (0 : Int) < 2 ^ (h - l + 1).toNat := Int.pow_pos (by decide)
  unfold fl
  exact ⟨Int.emod_nonneg _ (by omega), Int.emod_lt_of_pos _ hp⟩
/-- The word of an instruction. -/
def enc (op d s t n : Int) : Int :=
  let c := (par op).1; let f3 := (par op).2.1; let f7 := (par op).2.2
  if frm op = 1 then c + f7 * 33554432 + t * 1048576 + s * 32768 + f3 * 4096 + d * 128
  else if frm op = 2 then c + fl 11 0 n * 1048576 + s * 32768 + f3 * 4096 + d * 128
  else if frm op = 3 then c + f7 * 33554432 + n * 1048576 + s * 32768 + f3 * 4096 + d * 128
  else if frm op = 4 then c + fl 11 5 n * 33554432 + t * 1048576 + s * 32768 + f3 * 4096 + fl 4 0 n * 128
  else if frm op = 5 then c + fl 12 12 n * 2147483648 + fl 10 5 n * 33554432 + t * 1048576 + s * 32768 + f3 * 4096 + fl 4 1 n * 256 + fl 11 11 n * 128
  else if frm op = 6 then c + n * 4096 + d * 128
  else if frm op = 7 then c + fl 20 20 n * 2147483648 + fl 10 1 n * 2097152 + fl 11 11 n * 1048576 + fl 19 12 n * 4096 + d * 128
  else c + (op - 46) * 1048576
/-- What EncodeInst tells. -/
def encp (op d s t n : Int) : Int × Bool := if iok op d s t n = true then (enc op d s t n, true) else (0, false)
theorem fldb_fl (h l n : Int) (hh : (h - l + 1).toNat ≤ 62) : fldb h l n = fl h l n := by
  unfold fldb fl
  rw [and_w, and_mask _ _ hh]
theorem impl_enc (k : Nat) (op d s t n : Int) : impl_EncodeInst.f (k + 10) op d s t n = some (encp op d s t n) := by
  unfold impl_EncodeInst.f encp
  rw [impl_iok]; simp only [Option.bind_some]
  by_cases ho : iok op d s t n = true
  · rw [if_pos ho, if_pos ho]
    unfold iok at ho
    simp only [decide_eq_true_eq] at ho
    obtain ⟨h0, hd, hs, ht, u1, u2, u3, v1, v2, v3, v4, v5, v6⟩ := ho
    obtain ⟨o1, o2⟩ := frm_range op h0
    have hr := par_range op o1 o2
    rw [impl_par op o1 o2]; simp only [Option.bind_some]
    rw [impl_form (k + 3)]; simp only [Option.bind_some]
    unfold enc
    generalize hc : (par op).1 = c at *
    generalize h3 : (par op).2.1 = f3 at *
    generalize h7 : (par op).2.2 = f7 at *
    rcases frm_cases op with e | e | e | e | e | e | e | e | e
    · exact absurd e h0
    all_goals
      rw [e] at u1 u2 u3 v1 v2 v3 v4 v5 v6 ⊢
      simp only [show letr 1 = 82 from rfl, show letr 2 = 73 from rfl, show letr 3 = 72 from rfl, show letr 4 = 83 from rfl, show letr 5 = 66 from rfl, show letr 6 = 85 from rfl, show letr 7 = 74 from rfl, show letr 8 = 69 from rfl, Int.reduceEq, if_true, if_false]
    · rw [w64 (n := f7 * 33554432) (by omega) (by omega), w64 (n := t * 1048576) (by omega) (by omega), w64 (n := s * 32768) (by omega) (by omega), w64 (n := f3 * 4096) (by omega) (by omega), w64 (n := d * 128) (by omega) (by omega)]
      rw [or_sum (f7 * 33554432) (t * 1048576) 25 (by omega) (by omega) (by omega) (by omega) (by omega) (by omega), or_sum _ (s * 32768) 20 (by omega) (by omega) (by omega) (by omega) (by omega) (by omega), or_sum _ (f3 * 4096) 15 (by omega) (by omega) (by omega) (by omega) (by omega) (by omega), or_sum _ (d * 128) 12 (by omega) (by omega) (by omega) (by omega) (by omega) (by omega), or_sum' _ c 7 (by omega) (by omega) (by omega) (by omega) (by omega) (by omega)]
      congr 2; omega
    · have g := fl_range 11 0 n
      rw [fldb_fl _ _ _ (by decide)]
      generalize fl 11 0 n = q at *
      simp at g
      rw [w64 (n := q * 1048576) (by omega) (by omega), w64 (n := s * 32768) (by omega) (by omega), w64 (n := f3 * 4096) (by omega) (by omega), w64 (n := d * 128) (by omega) (by omega)]
      rw [or_sum _ (s * 32768) 20 (by omega) (by omega) (by omega) (by omega) (by omega) (by omega), or_sum _ (f3 * 4096) 15 (by omega) (by omega) (by omega) (by omega) (by omega) (by omega), or_sum _ (d * 128) 12 (by omega) (by omega) (by omega) (by omega) (by omega) (by omega), or_sum' _ c 7 (by omega) (by omega) (by omega) (by omega) (by omega) (by omega)]
      congr 2; omega
    · rw [w64 (n := f7 * 33554432) (by omega) (by omega), w64 (n := n * 1048576) (by omega) (by omega), w64 (n := s * 32768) (by omega) (by omega), w64 (n := f3 * 4096) (by omega) (by omega), w64 (n := d * 128) (by omega) (by omega)]
      rw [or_sum (f7 * 33554432) (n * 1048576) 25 (by omega) (by omega) (by omega) (by omega) (by omega) (by omega), or_sum _ (s * 32768) 20 (by omega) (by omega) (by omega) (by omega) (by omega) (by omega), or_sum _ (f3 * 4096) 15 (by omega) (by omega) (by omega) (by omega) (by omega) (by omega), or_sum _ (d * 128) 12 (by omega) (by omega) (by omega) (by omega) (by omega) (by omega), or_sum' _ c 7 (by omega) (by omega) (by omega) (by omega) (by omega) (by omega)]
      congr 2; omega
    · have g := fl_range 11 5 n
      have g' := fl_range 4 0 n
      rw [fldb_fl _ _ _ (by decide), fldb_fl _ _ _ (by decide)]
      generalize fl 11 5 n = q at *
      generalize fl 4 0 n = q' at *
      simp at g g'
      rw [w64 (n := q * 33554432) (by omega) (by omega), w64 (n := t * 1048576) (by omega) (by omega), w64 (n := s * 32768) (by omega) (by omega), w64 (n := f3 * 4096) (by omega) (by omega), w64 (n := q' * 128) (by omega) (by omega)]
      rw [or_sum _ (t * 1048576) 25 (by omega) (by omega) (by omega) (by omega) (by omega) (by omega), or_sum _ (s * 32768) 20 (by omega) (by omega) (by omega) (by omega) (by omega) (by omega), or_sum _ (f3 * 4096) 15 (by omega) (by omega) (by omega) (by omega) (by omega) (by omega), or_sum _ (q' * 128) 12 (by omega) (by omega) (by omega) (by omega) (by omega) (by omega), or_sum' _ c 7 (by omega) (by omega) (by omega) (by omega) (by omega) (by omega)]
      congr 2; omega
    · have g1 := fl_range 12 12 n
      have g2 := fl_range 10 5 n
      have g3 := fl_range 4 1 n
      have g4 := fl_range 11 11 n
      rw [fldb_fl _ _ _ (by decide), fldb_fl _ _ _ (by decide), fldb_fl _ _ _ (by decide), fldb_fl _ _ _ (by decide)]
      generalize fl 12 12 n = q1 at *
      generalize fl 10 5 n = q2 at *
      generalize fl 4 1 n = q3 at *
      generalize fl 11 11 n = q4 at *
      simp at g1 g2 g3 g4
      rw [w64 (n := q1 * 2147483648) (by omega) (by omega), w64 (n := q2 * 33554432) (by omega) (by omega), w64 (n := t * 1048576) (by omega) (by omega), w64 (n := s * 32768) (by omega) (by omega), w64 (n := f3 * 4096) (by omega) (by omega), w64 (n := q3 * 256) (by omega) (by omega), w64 (n := q4 * 128) (by omega) (by omega)]
      rw [or_sum _ (q2 * 33554432) 31 (by omega) (by omega) (by omega) (by omega) (by omega) (by omega), or_sum _ (t * 1048576) 25 (by omega) (by omega) (by omega) (by omega) (by omega) (by omega), or_sum _ (s * 32768) 20 (by omega) (by omega) (by omega) (by omega) (by omega) (by omega), or_sum _ (f3 * 4096) 15 (by omega) (by omega) (by omega) (by omega) (by omega) (by omega), or_sum _ (q3 * 256) 12 (by omega) (by omega) (by omega) (by omega) (by omega) (by omega), or_sum _ (q4 * 128) 8 (by omega) (by omega) (by omega) (by omega) (by omega) (by omega), or_sum' _ c 7 (by omega) (by omega) (by omega) (by omega) (by omega) (by omega)]
      congr 2; omega
    · rw [w64 (n := n * 4096) (by omega) (by omega), w64 (n := d * 128) (by omega) (by omega)]
      rw [or_sum _ (d * 128) 12 (by omega) (by omega) (by omega) (by omega) (by omega) (by omega), or_sum' _ c 7 (by omega) (by omega) (by omega) (by omega) (by omega) (by omega)]
      congr 2; omega
    · have g1 := fl_range 20 20 n
      have g2 := fl_range 10 1 n
      have g3 := fl_range 19 12 n
      have g4 := fl_range 11 11 n
      rw [fldb_fl _ _ _ (by decide), fldb_fl _ _ _ (by decide), fldb_fl _ _ _ (by decide), fldb_fl _ _ _ (by decide)]
      generalize fl 20 20 n = q1 at *
      generalize fl 10 1 n = q2 at *
      generalize fl 19 12 n = q3 at *
      generalize fl 11 11 n = q4 at *
      simp at g1 g2 g3 g4
      rw [w64 (n := q1 * 2147483648) (by omega) (by omega), w64 (n := q2 * 2097152) (by omega) (by omega), w64 (n := q4 * 1048576) (by omega) (by omega), w64 (n := q3 * 4096) (by omega) (by omega), w64 (n := d * 128) (by omega) (by omega)]
      rw [or_sum _ (q2 * 2097152) 31 (by omega) (by omega) (by omega) (by omega) (by omega) (by omega), or_sum _ (q4 * 1048576) 21 (by omega) (by omega) (by omega) (by omega) (by omega) (by omega), or_sum _ (q3 * 4096) 20 (by omega) (by omega) (by omega) (by omega) (by omega) (by omega), or_sum _ (d * 128) 12 (by omega) (by omega) (by omega) (by omega) (by omega) (by omega), or_sum' _ c 7 (by omega) (by omega) (by omega) (by omega) (by omega) (by omega)]
      congr 2; omega
    · have ho : op = 46 ∨ op = 47 := by unfold frm at e; omega
      rcases ho with rfl | rfl
      · rw [if_neg (by decide)]; congr 2; omega
      · rw [if_pos rfl, or_sum' 1048576 c 20 (by omega) (by omega) (by omega) (by omega) (by omega) (by omega)]; congr 2
  · rw [if_neg ho, if_neg ho]
theorem spec_bits (k : Nat) (n h l : Int) (hl : 0 ≤ l) (hh : l ≤ h) (h31 : h ≤ 31) : spec_l2Bits.f (k + 40) n h l = some (fl h l n) := by
  unfold spec_l2Bits.f
  have p1 : (0 : Int) < 2 ^ l.toNat := Int.pow_pos (by decide)
  have p2 : (0 : Int) < 2 ^ (h - l + 1).toNat := Int.pow_pos (by decide)
  have hd := ediv_le (n % 4294967296) (2 ^ l.toNat) (by omega) (by omega)
  have e1 := spec_power (k + 40) l.toNat (by omega) (by omega)
  have e2 := spec_power (k + 40) (h - l + 1).toNat (by omega) (by omega)
  rw [Int.toNat_of_nonneg (by omega)] at e1 e2
  rw [spec_word, w64 (n := h - l) (by omega) (by omega), w64 (n := h - l + 1) (by omega) (by omega)]; simp only [Option.bind_some]
  rw [e1]; simp only [Option.bind_some]
  rw [if_neg (by omega), e2]; simp only [Option.bind_some]
  rw [if_neg (by omega), tdiv_pos (by omega), w64 (by omega) (by omega), tmod_pos hd.1]
  rfl
theorem spec_enc (k : Nat) (op d s t n : Int) : spec_EncodeInst.f (k + 40) op d s t n = some (encp op d s t n) := by
  unfold spec_EncodeInst.f encp
  rw [spec_iok (k + 20)]; simp only [Option.bind_some]
  by_cases ho : iok op d s t n = true
  · rw [if_pos ho, if_pos ho]
    unfold iok at ho
    simp only [decide_eq_true_eq] at ho
    obtain ⟨h0, hd, hs, ht, u1, u2, u3, v1, v2, v3, v4, v5, v6⟩ := ho
    obtain ⟨o1, o2⟩ := frm_range op h0
    have hr := par_range op o1 o2
    rw [spec_form (k + 34)]; simp only [Option.bind_some]
    rw [spec_c op o1 o2]; simp only [Option.bind_some]
    have f3e : frm op ≤ 5 → spec_l2F3.f op = some (par op).2.1 := fun h => spec_f3 op o1 (by unfold frm at h; omega)
    have f7e := spec_f7 (k + 39) op o1 o2
    unfold enc spec_l2Imm.f
    generalize hc : (par op).1 = c at *
    generalize h3 : (par op).2.1 = f3 at *
    generalize h7 : (par op).2.2 = f7 at *
    rcases frm_cases op with e | e | e | e | e | e | e | e | e
    · exact absurd e h0
    all_goals
      rw [e] at u1 u2 u3 v1 v2 v3 v4 v5 v6 f3e ⊢
      simp only [Int.reduceEq, Int.reduceLE, if_true, if_false, Option.bind_some]
    · rw [f3e (by decide)]; simp only [Option.bind_some]
      rw [f7e]; simp only [Option.bind_some]
      congr 2
      rw [w64 (n := c + 0) (by omega) (by omega), w64 (n := f3 * 4096) (by omega) (by omega), w64 (n := s * 32768) (by omega) (by omega), w64 (n := f3 * 4096 + s * 32768) (by omega) (by omega), w64 (n := f7 * 33554432) (by omega) (by omega), w64 (n := t * 1048576) (by omega) (by omega), w64 (n := d * 128) (by omega) (by omega), w64 (n := c + 0 + (f3 * 4096 + s * 32768)) (by omega) (by omega), w64 (n := c + 0 + (f3 * 4096 + s * 32768) + f7 * 33554432) (by omega) (by omega), w64 (n := c + 0 + (f3 * 4096 + s * 32768) + f7 * 33554432 + t * 1048576) (by omega) (by omega), w64 (by omega) (by omega)]
      omega
    · have g := fl_range 11 0 n
      rw [spec_bits k n 11 0 (by decide) (by decide) (by decide), f3e (by decide)]; simp only [Option.bind_some]
      generalize fl 11 0 n = q at *
      simp at g
      congr 2
      rw [w64 (n := q * 1048576) (by omega) (by omega), w64 (n := c + q * 1048576) (by omega) (by omega), w64 (n := f3 * 4096) (by omega) (by omega), w64 (n := s * 32768) (by omega) (by omega), w64 (n := f3 * 4096 + s * 32768) (by omega) (by omega), w64 (n := t * 1048576) (by omega) (by omega), w64 (n := d * 128) (by omega) (by omega), w64 (n := c + q * 1048576 + (f3 * 4096 + s * 32768)) (by omega) (by omega), w64 (n := c + q * 1048576 + (f3 * 4096 + s * 32768) + t * 1048576) (by omega) (by omega), w64 (by omega) (by omega)]
      omega
    · rw [f3e (by decide)]; simp only [Option.bind_some]
      rw [f7e]; simp only [Option.bind_some]
      congr 2
      rw [w64 (n := n * 1048576) (by omega) (by omega), w64 (n := c + n * 1048576) (by omega) (by omega), w64 (n := f3 * 4096) (by omega) (by omega), w64 (n := s * 32768) (by omega) (by omega), w64 (n := f3 * 4096 + s * 32768) (by omega) (by omega), w64 (n := f7 * 33554432) (by omega) (by omega), w64 (n := t * 1048576) (by omega) (by omega), w64 (n := d * 128) (by omega) (by omega), w64 (n := c + n * 1048576 + (f3 * 4096 + s * 32768)) (by omega) (by omega), w64 (n := c + n * 1048576 + (f3 * 4096 + s * 32768) + f7 * 33554432) (by omega) (by omega), w64 (n := c + n * 1048576 + (f3 * 4096 + s * 32768) + f7 * 33554432 + t * 1048576) (by omega) (by omega), w64 (by omega) (by omega)]
      omega
    · have g := fl_range 11 5 n
      have g' := fl_range 4 0 n
      rw [spec_bits k n 11 5 (by decide) (by decide) (by decide), spec_bits k n 4 0 (by decide) (by decide) (by decide), f3e (by decide)]; simp only [Option.bind_some]
      generalize fl 11 5 n = q at *
      generalize fl 4 0 n = q' at *
      simp at g g'
      congr 2
      rw [w64 (n := q * 33554432) (by omega) (by omega), w64 (n := q' * 128) (by omega) (by omega), w64 (n := q * 33554432 + q' * 128) (by omega) (by omega), w64 (n := c + (q * 33554432 + q' * 128)) (by omega) (by omega), w64 (n := f3 * 4096) (by omega) (by omega), w64 (n := s * 32768) (by omega) (by omega), w64 (n := f3 * 4096 + s * 32768) (by omega) (by omega), w64 (n := t * 1048576) (by omega) (by omega), w64 (n := d * 128) (by omega) (by omega), w64 (n := c + (q * 33554432 + q' * 128) + (f3 * 4096 + s * 32768)) (by omega) (by omega), w64 (n := c + (q * 33554432 + q' * 128) + (f3 * 4096 + s * 32768) + t * 1048576) (by omega) (by omega), w64 (by omega) (by omega)]
      omega
    · have g1 := fl_range 12 12 n
      have g2 := fl_range 10 5 n
      have g3 := fl_range 4 1 n
      have g4 := fl_range 11 11 n
      rw [spec_bits k n 12 12 (by decide) (by decide) (by decide), spec_bits k n 10 5 (by decide) (by decide) (by decide), spec_bits k n 4 1 (by decide) (by decide) (by decide), spec_bits k n 11 11 (by decide) (by decide) (by decide), f3e (by decide)]; simp only [Option.bind_some]
      generalize fl 12 12 n = q1 at *
      generalize fl 10 5 n = q2 at *
      generalize fl 4 1 n = q3 at *
      generalize fl 11 11 n = q4 at *
      simp at g1 g2 g3 g4
      congr 2
      rw [w64 (n := q1 * 2147483648) (by omega) (by omega), w64 (n := q2 * 33554432) (by omega) (by omega), w64 (n := q3 * 256) (by omega) (by omega), w64 (n := q4 * 128) (by omega) (by omega), w64 (n := q1 * 2147483648 + q2 * 33554432) (by omega) (by omega), w64 (n := q1 * 2147483648 + q2 * 33554432 + q3 * 256) (by omega) (by omega), w64 (n := q1 * 2147483648 + q2 * 33554432 + q3 * 256 + q4 * 128) (by omega) (by omega)]
      generalize hQ : q1 * 2147483648 + q2 * 33554432 + q3 * 256 + q4 * 128 = Q
      rw [w64 (n := c + Q) (by omega) (by omega), w64 (n := f3 * 4096) (by omega) (by omega), w64 (n := s * 32768) (by omega) (by omega), w64 (n := f3 * 4096 + s * 32768) (by omega) (by omega), w64 (n := t * 1048576) (by omega) (by omega), w64 (n := d * 128) (by omega) (by omega), w64 (n := c + Q + (f3 * 4096 + s * 32768)) (by omega) (by omega), w64 (n := c + Q + (f3 * 4096 + s * 32768) + t * 1048576) (by omega) (by omega), w64 (by omega) (by omega)]
      omega
    · congr 2
      rw [w64 (n := n * 4096) (by omega) (by omega), w64 (n := c + n * 4096) (by omega) (by omega), w64 (n := t * 1048576) (by omega) (by omega), w64 (n := d * 128) (by omega) (by omega), w64 (n := c + n * 4096 + t * 1048576) (by omega) (by omega), w64 (by omega) (by omega)]
      omega
    · have g1 := fl_range 20 20 n
      have g2 := fl_range 10 1 n
      have g3 := fl_range 19 12 n
      have g4 := fl_range 11 11 n
      rw [spec_bits k n 20 20 (by decide) (by decide) (by decide), spec_bits k n 10 1 (by decide) (by decide) (by decide), spec_bits k n 11 11 (by decide) (by decide) (by decide), spec_bits k n 19 12 (by decide) (by decide) (by decide)]; simp only [Option.bind_some]
      generalize fl 20 20 n = q1 at *
      generalize fl 10 1 n = q2 at *
      generalize fl 19 12 n = q3 at *
      generalize fl 11 11 n = q4 at *
      simp at g1 g2 g3 g4
      congr 2
      rw [w64 (n := q1 * 2147483648) (by omega) (by omega), w64 (n := q2 * 2097152) (by omega) (by omega), w64 (n := q4 * 1048576) (by omega) (by omega), w64 (n := q3 * 4096) (by omega) (by omega), w64 (n := q1 * 2147483648 + q2 * 2097152) (by omega) (by omega), w64 (n := q1 * 2147483648 + q2 * 2097152 + q4 * 1048576) (by omega) (by omega), w64 (n := q1 * 2147483648 + q2 * 2097152 + q4 * 1048576 + q3 * 4096) (by omega) (by omega)]
      generalize hQ : q1 * 2147483648 + q2 * 2097152 + q4 * 1048576 + q3 * 4096 = Q
      rw [w64 (n := c + Q) (by omega) (by omega), w64 (n := t * 1048576) (by omega) (by omega), w64 (n := d * 128) (by omega) (by omega), w64 (n := c + Q + t * 1048576) (by omega) (by omega), w64 (by omega) (by omega)]
      omega
    · have ho : op = 46 ∨ op = 47 := by unfold frm at e; omega
      congr 2
      rw [w64 (n := c + 0) (by omega) (by omega), w64 (n := op - 46) (by omega) (by omega), w64 (n := (op - 46) * 1048576) (by omega) (by omega), w64 (by omega) (by omega)]
      omega
  · rw [if_neg ho, if_neg ho]
theorem FnExactEncodeInst (a0 a1 a2 a3 a4 : Int) : ∃ k, laws_FnExactEncodeInst.f k a0 a1 a2 a3 a4 = some true := by
  refine ⟨40, ?_⟩
  unfold laws_FnExactEncodeInst.f laws_toInst.f
  simp only [Option.bind_some]
  rw [spec_enc 0, impl_enc 30]
  simp
end Go.Proofs.Ytgbpofhabhabcaa.Pure
