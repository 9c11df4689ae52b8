/- The program's LoadWord answers as the reference's LoadWord does, at every machine whose lists hold together at most 1048576 values, every kind and address; it writes into no argument. (Beyond that size the law itself looks at nothing.) -/
import Derived.Test.YthndggachjdkfaaPLoadWordx
import Derived.Test.YthndggachjdkfaaBase
namespace Go.Proofs.Ythndggachjdkfaa.Pure
open Go.RowKit Go.Proofs.Ythndggachjdkfaa.PLoadWord Go.Proofs.YthndggachjdkfaaW.PrintWords Go.Proofs.YthndggachjdkfaaW.PrintLast Go.Proofs.YthndggachjdkfaaW.PrintMore Go.Proofs.Ythndggachjdkfaa.Base
set_option linter.unusedVariables false
set_option linter.unusedSimpArgs false
theorem to_ints_loop (l : List Int) (hl : l.length ≤ 1048576) (d : Nat) : ∀ (k i : Nat), i + d = l.length → d < k → laws_toIntS.l0 k l (l.take i ++ List.replicate (l.length - i) 0) (i : Int) = some l := by
  induction d with
  | zero =>
    intro k i hi hk
    obtain ⟨k, rfl⟩ : ∃ m, k = m + 1 := ⟨k - 1, by omega⟩
    simp only [laws_toIntS.l0]
    rw [if_neg (by omega), show l.length - i = 0 by omega, List.take_of_length_le (by omega)]
    simp
  | succ d ih =>
    intro k i hi hk
    obtain ⟨k, rfl⟩ : ∃ m, k = m + 1 := ⟨k - 1, by omega⟩
    have hlt : i < l.length := by omega
    simp only [laws_toIntS.l0]
    rw [if_pos (by omega), if_pos (by omega), if_pos (by simp; omega), Int.toNat_natCast, rd_get l i hlt, set_take l i hlt _ rfl, w64 (by omega) (by omega), show (i : Int) + 1 = ((i + 1 : Nat) : Int) by omega]
    exact ih k (i + 1) (by omega) (by omega)
theorem to_ints (k : Nat) (l : List Int) (hl : l.length ≤ 1048576) (hk : l.length < k) : laws_toIntS.f k l = some l := by
  unfold laws_toIntS.f
  rw [if_pos (by omega), if_pos (by omega)]
  have h := to_ints_loop l hl l.length k 0 (by omega) hk
  simpa using h
theorem to_bytes_loop (l : List Int) (hl : l.length ≤ 1048576) (d : Nat) : ∀ (k i : Nat), i + d = l.length → d < k → laws_toByteS.l0 k l (l.take i ++ List.replicate (l.length - i) 0) (i : Int) = some l := by
  induction d with
  | zero =>
    intro k i hi hk
    obtain ⟨k, rfl⟩ : ∃ m, k = m + 1 := ⟨k - 1, by omega⟩
    simp only [laws_toByteS.l0]
    rw [if_neg (by omega), show l.length - i = 0 by omega, List.take_of_length_le (by omega)]
    simp
  | succ d ih =>
    intro k i hi hk
    obtain ⟨k, rfl⟩ : ∃ m, k = m + 1 := ⟨k - 1, by omega⟩
    have hlt : i < l.length := by omega
    simp only [laws_toByteS.l0]
    rw [if_pos (by omega), if_pos (by omega), if_pos (by simp; omega), Int.toNat_natCast, rd_get l i hlt, set_take l i hlt _ rfl, w64 (by omega) (by omega), show (i : Int) + 1 = ((i + 1 : Nat) : Int) by omega]
    exact ih k (i + 1) (by omega) (by omega)
theorem to_bytes (k : Nat) (l : List Int) (hl : l.length ≤ 1048576) (hk : l.length < k) : laws_toByteS.f k l = some l := by
  unfold laws_toByteS.f
  rw [if_pos (by omega), if_pos (by omega)]
  have h := to_bytes_loop l hl l.length k 0 (by omega) hk
  simpa using h
theorem eq_ints_loop (a b : List Int) (hab : a.length = b.length) (hl : a.length ≤ 1048576) (d : Nat) : ∀ (k i : Nat), i + d = a.length → d < k → laws_eqIntS.l0 k a b (i : Int) = some (decide (a.drop i = b.drop i)) := by
  induction d with
  | zero =>
    intro k i hi hk
    obtain ⟨k, rfl⟩ : ∃ m, k = m + 1 := ⟨k - 1, by omega⟩
    simp only [laws_eqIntS.l0]
    rw [if_neg (by omega), List.drop_of_length_le (by omega), List.drop_of_length_le (by omega)]
    simp
  | succ d ih =>
    intro k i hi hk
    obtain ⟨k, rfl⟩ : ∃ m, k = m + 1 := ⟨k - 1, by omega⟩
    have hlt : i < a.length := by omega
    have hlt' : i < b.length := by omega
    simp only [laws_eqIntS.l0]
    rw [if_pos (by omega), if_pos (by omega), if_pos (by omega), rd_get a i hlt, rd_get b i hlt', w64 (by omega) (by omega), show (i : Int) + 1 = ((i + 1 : Nat) : Int) by omega, List.drop_eq_getElem_cons hlt, List.drop_eq_getElem_cons hlt']
    by_cases e : a[i] = b[i]
    · rw [if_pos e, ih k (i + 1) (by omega) (by omega), e]
      congr 1; rw [decide_eq_decide]
      exact ⟨fun h => by rw [h], fun h => (List.cons.inj h).2⟩
    · rw [if_neg e]
      congr 1; symm; rw [decide_eq_false_iff_not]
      exact fun h => e (List.cons.inj h).1
theorem eq_ints (k : Nat) (a b : List Int) (hl : a.length ≤ 1048576) (hk : a.length < k) : laws_eqIntS.f k a b = some (decide (a = b)) := by
  unfold laws_eqIntS.f
  by_cases h : a.length = b.length
  · rw [if_pos (by omega)]
    have g := eq_ints_loop a b h hl a.length k 0 (by omega) hk
    simpa using g
  · rw [if_neg (by omega)]
    congr 1; symm
    rw [decide_eq_false_iff_not]
    intro e
    exact h (by rw [e])
theorem eq_bytes_loop (a b : List Int) (hab : a.length = b.length) (hl : a.length ≤ 1048576) (d : Nat) : ∀ (k i : Nat), i + d = a.length → d < k → laws_eqByteS.l0 k a b (i : Int) = some (decide (a.drop i = b.drop i)) := by
  induction d with
  | zero =>
    intro k i hi hk
    obtain ⟨k, rfl⟩ : ∃ m, k = m + 1 := ⟨k - 1, by omega⟩
    simp only [laws_eqByteS.l0]
    rw [if_neg (by omega), List.drop_of_length_le (by omega), List.drop_of_length_le (by omega)]
    simp
  | succ d ih =>
    intro k i hi hk
    obtain ⟨k, rfl⟩ : ∃ m, k = m + 1 := ⟨k - 1, by omega⟩
    have hlt : i < a.length := by omega
    have hlt' : i < b.length := by omega
    simp only [laws_eqByteS.l0]
    rw [if_pos (by omega), if_pos (by omega), if_pos (by omega), rd_get a i hlt, rd_get b i hlt', w64 (by omega) (by omega), show (i : Int) + 1 = ((i + 1 : Nat) : Int) by omega, List.drop_eq_getElem_cons hlt, List.drop_eq_getElem_cons hlt']
    by_cases e : a[i] = b[i]
    · rw [if_pos e, ih k (i + 1) (by omega) (by omega), e]
      congr 1; rw [decide_eq_decide]
      exact ⟨fun h => by rw [h], fun h => (List.cons.inj h).2⟩
    · rw [if_neg e]
      congr 1; symm; rw [decide_eq_false_iff_not]
      exact fun h => e (List.cons.inj h).1
theorem eq_bytes (k : Nat) (a b : List Int) (hl : a.length ≤ 1048576) (hk : a.length < k) : laws_eqByteS.f k a b = some (decide (a = b)) := by
  unfold laws_eqByteS.f
  by_cases h : a.length = b.length
  · rw [if_pos (by omega)]
    have g := eq_bytes_loop a b h hl a.length k 0 (by omega) hk
    simpa using g
  · rw [if_neg (by omega)]
    congr 1; symm
    rw [decide_eq_false_iff_not]
    intro e
    exact h (by rw [e])
theorem sz_ints (l : List Int) (n : Int) (hl : l.length ≤ 9223372036854775807) (hn : 0 ≤ n) (hn' : n ≤ 1048576) : laws_szIntS.f l n = some (if n - l.length < 0 then -1 else n - l.length) := by
  unfold laws_szIntS.f
  rw [w64 (by omega) (by omega)]
  split <;> rfl
theorem sz_bytes (l : List Int) (n : Int) (hl : l.length ≤ 9223372036854775807) (hn : 0 ≤ n) (hn' : n ≤ 1048576) : laws_szByteS.f l n = some (if n - l.length < 0 then -1 else n - l.length) := by
  unfold laws_szByteS.f
  rw [w64 (by omega) (by omega)]
  split <;> rfl
theorem inside_spec (x lo hi : Int) : impl_inside.f x lo hi = some (decide (lo ≤ x ∧ x ≤ hi)) := by
  unfold impl_inside.f
  by_cases h : x ≥ lo
  · rw [if_pos h]; congr 1; simp only [decide_eq_decide]; omega
  · rw [if_neg h, decide_eq_false (by omega)]
theorem tmod_dvd (n : Int) (m : Int) (hm : 0 < m) : Int.tmod n m = 0 ↔ n % m = 0 := by
  by_cases h : 0 ≤ n
  · rw [tmod_pos h]
  · rw [tmod_neg (by omega)]
    have := Int.emod_nonneg n (b := m) (by omega)
    constructor
    · intro h; exact Int.emod_eq_zero_of_dvd (Int.dvd_neg.mp (Int.dvd_of_emod_eq_zero (by omega)))
    · intro h
      have := Int.emod_eq_zero_of_dvd (Int.dvd_neg.mpr (Int.dvd_of_emod_eq_zero h))
      omega
/-- Code is right. -/
def codeB (l : List Int) : Bool := decide (1 ≤ l.length ∧ l.length ≤ 16384) && l.all okw
def stackB (n : Int) : Bool := decide (0 ≤ n ∧ n ≤ 65536 ∧ n % 16 = 0)
def pcB (pc : Int) (l : List Int) : Bool := decide (65536 ≤ pc ∧ pc < 65536 + 4 * l.length ∧ pc % 4 = 0)
theorem impl_code (l : List Int) : impl_codeOk.f l = some (codeB l) := by
  unfold impl_codeOk.f impl_isWord.f codeB
  rw [inside_spec]; simp only [Option.bind_some]
  by_cases h : 1 ≤ l.length ∧ l.length ≤ 16384
  · rw [decide_eq_true (by omega), decide_eq_true h, if_pos rfl]; simp
  · rw [decide_eq_false (by omega), decide_eq_false h]; simp
theorem impl_stack (n : Int) : impl_stackOk.f n = some (stackB n) := by
  unfold impl_stackOk.f stackB
  rw [inside_spec]; simp only [Option.bind_some]
  have := tmod_dvd n 16 (by decide)
  by_cases h : 0 ≤ n ∧ n ≤ 65536
  · rw [decide_eq_true h, if_pos rfl]; congr 1; rw [Bool.eq_iff_iff]; simp; omega
  · rw [decide_eq_false h, decide_eq_false (by omega)]; simp
theorem wordOk_spec (x : Int) : spec_l3WordOk.f x = some (okw x) := by
  unfold spec_l3WordOk.f okw
  by_cases h : x ≥ 0
  · rw [if_pos h]; congr 1; simp only [decide_eq_decide]; omega
  · rw [if_neg h, decide_eq_false (by omega)]
theorem codeOk_loop (l : List Int) (hl : l.length ≤ 16384) (d : Nat) : ∀ (k i : Nat), i + d = l.length → d < k → spec_l3CodeOk.l0 k l (i : Int) = some ((l.drop i).all okw) := by
  induction d with
  | zero =>
    intro k i hi hk
    obtain ⟨k, rfl⟩ : ∃ m, k = m + 1 := ⟨k - 1, by omega⟩
    simp only [spec_l3CodeOk.l0]
    rw [if_neg (by omega), List.drop_of_length_le (by omega)]; rfl
  | succ d ih =>
    intro k i hi hk
    obtain ⟨k, rfl⟩ : ∃ m, k = m + 1 := ⟨k - 1, by omega⟩
    have hlt : i < l.length := by omega
    simp only [spec_l3CodeOk.l0]
    rw [if_pos (by omega), if_pos (by omega), rd_get l i hlt, wordOk_spec]; simp only [Option.bind_some]
    rw [w64 (by omega) (by omega), show (i : Int) + 1 = ((i + 1 : Nat) : Int) by omega, List.drop_eq_getElem_cons hlt, List.all_cons, ih k (i + 1) (by omega) (by omega)]
    cases okw l[i] <;> simp
theorem spec_code (k : Nat) (l : List Int) (hl : l.length ≤ 1048576) (hk : l.length + 1 < k) : spec_l3CodeOk.f k l = some (codeB l) := by
  obtain ⟨k, rfl⟩ : ∃ m, k = m + 1 := ⟨k - 1, by omega⟩
  unfold spec_l3CodeOk.f codeB
  by_cases h1 : l.length < 1
  · rw [if_pos (by omega), decide_eq_false (by omega)]; simp [spec_l3CodeOk.j0]
  rw [if_neg (by omega)]
  by_cases h2 : l.length ≤ 16384
  · rw [decide_eq_false (by omega), decide_eq_true ⟨by omega, h2⟩]
    simp only [spec_l3CodeOk.j0, Bool.false_eq_true, if_false]
    have h := codeOk_loop l h2 l.length k 0 (by omega) (by omega)
    simpa using h
  · rw [decide_eq_true (by omega), decide_eq_false (by omega)]; simp [spec_l3CodeOk.j0]
theorem spec_stack (n : Int) : spec_l3StackOk.f n = some (stackB n) := by
  unfold spec_l3StackOk.f stackB
  have := tmod_dvd n 16 (by decide)
  by_cases h : n ≥ 0
  · rw [if_pos h]
    by_cases h2 : n ≤ 65536
    · rw [if_pos h2]; congr 1; rw [Bool.eq_iff_iff]; simp; omega
    · rw [if_neg h2, decide_eq_false (by omega)]
  · rw [if_neg h, decide_eq_false (by omega)]
/-- A machine is valid. -/
def mB (code : List Int) (pc : Int) (regs data stack inp out : List Int) (steps en val : Int) : Bool :=
  codeB code && (decide (data.length ≤ 65536) && (stackB stack.length && (okw pc && (decide (regs.length = 32) && (decide (rd regs 0 = 0) && (regs.all okw && (decide (inp.length ≤ 10000) && (decide (out.length ≤ 10000) && (decide (0 ≤ steps ∧ steps ≤ 1000000) && (decide (0 ≤ en ∧ en ≤ 3) && okw val))))))))))
theorem ite_some (c : Bool) (a b : Bool) : (if c = true then some a else some b) = some (if c = true then a else b) := by cases c <;> rfl
theorem impl_mach (code : List Int) (pc : Int) (regs data stack inp out : List Int) (steps en val : Int) : impl_MachineOk.f code pc regs data stack inp out steps en val = some (mB code pc regs data stack inp out steps en val) := by
  unfold impl_MachineOk.f mB impl_isWord.f
  rw [impl_code, impl_stack, inside_spec, inside_spec]; simp only [Option.bind_some, List.all_cons, List.all_nil, Bool.and_true]
  have e1 : ((data.length : Int) ≤ 65536) ↔ data.length ≤ 65536 := by omega
  have e2 : ((regs.length : Int) = 32) ↔ regs.length = 32 := by omega
  have e3 : ((inp.length : Int) ≤ 10000) ↔ inp.length ≤ 10000 := by omega
  have e4 : ((out.length : Int) ≤ 10000) ↔ out.length ≤ 10000 := by omega
  simp only [e1, e2, e3, e4]
  generalize decide (0 ≤ steps ∧ steps ≤ 1000000) = S
  generalize decide (0 ≤ en ∧ en ≤ 3) = E
  clear e1 e3 e4
  by_cases h2 : regs.length = 32
  · have e5 : (0 < (regs.length : Int)) := by omega
    simp only [e5, if_true, h2, decide_true, Bool.true_and]
    by_cases h1 : data.length ≤ 65536 <;> by_cases h3 : inp.length ≤ 10000 <;> by_cases h4 : out.length ≤ 10000 <;> by_cases h5 : rd regs 0 = 0 <;> cases codeB code <;> cases stackB (stack.length : Int) <;> cases okw pc <;> cases okw val <;> cases regs.all okw <;> cases S <;> simp [h1, h3, h4, h5]
  · simp only [h2, if_false, decide_false, Bool.false_and, Bool.and_false]
    cases codeB code <;> cases stackB (stack.length : Int) <;> cases okw pc <;> cases okw val <;> simp
theorem machOk_loop (code : List Int) (pc : Int) (regs data stack inp out : List Int) (steps en val : Int) (hr : regs.length = 32) (d : Nat) : ∀ (k i : Nat), i + d = 32 → d < k →
    spec_MachineOk.l0 k (i : Int) code pc regs data stack inp out steps en val = some ((regs.drop i).all okw && (decide (inp.length ≤ 10000) && (decide (out.length ≤ 10000) && (decide (0 ≤ steps ∧ steps ≤ 1000000) && (decide (0 ≤ en ∧ en ≤ 3) && okw val))))) := by
  induction d with
  | zero =>
    intro k i hi hk
    obtain ⟨k, rfl⟩ : ∃ m, k = m + 1 := ⟨k - 1, by omega⟩
    simp only [spec_MachineOk.l0]
    rw [if_neg (by omega), List.drop_of_length_le (by omega), wordOk_spec]; simp only [Option.bind_some]
    have e3 : ((inp.length : Int) ≤ 10000) ↔ inp.length ≤ 10000 := by omega
    have e4 : ((out.length : Int) ≤ 10000) ↔ out.length ≤ 10000 := by omega
    simp only [e3, e4]
    by_cases h1 : inp.length ≤ 10000 <;> by_cases h2 : out.length ≤ 10000 <;> by_cases h3 : 0 ≤ steps <;> by_cases h4 : steps ≤ 1000000 <;> by_cases h5 : 0 ≤ en <;> by_cases h6 : en ≤ 3 <;> cases okw val <;> simp [h1, h2, h3, h4, h5, h6]
  | succ d ih =>
    intro k i hi hk
    obtain ⟨k, rfl⟩ : ∃ m, k = m + 1 := ⟨k - 1, by omega⟩
    have hlt : i < regs.length := by omega
    simp only [spec_MachineOk.l0]
    rw [if_pos (by omega), if_pos (by omega), if_pos (by omega), rd_get regs i hlt, wordOk_spec]; simp only [Option.bind_some]
    rw [w64 (by omega) (by omega), show (i : Int) + 1 = ((i + 1 : Nat) : Int) by omega, List.drop_eq_getElem_cons hlt, List.all_cons, ih k (i + 1) (by omega) (by omega)]
    cases okw regs[i] <;> simp
theorem spec_mach (k : Nat) (code : List Int) (pc : Int) (regs data stack inp out : List Int) (steps en val : Int) (hl : code.length ≤ 1048576) (hk : code.length + 40 < k) :
    spec_MachineOk.f k code pc regs data stack inp out steps en val = some (mB code pc regs data stack inp out steps en val) := by
  obtain ⟨k, rfl⟩ : ∃ m, k = m + 1 := ⟨k - 1, by omega⟩
  unfold spec_MachineOk.f mB
  rw [spec_code _ code hl (by omega), spec_stack, wordOk_spec]; simp only [Option.bind_some, spec_MachineOk.j0, if_true]
  have e1 : ((data.length : Int) > 65536) ↔ ¬ data.length ≤ 65536 := by omega
  have e2 : ((regs.length : Int) = 32) ↔ regs.length = 32 := by omega
  simp only [e1, e2]
  by_cases h2 : regs.length = 32
  · have h := machOk_loop code pc regs data stack inp out steps en val h2 32 k 0 (by omega) (by omega)
    have e5 : (0 < (regs.length : Int)) := by omega
    simp only [List.drop_zero, Int.natCast_zero, Int.cast_ofNat_Int] at h
    generalize decide (0 ≤ steps ∧ steps ≤ 1000000) = S at *
    generalize decide (0 ≤ en ∧ en ≤ 3) = E at *
    simp only [e5, if_true, h2, decide_true, Bool.true_and]
    by_cases h1 : data.length ≤ 65536 <;> by_cases h5 : rd regs 0 = 0 <;> cases codeB code <;> cases stackB (stack.length : Int) <;> cases okw pc <;> simp [h1, h5] <;> exact h
  · simp only [h2, if_false, decide_false, Bool.false_and, Bool.and_false]
    cases codeB code <;> cases stackB (stack.length : Int) <;> cases okw pc <;> simp
theorem to_mach (k : Nat) (code : List Int) (pc : Int) (regs data stack inp out : List Int) (steps en val : Int) (hl : code.length + regs.length + data.length + stack.length + inp.length + out.length ≤ 1048576) (hk : 1048576 < k) :
    laws_toMachine.f k code pc regs data stack inp out steps en val = some (code, pc, regs, data, stack, inp, out, steps, en, val) := by
  unfold laws_toMachine.f
  rw [to_ints _ code (by omega) (by omega), to_ints _ regs (by omega) (by omega), to_bytes _ data (by omega) (by omega), to_bytes _ stack (by omega) (by omega), to_bytes _ inp (by omega) (by omega), to_bytes _ out (by omega) (by omega)]
  rfl
theorem sz_mach (code : List Int) (pc : Int) (regs data stack inp out : List Int) (steps en val : Int) (h0 : code.length ≤ maxLen) (h1 : regs.length ≤ maxLen) (h2 : data.length ≤ maxLen) (h3 : stack.length ≤ maxLen) (h4 : inp.length ≤ maxLen) (h5 : out.length ≤ maxLen) :
    ∃ r, laws_szMachine.f code pc regs data stack inp out steps en val 1048576 = some r ∧ (0 ≤ r → code.length + regs.length + data.length + stack.length + inp.length + out.length ≤ 1048576) := by
  unfold maxLen at *
  unfold laws_szMachine.f
  rw [sz_ints code _ (by omega) (by omega) (by omega)]; simp only [Option.bind_some]
  by_cases c0 : 1048576 - (code.length : Int) < 0
  · rw [if_pos c0]; exact ⟨_, rfl, by omega⟩
  rw [if_neg c0, if_neg c0, sz_ints regs _ (by omega) (by omega) (by omega)]; simp only [Option.bind_some]
  by_cases c1 : 1048576 - (code.length : Int) - (regs.length : Int) < 0
  · rw [if_pos c1]; exact ⟨_, rfl, by omega⟩
  rw [if_neg c1, if_neg c1, sz_bytes data _ (by omega) (by omega) (by omega)]; simp only [Option.bind_some]
  by_cases c2 : 1048576 - (code.length : Int) - (regs.length : Int) - (data.length : Int) < 0
  · rw [if_pos c2]; exact ⟨_, rfl, by omega⟩
  rw [if_neg c2, if_neg c2, sz_bytes stack _ (by omega) (by omega) (by omega)]; simp only [Option.bind_some]
  by_cases c3 : 1048576 - (code.length : Int) - (regs.length : Int) - (data.length : Int) - (stack.length : Int) < 0
  · rw [if_pos c3]; exact ⟨_, rfl, by omega⟩
  rw [if_neg c3, if_neg c3, sz_bytes inp _ (by omega) (by omega) (by omega)]; simp only [Option.bind_some]
  by_cases c4 : 1048576 - (code.length : Int) - (regs.length : Int) - (data.length : Int) - (stack.length : Int) - (inp.length : Int) < 0
  · rw [if_pos c4]; exact ⟨_, rfl, by omega⟩
  rw [if_neg c4, if_neg c4, sz_bytes out _ (by omega) (by omega) (by omega)]; simp only [Option.bind_some]
  by_cases c5 : 1048576 - (code.length : Int) - (regs.length : Int) - (data.length : Int) - (stack.length : Int) - (inp.length : Int) - (out.length : Int) < 0
  · rw [if_pos c5]; exact ⟨_, rfl, by omega⟩
  · rw [if_neg c5, if_neg c5]; exact ⟨_, rfl, by omega⟩
theorem eq_mach_self (k : Nat) (code : List Int) (pc : Int) (regs data stack inp out : List Int) (steps en val : Int) (hl : code.length + regs.length + data.length + stack.length + inp.length + out.length ≤ 1048576) (hk : 1048576 < k) :
    laws_eqMachine.f k code pc regs data stack inp out steps en val code pc regs data stack inp out steps en val = some true := by
  unfold laws_eqMachine.f
  rw [eq_ints _ code code (by omega) (by omega), eq_ints _ regs regs (by omega) (by omega), eq_bytes _ data data (by omega) (by omega), eq_bytes _ stack stack (by omega) (by omega), eq_bytes _ inp inp (by omega) (by omega), eq_bytes _ out out (by omega) (by omega)]
  simp
theorem spec_word (a : Int) : spec_Word.f a = some (a % 4294967296) := congrArg some (word_of a)
theorem impl_word (a : Int) : impl_Word.f a = some (a % 4294967296) := congrArg some (and_w a)
/-- The bytes of a kind. -/
def ksz (a : Int) : Int := if a = 1 then 1 else if a = 2 then 1 else if a = 3 then 2 else if a = 4 then 2 else if a = 5 then 4 else 0
theorem impl_ks (a : Int) : impl_KindSize.f a = some (ksz a) := by
  unfold impl_KindSize.f ksz
  by_cases h1 : a = 1
  · subst h1; rfl
  by_cases h2 : a = 2
  · subst h2; rfl
  by_cases h3 : a = 3
  · subst h3; rfl
  by_cases h4 : a = 4
  · subst h4; rfl
  by_cases h5 : a = 5
  · subst h5; rfl
  rw [if_neg h1, if_neg h2, if_neg h3, if_neg h4, if_neg h5]
  by_cases h : a < 1
  · rw [if_pos h]
  · rw [if_neg h, if_pos (by omega)]
theorem spec_ks (k : Nat) (a : Int) : spec_KindSize.f (k + 2) a = some (ksz a) := by
  unfold spec_KindSize.f ksz
  by_cases h1 : a = 1
  · subst h1; rfl
  by_cases h2 : a = 2
  · subst h2; rfl
  by_cases h3 : a = 3
  · subst h3; rfl
  by_cases h4 : a = 4
  · subst h4; rfl
  have e2 : (a == 2) = false := beq_eq_false_iff_ne.mpr h2
  have e4 : (a == 4) = false := beq_eq_false_iff_ne.mpr h4
  rw [if_neg h1, if_neg h1, if_neg h2, if_neg h3, if_neg h4, e2]
  simp only [spec_KindSize.j0, Bool.false_eq_true, if_false]
  rw [if_neg h3, e4]
  simp only [spec_KindSize.j1, Bool.false_eq_true, if_false]
  by_cases h5 : a = 5
  · rw [if_pos h5, if_pos h5]
  · rw [if_neg h5, if_neg h5]
theorem power_loop (n : Int) (hn : n ≤ 62) (d : Nat) : ∀ (k : Nat) (v i : Int), 0 ≤ i → n - i = d → 0 ≤ v → v * 2 ^ d ≤ 4611686018427387904 → d < k →
    spec_l1Power.l0 k n v i = some (v * 2 ^ d) := by
  induction d with
  | zero =>
    intro k v i h0 h1 hv hm hk
    obtain ⟨k, rfl⟩ : ∃ m, k = m + 1 := ⟨k - 1, by omega⟩
    simp only [spec_l1Power.l0]
    rw [if_neg (by omega)]
    simp
  | succ d ih =>
    intro k v i h0 h1 hv hm hk
    obtain ⟨k, rfl⟩ : ∃ m, k = m + 1 := ⟨k - 1, by omega⟩
    have hp : (1 : Int) ≤ 2 ^ d := by have h_ : (0 : Int) < 2 ^ d := Int.pow_pos (by decide); omega
    have e : v * 2 ^ (d + 1) = (v * 2) * 2 ^ d := by rw [Int.pow_succ]; rw [Int.mul_assoc, Int.mul_comm 2]
    rw [e] at hm
    have hb : v * 2 ≤ (v * 2) * 2 ^ d := by
      have := Int.mul_le_mul_of_nonneg_left hp (show 0 ≤ v * 2 by omega)
      omega
    simp only [spec_l1Power.l0]
    rw [if_pos (by omega), w64 (by omega) (by omega), w64 (by omega) (by omega), e]
    exact ih k (v * 2) (i + 1) (by omega) (by omega) (by omega) hm (by omega)
theorem spec_power (k : Nat) (n : Nat) (hn : n ≤ 62) (hk : n < k) : spec_l1Power.f k (n : Int) = some (2 ^ n) := by
  unfold spec_l1Power.f
  have hp : (2 : Int) ^ n ≤ 2 ^ 62 := by
    have := Nat.pow_le_pow_right (show 0 < 2 by decide) hn
    have hc : ((2 ^ n : Nat) : Int) = (2 : Int) ^ n := by simp
    omega
  rw [power_loop (n : Int) (by omega) n k 1 0 (by omega) (by omega) (by omega) (by omega) hk]
  simp
/-- What Narrow tells. -/
def nar (a b : Int) : Int × Bool :=
  if a = 1 then ((((b + 128) % 256) - 128) % 4294967296, true) else if a = 2 then (b % 256, true)
  else if a = 3 then ((((b + 32768) % 65536) - 32768) % 4294967296, true) else if a = 4 then (b % 65536, true)
  else if a = 5 then (b % 4294967296, true) else (0, false)
theorem impl_nar (a b : Int) : impl_Narrow.f a b = some (nar a b) := by
  unfold impl_Narrow.f nar
  by_cases h1 : a = 1
  · rw [if_pos h1, if_pos h1, impl_word, wrap_i8, w64 (by omega) (by omega)]; rfl
  by_cases h2 : a = 2
  · rw [if_neg h1, if_neg h1, if_pos h2, if_pos h2, and_255]
  by_cases h3 : a = 3
  · rw [if_neg h1, if_neg h1, if_neg h2, if_neg h2, if_pos h3, if_pos h3, impl_word, wrap_i16, w64 (by omega) (by omega)]; rfl
  by_cases h4 : a = 4
  · rw [if_neg h1, if_neg h1, if_neg h2, if_neg h2, if_neg h3, if_neg h3, if_pos h4, if_pos h4, and_65535]
  by_cases h5 : a = 5
  · rw [if_neg h1, if_neg h1, if_neg h2, if_neg h2, if_neg h3, if_neg h3, if_neg h4, if_neg h4, if_pos h5, if_pos h5, impl_word]; rfl
  rw [if_neg h1, if_neg h1, if_neg h2, if_neg h2, if_neg h3, if_neg h3, if_neg h4, if_neg h4, if_neg h5, if_neg h5]
theorem spec_nar (k : Nat) (a b : Int) : spec_Narrow.f (k + 40) a b = some (nar a b) := by
  unfold spec_Narrow.f
  rw [spec_ks (k + 38)]
  simp only [Option.bind_some]
  by_cases h1 : a = 1
  · subst h1
    rw [show ksz 1 = 1 from rfl, if_neg (by omega), show wrap64 (8 * 1) = ((8 : Nat) : Int) by decide +kernel, spec_power (k + 40) 8 (by omega) (by omega)]
    simp only [Option.bind_some, spec_word]
    rw [if_neg (by decide), if_pos (by trivial), tmod_pos (by omega), show (2 : Int) ^ 8 = 256 by decide, show wrap64 (Int.tdiv 256 2) = 128 by decide +kernel]
    by_cases h : b % 4294967296 % 256 ≥ 128
    · rw [if_pos h, w64 (by omega) (by omega), show nar 1 b = ((((b + 128) % 256) - 128) % 4294967296, true) from rfl]
      congr 2; omega
    · rw [if_neg h, show nar 1 b = ((((b + 128) % 256) - 128) % 4294967296, true) from rfl]
      congr 2; omega
  by_cases h2 : a = 2
  · subst h2
    rw [show ksz 2 = 1 from rfl, if_neg (by omega), show wrap64 (8 * 1) = ((8 : Nat) : Int) by decide +kernel, spec_power (k + 40) 8 (by omega) (by omega)]
    simp only [Option.bind_some, spec_word]
    rw [if_neg (by decide), if_neg (by decide), if_neg (by decide), tmod_pos (by omega), show (2 : Int) ^ 8 = 256 by decide, show nar 2 b = (b % 256, true) from rfl]
    congr 2; omega
  by_cases h3 : a = 3
  · subst h3
    rw [show ksz 3 = 2 from rfl, if_neg (by omega), show wrap64 (8 * 2) = ((16 : Nat) : Int) by decide +kernel, spec_power (k + 40) 16 (by omega) (by omega)]
    simp only [Option.bind_some, spec_word]
    rw [if_neg (by decide), if_neg (by decide), if_pos (by trivial), tmod_pos (by omega), show (2 : Int) ^ 16 = 65536 by decide, show wrap64 (Int.tdiv 65536 2) = 32768 by decide +kernel]
    by_cases h : b % 4294967296 % 65536 ≥ 32768
    · rw [if_pos h, w64 (by omega) (by omega), show nar 3 b = ((((b + 32768) % 65536) - 32768) % 4294967296, true) from rfl]
      congr 2; omega
    · rw [if_neg h, show nar 3 b = ((((b + 32768) % 65536) - 32768) % 4294967296, true) from rfl]
      congr 2; omega
  by_cases h4 : a = 4
  · subst h4
    rw [show ksz 4 = 2 from rfl, if_neg (by omega), show wrap64 (8 * 2) = ((16 : Nat) : Int) by decide +kernel, spec_power (k + 40) 16 (by omega) (by omega)]
    simp only [Option.bind_some, spec_word]
    rw [if_neg (by decide), if_neg (by decide), if_neg (by decide), tmod_pos (by omega), show (2 : Int) ^ 16 = 65536 by decide, show nar 4 b = (b % 65536, true) from rfl]
    congr 2; omega
  by_cases h5 : a = 5
  · subst h5
    rw [show ksz 5 = 4 from rfl, if_neg (by omega), show wrap64 (8 * 4) = ((32 : Nat) : Int) by decide +kernel, spec_power (k + 40) 32 (by omega) (by omega)]
    simp only [Option.bind_some, spec_word]
    rw [if_neg (by decide), if_neg (by decide), if_neg (by decide), tmod_pos (by omega), show (2 : Int) ^ 32 = 4294967296 by decide, show nar 5 b = (b % 4294967296, true) from rfl]
    congr 2; omega
  have e : ksz a = 0 := by unfold ksz; rw [if_neg h1, if_neg h2, if_neg h3, if_neg h4, if_neg h5]
  have e' : nar a b = (0, false) := by unfold nar; rw [if_neg h1, if_neg h2, if_neg h3, if_neg h4, if_neg h5]
  rw [if_pos e, e']
theorem nat_orsh (a b m : Nat) (ha : a < 2 ^ m) : a ||| (b * 2 ^ m) = a + b * 2 ^ m := by
  have h := Nat.shiftLeft_add_eq_or_of_lt ha b
  rw [Nat.shiftLeft_eq] at h
  rw [Nat.or_comm, ← h, Nat.add_comm]
theorem or_sh (a x : Int) (m : Nat) (h0 : 0 ≤ a) (h1 : a < 2 ^ m) (x0 : 0 ≤ x) (x1 : x ≤ 255) (hm : m ≤ 24) : Go.bits .or .i64 a (wrap64 (wrap64 x * 2 ^ m)) = a + x * 2 ^ m := by
  obtain ⟨p, hp⟩ : ∃ p : Nat, p = 2 ^ m := ⟨_, rfl⟩
  have hc : (2 : Int) ^ m = (p : Int) := by rw [hp]; simp
  have hp24 : p ≤ 16777216 := by rw [hp]; exact Nat.pow_le_pow_right (n := 2) (by decide) hm
  obtain ⟨a', rfl⟩ := Int.eq_ofNat_of_zero_le h0
  obtain ⟨x', rfl⟩ := Int.eq_ofNat_of_zero_le x0
  rw [hc] at h1 ⊢
  have hx : x' * p ≤ 255 * 16777216 := Nat.mul_le_mul (by omega) hp24
  have e : ((x' : Int) * (p : Int)) = ((x' * p : Nat) : Int) := by simp
  rw [w64 (n := (x' : Int)) (by omega) (by omega), e, w64 (by omega) (by omega), or_nat a' (x' * p) (by omega) (by omega), hp, nat_orsh a' x' m (by omega)]
  simp
theorem bits_or_zero (x : Int) (x0 : 0 ≤ x) (x1 : x ≤ 255) : Go.bits .or .i64 0 (wrap64 (wrap64 x * 2 ^ (8 * 0))) = x := by
  have := or_sh 0 x 0 (by decide) (by decide) x0 x1 (by decide)
  simpa using this
theorem rd_cut (l : List Int) (i n : Int) (j : Int) (h0 : 0 ≤ i) (hj : 0 ≤ j) (hjn : j < n) (hn : i + n ≤ l.length) : rd (cutL l i n) j = rd l (i + j) := by
  unfold rd cutL
  rw [List.getD_eq_getElem?_getD, List.getD_eq_getElem?_getD, List.getElem?_drop, List.getElem?_take, if_pos (by omega), show i.toNat + j.toNat = (i + j).toNat by omega]
theorem byte_at (l : List Int) (hb : Bys l) (i : Int) (h0 : 0 ≤ i) (h1 : i < l.length) : 0 ≤ rd l i ∧ rd l i ≤ 255 := hb _ (rd_mem l i h0 h1)
theorem ld_eq (l : List Int) (hb : Bys l) (i n : Int) (h0 : 0 ≤ i) (hi : i + n ≤ l.length) (hn : n = 1 ∨ n = 2 ∨ n = 4) : ldv (cutL l i n) n.toNat = ldg l i n n.toNat := by
  have c : ∀ j : Int, 0 ≤ j → j < n → rd (cutL l i n) j = rd l (i + j) := fun j a b => rd_cut l i n j h0 a b hi
  have b : ∀ j : Int, 0 ≤ j → j < n → 0 ≤ rd l (i + j) ∧ rd l (i + j) ≤ 255 := fun j x y => byte_at l hb _ (by omega) (by omega)
  rcases hn with rfl | rfl | rfl
  · have c0 := c 0 (by decide) (by decide)
    have b0 := b 0 (by decide) (by decide)
    simp only [show (1 : Int).toNat = 1 from rfl, ldv, ldg, Int.natCast_zero, Int.reduceSub] at c0 b0 ⊢
    rw [c0, bits_or_zero _ b0.1 b0.2]
    generalize rd l (i + 0) = x0 at *
    unfold wrap64; omega
  · have c0 := c 0 (by decide) (by decide)
    have b0 := b 0 (by decide) (by decide)
    have c1 := c 1 (by decide) (by decide)
    have b1 := b 1 (by decide) (by decide)
    simp only [show (2 : Int).toNat = 2 from rfl, ldv, ldg, Int.natCast_zero, Int.natCast_one, Int.reduceSub] at c0 b0 c1 b1 ⊢
    rw [c0, bits_or_zero _ b0.1 b0.2, c1, or_sh _ _ (8 * 1) b0.1 (by have := b0.2; omega) b1.1 b1.2 (by decide)]
    generalize rd l (i + 0) = x0 at *
    generalize rd l (i + 1) = x1 at *
    unfold wrap64; omega
  · have c0 := c 0 (by decide) (by decide)
    have b0 := b 0 (by decide) (by decide)
    have c1 := c 1 (by decide) (by decide)
    have b1 := b 1 (by decide) (by decide)
    have c2 := c 2 (by decide) (by decide)
    have b2 := b 2 (by decide) (by decide)
    have c3 := c 3 (by decide) (by decide)
    have b3 := b 3 (by decide) (by decide)
    simp only [show (4 : Int).toNat = 4 from rfl, ldv, ldg, Int.natCast_zero, Int.natCast_one, Int.reduceSub, show ((2 : Nat) : Int) = 2 from rfl, show ((3 : Nat) : Int) = 3 from rfl] at c0 b0 c1 b1 c2 b2 c3 b3 ⊢
    rw [c0, bits_or_zero _ b0.1 b0.2, c1, or_sh _ _ (8 * 1) b0.1 (by have := b0.2; omega) b1.1 b1.2 (by decide), c2, or_sh _ _ (8 * 2) (by omega) (by omega) b2.1 b2.2 (by decide),
      c3, or_sh _ _ (8 * 3) (by omega) (by omega) b3.1 b3.2 (by decide)]
    generalize rd l (i + 0) = x0 at *
    generalize rd l (i + 1) = x1 at *
    generalize rd l (i + 2) = x2 at *
    generalize rd l (i + 3) = x3 at *
    unfold wrap64; omega
theorem ksz_cases (a : Int) : ksz a = 0 ∨ ksz a = 1 ∨ ksz a = 2 ∨ ksz a = 4 := by
  unfold ksz
  by_cases h1 : a = 1
  · rw [if_pos h1]; simp
  by_cases h2 : a = 2
  · rw [if_neg h1, if_pos h2]; simp
  by_cases h3 : a = 3
  · rw [if_neg h1, if_neg h2, if_pos h3]; simp
  by_cases h4 : a = 4
  · rw [if_neg h1, if_neg h2, if_neg h3, if_pos h4]; simp
  by_cases h5 : a = 5
  · rw [if_neg h1, if_neg h2, if_neg h3, if_neg h4, if_pos h5]; simp
  rw [if_neg h1, if_neg h2, if_neg h3, if_neg h4, if_neg h5]; simp
/-- what a load tells -/
def loadR (data stack : List Int) (kind at_ : Int) : Int × Int :=
  let n := ksz kind
  if n = 0 then (0, 4) else if Int.tmod at_ n ≠ 0 then (0, 3) else
  let s := spotS data.length stack.length n at_
  if s.1 = 0 then (0, 4) else ((nar kind (ldg (if s.1 = 2 then stack else data) s.2 n n.toNat)).1, 0)
theorem spec_load (k : Nat) (data stack : List Int) (kind at_ : Int) (h : ksz kind ≠ 0) : l3LoadF (k + 40) data stack kind (ksz kind) at_ = some (loadR data stack kind at_) := by
  unfold l3LoadF loadR
  dsimp only
  rw [if_neg h, spec_nar]; simp only [Option.bind_some]
  by_cases c : Int.tmod at_ (ksz kind) ≠ 0
  · rw [if_pos c, if_pos c]
  rw [if_neg c, if_neg c]
  by_cases c2 : (spotS data.length stack.length (ksz kind) at_).1 = 0
  · rw [if_pos c2, if_pos c2]
  · rw [if_neg c2, if_neg c2]
theorem impl_load (data stack : List Int) (hd : Bys data) (hs : Bys stack) (kind at_ : Int) : loadF data stack kind (ksz kind) at_ = some (loadR data stack kind at_) := by
  unfold loadF loadR
  dsimp only
  by_cases h : ksz kind = 0
  · rw [if_pos h, show spotF data.length stack.length (ksz kind) at_ = (0, 0, 4) by unfold spotF; rw [if_pos h], if_pos (by decide)]
  rw [if_neg h]
  by_cases c : Int.tmod at_ (ksz kind) ≠ 0
  · rw [if_pos c, show spotF data.length stack.length (ksz kind) at_ = (0, 0, 3) by unfold spotF; rw [if_neg h, if_pos c], if_pos (by decide)]
  rw [if_neg c]
  have hk : ksz kind = 1 ∨ ksz kind = 2 ∨ ksz kind = 4 := by have := ksz_cases kind; omega
  by_cases c3 : 1048576 ≤ at_ ∧ at_ ≤ 1048576 + data.length - ksz kind
  · rw [show spotF data.length stack.length (ksz kind) at_ = (1, at_ - 1048576, 0) by unfold spotF; rw [if_neg h, if_neg c, if_pos c3], show spotS data.length stack.length (ksz kind) at_ = (1, at_ - 1048576) by unfold spotS; rw [if_pos c3]]
    dsimp only
    rw [if_neg (by decide), if_pos rfl, if_neg (by decide), if_neg (by decide), ld_eq data hd _ _ (by omega) (by omega) hk, impl_nar]; rfl
  by_cases c4 : 2097152 - (stack.length : Int) ≤ at_ ∧ at_ ≤ 2097152 - ksz kind
  · rw [show spotF data.length stack.length (ksz kind) at_ = (2, at_ - (2097152 - stack.length), 0) by unfold spotF; rw [if_neg h, if_neg c, if_neg c3, if_pos c4], show spotS data.length stack.length (ksz kind) at_ = (2, at_ - (2097152 - stack.length)) by unfold spotS; rw [if_neg c3, if_pos c4]]
    dsimp only
    rw [if_neg (by decide), if_neg (by decide), if_neg (by decide), if_pos rfl, ld_eq stack hs _ _ (by omega) (by omega) hk, impl_nar]; rfl
  rw [show spotF data.length stack.length (ksz kind) at_ = (0, 0, 4) by unfold spotF; rw [if_neg h, if_neg c, if_neg c3, if_neg c4], show spotS data.length stack.length (ksz kind) at_ = (0, 0) by unfold spotS; rw [if_neg c3, if_neg c4], if_pos (by decide), if_pos rfl]
theorem mB_lens {code : List Int} {pc : Int} {regs data stack inp out : List Int} {steps en val : Int} (h : mB code pc regs data stack inp out steps en val = true) : data.length ≤ 65536 ∧ stack.length ≤ 65536 := by
  unfold mB stackB at h
  simp only [Bool.and_eq_true, decide_eq_true_eq] at h
  omega
/-- What LoadWord tells. -/
def lwR (code : List Int) (pc : Int) (regs data stack inp out : List Int) (steps en val : Int) (kind at_ : Int) : Int × Int :=
  if mB code pc regs data stack inp out steps en val = true then loadR data stack kind at_ else (0, 4)
theorem impl_lw (code : List Int) (pc : Int) (regs data stack inp out : List Int) (steps en val : Int) (kind at_ : Int) (hd : Bys data) (hs : Bys stack) (ha : -9223372036854775808 ≤ at_ ∧ at_ ≤ 9223372036854775807) :
    impl_LoadWord.f code pc regs data stack inp out steps en val kind at_ = some (lwR code pc regs data stack inp out steps en val kind at_) := by
  unfold impl_LoadWord.f lwR
  rw [impl_mach]; simp only [Option.bind_some]
  by_cases c : mB code pc regs data stack inp out steps en val = true
  · have := mB_lens c
    have hk := ksz_cases kind
    rw [if_pos c, if_pos c, if_pos ⟨this.1, this.2, ha.1, ha.2⟩, impl_ks]; simp only [Option.bind_some]
    rw [if_pos (by omega), impl_load data stack hd hs]
  · rw [if_neg c, if_neg c]
theorem spec_lw (k : Nat) (code : List Int) (pc : Int) (regs data stack inp out : List Int) (steps en val : Int) (kind at_ : Int) (ha : -9223372036854775808 ≤ at_ ∧ at_ ≤ 9223372036854775807)
    (hl : code.length + regs.length + data.length + stack.length + inp.length + out.length ≤ 1048576) (hk : 1048700 < k) :
    spec_LoadWord.f k code pc regs data stack inp out steps en val kind at_ = some (lwR code pc regs data stack inp out steps en val kind at_) := by
  obtain ⟨k, rfl⟩ : ∃ m, k = m + 40 := ⟨k - 40, by omega⟩
  unfold spec_LoadWord.f lwR
  rw [spec_mach _ code pc regs data stack inp out steps en val (by omega) (by omega)]; simp only [Option.bind_some]
  by_cases c : mB code pc regs data stack inp out steps en val = true
  · have := mB_lens c
    have hk := ksz_cases kind
    rw [if_pos c, if_pos c, spec_ks (k + 38)]; simp only [Option.bind_some]
    by_cases h0 : ksz kind = 0
    · rw [if_pos h0]; unfold loadR; dsimp only; rw [if_pos h0]
    · rw [if_neg h0, if_pos ⟨this.1, this.2, ha.1, ha.2⟩, if_pos (by omega), spec_load k data stack kind at_ h0]
  · rw [if_neg c, if_neg c]
theorem FnExactLoadWord (l0 : List Int) (a1 : Int) (l2 l3 l4 l5 l6 : List Int) (a7 a8 a9 : Int) (b c : Int) (h0 : l0.length ≤ maxLen) (_ : ∀ x ∈ l0, (Lit.int .i64 x).wf = true) (_ : (Lit.int .i64 a1).wf = true) (h2 : l2.length ≤ maxLen) (_ : ∀ x ∈ l2, (Lit.int .i64 x).wf = true)
    (h3 : l3.length ≤ maxLen) (w3 : ∀ x ∈ l3, (Lit.int .u8 x).wf = true) (h4 : l4.length ≤ maxLen) (w4 : ∀ x ∈ l4, (Lit.int .u8 x).wf = true) (h5 : l5.length ≤ maxLen) (_ : ∀ x ∈ l5, (Lit.int .u8 x).wf = true) (h6 : l6.length ≤ maxLen) (_ : ∀ x ∈ l6, (Lit.int .u8 x).wf = true)
    (_ : (Lit.int .i64 a7).wf = true) (_ : (Lit.int .i64 a8).wf = true) (_ : (Lit.int .i64 a9).wf = true) (_ : (Lit.int .i64 b).wf = true) (wc : (Lit.int .i64 c).wf = true) :
    ∃ k, laws_FnExactLoadWord.f k l0 a1 l2 l3 l4 l5 l6 a7 a8 a9 b c = some true := by
  obtain ⟨K, hK⟩ : ∃ K, K = 1148580 := ⟨_, rfl⟩
  refine ⟨K + 1, ?_⟩
  unfold laws_FnExactLoadWord.f
  obtain ⟨r, e, hr⟩ := sz_mach l0 a1 l2 l3 l4 l5 l6 a7 a8 a9 h0 h2 h3 h4 h5 h6
  rw [e]; simp only [Option.bind_some]
  by_cases c : r < 0
  · rw [if_pos c]
  have hl := hr (by omega)
  have hc := wf64 wc
  rw [if_neg c, to_mach _ l0 a1 l2 l3 l4 l5 l6 a7 a8 a9 hl (by omega)]; simp only [Option.bind_some]
  rw [spec_lw _ l0 a1 l2 l3 l4 l5 l6 a7 a8 a9 _ _ hc hl (by omega)]; simp only [Option.bind_some]
  rw [impl_lw l0 a1 l2 l3 l4 l5 l6 a7 a8 a9 _ _ (bys_of w3) (bys_of w4) hc]; simp only [Option.bind_some]
  rw [if_pos trivial, bne_self_eq_false]
  simp only [laws_FnExactLoadWord.j0, Bool.false_eq_true, if_false]
  rw [to_mach _ l0 a1 l2 l3 l4 l5 l6 a7 a8 a9 hl (by omega)]; simp only [Option.bind_some]
  rw [eq_mach_self _ l0 a1 l2 l3 l4 l5 l6 a7 a8 a9 hl (by omega)]; rfl
end Go.Proofs.Ythndggachjdkfaa.Pure
