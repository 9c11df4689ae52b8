/- The program's MachineOk answers as the reference's MachineOk does, at every machine whose lists hold together at most 1048576 values; it writes into no argument. (Beyond that size the law itself looks at nothing.) -/
import Derived.Test.YthndggachjdkfaaPMachineOkx
import Derived.Test.YthndggachjdkfaaBase
namespace Go.Proofs.Ythndggachjdkfaa.Pure
open Go.RowKit Go.Proofs.Ythndggachjdkfaa.PMachineOk Go.Proofs.YthndggachjdkfaaW.PrintWords Go.Proofs.YthndggachjdkfaaW.PrintLast Go.Proofs.YthndggachjdkfaaW.PrintMore Go.Proofs.Ythndggachjdkfaa.Base
set_option linter.unusedVariables false
set_option linter.unusedSimpArgs false
theorem to_ints_loop (l : List Int) (hl : l.length ≤ 1048576) (d : Nat) : ∀ (k i : Nat), i + d = l.length → d < k → laws_toIntS.l0 k l (l.take i ++ List.replicate (l.length - i) 0) (i : Int) = some l := by
  induction d with
  | zero =>
    intro k i hi hk
    obtain ⟨k, rfl⟩ : ∃ m, k = m + 1 := ⟨k - 1, by omega⟩
    simp only [laws_toIntS.l0]
    rw [if_neg (by omega), show l.length - i = 0 by omega, List.take_of_length_le (by omega)]
    simp
  | succ d ih =>
    intro k i hi hk
    obtain ⟨k, rfl⟩ : ∃ m, k = m + 1 := ⟨k - 1, by omega⟩
    have hlt : i < l.length := by omega
    simp only [laws_toIntS.l0]
    rw [if_pos (by omega), if_pos (by omega), if_pos (by simp; omega), Int.toNat_natCast, rd_get l i hlt, set_take l i hlt _ rfl, w64 (by omega) (by omega), show (i : Int) + 1 = ((i + 1 : Nat) : Int) by omega]
    exact ih k (i + 1) (by omega) (by omega)
theorem to_ints (k : Nat) (l : List Int) (hl : l.length ≤ 1048576) (hk : l.length < k) : laws_toIntS.f k l = some l := by
  unfold laws_toIntS.f
  rw [if_pos (by omega), if_pos (by omega)]
  have h := to_ints_loop l hl l.length k 0 (by omega) hk
  simpa using h
theorem to_bytes_loop (l : List Int) (hl : l.length ≤ 1048576) (d : Nat) : ∀ (k i : Nat), i + d = l.length → d < k → laws_toByteS.l0 k l (l.take i ++ List.replicate (l.length - i) 0) (i : Int) = some l := by
  induction d with
  | zero =>
    intro k i hi hk
    obtain ⟨k, rfl⟩ : ∃ m, k = m + 1 := ⟨k - 1, by omega⟩
    simp only [laws_toByteS.l0]
    rw [if_neg (by omega), show l.length - i = 0 by omega, List.take_of_length_le (by omega)]
    simp
  | succ d ih =>
    intro k i hi hk
    obtain ⟨k, rfl⟩ : ∃ m, k = m + 1 := ⟨k - 1, by omega⟩
    have hlt : i < l.length := by omega
    simp only [laws_toByteS.l0]
    rw [if_pos (by omega), if_pos (by omega), if_pos (by simp; omega), Int.toNat_natCast, rd_get l i hlt, set_take l i hlt _ rfl, w64 (by omega) (by omega), show (i : Int) + 1 = ((i + 1 : Nat) : Int) by omega]
    exact ih k (i + 1) (by omega) (by omega)
theorem to_bytes (k : Nat) (l : List Int) (hl : l.length ≤ 1048576) (hk : l.length < k) : laws_toByteS.f k l = some l := by
  unfold laws_toByteS.f
  rw [if_pos (by omega), if_pos (by omega)]
  have h := to_bytes_loop l hl l.length k 0 (by omega) hk
  simpa using h
theorem eq_ints_loop (a b : List Int) (hab : a.length = b.length) (hl : a.length ≤ 1048576) (d : Nat) : ∀ (k i : Nat), i + d = a.length → d < k → laws_eqIntS.l0 k a b (i : Int) = some (decide (a.drop i = b.drop i)) := by
  induction d with
  | zero =>
    intro k i hi hk
    obtain ⟨k, rfl⟩ : ∃ m, k = m + 1 := ⟨k - 1, by omega⟩
    simp only [laws_eqIntS.l0]
    rw [if_neg (by omega), List.drop_of_length_le (by omega), List.drop_of_length_le (by omega)]
    simp
  | succ d ih =>
    intro k i hi hk
    obtain ⟨k, rfl⟩ : ∃ m, k = m + 1 := ⟨k - 1, by omega⟩
    have hlt : i < a.length := by omega
    have hlt' : i < b.length := by omega
    simp only [laws_eqIntS.l0]
    rw [if_pos (by omega), if_pos (by omega), if_pos (by omega), rd_get a i hlt, rd_get b i hlt', w64 (by omega) (by omega), show (i : Int) + 1 = ((i + 1 : Nat) : Int) by omega, List.drop_eq_getElem_cons hlt, List.drop_eq_getElem_cons hlt']
    by_cases e : a[i] = b[i]
    · rw [if_pos e, ih k (i + 1) (by omega) (by omega), e]
      congr 1; rw [decide_eq_decide]
      exact ⟨fun h => by rw [h], fun h => (List.cons.inj h).2⟩
    · rw [if_neg e]
      congr 1; symm; rw [decide_eq_false_iff_not]
      exact fun h => e (List.cons.inj h).1
theorem eq_ints (k : Nat) (a b : List Int) (hl : a.length ≤ 1048576) (hk : a.length < k) : laws_eqIntS.f k a b = some (decide (a = b)) := by
  unfold laws_eqIntS.f
  by_cases h : a.length = b.length
  · rw [if_pos (by omega)]
    have g := eq_ints_loop a b h hl a.length k 0 (by omega) hk
    simpa using g
  · rw [if_neg (by omega)]
    congr 1; symm
    rw [decide_eq_false_iff_not]
    intro e
    exact h (by rw [e])
theorem eq_bytes_loop (a b : List Int) (hab : a.length = b.length) (hl : a.length ≤ 1048576) (d : Nat) : ∀ (k i : Nat), i + d = a.length → d < k → laws_eqByteS.l0 k a b (i : Int) = some (decide (a.drop i = b.drop i)) := by
  induction d with
  | zero =>
    intro k i hi hk
    obtain ⟨k, rfl⟩ : ∃ m, k = m + 1 := ⟨k - 1, by omega⟩
    simp only [laws_eqByteS.l0]
    rw [if_neg (by omega), List.drop_of_length_le (by omega), List.drop_of_length_le (by omega)]
    simp
  | succ d ih =>
    intro k i hi hk
    obtain ⟨k, rfl⟩ : ∃ m, k = m + 1 := ⟨k - 1, by omega⟩
    have hlt : i < a.length := by omega
    have hlt' : i < b.length := by omega
    simp only [laws_eqByteS.l0]
    rw [if_pos (by omega), if_pos (by omega), if_pos (by omega), rd_get a i hlt, rd_get b i hlt', w64 (by omega) (by omega), show (i : Int) + 1 = ((i + 1 : Nat) : Int) by omega, List.drop_eq_getElem_cons hlt, List.drop_eq_getElem_cons hlt']
    by_cases e : a[i] = b[i]
    · rw [if_pos e, ih k (i + 1) (by omega) (by omega), e]
      congr 1; rw [decide_eq_decide]
      exact ⟨fun h => by rw [h], fun h => (List.cons.inj h).2⟩
    · rw [if_neg e]
      congr 1; symm; rw [decide_eq_false_iff_not]
      exact fun h => e (List.cons.inj h).1
theorem eq_bytes (k : Nat) (a b : List Int) (hl : a.length ≤ 1048576) (hk : a.length < k) : laws_eqByteS.f k a b = some (decide (a = b)) := by
  unfold laws_eqByteS.f
  by_cases h : a.length = b.length
  · rw [if_pos (by omega)]
    have g := eq_bytes_loop a b h hl a.length k 0 (by omega) hk
    simpa using g
  · rw [if_neg (by omega)]
    congr 1; symm
    rw [decide_eq_false_iff_not]
    intro e
    exact h (by rw [e])
theorem sz_ints (l : List Int) (n : Int) (hl : l.length ≤ 9223372036854775807) (hn : 0 ≤ n) (hn' : n ≤ 1048576) : laws_szIntS.f l n = some (if n - l.length < 0 then -1 else n - l.length) := by
  unfold laws_szIntS.f
  rw [w64 (by omega) (by omega)]
  split <;> rfl
theorem sz_bytes (l : List Int) (n : Int) (hl : l.length ≤ 9223372036854775807) (hn : 0 ≤ n) (hn' : n ≤ 1048576) : laws_szByteS.f l n = some (if n - l.length < 0 then -1 else n - l.length) := by
  unfold laws_szByteS.f
  rw [w64 (by omega) (by omega)]
  split <;> rfl
theorem inside_spec (x lo hi : Int) : impl_inside.f x lo hi = some (decide (lo ≤ x ∧ x ≤ hi)) := by
  unfold impl_inside.f
  by_cases h : x ≥ lo
  · rw [if_pos h]; congr 1; simp only [decide_eq_decide]; omega
  · rw [if_neg h, decide_eq_false (by omega)]
theorem tmod_dvd (n : Int) (m : Int) (hm : 0 < m) : Int.tmod n m = 0 ↔ n % m = 0 := by
  by_cases h : 0 ≤ n
  · rw [tmod_pos h]
  · rw [tmod_neg (by omega)]
    have := Int.emod_nonneg n (b := m) (by omega)
    constructor
    · intro h; exact Int.emod_eq_zero_of_dvd (Int.dvd_neg.mp (Int.dvd_of_emod_eq_zero (by omega)))
    · intro h
      have := Int.emod_eq_zero_of_dvd (Int.dvd_neg.mpr (Int.dvd_of_emod_eq_zero h))
      omega
/-- Code is right. -/
def codeB (l : List Int) : Bool := decide (1 ≤ l.length ∧ l.length ≤ 16384) && l.all okw
def stackB (n : Int) : Bool := decide (0 ≤ n ∧ n ≤ 65536 ∧ n % 16 = 0)
def pcB (pc : Int) (l : List Int) : Bool := decide (65536 ≤ pc ∧ pc < 65536 + 4 * l.length ∧ pc % 4 = 0)
theorem impl_code (l : List Int) : impl_codeOk.f l = some (codeB l) := by
  unfold impl_codeOk.f impl_isWord.f codeB
  rw [inside_spec]; simp only [Option.bind_some]
  by_cases h : 1 ≤ l.length ∧ l.length ≤ 16384
  · rw [decide_eq_true (by omega), decide_eq_true h, if_pos rfl]; simp
  · rw [decide_eq_false (by omega), decide_eq_false h]; simp
theorem impl_stack (n : Int) : impl_stackOk.f n = some (stackB n) := by
  unfold impl_stackOk.f stackB
  rw [inside_spec]; simp only [Option.bind_some]
  have := tmod_dvd n 16 (by decide)
  by_cases h : 0 ≤ n ∧ n ≤ 65536
  · rw [decide_eq_true h, if_pos rfl]; congr 1; rw [Bool.eq_iff_iff]; simp; omega
  · rw [decide_eq_false h, decide_eq_false (by omega)]; simp
theorem wordOk_spec (x : Int) : spec_l3WordOk.f x = some (okw x) := by
  unfold spec_l3WordOk.f okw
  by_cases h : x ≥ 0
  · rw [if_pos h]; congr 1; simp only [decide_eq_decide]; omega
  · rw [if_neg h, decide_eq_false (by omega)]
theorem codeOk_loop (l : List Int) (hl : l.length ≤ 16384) (d : Nat) : ∀ (k i : Nat), i + d = l.length → d < k → spec_l3CodeOk.l0 k l (i : Int) = some ((l.drop i).all okw) := by
  induction d with
  | zero =>
    intro k i hi hk
    obtain ⟨k, rfl⟩ : ∃ m, k = m + 1 := ⟨k - 1, by omega⟩
    simp only [spec_l3CodeOk.l0]
    rw [if_neg (by omega), List.drop_of_length_le (by omega)]; rfl
  | succ d ih =>
    intro k i hi hk
    obtain ⟨k, rfl⟩ : ∃ m, k = m + 1 := ⟨k - 1, by omega⟩
    have hlt : i < l.length := by omega
    simp only [spec_l3CodeOk.l0]
    rw [if_pos (by omega), if_pos (by omega), rd_get l i hlt, wordOk_spec]; simp only [Option.bind_some]
    rw [w64 (by omega) (by omega), show (i : Int) + 1 = ((i + 1 : Nat) : Int) by omega, List.drop_eq_getElem_cons hlt, List.all_cons, ih k (i + 1) (by omega) (by omega)]
    cases okw l[i] <;> simp
theorem spec_code (k : Nat) (l : List Int) (hl : l.length ≤ 1048576) (hk : l.length + 1 < k) : spec_l3CodeOk.f k l = some (codeB l) := by
  obtain ⟨k, rfl⟩ : ∃ m, k = m + 1 := ⟨k - 1, by omega⟩
  unfold spec_l3CodeOk.f codeB
  by_cases h1 : l.length < 1
  · rw [if_pos (by omega), decide_eq_false (by omega)]; simp [spec_l3CodeOk.j0]
  rw [if_neg (by omega)]
  by_cases h2 : l.length ≤ 16384
  · rw [decide_eq_false (by omega), decide_eq_true ⟨by omega, h2⟩]
    simp only [spec_l3CodeOk.j0, Bool.false_eq_true, if_false]
    have h := codeOk_loop l h2 l.length k 0 (by omega) (by omega)
    simpa using h
  · rw [decide_eq_true (by omega), decide_eq_false (by omega)]; simp [spec_l3CodeOk.j0]
theorem spec_stack (n : Int) : spec_l3StackOk.f n = some (stackB n) := by
  unfold spec_l3StackOk.f stackB
  have := tmod_dvd n 16 (by decide)
  by_cases h : n ≥ 0
  · rw [if_pos h]
    by_cases h2 : n ≤ 65536
    · rw [if_pos h2]; congr 1; rw [Bool.eq_iff_iff]; simp; omega
    · rw [if_neg h2, decide_eq_false (by omega)]
  · rw [if_neg h, decide_eq_false (by omega)]
/-- A machine is valid. -/
def mB (code : List Int) (pc : Int) (regs data stack inp out : List Int) (steps en val : Int) : Bool :=
  codeB code && (decide (data.length ≤ 65536) && (stackB stack.length && (okw pc && (decide (regs.length = 32) && (decide (rd regs 0 = 0) && (regs.all okw && (decide (inp.length ≤ 10000) && (decide (out.length ≤ 10000) && (decide (0 ≤ steps ∧ steps ≤ 1000000) && (decide (0 ≤ en ∧ en ≤ 3) && okw val))))))))))
theorem ite_some (c : Bool) (a b : Bool) : (if c = true then some a else some b) = some (if c = true then a else b) := by cases c <;> rfl
theorem impl_mach (code : List Int) (pc : Int) (regs data stack inp out : List Int) (steps en val : Int) : impl_MachineOk.f code pc regs data stack inp out steps en val = some (mB code pc regs data stack inp out steps en val) := by
  unfold impl_MachineOk.f mB impl_isWord.f
  rw [impl_code, impl_stack, inside_spec, inside_spec]; simp only [Option.bind_some, List.all_cons, List.all_nil, Bool.and_true]
  have e1 : ((data.length : Int) ≤ 65536) ↔ data.length ≤ 65536 := by omega
  have e2 : ((regs.length : Int) = 32) ↔ regs.length = 32 := by omega
  have e3 : ((inp.length : Int) ≤ 10000) ↔ inp.length ≤ 10000 := by omega
  have e4 : ((out.length : Int) ≤ 10000) ↔ out.length ≤ 10000 := by omega
  simp only [e1, e2, e3, e4]
  generalize decide (0 ≤ steps ∧ steps ≤ 1000000) = S
  generalize decide (0 ≤ en ∧ en ≤ 3) = E
  clear e1 e3 e4
  by_cases h2 : regs.length = 32
  · have e5 : (0 < (regs.length : Int)) := by omega
    simp only [e5, if_true, h2, decide_true, Bool.true_and]
    by_cases h1 : data.length ≤ 65536 <;> by_cases h3 : inp.length ≤ 10000 <;> by_cases h4 : out.length ≤ 10000 <;> by_cases h5 : rd regs 0 = 0 <;> cases codeB code <;> cases stackB (stack.length : Int) <;> cases okw pc <;> cases okw val <;> cases regs.all okw <;> cases S <;> simp [h1, h3, h4, h5]
  · simp only [h2, if_false, decide_false, Bool.false_and, Bool.and_false]
    cases codeB code <;> cases stackB (stack.length : Int) <;> cases okw pc <;> cases okw val <;> simp
theorem machOk_loop (code : List Int) (pc : Int) (regs data stack inp out : List Int) (steps en val : Int) (hr : regs.length = 32) (d : Nat) : ∀ (k i : Nat), i + d = 32 → d < k →
    spec_MachineOk.l0 k (i : Int) code pc regs data stack inp out steps en val = some ((regs.drop i).all okw && (decide (inp.length ≤ 10000) && (decide (out.length ≤ 10000) && (decide (0 ≤ steps ∧ steps ≤ 1000000) && (decide (0 ≤ en ∧ en ≤ 3) && okw val))))) := by
  induction d with
  | zero =>
    intro k i hi hk
    obtain ⟨k, rfl⟩ : ∃ m, k = m + 1 := ⟨k - 1, by omega⟩
    simp only [spec_MachineOk.l0]
    rw [if_neg (by omega), List.drop_of_length_le (by omega), wordOk_spec]; simp only [Option.bind_some]
    have e3 : ((inp.length : Int) ≤ 10000) ↔ inp.length ≤ 10000 := by omega
    have e4 : ((out.length : Int) ≤ 10000) ↔ out.length ≤ 10000 := by omega
    simp only [e3, e4]
    by_cases h1 : inp.length ≤ 10000 <;> by_cases h2 : out.length ≤ 10000 <;> by_cases h3 : 0 ≤ steps <;> by_cases h4 : steps ≤ 1000000 <;> by_cases h5 : 0 ≤ en <;> by_cases h6 : en ≤ 3 <;> cases okw val <;> simp [h1, h2, h3, h4, h5, h6]
  | succ d ih =>
    intro k i hi hk
    obtain ⟨k, rfl⟩ : ∃ m, k = m + 1 := ⟨k - 1, by omega⟩
    have hlt : i < regs.length := by omega
    simp only [spec_MachineOk.l0]
    rw [if_pos (by omega), if_pos (by omega), if_pos (by omega), rd_get regs i hlt, wordOk_spec]; simp only [Option.bind_some]
    rw [w64 (by omega) (by omega), show (i : Int) + 1 = ((i + 1 : Nat) : Int) by omega, List.drop_eq_getElem_cons hlt, List.all_cons, ih k (i + 1) (by omega) (by omega)]
    cases okw regs[i] <;> simp
theorem spec_mach (k : Nat) (code : List Int) (pc : Int) (regs data stack inp out : List Int) (steps en val : Int) (hl : code.length ≤ 1048576) (hk : code.length + 40 < k) :
    spec_MachineOk.f k code pc regs data stack inp out steps en val = some (mB code pc regs data stack inp out steps en val) := by
  obtain ⟨k, rfl⟩ : ∃ m, k = m + 1 := ⟨k - 1, by omega⟩
  unfold spec_MachineOk.f mB
  rw [spec_code _ code hl (by omega), spec_stack, wordOk_spec]; simp only [Option.bind_some, spec_MachineOk.j0, if_true]
  have e1 : ((data.length : Int) > 65536) ↔ ¬ data.length ≤ 65536 := by omega
  have e2 : ((regs.length : Int) = 32) ↔ regs.length = 32 := by omega
  simp only [e1, e2]
  by_cases h2 : regs.length = 32
  · have h := machOk_loop code pc regs data stack inp out steps en val h2 32 k 0 (by omega) (by omega)
    have e5 : (0 < (regs.length : Int)) := by omega
    simp only [List.drop_zero, Int.natCast_zero, Int.cast_ofNat_Int] at h
    generalize decide (0 ≤ steps ∧ steps ≤ 1000000) = S at *
    generalize decide (0 ≤ en ∧ en ≤ 3) = E at *
    simp only [e5, if_true, h2, decide_true, Bool.true_and]
    by_cases h1 : data.length ≤ 65536 <;> by_cases h5 : rd regs 0 = 0 <;> cases codeB code <;> cases stackB (stack.length : Int) <;> cases okw pc <;> simp [h1, h5] <;> exact h
  · simp only [h2, if_false, decide_false, Bool.false_and, Bool.and_false]
    cases codeB code <;> cases stackB (stack.length : Int) <;> cases okw pc <;> simp
theorem to_mach (k : Nat) (code : List Int) (pc : Int) (regs data stack inp out : List Int) (steps en val : Int) (hl : code.length + regs.length + data.length + stack.length + inp.length + out.length ≤ 1048576) (hk : 1048576 < k) :
    laws_toMachine.f k code pc regs data stack inp out steps en val = some (code, pc, regs, data, stack, inp, out, steps, en, val) := by
  unfold laws_toMachine.f
  rw [to_ints _ code (by omega) (by omega), to_ints _ regs (by omega) (by omega), to_bytes _ data (by omega) (by omega), to_bytes _ stack (by omega) (by omega), to_bytes _ inp (by omega) (by omega), to_bytes _ out (by omega) (by omega)]
  rfl
theorem sz_mach (code : List Int) (pc : Int) (regs data stack inp out : List Int) (steps en val : Int) (h0 : code.length ≤ maxLen) (h1 : regs.length ≤ maxLen) (h2 : data.length ≤ maxLen) (h3 : stack.length ≤ maxLen) (h4 : inp.length ≤ maxLen) (h5 : out.length ≤ maxLen) :
    ∃ r, laws_szMachine.f code pc regs data stack inp out steps en val 1048576 = some r ∧ (0 ≤ r → code.length + regs.length + data.length + stack.length + inp.length + out.length ≤ 1048576) := by
  unfold maxLen at *
  unfold laws_szMachine.f
  rw [sz_ints code _ (by omega) (by omega) (by omega)]; simp only [Option.bind_some]
  by_cases c0 : 1048576 - (code.length : Int) < 0
  · rw [if_pos c0]; exact ⟨_, rfl, by omega⟩
  rw [if_neg c0, if_neg c0, sz_ints regs _ (by omega) (by omega) (by omega)]; simp only [Option.bind_some]
  by_cases c1 : 1048576 - (code.length : Int) - (regs.length : Int) < 0
  · rw [if_pos c1]; exact ⟨_, rfl, by omega⟩
  rw [if_neg c1, if_neg c1, sz_bytes data _ (by omega) (by omega) (by omega)]; simp only [Option.bind_some]
  by_cases c2 : 1048576 - (code.length : Int) - (regs.length : Int) - (data.length : Int) < 0
  · rw [if_pos c2]; exact ⟨_, rfl, by omega⟩
  rw [if_neg c2, if_neg c2, sz_bytes stack _ (by omega) (by omega) (by omega)]; simp only [Option.bind_some]
  by_cases c3 : 1048576 - (code.length : Int) - (regs.length : Int) - (data.length : Int) - (stack.length : Int) < 0
  · rw [if_pos c3]; exact ⟨_, rfl, by omega⟩
  rw [if_neg c3, if_neg c3, sz_bytes inp _ (by omega) (by omega) (by omega)]; simp only [Option.bind_some]
  by_cases c4 : 1048576 - (code.length : Int) - (regs.length : Int) - (data.length : Int) - (stack.length : Int) - (inp.length : Int) < 0
  · rw [if_pos c4]; exact ⟨_, rfl, by omega⟩
  rw [if_neg c4, if_neg c4, sz_bytes out _ (by omega) (by omega) (by omega)]; simp only [Option.bind_some]
  by_cases c5 : 1048576 - (code.length : Int) - (regs.length : Int) - (data.length : Int) - (stack.length : Int) - (inp.length : Int) - (out.length : Int) < 0
  · rw [if_pos c5]; exact ⟨_, rfl, by omega⟩
  · rw [if_neg c5, if_neg c5]; exact ⟨_, rfl, by omega⟩
theorem eq_mach_self (k : Nat) (code : List Int) (pc : Int) (regs data stack inp out : List Int) (steps en val : Int) (hl : code.length + regs.length + data.length + stack.length + inp.length + out.length ≤ 1048576) (hk : 1048576 < k) :
    laws_eqMachine.f k code pc regs data stack inp out steps en val code pc regs data stack inp out steps en val = some true := by
  unfold laws_eqMachine.f
  rw [eq_ints _ code code (by omega) (by omega), eq_ints _ regs regs (by omega) (by omega), eq_bytes _ data data (by omega) (by omega), eq_bytes _ stack stack (by omega) (by omega), eq_bytes _ inp inp (by omega) (by omega), eq_bytes _ out out (by omega) (by omega)]
  simp
theorem FnExactMachineOk (l0 : List Int) (a1 : Int) (l2 l3 l4 l5 l6 : List Int) (a7 a8 a9 : Int) (h0 : l0.length ≤ maxLen) (_ : ∀ x ∈ l0, (Lit.int .i64 x).wf = true) (_ : (Lit.int .i64 a1).wf = true) (h2 : l2.length ≤ maxLen) (_ : ∀ x ∈ l2, (Lit.int .i64 x).wf = true)
    (h3 : l3.length ≤ maxLen) (_ : ∀ x ∈ l3, (Lit.int .u8 x).wf = true) (h4 : l4.length ≤ maxLen) (_ : ∀ x ∈ l4, (Lit.int .u8 x).wf = true) (h5 : l5.length ≤ maxLen) (_ : ∀ x ∈ l5, (Lit.int .u8 x).wf = true) (h6 : l6.length ≤ maxLen) (_ : ∀ x ∈ l6, (Lit.int .u8 x).wf = true)
    (_ : (Lit.int .i64 a7).wf = true) (_ : (Lit.int .i64 a8).wf = true) (_ : (Lit.int .i64 a9).wf = true) :
    ∃ k, laws_FnExactMachineOk.f k l0 a1 l2 l3 l4 l5 l6 a7 a8 a9 = some true := by
  refine ⟨1148580, ?_⟩
  unfold laws_FnExactMachineOk.f
  obtain ⟨r, e, hr⟩ := sz_mach l0 a1 l2 l3 l4 l5 l6 a7 a8 a9 h0 h2 h3 h4 h5 h6
  rw [e]; simp only [Option.bind_some]
  by_cases c : r < 0
  · rw [if_pos c]
  have hl := hr (by omega)
  rw [if_neg c, to_mach _ l0 a1 l2 l3 l4 l5 l6 a7 a8 a9 hl (by omega)]; simp only [Option.bind_some]
  rw [spec_mach _ l0 a1 l2 l3 l4 l5 l6 a7 a8 a9 (by omega) (by omega), impl_mach]; simp only [Option.bind_some]
  rw [if_neg (by simp), eq_mach_self _ l0 a1 l2 l3 l4 l5 l6 a7 a8 a9 hl (by omega)]; rfl
end Go.Proofs.Ythndggachjdkfaa.Pure
