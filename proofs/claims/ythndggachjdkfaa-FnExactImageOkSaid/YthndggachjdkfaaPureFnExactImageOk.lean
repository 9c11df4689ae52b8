/- The program's ImageOk answers as the reference's ImageOk does, at every image whose lists hold together at most 1048576 values; it writes into no argument. (Beyond that size the law itself looks at nothing.) -/
import Derived.Test.YthndggachjdkfaaPImageOkx
import Derived.Test.YthndggachjdkfaaBase
namespace Go.Proofs.Ythndggachjdkfaa.Pure
open Go.RowKit Go.Proofs.Ythndggachjdkfaa.PImageOk Go.Proofs.YthndggachjdkfaaW.PrintWords Go.Proofs.YthndggachjdkfaaW.PrintLast Go.Proofs.YthndggachjdkfaaW.PrintMore Go.Proofs.Ythndggachjdkfaa.Base
set_option linter.unusedVariables false
set_option linter.unusedSimpArgs false
theorem to_ints_loop (l : List Int) (hl : l.length ≤ 1048576) (d : Nat) : ∀ (k i : Nat), i + d = l.length → d < k → laws_toIntS.l0 k l (l.take i ++ List.replicate (l.length - i) 0) (i : Int) = some l := by
  induction d with
  | zero =>
    intro k i hi hk
    obtain ⟨k, rfl⟩ : ∃ m, k = m + 1 := ⟨k - 1, by omega⟩
    simp only [laws_toIntS.l0]
    rw [if_neg (by omega), show l.length - i = 0 by omega, List.take_of_length_le (by omega)]
    simp
  | succ d ih =>
    intro k i hi hk
    obtain ⟨k, rfl⟩ : ∃ m, k = m + 1 := ⟨k - 1, by omega⟩
    have hlt : i < l.length := by omega
    simp only [laws_toIntS.l0]
    rw [if_pos (by omega), if_pos (by omega), if_pos (by simp; omega), Int.toNat_natCast, rd_get l i hlt, set_take l i hlt _ rfl, w64 (by omega) (by omega), show (i : Int) + 1 = ((i + 1 : Nat) : Int) by omega]
    exact ih k (i + 1) (by omega) (by omega)
theorem to_ints (k : Nat) (l : List Int) (hl : l.length ≤ 1048576) (hk : l.length < k) : laws_toIntS.f k l = some l := by
  unfold laws_toIntS.f
  rw [if_pos (by omega), if_pos (by omega)]
  have h := to_ints_loop l hl l.length k 0 (by omega) hk
  simpa using h
theorem to_bytes_loop (l : List Int) (hl : l.length ≤ 1048576) (d : Nat) : ∀ (k i : Nat), i + d = l.length → d < k → laws_toByteS.l0 k l (l.take i ++ List.replicate (l.length - i) 0) (i : Int) = some l := by
  induction d with
  | zero =>
    intro k i hi hk
    obtain ⟨k, rfl⟩ : ∃ m, k = m + 1 := ⟨k - 1, by omega⟩
    simp only [laws_toByteS.l0]
    rw [if_neg (by omega), show l.length - i = 0 by omega, List.take_of_length_le (by omega)]
    simp
  | succ d ih =>
    intro k i hi hk
    obtain ⟨k, rfl⟩ : ∃ m, k = m + 1 := ⟨k - 1, by omega⟩
    have hlt : i < l.length := by omega
    simp only [laws_toByteS.l0]
    rw [if_pos (by omega), if_pos (by omega), if_pos (by simp; omega), Int.toNat_natCast, rd_get l i hlt, set_take l i hlt _ rfl, w64 (by omega) (by omega), show (i : Int) + 1 = ((i + 1 : Nat) : Int) by omega]
    exact ih k (i + 1) (by omega) (by omega)
theorem to_bytes (k : Nat) (l : List Int) (hl : l.length ≤ 1048576) (hk : l.length < k) : laws_toByteS.f k l = some l := by
  unfold laws_toByteS.f
  rw [if_pos (by omega), if_pos (by omega)]
  have h := to_bytes_loop l hl l.length k 0 (by omega) hk
  simpa using h
theorem eq_ints_loop (a b : List Int) (hab : a.length = b.length) (hl : a.length ≤ 1048576) (d : Nat) : ∀ (k i : Nat), i + d = a.length → d < k → laws_eqIntS.l0 k a b (i : Int) = some (decide (a.drop i = b.drop i)) := by
  induction d with
  | zero =>
    intro k i hi hk
    obtain ⟨k, rfl⟩ : ∃ m, k = m + 1 := ⟨k - 1, by omega⟩
    simp only [laws_eqIntS.l0]
    rw [if_neg (by omega), List.drop_of_length_le (by omega), List.drop_of_length_le (by omega)]
    simp
  | succ d ih =>
    intro k i hi hk
    obtain ⟨k, rfl⟩ : ∃ m, k = m + 1 := ⟨k - 1, by omega⟩
    have hlt : i < a.length := by omega
    have hlt' : i < b.length := by omega
    simp only [laws_eqIntS.l0]
    rw [if_pos (by omega), if_pos (by omega), if_pos (by omega), rd_get a i hlt, rd_get b i hlt', w64 (by omega) (by omega), show (i : Int) + 1 = ((i + 1 : Nat) : Int) by omega, List.drop_eq_getElem_cons hlt, List.drop_eq_getElem_cons hlt']
    by_cases e : a[i] = b[i]
    · rw [if_pos e, ih k (i + 1) (by omega) (by omega), e]
      congr 1; rw [decide_eq_decide]
      exact ⟨fun h => by rw [h], fun h => (List.cons.inj h).2⟩
    · rw [if_neg e]
      congr 1; symm; rw [decide_eq_false_iff_not]
      exact fun h => e (List.cons.inj h).1
theorem eq_ints (k : Nat) (a b : List Int) (hl : a.length ≤ 1048576) (hk : a.length < k) : laws_eqIntS.f k a b = some (decide (a = b)) := by
  unfold laws_eqIntS.f
  by_cases h : a.length = b.length
  · rw [if_pos (by omega)]
    have g := eq_ints_loop a b h hl a.length k 0 (by omega) hk
    simpa using g
  · rw [if_neg (by omega)]
    congr 1; symm
    rw [decide_eq_false_iff_not]
    intro e
    exact h (by rw [e])
theorem eq_bytes_loop (a b : List Int) (hab : a.length = b.length) (hl : a.length ≤ 1048576) (d : Nat) : ∀ (k i : Nat), i + d = a.length → d < k → laws_eqByteS.l0 k a b (i : Int) = some (decide (a.drop i = b.drop i)) := by
  induction d with
  | zero =>
    intro k i hi hk
    obtain ⟨k, rfl⟩ : ∃ m, k = m + 1 := ⟨k - 1, by omega⟩
    simp only [laws_eqByteS.l0]
    rw [if_neg (by omega), List.drop_of_length_le (by omega), List.drop_of_length_le (by omega)]
    simp
  | succ d ih =>
    intro k i hi hk
    obtain ⟨k, rfl⟩ : ∃ m, k = m + 1 := ⟨k - 1, by omega⟩
    have hlt : i < a.length := by omega
    have hlt' : i < b.length := by omega
    simp only [laws_eqByteS.l0]
    rw [if_pos (by omega), if_pos (by omega), if_pos (by omega), rd_get a i hlt, rd_get b i hlt', w64 (by omega) (by omega), show (i : Int) + 1 = ((i + 1 : Nat) : Int) by omega, List.drop_eq_getElem_cons hlt, List.drop_eq_getElem_cons hlt']
    by_cases e : a[i] = b[i]
    · rw [if_pos e, ih k (i + 1) (by omega) (by omega), e]
      congr 1; rw [decide_eq_decide]
      exact ⟨fun h => by rw [h], fun h => (List.cons.inj h).2⟩
    · rw [if_neg e]
      congr 1; symm; rw [decide_eq_false_iff_not]
      exact fun h => e (List.cons.inj h).1
theorem eq_bytes (k : Nat) (a b : List Int) (hl : a.length ≤ 1048576) (hk : a.length < k) : laws_eqByteS.f k a b = some (decide (a = b)) := by
  unfold laws_eqByteS.f
  by_cases h : a.length = b.length
  · rw [if_pos (by omega)]
    have g := eq_bytes_loop a b h hl a.length k 0 (by omega) hk
    simpa using g
  · rw [if_neg (by omega)]
    congr 1; symm
    rw [decide_eq_false_iff_not]
    intro e
    exact h (by rw [e])
theorem sz_ints (l : List Int) (n : Int) (hl : l.length ≤ 9223372036854775807) (hn : 0 ≤ n) (hn' : n ≤ 1048576) : laws_szIntS.f l n = some (if n - l.length < 0 then -1 else n - l.length) := by
  unfold laws_szIntS.f
  rw [w64 (by omega) (by omega)]
  split <;> rfl
theorem sz_bytes (l : List Int) (n : Int) (hl : l.length ≤ 9223372036854775807) (hn : 0 ≤ n) (hn' : n ≤ 1048576) : laws_szByteS.f l n = some (if n - l.length < 0 then -1 else n - l.length) := by
  unfold laws_szByteS.f
  rw [w64 (by omega) (by omega)]
  split <;> rfl
theorem inside_spec (x lo hi : Int) : impl_inside.f x lo hi = some (decide (lo ≤ x ∧ x ≤ hi)) := by
  unfold impl_inside.f
  by_cases h : x ≥ lo
  · rw [if_pos h]; congr 1; simp only [decide_eq_decide]; omega
  · rw [if_neg h, decide_eq_false (by omega)]
theorem tmod_dvd (n : Int) (m : Int) (hm : 0 < m) : Int.tmod n m = 0 ↔ n % m = 0 := by
  by_cases h : 0 ≤ n
  · rw [tmod_pos h]
  · rw [tmod_neg (by omega)]
    have := Int.emod_nonneg n (b := m) (by omega)
    constructor
    · intro h; exact Int.emod_eq_zero_of_dvd (Int.dvd_neg.mp (Int.dvd_of_emod_eq_zero (by omega)))
    · intro h
      have := Int.emod_eq_zero_of_dvd (Int.dvd_neg.mpr (Int.dvd_of_emod_eq_zero h))
      omega
/-- Code is right. -/
def codeB (l : List Int) : Bool := decide (1 ≤ l.length ∧ l.length ≤ 16384) && l.all okw
def stackB (n : Int) : Bool := decide (0 ≤ n ∧ n ≤ 65536 ∧ n % 16 = 0)
def pcB (pc : Int) (l : List Int) : Bool := decide (65536 ≤ pc ∧ pc < 65536 + 4 * l.length ∧ pc % 4 = 0)
theorem impl_code (l : List Int) : impl_codeOk.f l = some (codeB l) := by
  unfold impl_codeOk.f impl_isWord.f codeB
  rw [inside_spec]; simp only [Option.bind_some]
  by_cases h : 1 ≤ l.length ∧ l.length ≤ 16384
  · rw [decide_eq_true (by omega), decide_eq_true h, if_pos rfl]; simp
  · rw [decide_eq_false (by omega), decide_eq_false h]; simp
theorem impl_stack (n : Int) : impl_stackOk.f n = some (stackB n) := by
  unfold impl_stackOk.f stackB
  rw [inside_spec]; simp only [Option.bind_some]
  have := tmod_dvd n 16 (by decide)
  by_cases h : 0 ≤ n ∧ n ≤ 65536
  · rw [decide_eq_true h, if_pos rfl]; congr 1; rw [Bool.eq_iff_iff]; simp; omega
  · rw [decide_eq_false h, decide_eq_false (by omega)]; simp
theorem wordOk_spec (x : Int) : spec_l3WordOk.f x = some (okw x) := by
  unfold spec_l3WordOk.f okw
  by_cases h : x ≥ 0
  · rw [if_pos h]; congr 1; simp only [decide_eq_decide]; omega
  · rw [if_neg h, decide_eq_false (by omega)]
theorem codeOk_loop (l : List Int) (hl : l.length ≤ 16384) (d : Nat) : ∀ (k i : Nat), i + d = l.length → d < k → spec_l3CodeOk.l0 k l (i : Int) = some ((l.drop i).all okw) := by
  induction d with
  | zero =>
    intro k i hi hk
    obtain ⟨k, rfl⟩ : ∃ m, k = m + 1 := ⟨k - 1, by omega⟩
    simp only [spec_l3CodeOk.l0]
    rw [if_neg (by omega), List.drop_of_length_le (by omega)]; rfl
  | succ d ih =>
    intro k i hi hk
    obtain ⟨k, rfl⟩ : ∃ m, k = m + 1 := ⟨k - 1, by omega⟩
    have hlt : i < l.length := by omega
    simp only [spec_l3CodeOk.l0]
    rw [if_pos (by omega), if_pos (by omega), rd_get l i hlt, wordOk_spec]; simp only [Option.bind_some]
    rw [w64 (by omega) (by omega), show (i : Int) + 1 = ((i + 1 : Nat) : Int) by omega, List.drop_eq_getElem_cons hlt, List.all_cons, ih k (i + 1) (by omega) (by omega)]
    cases okw l[i] <;> simp
theorem spec_code (k : Nat) (l : List Int) (hl : l.length ≤ 1048576) (hk : l.length + 1 < k) : spec_l3CodeOk.f k l = some (codeB l) := by
  obtain ⟨k, rfl⟩ : ∃ m, k = m + 1 := ⟨k - 1, by omega⟩
  unfold spec_l3CodeOk.f codeB
  by_cases h1 : l.length < 1
  · rw [if_pos (by omega), decide_eq_false (by omega)]; simp [spec_l3CodeOk.j0]
  rw [if_neg (by omega)]
  by_cases h2 : l.length ≤ 16384
  · rw [decide_eq_false (by omega), decide_eq_true ⟨by omega, h2⟩]
    simp only [spec_l3CodeOk.j0, Bool.false_eq_true, if_false]
    have h := codeOk_loop l h2 l.length k 0 (by omega) (by omega)
    simpa using h
  · rw [decide_eq_true (by omega), decide_eq_false (by omega)]; simp [spec_l3CodeOk.j0]
theorem spec_stack (n : Int) : spec_l3StackOk.f n = some (stackB n) := by
  unfold spec_l3StackOk.f stackB
  have := tmod_dvd n 16 (by decide)
  by_cases h : n ≥ 0
  · rw [if_pos h]
    by_cases h2 : n ≤ 65536
    · rw [if_pos h2]; congr 1; rw [Bool.eq_iff_iff]; simp; omega
    · rw [if_neg h2, decide_eq_false (by omega)]
  · rw [if_neg h, decide_eq_false (by omega)]
theorem impl_pc (pc : Int) (l : List Int) (hl : l.length ≤ 1048576) : impl_isPc.f pc l = some (pcB pc l) := by
  unfold impl_isPc.f pcB
  have := tmod_dvd pc 4 (by decide)
  rw [w64 (n := 4 * (l.length : Int)) (by omega) (by omega), w64 (by omega) (by omega)]
  by_cases h : pc ≥ 65536
  · rw [if_pos h]
    by_cases h2 : pc < 65536 + 4 * (l.length : Int)
    · rw [if_pos h2]; congr 1; rw [Bool.eq_iff_iff]; simp; omega
    · rw [if_neg h2, decide_eq_false (by omega)]
  · rw [if_neg h, decide_eq_false (by omega)]
/-- Where the word at an address stands, or -1. -/
def idx (l : List Int) (at' : Int) : Int := if pcB at' l = true then (at' - 65536) / 4 else -1
theorem spec_index (l : List Int) (at' : Int) (hl : l.length ≤ 1048576) (h0 : -9223372036854775808 ≤ at') (h1 : at' ≤ 9223372036854775807) : spec_l3Index.f l at' = some (idx l at') := by
  unfold spec_l3Index.f idx pcB
  by_cases hw : at' < -9223372036854710272
  · have e : wrap64 (at' - 65536) ≥ 9223372036854710272 := by unfold wrap64; omega
    have e2 : wrap64 (at' - 65536) ≤ 9223372036854775807 := (w64_range _).2
    have hR : (if decide (65536 ≤ at' ∧ at' < 65536 + 4 * (l.length : Int) ∧ at' % 4 = 0) = true then (at' - 65536) / 4 else -1) = -1 := if_neg (by simp; omega)
    rw [hR, if_neg (by omega), tdiv_pos (by omega), w64 (n := wrap64 (at' - 65536) / 4) (by omega) (by omega)]
    split
    · rw [if_pos (by omega)]
    · rfl
  rw [w64 (n := at' - 65536) (by omega) (by omega)]
  by_cases h : at' - 65536 < 0
  · rw [if_pos h, if_neg (by simp; omega)]
  rw [if_neg h, tmod_pos (by omega), tdiv_pos (by omega), w64 (by omega) (by omega)]
  by_cases h4 : (at' - 65536) % 4 = 0
  · rw [if_pos h4]
    by_cases h5 : (at' - 65536) / 4 ≥ (l.length : Int)
    · rw [if_pos h5, if_neg (by simp; omega)]
    · rw [if_neg h5, if_pos (by simp; omega)]
  · rw [if_neg h4, if_neg (by simp; omega)]
/-- An image is valid. -/
def imB (code data : List Int) (entry stack : Int) : Bool := codeB code && (decide (data.length ≤ 65536) && (pcB entry code && stackB stack))
theorem impl_image (code data : List Int) (entry stack : Int) (hl : code.length ≤ 1048576) : impl_ImageOk.f code data entry stack = some (imB code data entry stack) := by
  unfold impl_ImageOk.f imB
  rw [impl_code, impl_pc _ _ hl, impl_stack]; simp only [Option.bind_some]
  have e : ((data.length : Int) ≤ 65536) ↔ data.length ≤ 65536 := by omega
  simp only [e]
  by_cases h : data.length ≤ 65536 <;> cases codeB code <;> cases pcB entry code <;> cases stackB stack <;> simp [h]
theorem spec_image (k : Nat) (code data : List Int) (entry stack : Int) (hl : code.length ≤ 1048576) (hk : code.length + 1 < k) (h0 : -9223372036854775808 ≤ entry) (h1 : entry ≤ 9223372036854775807) : spec_ImageOk.f k code data entry stack = some (imB code data entry stack) := by
  unfold spec_ImageOk.f imB
  rw [spec_code k code hl hk, spec_index code entry hl h0 h1, spec_stack]; simp only [Option.bind_some]
  have hi : decide (idx code entry ≥ 0) = pcB entry code := by
    unfold idx
    cases h : pcB entry code
    · rfl
    · rw [if_pos rfl]
      unfold pcB at h
      simp only [decide_eq_true_eq] at h
      exact decide_eq_true (by omega)
  rw [hi]
  have e : ((data.length : Int) ≤ 65536) ↔ data.length ≤ 65536 := by omega
  simp only [e]
  by_cases h : data.length ≤ 65536 <;> cases codeB code <;> cases pcB entry code <;> cases stackB stack <;> simp [h]
theorem FnExactImageOk (c d : List Int) (e s : Int) (hc : c.length ≤ maxLen) (_ : ∀ x ∈ c, (Lit.int .i64 x).wf = true) (hd : d.length ≤ maxLen) (_ : ∀ x ∈ d, (Lit.int .u8 x).wf = true) (he : (Lit.int .i64 e).wf = true) (_ : (Lit.int .i64 s).wf = true) :
    ∃ k, laws_FnExactImageOk.f k c d e s = some true := by
  unfold maxLen at hc hd
  have he := wf64 he
  refine ⟨1048580, ?_⟩
  unfold laws_FnExactImageOk.f laws_szImage.f
  rw [sz_ints c _ (by omega) (by omega) (by omega)]; simp only [Option.bind_some]
  by_cases h1 : 1048576 - (c.length : Int) < 0
  · rw [if_pos h1]; rfl
  rw [if_neg h1, if_neg h1, sz_bytes d _ (by omega) (by omega) (by omega)]; simp only [Option.bind_some]
  by_cases h2 : 1048576 - (c.length : Int) - (d.length : Int) < 0
  · rw [if_pos h2]; rfl
  rw [if_neg h2, if_neg h2]; simp only [Option.bind_some]
  rw [if_neg h2]
  unfold laws_toImage.f
  rw [to_ints _ c (by omega) (by omega), to_bytes _ d (by omega) (by omega)]; simp only [Option.bind_some]
  rw [spec_image _ c d e s (by omega) (by omega) he.1 he.2, impl_image c d e s (by omega)]; simp only [Option.bind_some]
  unfold laws_eqImage.f
  rw [eq_ints _ c c (by omega) (by omega), eq_bytes _ d d (by omega) (by omega)]; simp
end Go.Proofs.Ythndggachjdkfaa.Pure
