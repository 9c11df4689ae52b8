/- At every byte text: the drawn kind and number are narrowed by the program as by the reference; once more narrowed they stay; the low bytes stay. No condition. -/
import Derived.Test.YtgbpofhabhabcaaPFnNarrowx2
import Derived.Test.YtgbpofhabhabcaaBase
namespace Go.Proofs.Ytgbpofhabhabcaa.Pure
open Go.RowKit Go.Proofs.Ytgbpofhabhabcaa.PFnNarrow Go.Proofs.YtgbpofhabhabcaaW.PrintWords Go.Proofs.YtgbpofhabhabcaaW.PrintLast Go.Proofs.YtgbpofhabhabcaaW.PrintMore Go.Proofs.Ytgbpofhabhabcaa.Base
set_option linter.unusedVariables false
set_option linter.unusedSimpArgs false
theorem spec_word (a : Int) : spec_Word.f a = some (a % 4294967296) := congrArg some (word_of a)
theorem impl_word (a : Int) : impl_Word.f a = some (a % 4294967296) := congrArg some (and_w a)
theorem impl_signed (a : Int) : impl_Signed.f a = some (sg a) := congrArg some (sg_of a)
/-- The bytes of a kind. -/
def ksz (a : Int) : Int := if a = 1 then 1 else if a = 2 then 1 else if a = 3 then 2 else if a = 4 then 2 else if a = 5 then 4 else 0
theorem impl_ks (a : Int) : impl_KindSize.f a = some (ksz a) := by
  unfold impl_KindSize.f ksz
  by_cases h1 : a = 1
  · subst h1; rfl
  by_cases h2 : a = 2
  · subst h2; rfl
  by_cases h3 : a = 3
  · subst h3; rfl
  by_cases h4 : a = 4
  · subst h4; rfl
  by_cases h5 : a = 5
  · subst h5; rfl
  rw [if_neg h1, if_neg h2, if_neg h3, if_neg h4, if_neg h5]
  by_cases h : a < 1
  · rw [if_pos h]
  · rw [if_neg h, if_pos (by omega)]
theorem spec_ks (k : Nat) (a : Int) : spec_KindSize.f (k + 2) a = some (ksz a) := by
  unfold spec_KindSize.f ksz
  by_cases h1 : a = 1
  · subst h1; rfl
  by_cases h2 : a = 2
  · subst h2; rfl
  by_cases h3 : a = 3
  · subst h3; rfl
  by_cases h4 : a = 4
  · subst h4; rfl
  have e2 : (a == 2) = false := beq_eq_false_iff_ne.mpr h2
  have e4 : (a == 4) = false := beq_eq_false_iff_ne.mpr h4
  rw [if_neg h1, if_neg h1, if_neg h2, if_neg h3, if_neg h4, e2]
  simp only [spec_KindSize.j0, Bool.false_eq_true, if_false]
  rw [if_neg h3, e4]
  simp only [spec_KindSize.j1, Bool.false_eq_true, if_false]
  by_cases h5 : a = 5
  · rw [if_pos h5, if_pos h5]
  · rw [if_neg h5, if_neg h5]
theorem power_loop (n : Int) (hn : n ≤ 62) (d : Nat) : ∀ (k : Nat) (v i : Int), 0 ≤ i → n - i = d → 0 ≤ v → v * 2 ^ d ≤ 4611686018427387904 → d < k →
    spec_l1Power.l0 k n v i = some (v * 2 ^ d) := by
  induction d with
  | zero =>
    intro k v i h0 h1 hv hm hk
    obtain ⟨k, rfl⟩ : ∃ m, k = m + 1 := ⟨k - 1, by omega⟩
    simp only [spec_l1Power.l0]
    rw [if_neg (by omega)]
    simp
  | succ d ih =>
    intro k v i h0 h1 hv hm hk
    obtain ⟨k, rfl⟩ : ∃ m, k = m + 1 := ⟨k - 1, by omega⟩
    have hp : (1 : Int) ≤ 2 ^ d := by have h_ : (0 : Int) < 2 ^ d := Int.pow_pos (by decide); omega
    have e : v * 2 ^ (d + 1) = (v * 2) * 2 ^ d := by rw [Int.pow_succ]; rw [Int.mul_assoc, Int.mul_comm 2]
    rw [e] at hm
    have hb : v * 2 ≤ (v * 2) * 2 ^ d := by
      have := Int.mul_le_mul_of_nonneg_left hp (show 0 ≤ v * 2 by omega)
      omega
    simp only [spec_l1Power.l0]
    rw [if_pos (by omega), w64 (by omega) (by omega), w64 (by omega) (by omega), e]
    exact ih k (v * 2) (i + 1) (by omega) (by omega) (by omega) hm (by omega)
theorem spec_power (k : Nat) (n : Nat) (hn : n ≤ 62) (hk : n < k) : spec_l1Power.f k (n : Int) = some (2 ^ n) := by
  unfold spec_l1Power.f
  have hp : (2 : Int) ^ n ≤ 2 ^ 62 := by
    have := Nat.pow_le_pow_right (show 0 < 2 by decide) hn
    have hc : ((2 ^ n : Nat) : Int) = (2 : Int) ^ n := by simp
    omega
  rw [power_loop (n : Int) (by omega) n k 1 0 (by omega) (by omega) (by omega) (by omega) hk]
  simp
/-- What Narrow tells. -/
def nar (a b : Int) : Int × Bool :=
  if a = 1 then ((((b + 128) % 256) - 128) % 4294967296, true) else if a = 2 then (b % 256, true)
  else if a = 3 then ((((b + 32768) % 65536) - 32768) % 4294967296, true) else if a = 4 then (b % 65536, true)
  else if a = 5 then (b % 4294967296, true) else (0, false)
theorem impl_nar (a b : Int) : impl_Narrow.f a b = some (nar a b) := by
  unfold impl_Narrow.f nar
  by_cases h1 : a = 1
  · rw [if_pos h1, if_pos h1, impl_word, wrap_i8, w64 (by omega) (by omega)]; rfl
  by_cases h2 : a = 2
  · rw [if_neg h1, if_neg h1, if_pos h2, if_pos h2, and_255]
  by_cases h3 : a = 3
  · rw [if_neg h1, if_neg h1, if_neg h2, if_neg h2, if_pos h3, if_pos h3, impl_word, wrap_i16, w64 (by omega) (by omega)]; rfl
  by_cases h4 : a = 4
  · rw [if_neg h1, if_neg h1, if_neg h2, if_neg h2, if_neg h3, if_neg h3, if_pos h4, if_pos h4, and_65535]
  by_cases h5 : a = 5
  · rw [if_neg h1, if_neg h1, if_neg h2, if_neg h2, if_neg h3, if_neg h3, if_neg h4, if_neg h4, if_pos h5, if_pos h5, impl_word]; rfl
  rw [if_neg h1, if_neg h1, if_neg h2, if_neg h2, if_neg h3, if_neg h3, if_neg h4, if_neg h4, if_neg h5, if_neg h5]
theorem spec_nar (k : Nat) (a b : Int) : spec_Narrow.f (k + 40) a b = some (nar a b) := by
  unfold spec_Narrow.f
  rw [spec_ks (k + 38)]
  simp only [Option.bind_some]
  by_cases h1 : a = 1
  · subst h1
    rw [show ksz 1 = 1 from rfl, if_neg (by omega), show wrap64 (8 * 1) = ((8 : Nat) : Int) by decide +kernel, spec_power (k + 40) 8 (by omega) (by omega)]
    simp only [Option.bind_some, spec_word]
    rw [if_neg (by decide), if_pos (by trivial), tmod_pos (by omega), show (2 : Int) ^ 8 = 256 by decide, show wrap64 (Int.tdiv 256 2) = 128 by decide +kernel]
    by_cases h : b % 4294967296 % 256 ≥ 128
    · rw [if_pos h, w64 (by omega) (by omega), show nar 1 b = ((((b + 128) % 256) - 128) % 4294967296, true) from rfl]
      congr 2; omega
    · rw [if_neg h, show nar 1 b = ((((b + 128) % 256) - 128) % 4294967296, true) from rfl]
      congr 2; omega
  by_cases h2 : a = 2
  · subst h2
    rw [show ksz 2 = 1 from rfl, if_neg (by omega), show wrap64 (8 * 1) = ((8 : Nat) : Int) by decide +kernel, spec_power (k + 40) 8 (by omega) (by omega)]
    simp only [Option.bind_some, spec_word]
    rw [if_neg (by decide), if_neg (by decide), if_neg (by decide), tmod_pos (by omega), show (2 : Int) ^ 8 = 256 by decide, show nar 2 b = (b % 256, true) from rfl]
    congr 2; omega
  by_cases h3 : a = 3
  · subst h3
    rw [show ksz 3 = 2 from rfl, if_neg (by omega), show wrap64 (8 * 2) = ((16 : Nat) : Int) by decide +kernel, spec_power (k + 40) 16 (by omega) (by omega)]
    simp only [Option.bind_some, spec_word]
    rw [if_neg (by decide), if_neg (by decide), if_pos (by trivial), tmod_pos (by omega), show (2 : Int) ^ 16 = 65536 by decide, show wrap64 (Int.tdiv 65536 2) = 32768 by decide +kernel]
    by_cases h : b % 4294967296 % 65536 ≥ 32768
    · rw [if_pos h, w64 (by omega) (by omega), show nar 3 b = ((((b + 32768) % 65536) - 32768) % 4294967296, true) from rfl]
      congr 2; omega
    · rw [if_neg h, show nar 3 b = ((((b + 32768) % 65536) - 32768) % 4294967296, true) from rfl]
      congr 2; omega
  by_cases h4 : a = 4
  · subst h4
    rw [show ksz 4 = 2 from rfl, if_neg (by omega), show wrap64 (8 * 2) = ((16 : Nat) : Int) by decide +kernel, spec_power (k + 40) 16 (by omega) (by omega)]
    simp only [Option.bind_some, spec_word]
    rw [if_neg (by decide), if_neg (by decide), if_neg (by decide), tmod_pos (by omega), show (2 : Int) ^ 16 = 65536 by decide, show nar 4 b = (b % 65536, true) from rfl]
    congr 2; omega
  by_cases h5 : a = 5
  · subst h5
    rw [show ksz 5 = 4 from rfl, if_neg (by omega), show wrap64 (8 * 4) = ((32 : Nat) : Int) by decide +kernel, spec_power (k + 40) 32 (by omega) (by omega)]
    simp only [Option.bind_some, spec_word]
    rw [if_neg (by decide), if_neg (by decide), if_neg (by decide), tmod_pos (by omega), show (2 : Int) ^ 32 = 4294967296 by decide, show nar 5 b = (b % 4294967296, true) from rfl]
    congr 2; omega
  have e : ksz a = 0 := by unfold ksz; rw [if_neg h1, if_neg h2, if_neg h3, if_neg h4, if_neg h5]
  have e' : nar a b = (0, false) := by unfold nar; rw [if_neg h1, if_neg h2, if_neg h3, if_neg h4, if_neg h5]
  rw [if_pos e, e']
theorem open_spec (l : List Int) (h : Bys l) : ∃ b, spec_l1Open.f l = some (b, 0) ∧ Rdr b 0 := by
  unfold spec_l1Open.f
  by_cases c : (l.length : Int) > 1500
  · rw [if_pos c, if_pos (by omega)]
    exact ⟨_, rfl, fun x hx => h x (List.mem_of_mem_take hx), by simp; omega, by omega, by omega⟩
  · rw [if_neg c]
    exact ⟨_, rfl, h, by omega, by omega, by omega⟩
theorem next_spec {l : List Int} {p : Int} (h : Rdr l p) : ∃ v p', spec_l1Rd_next.f l p = some (v, p') ∧ 0 ≤ v ∧ v ≤ 255 ∧ Rdr l p' := by
  obtain ⟨hb, hl, h0, h1⟩ := h
  unfold spec_l1Rd_next.f
  by_cases c : p < (l.length : Int)
  · rw [if_pos c, if_pos h0]
    have hv := hb _ (rd_mem l p h0 c)
    rw [w64 (by omega) (by omega), w64 (by omega) (by omega)]
    exact ⟨_, _, rfl, hv.1, hv.2, hb, hl, by omega, by omega⟩
  · rw [if_neg c]
    exact ⟨_, _, rfl, by omega, by omega, hb, hl, h0, h1⟩
theorem num_spec {l : List Int} {p : Int} (h : Rdr l p) : ∃ v p', spec_l1Num.f l p = some (v, p') ∧ (-9223372036854775808 ≤ v ∧ v ≤ 9223372036854775807) ∧ Rdr l p' := by
  unfold spec_l1Num.f
  obtain ⟨k, p1, e1, k0, k1, r1⟩ := next_spec h
  rw [e1]; simp only [Option.bind_some]
  obtain ⟨v, p2, e2, v0, v1, r2⟩ := next_spec r1
  rw [e2]; simp only [Option.bind_some]
  rw [tmod_pos k0]
  by_cases c0 : k % 4 = 0
  · rw [if_pos c0]; exact ⟨_, _, rfl, by omega, r2⟩
  rw [if_neg c0]
  by_cases c1 : k % 4 = 1
  · rw [if_pos c1]
    obtain ⟨a, p3, e3, _, _, r3⟩ := next_spec r2
    rw [e3]; simp only [Option.bind_some]
    obtain ⟨b, p4, e4, _, _, r4⟩ := next_spec r3
    rw [e4]; simp only [Option.bind_some]
    obtain ⟨c, p5, e5, _, _, r5⟩ := next_spec r4
    rw [e5]; simp only [Option.bind_some]
    exact ⟨_, _, rfl, w64_range _, r5⟩
  rw [if_neg c1]
  by_cases c2 : k % 4 = 2
  · rw [if_pos c2, tmod_pos v0, if_pos (by omega), if_pos (by simp; omega)]
    refine ⟨_, _, rfl, ?_, r2⟩
    have hm := rd_mem [0, 1, 4294967295, 2147483648, 2147483647, 4294967294, 65535, 65536, 32768, 128, 255, 2147483649] (v % 12) (by omega) (by simp; omega)
    generalize rd _ _ = z at hm ⊢
    simp at hm
    omega
  · rw [if_neg c2, tdiv_pos k0, w64 (by omega) (by omega), tmod_pos (by omega), if_pos (by omega), if_pos (by simp; omega)]
    refine ⟨_, _, rfl, ?_, r2⟩
    have hm := rd_mem [(-1), wrap64 (-v), wrap64 (4294967296 + v), (-2147483648), wrap64 ((-4294967296) * v), 1099511627776, wrap64 ((wrap64 (-v)) * 65536), wrap64 (v * 65537)] (k / 4 % 8) (by omega) (by simp; omega)
    generalize rd _ _ = z at hm ⊢
    simp only [List.mem_cons, List.not_mem_nil, or_false] at hm
    have a1 := w64_range (-v)
    have a2 := w64_range (4294967296 + v)
    have a3 := w64_range ((-4294967296) * v)
    have a4 := w64_range ((wrap64 (-v)) * 65536)
    have a5 := w64_range (v * 65537)
    rcases hm with rfl | rfl | rfl | rfl | rfl | rfl | rfl | rfl <;> first | assumption | omega
theorem draw_spec (l : List Int) (h : Bys l) : ∃ a b, spec_DrawNarrow.f l = some (a, b) := by
  unfold spec_DrawNarrow.f
  obtain ⟨b, e0, r0⟩ := open_spec l h
  rw [e0]; simp only [Option.bind_some]
  obtain ⟨v, p1, e1, _, _, r1⟩ := next_spec r0
  rw [e1]; simp only [Option.bind_some]
  obtain ⟨n, p2, e2, _, _⟩ := num_spec r1
  rw [e2]; simp only [Option.bind_some]
  exact ⟨_, _, rfl⟩
/-- Narrowed once more. -/
theorem nar_again (a b : Int) (h : (nar a b).2 = true) : (nar a (nar a b).1).1 = (nar a b).1 ∧
    (ksz a = 2 → (nar a b).1 % 65536 = b % 4294967296 % 65536) ∧ (ksz a ≠ 2 → (nar a b).1 % 256 = b % 4294967296 % 256) ∧ (¬ ksz a < 4 → (nar a b).1 = b % 4294967296) := by
  unfold nar ksz at *
  by_cases h1 : a = 1
  · simp only [h1, if_true]; omega
  by_cases h2 : a = 2
  · simp [h2]
  by_cases h3 : a = 3
  · simp [h3]; omega
  by_cases h4 : a = 4
  · simp [h4]
  by_cases h5 : a = 5
  · simp [h5]
  · simp [h1, h2, h3, h4, h5] at h
theorem nar_false (a b : Int) (h : (nar a b).2 = false) : ksz a = 0 := by
  unfold nar ksz at *
  by_cases h1 : a = 1
  · simp [h1] at h
  by_cases h2 : a = 2
  · simp [h2] at h
  by_cases h3 : a = 3
  · simp [h3] at h
  by_cases h4 : a = 4
  · simp [h4] at h
  by_cases h5 : a = 5
  · simp [h5] at h
  · simp [h1, h2, h3, h4, h5]
theorem FnNarrow : laws_FnNarrow.Pure := by
  intro l hl _ hw
  refine ⟨41, ?_⟩
  unfold laws_FnNarrow.f
  by_cases hc : (l.length : Int) > 1048576
  · rw [if_pos hc]
  rw [if_neg hc]
  obtain ⟨a, b, e⟩ := draw_spec l (bys_of hw)
  rw [e]; simp only [Option.bind_some]
  rw [spec_nar 1, impl_nar]; simp only [Option.bind_some]
  rw [if_neg (by simp), if_pos (by trivial), impl_signed]; simp only [Option.bind_some]
  rw [impl_word, spec_word]; simp only [Option.bind_some]
  have es : (sg b % 4294967296 != b % 4294967296) = false := by
    rw [bne_eq_false_iff_eq]; unfold sg; omega
  rw [es]
  simp only [laws_FnNarrow.j0, Bool.false_eq_true, if_false]
  by_cases h : (nar a b).2 = true
  · rw [if_pos h, impl_nar, impl_ks]; simp only [Option.bind_some]
    obtain ⟨g1, g2, g3, g4⟩ := nar_again a b h
    have n0 : 0 ≤ (nar a b).1 := by
      unfold nar
      repeat' split
      all_goals simp <;> omega
    by_cases h2 : ksz a = 2
    · rw [if_pos h2, if_pos g1, impl_word]; simp only [Option.bind_some]
      rw [tmod_pos n0, tmod_pos (by omega), if_pos (g2 h2), if_pos (by omega)]
    · rw [if_neg h2, if_pos g1, impl_word]; simp only [Option.bind_some]
      rw [tmod_pos n0, tmod_pos (by omega), if_pos (g3 h2)]
      by_cases h4 : ksz a < 4
      · rw [if_pos h4]
      · rw [if_neg h4, g4 h4]; simp
  · rw [if_neg h, impl_ks]; simp only [Option.bind_some]
    rw [nar_false a b (by simpa using h)]; rfl
end Go.Proofs.Ytgbpofhabhabcaa.Pure
