/- The program's Narrow answers as the reference's Narrow does, at every kind and number (64 bits each). No condition. -/
import Derived.Test.YtgbpofhabhabcaaPFnExactNarrowx1
import Derived.Test.YtgbpofhabhabcaaBase
namespace Go.Proofs.Ytgbpofhabhabcaa.Pure
open Go.RowKit Go.Proofs.Ytgbpofhabhabcaa.PFnExactNarrow Go.Proofs.YtgbpofhabhabcaaW.PrintWords Go.Proofs.YtgbpofhabhabcaaW.PrintLast Go.Proofs.YtgbpofhabhabcaaW.PrintMore Go.Proofs.Ytgbpofhabhabcaa.Base
set_option linter.unusedVariables false
set_option linter.unusedSimpArgs false
theorem spec_word (a : Int) : spec_Word.f a = some (a % 4294967296) := congrArg some (word_of a)
theorem impl_word (a : Int) : impl_Word.f a = some (a % 4294967296) := congrArg some (and_w a)
/-- The bytes of a kind. -/
def ksz (a : Int) : Int := if a = 1 then 1 else if a = 2 then 1 else if a = 3 then 2 else if a = 4 then 2 else if a = 5 then 4 else 0
theorem spec_ks (k : Nat) (a : Int) : spec_KindSize.f (k + 2) a = some (ksz a) := by
  unfold spec_KindSize.f ksz
  by_cases h1 : a = 1
  · subst h1; rfl
  by_cases h2 : a = 2
  · subst h2; rfl
  by_cases h3 : a = 3
  · subst h3; rfl
  by_cases h4 : a = 4
  · subst h4; rfl
  have e2 : (a == 2) = false := beq_eq_false_iff_ne.mpr h2
  have e4 : (a == 4) = false := beq_eq_false_iff_ne.mpr h4
  rw [if_neg h1, if_neg h1, if_neg h2, if_neg h3, if_neg h4, e2]
  simp only [spec_KindSize.j0, Bool.false_eq_true, if_false]
  rw [if_neg h3, e4]
  simp only [spec_KindSize.j1, Bool.false_eq_true, if_false]
  by_cases h5 : a = 5
  · rw [if_pos h5, if_pos h5]
  · rw [if_neg h5, if_neg h5]
theorem power_loop (n : Int) (hn : n ≤ 62) (d : Nat) : ∀ (k : Nat) (v i : Int), 0 ≤ i → n - i = d → 0 ≤ v → v * 2 ^ d ≤ 4611686018427387904 → d < k →
    spec_l1Power.l0 k n v i = some (v * 2 ^ d) := by
  induction d with
  | zero =>
    intro k v i h0 h1 hv hm hk
    obtain ⟨k, rfl⟩ : ∃ m, k = m + 1 := ⟨k - 1, by omega⟩
    simp only [spec_l1Power.l0]
    rw [if_neg (by omega)]
    simp
  | succ d ih =>
    intro k v i h0 h1 hv hm hk
    obtain ⟨k, rfl⟩ : ∃ m, k = m + 1 := ⟨k - 1, by omega⟩
    have hp : (1 : Int) ≤ 2 ^ d := by have h_ : (0 : Int) < 2 ^ d := Int.pow_pos (by decide); omega
    have e : v * 2 ^ (d + 1) = (v * 2) * 2 ^ d := by rw [Int.pow_succ]; rw [Int.mul_assoc, Int.mul_comm 2]
    rw [e] at hm
    have hb : v * 2 ≤ (v * 2) * 2 ^ d := by
      have := Int.mul_le_mul_of_nonneg_left hp (show 0 ≤ v * 2 by omega)
      omega
    simp only [spec_l1Power.l0]
    rw [if_pos (by omega), w64 (by omega) (by omega), w64 (by omega) (by omega), e]
    exact ih k (v * 2) (i + 1) (by omega) (by omega) (by omega) hm (by omega)
theorem spec_power (k : Nat) (n : Nat) (hn : n ≤ 62) (hk : n < k) : spec_l1Power.f k (n : Int) = some (2 ^ n) := by
  unfold spec_l1Power.f
  have hp : (2 : Int) ^ n ≤ 2 ^ 62 := by
    have := Nat.pow_le_pow_right (show 0 < 2 by decide) hn
    have hc : ((2 ^ n : Nat) : Int) = (2 : Int) ^ n := by simp
    omega
  rw [power_loop (n : Int) (by omega) n k 1 0 (by omega) (by omega) (by omega) (by omega) hk]
  simp
/-- What Narrow tells. -/
def nar (a b : Int) : Int × Bool :=
  if a = 1 then ((((b + 128) % 256) - 128) % 4294967296, true) else if a = 2 then (b % 256, true)
  else if a = 3 then ((((b + 32768) % 65536) - 32768) % 4294967296, true) else if a = 4 then (b % 65536, true)
  else if a = 5 then (b % 4294967296, true) else (0, false)
theorem impl_nar (a b : Int) : impl_Narrow.f a b = some (nar a b) := by
  unfold impl_Narrow.f nar
  by_cases h1 : a = 1
  · rw [if_pos h1, if_pos h1, impl_word, wrap_i8, w64 (by omega) (by omega)]; rfl
  by_cases h2 : a = 2
  · rw [if_neg h1, if_neg h1, if_pos h2, if_pos h2, and_255]
  by_cases h3 : a = 3
  · rw [if_neg h1, if_neg h1, if_neg h2, if_neg h2, if_pos h3, if_pos h3, impl_word, wrap_i16, w64 (by omega) (by omega)]; rfl
  by_cases h4 : a = 4
  · rw [if_neg h1, if_neg h1, if_neg h2, if_neg h2, if_neg h3, if_neg h3, if_pos h4, if_pos h4, and_65535]
  by_cases h5 : a = 5
  · rw [if_neg h1, if_neg h1, if_neg h2, if_neg h2, if_neg h3, if_neg h3, if_neg h4, if_neg h4, if_pos h5, if_pos h5, impl_word]; rfl
  rw [if_neg h1, if_neg h1, if_neg h2, if_neg h2, if_neg h3, if_neg h3, if_neg h4, if_neg h4, if_neg h5, if_neg h5]
theorem spec_nar (k : Nat) (a b : Int) : spec_Narrow.f (k + 40) a b = some (nar a b) := by
  unfold spec_Narrow.f
  rw [spec_ks (k + 38)]
  simp only [Option.bind_some]
  by_cases h1 : a = 1
  · subst h1
    rw [show ksz 1 = 1 from rfl, if_neg (by omega), show wrap64 (8 * 1) = ((8 : Nat) : Int) by decide +kernel, spec_power (k + 40) 8 (by omega) (by omega)]
    simp only [Option.bind_some, spec_word]
    rw [if_neg (by decide), if_pos (by trivial), tmod_pos (by omega), show (2 : Int) ^ 8 = 256 by decide, show wrap64 (Int.tdiv 256 2) = 128 by decide +kernel]
    by_cases h : b % 4294967296 % 256 ≥ 128
    · rw [if_pos h, w64 (by omega) (by omega), show nar 1 b = ((((b + 128) % 256) - 128) % 4294967296, true) from rfl]
      congr 2; omega
    · rw [if_neg h, show nar 1 b = ((((b + 128) % 256) - 128) % 4294967296, true) from rfl]
      congr 2; omega
  by_cases h2 : a = 2
  · subst h2
    rw [show ksz 2 = 1 from rfl, if_neg (by omega), show wrap64 (8 * 1) = ((8 : Nat) : Int) by decide +kernel, spec_power (k + 40) 8 (by omega) (by omega)]
    simp only [Option.bind_some, spec_word]
    rw [if_neg (by decide), if_neg (by decide), if_neg (by decide), tmod_pos (by omega), show (2 : Int) ^ 8 = 256 by decide, show nar 2 b = (b % 256, true) from rfl]
    congr 2; omega
  by_cases h3 : a = 3
  · subst h3
    rw [show ksz 3 = 2 from rfl, if_neg (by omega), show wrap64 (8 * 2) = ((16 : Nat) : Int) by decide +kernel, spec_power (k + 40) 16 (by omega) (by omega)]
    simp only [Option.bind_some, spec_word]
    rw [if_neg (by decide), if_neg (by decide), if_pos (by trivial), tmod_pos (by omega), show (2 : Int) ^ 16 = 65536 by decide, show wrap64 (Int.tdiv 65536 2) = 32768 by decide +kernel]
    by_cases h : b % 4294967296 % 65536 ≥ 32768
    · rw [if_pos h, w64 (by omega) (by omega), show nar 3 b = ((((b + 32768) % 65536) - 32768) % 4294967296, true) from rfl]
      congr 2; omega
    · rw [if_neg h, show nar 3 b = ((((b + 32768) % 65536) - 32768) % 4294967296, true) from rfl]
      congr 2; omega
  by_cases h4 : a = 4
  · subst h4
    rw [show ksz 4 = 2 from rfl, if_neg (by omega), show wrap64 (8 * 2) = ((16 : Nat) : Int) by decide +kernel, spec_power (k + 40) 16 (by omega) (by omega)]
    simp only [Option.bind_some, spec_word]
    rw [if_neg (by decide), if_neg (by decide), if_neg (by decide), tmod_pos (by omega), show (2 : Int) ^ 16 = 65536 by decide, show nar 4 b = (b % 65536, true) from rfl]
    congr 2; omega
  by_cases h5 : a = 5
  · subst h5
    rw [show ksz 5 = 4 from rfl, if_neg (by omega), show wrap64 (8 * 4) = ((32 : Nat) : Int) by decide +kernel, spec_power (k + 40) 32 (by omega) (by omega)]
    simp only [Option.bind_some, spec_word]
    rw [if_neg (by decide), if_neg (by decide), if_neg (by decide), tmod_pos (by omega), show (2 : Int) ^ 32 = 4294967296 by decide, show nar 5 b = (b % 4294967296, true) from rfl]
    congr 2; omega
  have e : ksz a = 0 := by unfold ksz; rw [if_neg h1, if_neg h2, if_neg h3, if_neg h4, if_neg h5]
  have e' : nar a b = (0, false) := by unfold nar; rw [if_neg h1, if_neg h2, if_neg h3, if_neg h4, if_neg h5]
  rw [if_pos e, e']
theorem FnExactNarrow : laws_FnExactNarrow.Pure := by
  intro a b _ _
  refine ⟨40, ?_⟩
  unfold laws_FnExactNarrow.f
  rw [spec_nar 0, impl_nar]
  simp
end Go.Proofs.Ytgbpofhabhabcaa.Pure
