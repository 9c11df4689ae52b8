/- At every byte text, for the drawn numbers: the halves of the products make the product, quotient and rest make the number, and each operation answers as the reference's. No condition. -/
import Derived.Test.YtgbpofhabhabcaaPFnAlux5
import Derived.Test.YtgbpofhabhabcaaBase
namespace Go.Proofs.Ytgbpofhabhabcaa.Pure
open Go.RowKit Go.Proofs.Ytgbpofhabhabcaa.PFnAlu Go.Proofs.YtgbpofhabhabcaaW.PrintWords Go.Proofs.YtgbpofhabhabcaaW.PrintLast Go.Proofs.YtgbpofhabhabcaaW.PrintMore Go.Proofs.Ytgbpofhabhabcaa.Base
set_option linter.unusedVariables false
set_option linter.unusedSimpArgs false
theorem spec_word (a : Int) : spec_Word.f a = some (a % 4294967296) := congrArg some (word_of a)
theorem impl_word (a : Int) : impl_Word.f a = some (a % 4294967296) := congrArg some (and_w a)
theorem impl_signed (a : Int) : impl_Signed.f a = some (sg a) := congrArg some (sg_of a)
theorem spec_signed (a : Int) : spec_Signed.f a = some (sg a) := by
  unfold spec_Signed.f
  rw [spec_word]
  simp only [Option.bind_some]
  have := sg_cases a
  split
  · rw [w64 (by omega) (by omega)]; congr 1; omega
  · congr 1; omega
theorem power_loop (n : Int) (hn : n ≤ 62) (d : Nat) : ∀ (k : Nat) (v i : Int), 0 ≤ i → n - i = d → 0 ≤ v → v * 2 ^ d ≤ 4611686018427387904 → d < k →
    spec_l1Power.l0 k n v i = some (v * 2 ^ d) := by
  induction d with
  | zero =>
    intro k v i h0 h1 hv hm hk
    obtain ⟨k, rfl⟩ : ∃ m, k = m + 1 := ⟨k - 1, by omega⟩
    simp only [spec_l1Power.l0]
    rw [if_neg (by omega)]
    simp
  | succ d ih =>
    intro k v i h0 h1 hv hm hk
    obtain ⟨k, rfl⟩ : ∃ m, k = m + 1 := ⟨k - 1, by omega⟩
    have hp : (1 : Int) ≤ 2 ^ d := by have h_ : (0 : Int) < 2 ^ d := Int.pow_pos (by decide); omega
    have e : v * 2 ^ (d + 1) = (v * 2) * 2 ^ d := by rw [Int.pow_succ]; rw [Int.mul_assoc, Int.mul_comm 2]
    rw [e] at hm
    have hb : v * 2 ≤ (v * 2) * 2 ^ d := by
      have := Int.mul_le_mul_of_nonneg_left hp (show 0 ≤ v * 2 by omega)
      omega
    simp only [spec_l1Power.l0]
    rw [if_pos (by omega), w64 (by omega) (by omega), w64 (by omega) (by omega), e]
    exact ih k (v * 2) (i + 1) (by omega) (by omega) (by omega) hm (by omega)
theorem spec_power (k : Nat) (n : Nat) (hn : n ≤ 62) (hk : n < k) : spec_l1Power.f k (n : Int) = some (2 ^ n) := by
  unfold spec_l1Power.f
  have hp : (2 : Int) ^ n ≤ 2 ^ 62 := by
    have := Nat.pow_le_pow_right (show 0 < 2 by decide) hn
    have hc : ((2 ^ n : Nat) : Int) = (2 : Int) ^ n := by simp
    omega
  rw [power_loop (n : Int) (by omega) n k 1 0 (by omega) (by omega) (by omega) (by omega) hk]
  simp
/-- What Alu tells. -/
def alu (op a b : Int) : Int × Bool :=
  if op = 1 then (((a % 4294967296) + (b % 4294967296)) % 4294967296, true) else
  if op = 2 then (((a % 4294967296) - (b % 4294967296)) % 4294967296, true) else
  if op = 3 then (((a % 4294967296) * 2 ^ ((b % 4294967296) % 32).toNat) % 4294967296, true) else
  if op = 4 then (if sg a < sg b then 1 else 0, true) else
  if op = 5 then (if (a % 4294967296) < (b % 4294967296) then 1 else 0, true) else
  if op = 6 then ((((a % 4294967296).toNat ^^^ (b % 4294967296).toNat : Nat) : Int), true) else
  if op = 7 then ((a % 4294967296) / 2 ^ ((b % 4294967296) % 32).toNat, true) else
  if op = 8 then ((sg a / 2 ^ ((b % 4294967296) % 32).toNat) % 4294967296, true) else
  if op = 9 then ((((a % 4294967296).toNat ||| (b % 4294967296).toNat : Nat) : Int), true) else
  if op = 10 then ((((a % 4294967296).toNat &&& (b % 4294967296).toNat : Nat) : Int), true) else
  if op = 11 then (((a % 4294967296) * (b % 4294967296)) % 4294967296, true) else
  if op = 12 then ((sg a * sg b / 4294967296) % 4294967296, true) else
  if op = 13 then ((sg a * (b % 4294967296) / 4294967296) % 4294967296, true) else
  if op = 14 then ((a % 4294967296) * (b % 4294967296) / 4294967296, true) else
  if op = 15 then (if (b % 4294967296) = 0 then 4294967295 else (Int.tdiv (sg a) (sg b)) % 4294967296, true) else
  if op = 16 then (if (b % 4294967296) = 0 then 4294967295 else (a % 4294967296) / (b % 4294967296), true) else
  if op = 17 then (if (b % 4294967296) = 0 then (a % 4294967296) else (Int.tmod (sg a) (sg b)) % 4294967296, true) else
  if op = 18 then (if (b % 4294967296) = 0 then (a % 4294967296) else (a % 4294967296) % (b % 4294967296), true) else
  (0, false)
theorem truth_spec (c : Bool) : impl_truth.f c = some (if c = true then 1 else 0) := by unfold impl_truth.f; split <;> rfl
theorem mul64_spec (x y : Int) (hx : 0 ≤ x) (hx' : x < 4294967296) (hy : 0 ≤ y) (hy' : y < 4294967296) : ∃ h, bits_Mul64.f (IntKind.u64.wrap x) (IntKind.u64.wrap y) = some (h, x * y) := by
  have h1 := mul_nn hx (show x ≤ 4294967295 by omega) hy (show y ≤ 4294967295 by omega)
  unfold bits_Mul64.f
  refine ⟨_, congrArg some (Prod.ext rfl ?_)⟩
  show IntKind.u64.wrap (IntKind.u64.wrap x * IntKind.u64.wrap y) = x * y
  rw [wrap_u64 x, wrap_u64 y, Int.emod_eq_of_lt hx (by omega), Int.emod_eq_of_lt hy (by omega), wrap_u64, Int.emod_eq_of_lt h1.1 (by omega)]
theorem impl_alu_1 (a b : Int) : impl_Alu.f 1 a b = some (((a % 4294967296) + (b % 4294967296)) % 4294967296, true) := by
  unfold impl_Alu.f; simp only [impl_word, impl_signed, truth_spec, Option.bind_some, Int.reduceEq, if_true, if_false, and_31]
  rw [w64_word]
theorem impl_alu_2 (a b : Int) : impl_Alu.f 2 a b = some (((a % 4294967296) - (b % 4294967296)) % 4294967296, true) := by
  unfold impl_Alu.f; simp only [impl_word, impl_signed, truth_spec, Option.bind_some, Int.reduceEq, if_true, if_false, and_31]
  rw [w64_word]
theorem impl_alu_3 (a b : Int) : impl_Alu.f 3 a b = some (((a % 4294967296) * 2 ^ ((b % 4294967296) % 32).toNat) % 4294967296, true) := by
  unfold impl_Alu.f; simp only [impl_word, impl_signed, truth_spec, Option.bind_some, Int.reduceEq, if_true, if_false, and_31]
  rw [if_pos (by omega), shl_of _ _ (by omega) (by omega), w64_word]
theorem impl_alu_4 (a b : Int) : impl_Alu.f 4 a b = some (if sg a < sg b then 1 else 0, true) := by
  unfold impl_Alu.f; simp only [impl_word, impl_signed, truth_spec, Option.bind_some, Int.reduceEq, if_true, if_false, and_31]
  split <;> rename_i h_ <;> simp at h_ <;> simp [h_]
theorem impl_alu_5 (a b : Int) : impl_Alu.f 5 a b = some (if (a % 4294967296) < (b % 4294967296) then 1 else 0, true) := by
  unfold impl_Alu.f; simp only [impl_word, impl_signed, truth_spec, Option.bind_some, Int.reduceEq, if_true, if_false, and_31]
  split <;> rename_i h_ <;> simp at h_ <;> simp [h_]
theorem impl_alu_6 (a b : Int) : impl_Alu.f 6 a b = some ((((a % 4294967296).toNat ^^^ (b % 4294967296).toNat : Nat) : Int), true) := by
  unfold impl_Alu.f; simp only [impl_word, impl_signed, truth_spec, Option.bind_some, Int.reduceEq, if_true, if_false, and_31]
  rw [xor_w a b, Int.emod_eq_of_lt (by omega) (by have := xor_lt a b; omega)]
theorem impl_alu_7 (a b : Int) : impl_Alu.f 7 a b = some ((a % 4294967296) / 2 ^ ((b % 4294967296) % 32).toNat, true) := by
  unfold impl_Alu.f; simp only [impl_word, impl_signed, truth_spec, Option.bind_some, Int.reduceEq, if_true, if_false, and_31]
  rw [if_pos (by omega), shr_of _ _ (by omega) (by omega)]
  have h_ := ediv_le (a % 4294967296) (2 ^ (b % 4294967296 % 32).toNat) (by omega) (pow_nn _)
  rw [Int.emod_eq_of_lt (by omega) (by omega)]
theorem impl_alu_8 (a b : Int) : impl_Alu.f 8 a b = some ((sg a / 2 ^ ((b % 4294967296) % 32).toNat) % 4294967296, true) := by
  unfold impl_Alu.f; simp only [impl_word, impl_signed, truth_spec, Option.bind_some, Int.reduceEq, if_true, if_false, and_31]
  rw [if_pos (by omega), shr_of _ _ (by omega) (by omega)]
theorem impl_alu_9 (a b : Int) : impl_Alu.f 9 a b = some ((((a % 4294967296).toNat ||| (b % 4294967296).toNat : Nat) : Int), true) := by
  unfold impl_Alu.f; simp only [impl_word, impl_signed, truth_spec, Option.bind_some, Int.reduceEq, if_true, if_false, and_31]
  rw [or_w a b, Int.emod_eq_of_lt (by omega) (by have := or_lt a b; omega)]
theorem impl_alu_10 (a b : Int) : impl_Alu.f 10 a b = some ((((a % 4294967296).toNat &&& (b % 4294967296).toNat : Nat) : Int), true) := by
  unfold impl_Alu.f; simp only [impl_word, impl_signed, truth_spec, Option.bind_some, Int.reduceEq, if_true, if_false, and_31]
  rw [and_ww a b, Int.emod_eq_of_lt (by omega) (by have := and_lt a b; omega)]
theorem impl_alu_11 (a b : Int) : impl_Alu.f 11 a b = some (((a % 4294967296) * (b % 4294967296)) % 4294967296, true) := by
  unfold impl_Alu.f; simp only [impl_word, impl_signed, truth_spec, Option.bind_some, Int.reduceEq, if_true, if_false, and_31]
  rw [w64_word, sg_mul]
theorem impl_alu_12 (a b : Int) : impl_Alu.f 12 a b = some ((sg a * sg b / 4294967296) % 4294967296, true) := by
  unfold impl_Alu.f; simp only [impl_word, impl_signed, truth_spec, Option.bind_some, Int.reduceEq, if_true, if_false, and_31]
  have h_ := mul_range (x := sg a) (y := sg b) (A := 2147483648) (B := 2147483648) (by omega) (by omega) (by have := sg_range a; omega) (by have := sg_range a; omega) (by have := sg_range b; omega) (by have := sg_range b; omega)
  rw [w64 (by omega) (by omega)]
theorem impl_alu_13 (a b : Int) : impl_Alu.f 13 a b = some ((sg a * (b % 4294967296) / 4294967296) % 4294967296, true) := by
  unfold impl_Alu.f; simp only [impl_word, impl_signed, truth_spec, Option.bind_some, Int.reduceEq, if_true, if_false, and_31]
  have h_ := mul_range (x := sg a) (y := b % 4294967296) (A := 2147483648) (B := 4294967295) (by omega) (by omega) (by have := sg_range a; omega) (by have := sg_range a; omega) (by omega) (by omega)
  rw [w64 (by omega) (by omega)]
theorem impl_alu_14 (a b : Int) : impl_Alu.f 14 a b = some ((a % 4294967296) * (b % 4294967296) / 4294967296, true) := by
  unfold impl_Alu.f; simp only [impl_word, impl_signed, truth_spec, Option.bind_some, Int.reduceEq, if_true, if_false, and_31]
  obtain ⟨h, e⟩ := mul64_spec (a % 4294967296) (b % 4294967296) (by omega) (by omega) (by omega) (by omega)
  rw [e]; simp only [Option.bind_some]
  have h_ := mul_nn (x := a % 4294967296) (y := b % 4294967296) (A := 4294967295) (B := 4294967295) (by omega) (by omega) (by omega) (by omega)
  rw [w64 (by omega) (by omega), Int.emod_eq_of_lt (by omega) (by omega)]
theorem impl_alu_15 (a b : Int) : impl_Alu.f 15 a b = some (if (b % 4294967296) = 0 then 4294967295 else (Int.tdiv (sg a) (sg b)) % 4294967296, true) := by
  unfold impl_Alu.f; simp only [impl_word, impl_signed, truth_spec, Option.bind_some, Int.reduceEq, if_true, if_false, and_31]
  have hz := sg_zero b
  by_cases h0 : b % 4294967296 = 0
  · rw [if_pos h0, if_pos (hz.mpr h0)]
    rfl
  · rw [if_neg h0, if_neg (fun h => h0 (hz.mp h))]
    rw [w64_word]
theorem impl_alu_16 (a b : Int) : impl_Alu.f 16 a b = some (if (b % 4294967296) = 0 then 4294967295 else (a % 4294967296) / (b % 4294967296), true) := by
  unfold impl_Alu.f; simp only [impl_word, impl_signed, truth_spec, Option.bind_some, Int.reduceEq, if_true, if_false, and_31]
  by_cases h0 : b % 4294967296 = 0
  · rw [if_pos h0, if_pos h0]
    rfl
  · rw [if_neg h0, if_neg h0]
    rw [tdiv_pos (by omega)]
    have h_ := ediv_le (a % 4294967296) (b % 4294967296) (by omega) (by omega)
    rw [w64 (by omega) (by omega), Int.emod_eq_of_lt (by omega) (by omega)]
theorem impl_alu_17 (a b : Int) : impl_Alu.f 17 a b = some (if (b % 4294967296) = 0 then (a % 4294967296) else (Int.tmod (sg a) (sg b)) % 4294967296, true) := by
  unfold impl_Alu.f; simp only [impl_word, impl_signed, truth_spec, Option.bind_some, Int.reduceEq, if_true, if_false, and_31]
  have hz := sg_zero b
  by_cases h0 : b % 4294967296 = 0
  · rw [if_pos h0, if_pos (hz.mpr h0)]
    rw [sg_back]
  · rw [if_neg h0, if_neg (fun h => h0 (hz.mp h))]
theorem impl_alu_18 (a b : Int) : impl_Alu.f 18 a b = some (if (b % 4294967296) = 0 then (a % 4294967296) else (a % 4294967296) % (b % 4294967296), true) := by
  unfold impl_Alu.f; simp only [impl_word, impl_signed, truth_spec, Option.bind_some, Int.reduceEq, if_true, if_false, and_31]
  by_cases h0 : b % 4294967296 = 0
  · rw [if_pos h0, if_pos h0]
    rw [Int.emod_emod_of_dvd _ (Int.dvd_refl _)]
  · rw [if_neg h0, if_neg h0]
    rw [tmod_pos (by omega)]
    have h1_ := Int.emod_nonneg (a % 4294967296) h0
    have h2_ := Int.emod_lt_of_pos (a % 4294967296) (show 0 < b % 4294967296 by omega)
    rw [Int.emod_eq_of_lt (b := 4294967296) (by omega) (by omega)]
theorem impl_alu (op a b : Int) : impl_Alu.f op a b = some (alu op a b) := by
  by_cases h1 : op = 1
  · subst h1; rw [impl_alu_1]; rfl
  by_cases h2 : op = 2
  · subst h2; rw [impl_alu_2]; rfl
  by_cases h3 : op = 3
  · subst h3; rw [impl_alu_3]; rfl
  by_cases h4 : op = 4
  · subst h4; rw [impl_alu_4]; rfl
  by_cases h5 : op = 5
  · subst h5; rw [impl_alu_5]; rfl
  by_cases h6 : op = 6
  · subst h6; rw [impl_alu_6]; rfl
  by_cases h7 : op = 7
  · subst h7; rw [impl_alu_7]; rfl
  by_cases h8 : op = 8
  · subst h8; rw [impl_alu_8]; rfl
  by_cases h9 : op = 9
  · subst h9; rw [impl_alu_9]; rfl
  by_cases h10 : op = 10
  · subst h10; rw [impl_alu_10]; rfl
  by_cases h11 : op = 11
  · subst h11; rw [impl_alu_11]; rfl
  by_cases h12 : op = 12
  · subst h12; rw [impl_alu_12]; rfl
  by_cases h13 : op = 13
  · subst h13; rw [impl_alu_13]; rfl
  by_cases h14 : op = 14
  · subst h14; rw [impl_alu_14]; rfl
  by_cases h15 : op = 15
  · subst h15; rw [impl_alu_15]; rfl
  by_cases h16 : op = 16
  · subst h16; rw [impl_alu_16]; rfl
  by_cases h17 : op = 17
  · subst h17; rw [impl_alu_17]; rfl
  by_cases h18 : op = 18
  · subst h18; rw [impl_alu_18]; rfl
  unfold impl_Alu.f alu
  simp only [impl_word, impl_signed, Option.bind_some]
  rw [if_neg h1, if_neg h2, if_neg h3, if_neg h4, if_neg h5, if_neg h6, if_neg h7, if_neg h8, if_neg h9, if_neg h10, if_neg h11, if_neg h12, if_neg h13, if_neg h14, if_neg h15, if_neg h16, if_neg h17, if_neg h18, if_neg h1, if_neg h2, if_neg h3, if_neg h4, if_neg h5, if_neg h6, if_neg h7, if_neg h8, if_neg h9, if_neg h10, if_neg h11, if_neg h12, if_neg h13, if_neg h14, if_neg h15, if_neg h16, if_neg h17, if_neg h18]
theorem floor_spec (a d : Int) (hd : 0 < d) (h0 : -4611686018427387904 * 2 < a) (h1 : a < 4611686018427387904 * 2) : spec_l1Floor.f a d = some (a / d) := by
  unfold spec_l1Floor.f
  rw [if_neg (by omega)]
  by_cases h : 0 ≤ a
  · have h2 := Int.emod_nonneg a (b := d) (by omega)
    have h3 := ediv_le a d h (by omega)
    rw [tmod_pos h, if_neg (by omega), tdiv_pos h, w64 (by omega) (by omega)]
  · have h3 := ediv_le (-a) d (by omega) (by omega)
    have e := Int.mul_ediv_add_emod a d
    have e' := Int.mul_ediv_add_emod (-a) d
    have g0 := Int.emod_nonneg a (b := d) (by omega)
    have g1 := Int.emod_lt_of_pos a hd
    have g0' := Int.emod_nonneg (-a) (b := d) (by omega)
    have g1' := Int.emod_lt_of_pos (-a) hd
    rw [tmod_neg (a := a) (by omega), tdiv_neg (a := a) (by omega)]
    have key : d * (a / d + (-a) / d) + (a % d + (-a) % d) = 0 := by grind
    by_cases hm : (-a) % d = 0
    · rw [if_neg (by omega), w64 (by omega) (by omega)]
      have hz : a / d + (-a) / d = 0 := by
        rcases Int.lt_trichotomy (a / d + (-a) / d) 0 with hlt | he | hgt
        · have := Int.mul_le_mul_of_nonneg_left (show a / d + (-a) / d ≤ -1 by omega) (show 0 ≤ d by omega)
          omega
        · exact he
        · have := Int.mul_le_mul_of_nonneg_left (show 1 ≤ a / d + (-a) / d by omega) (show 0 ≤ d by omega)
          omega
      congr 1; omega
    · rw [if_pos (by omega), w64 (n := -(-a / d)) (by omega) (by omega), w64 (by omega) (by omega)]
      have hz : a / d + (-a) / d = -1 := by
        rcases Int.lt_trichotomy (a / d + (-a) / d) (-1) with hlt | he | hgt
        · have := Int.mul_le_mul_of_nonneg_left (show a / d + (-a) / d ≤ -2 by omega) (show 0 ≤ d by omega)
          omega
        · exact he
        · have := Int.mul_le_mul_of_nonneg_left (show 0 ≤ a / d + (-a) / d by omega) (show 0 ≤ d by omega)
          omega
      congr 1; omega
theorem high_spec (x y : Int) (x0 : -4294967296 ≤ x) (x1 : x ≤ 4294967296) (y0 : -2147483648 ≤ y) (y1 : y ≤ 4294967295) (hxy : 0 ≤ x ∨ y ≤ 2147483647 ∨ -2147483648 ≤ x) : spec_l1High.f x y = some (x * y / 4294967296) := by
  unfold spec_l1High.f
  rw [and_65535]
  have b1 := mul_range (x := x) (y := y % 65536) (A := 4294967296) (B := 65536) (by omega) (by omega) (by omega) (by omega) (by omega) (by omega)
  have b2 := mul_range (x := x) (y := y / 65536) (A := 4294967296) (B := 65536) (by omega) (by omega) (by omega) (by omega) (by omega) (by omega)
  rw [w64 (n := y - y % 65536) (by omega) (by omega), floor_spec _ _ (by omega) (by omega) (by omega)]; simp only [Option.bind_some]
  rw [show (y - y % 65536) / 65536 = y / 65536 by omega]
  rw [w64 (n := x * (y % 65536)) (by omega) (by omega), floor_spec _ _ (by omega) (by omega) (by omega)]; simp only [Option.bind_some]
  rw [w64 (n := x * (y / 65536)) (by omega) (by omega), w64 (by omega) (by omega), floor_spec _ _ (by omega) (by omega) (by omega)]; simp only [Option.bind_some]
  have e : x * y = 65536 * (x * (y / 65536)) + x * (y % 65536) := by
    have h := Int.mul_ediv_add_emod y 65536
    calc x * y = x * (65536 * (y / 65536) + y % 65536) := by rw [h]
      _ = _ := by grind
  rw [e]
  congr 1
  omega
theorem divide_spec (x y : Int) (hy : y ≠ 0) (x0 : -4294967296 ≤ x) (x1 : x ≤ 4294967296) : spec_l1Divide.f x y = some (Int.tdiv x y, Int.tmod x y) := by
  unfold spec_l1Divide.f
  have h := Int.natAbs_tdiv_le_natAbs x y
  have e := Int.mul_tdiv_add_tmod x y
  have hm := Int.natAbs_tmod x y
  have hm' := Nat.mod_le x.natAbs y.natAbs
  rw [if_neg hy, w64 (n := Int.tdiv x y) (by omega) (by omega), Int.mul_comm (Int.tdiv x y) y, w64 (n := y * Int.tdiv x y) (by omega) (by omega), w64 (by omega) (by omega)]
  congr 2; omega
theorem pow_split (n : Nat) (hn : n ≤ 32) : (2 : Int) ^ (32 - n) * 2 ^ n = 4294967296 := by
  rw [← Int.pow_add, show 32 - n + n = 32 by omega]; decide
theorem shift_spec_3 (k : Nat) (x : Int) (n : Nat) (hx : 0 ≤ x) (hx' : x < 4294967296) (hn : n < 32) : spec_l1Shift.f (k + 40) 3 x (n : Int) = some (x * 2 ^ n % 4294967296) := by
  unfold spec_l1Shift.f
  rw [if_pos rfl, w64 (by omega) (by omega), show (32 : Int) - (n : Int) = ((32 - n : Nat) : Int) by omega, spec_power (k + 40) (32 - n) (by omega) (by omega)]; simp only [Option.bind_some]
  have hp := pow_split n (by omega)
  have h1 : (0 : Int) < 2 ^ (32 - n) := Int.pow_pos (by decide)
  have h2 : (0 : Int) < 2 ^ n := Int.pow_pos (by decide)
  rw [if_neg (by omega), spec_power (k + 40) n (by omega) (by omega), tmod_pos hx]; simp only [Option.bind_some]
  have e := Int.mul_emod_mul_of_pos x (2 ^ (32 - n)) h2
  rw [Int.mul_comm (2 ^ n) (2 ^ (32 - n)), hp, Int.mul_comm (2 ^ n) x, Int.mul_comm (2 ^ n)] at e
  rw [← e, w64 (by omega) (by omega)]
theorem shift_spec_7 (k : Nat) (x : Int) (n : Nat) (hx : 0 ≤ x) (hx' : x < 4294967296) (hn : n < 32) : spec_l1Shift.f (k + 40) 7 x (n : Int) = some (x / 2 ^ n) := by
  unfold spec_l1Shift.f
  have h2 : (0 : Int) < 2 ^ n := Int.pow_pos (by decide)
  rw [if_neg (by decide), if_pos rfl, spec_power (k + 40) n (by omega) (by omega)]; simp only [Option.bind_some]
  have h3 := ediv_le x (2 ^ n) hx (by omega)
  rw [if_neg (by omega), tdiv_pos hx, w64 (by omega) (by omega)]
theorem shift_spec_8 (k : Nat) (x : Int) (n : Nat) (hn : n < 32) : spec_l1Shift.f (k + 40) 8 x (n : Int) = some (sg x / 2 ^ n % 4294967296) := by
  unfold spec_l1Shift.f
  have h2 : (0 : Int) < 2 ^ n := Int.pow_pos (by decide)
  have h3 := sg_range x
  rw [if_neg (by decide), if_neg (by decide), spec_signed]; simp only [Option.bind_some]
  rw [spec_power (k + 40) n (by omega) (by omega)]; simp only [Option.bind_some]
  rw [floor_spec _ _ h2 (by omega) (by omega)]; simp only [Option.bind_some, spec_word]
/-- One bit of two numbers, and the others. -/
theorem bit_step (f : Nat → Nat → Nat) (hd : ∀ x y, f x y / 2 = f (x / 2) (y / 2)) (x y : Nat) : f x y = f x y % 2 + 2 * f (x / 2) (y / 2) := by
  have := hd x y
  omega
theorem bits_loop (how : Int) (f : Nat → Nat → Nat) (hz : f 0 0 = 0) (hd : ∀ x y, f x y / 2 = f (x / 2) (y / 2)) (x y : Nat) (hx : x < 2 ^ 32) (hy : y < 2 ^ 32)
    (hs : ∀ (k : Nat) (v p i : Int), i < 32 → p ≠ 0 → (Int.tmod (wrap64 (Int.tdiv x p)) 2 = 0 ∨ Int.tmod (wrap64 (Int.tdiv x p)) 2 = 1) → (Int.tmod (wrap64 (Int.tdiv y p)) 2 = 0 ∨ Int.tmod (wrap64 (Int.tdiv y p)) 2 = 1) → spec_l1Bits.l0 (k + 1) how x y v p i = spec_l1Bits.l0 k how x y
      (if f (Int.tmod (wrap64 (Int.tdiv x p)) 2).toNat (Int.tmod (wrap64 (Int.tdiv y p)) 2).toNat % 2 = 1 then wrap64 (v + p) else v) (wrap64 (p * 2)) (wrap64 (i + 1)))
    (hm : ∀ x y, f x y % 2 = f (x % 2) (y % 2) % 2) (d : Nat) :
    ∀ (k : Nat) (v : Int) (i : Nat), i + d = 32 → 0 ≤ v → v < 2 ^ i → d < k →
    spec_l1Bits.l0 k how x y v (2 ^ i) (i : Int) = some (v + 2 ^ i * (f (x / 2 ^ i) (y / 2 ^ i) : Nat)) := by
  induction d with
  | zero =>
    intro k v i hi _ _ hk
    obtain ⟨k, rfl⟩ : ∃ m, k = m + 1 := ⟨k - 1, by omega⟩
    have : i = 32 := by omega
    subst this
    simp only [spec_l1Bits.l0]
    rw [if_neg (by omega), Nat.div_eq_of_lt hx, Nat.div_eq_of_lt hy, hz]
    simp
  | succ d ih =>
    intro k v i hi hv hv' hk
    obtain ⟨k, rfl⟩ : ∃ m, k = m + 1 := ⟨k - 1, by omega⟩
    have hp : (0 : Int) < 2 ^ i := Int.pow_pos (by decide)
    have hp2 : (2 : Int) ^ i ≤ 2 ^ 31 := by
      have := Nat.pow_le_pow_right (show 0 < 2 by decide) (show i ≤ 31 by omega)
      have hc : ((2 ^ i : Nat) : Int) = (2 : Int) ^ i := by simp
      omega
    have hc : ((2 ^ i : Nat) : Int) = (2 : Int) ^ i := by simp
    have ex : Int.tmod (wrap64 (Int.tdiv (x : Int) (2 ^ i))) 2 = ((x / 2 ^ i % 2 : Nat) : Int) := by
      have h := Nat.div_le_self x (2 ^ i)
      have h0 := Int.natCast_nonneg (x / 2 ^ i)
      rw [tdiv_pos (by omega), ← hc, ← Int.natCast_ediv, w64 (by omega) (by omega), tmod_pos (by omega)]; omega
    have ey : Int.tmod (wrap64 (Int.tdiv (y : Int) (2 ^ i))) 2 = ((y / 2 ^ i % 2 : Nat) : Int) := by
      have h := Nat.div_le_self y (2 ^ i)
      have h0 := Int.natCast_nonneg (y / 2 ^ i)
      rw [tdiv_pos (by omega), ← hc, ← Int.natCast_ediv, w64 (by omega) (by omega), tmod_pos (by omega)]; omega
    rw [hs k v (2 ^ i) i (by omega) (by omega) (by rw [ex]; omega) (by rw [ey]; omega)]
    rw [ex, ey, Int.toNat_natCast, Int.toNat_natCast, ← hm, w64 (n := (2 : Int) ^ i * 2) (by omega) (by omega), w64 (n := (i : Int) + 1) (by omega) (by omega)]
    have e2 : (2 : Int) ^ i * 2 = 2 ^ (i + 1) := by rw [Int.pow_succ]
    have st := bit_step f hd (x / 2 ^ i) (y / 2 ^ i)
    rw [Nat.div_div_eq_div_mul, Nat.div_div_eq_div_mul, ← Nat.pow_succ] at st
    rw [e2, show (i : Int) + 1 = ((i + 1 : Nat) : Int) by omega]
    generalize hF : f (x / 2 ^ (i + 1)) (y / 2 ^ (i + 1)) = F at st
    have e3 : (2 : Int) ^ (i + 1) * (F : Int) = 2 ^ i * (2 * (F : Int)) := by rw [← e2, Int.mul_assoc]
    by_cases hb : f (x / 2 ^ i) (y / 2 ^ i) % 2 = 1
    · rw [if_pos hb, w64 (by omega) (by omega), ih k _ (i + 1) (by omega) (by omega) (by omega) (by omega), hF, e3, st, hb]
      congr 1
      rw [show ((1 + 2 * F : Nat) : Int) = 1 + 2 * (F : Int) by omega, Int.mul_add]
      omega
    · rw [if_neg hb, ih k _ (i + 1) (by omega) (by omega) (by omega) (by omega), hF, e3, st, show f (x / 2 ^ i) (y / 2 ^ i) % 2 = 0 by omega]
      congr 1
      rw [show ((0 + 2 * F : Nat) : Int) = 2 * (F : Int) by omega]
theorem bits_f (how : Int) (f : Nat → Nat → Nat) (hz : f 0 0 = 0) (hd : ∀ x y, f x y / 2 = f (x / 2) (y / 2)) (a b : Int)
    (hs : ∀ (k : Nat) (x y v p i : Int), i < 32 → p ≠ 0 → (Int.tmod (wrap64 (Int.tdiv x p)) 2 = 0 ∨ Int.tmod (wrap64 (Int.tdiv x p)) 2 = 1) → (Int.tmod (wrap64 (Int.tdiv y p)) 2 = 0 ∨ Int.tmod (wrap64 (Int.tdiv y p)) 2 = 1) → spec_l1Bits.l0 (k + 1) how x y v p i = spec_l1Bits.l0 k how x y
      (if f (Int.tmod (wrap64 (Int.tdiv x p)) 2).toNat (Int.tmod (wrap64 (Int.tdiv y p)) 2).toNat % 2 = 1 then wrap64 (v + p) else v) (wrap64 (p * 2)) (wrap64 (i + 1)))
    (hm : ∀ x y, f x y % 2 = f (x % 2) (y % 2) % 2) (k : Nat) :
    spec_l1Bits.f (k + 40) how (a % 4294967296) (b % 4294967296) = some ((f (a % 4294967296).toNat (b % 4294967296).toNat : Nat) : Int) := by
  have ha := word_nat a
  have hb := word_nat b
  have h := bits_loop how f hz hd (a % 4294967296).toNat (b % 4294967296).toNat ha.2 hb.2 (fun k v p i => hs k _ _ v p i) hm 32 (k + 40) 0 0 (by omega) (by omega) (by omega) (by omega)
  rw [ha.1, hb.1] at h
  unfold spec_l1Bits.f
  simp at h
  exact h
theorem spec_and (k : Nat) (a b : Int) : spec_l1Bits.f (k + 40) 1 (a % 4294967296) (b % 4294967296) = some (((a % 4294967296).toNat &&& (b % 4294967296).toNat : Nat) : Int) := by
  refine bits_f 1 (· &&& ·) rfl (fun _ _ => Nat.and_div_two) a b ?_ (fun x y => by have := @Nat.and_mod_two_pow x y 1; simp only [Nat.pow_one] at this; omega) k
  intro k x y v p i hi hp hx hy
  simp only [spec_l1Bits.l0]
  rw [if_pos hi, if_neg hp, if_pos trivial]
  rcases hx with h | h <;> rcases hy with g | g <;> rw [h, g] <;> simp [show wrap64 0 = 0 from w64 (by decide) (by decide), show wrap64 1 = 1 from w64 (by decide) (by decide), show wrap64 2 = 2 from w64 (by decide) (by decide)]
theorem spec_or (k : Nat) (a b : Int) : spec_l1Bits.f (k + 40) 2 (a % 4294967296) (b % 4294967296) = some (((a % 4294967296).toNat ||| (b % 4294967296).toNat : Nat) : Int) := by
  refine bits_f 2 (· ||| ·) rfl (fun _ _ => Nat.or_div_two) a b ?_ (fun x y => by have := @Nat.or_mod_two_pow x y 1; simp only [Nat.pow_one] at this; omega) k
  intro k x y v p i hi hp hx hy
  simp only [spec_l1Bits.l0]
  rw [if_pos hi, if_neg hp, if_neg (show ¬ (2 : Int) = 1 by decide), if_pos trivial]
  rcases hx with h | h <;> rcases hy with g | g <;> rw [h, g] <;> simp [show wrap64 0 = 0 from w64 (by decide) (by decide), show wrap64 1 = 1 from w64 (by decide) (by decide), show wrap64 2 = 2 from w64 (by decide) (by decide)]
theorem spec_xor (k : Nat) (a b : Int) : spec_l1Bits.f (k + 40) 3 (a % 4294967296) (b % 4294967296) = some (((a % 4294967296).toNat ^^^ (b % 4294967296).toNat : Nat) : Int) := by
  refine bits_f 3 (· ^^^ ·) rfl (fun _ _ => Nat.xor_div_two) a b ?_ (fun x y => by have := @Nat.xor_mod_two_pow x y 1; simp only [Nat.pow_one] at this; omega) k
  intro k x y v p i hi hp hx hy
  simp only [spec_l1Bits.l0]
  rw [if_pos hi, if_neg hp, if_neg (show ¬ (3 : Int) = 1 by decide), if_neg (show ¬ (3 : Int) = 2 by decide), if_pos trivial]
  rcases hx with h | h <;> rcases hy with g | g <;> rw [h, g] <;> simp [show wrap64 0 = 0 from w64 (by decide) (by decide), show wrap64 1 = 1 from w64 (by decide) (by decide), show wrap64 2 = 2 from w64 (by decide) (by decide)]

theorem quot_spec (k : Nat) (op a b : Int) (ho : op = 15 ∨ op = 16 ∨ op = 17 ∨ op = 18) : spec_l1Quotients.f (k + 5) op (a % 4294967296) (b % 4294967296) = some (alu op a b).1 := by
  unfold spec_l1Quotients.f
  have hz := sg_zero b
  have ha := sg_range a
  by_cases h0 : b % 4294967296 = 0
  · rw [if_pos h0]
    rcases ho with rfl | rfl | rfl | rfl <;> simp [alu, h0]
  · rw [if_neg h0, divide_spec _ _ h0 (by omega) (by omega)]; simp only [Option.bind_some]
    have hs0 : sg b ≠ 0 := fun h => h0 (hz.mp h)
    rcases ho with rfl | rfl | rfl | rfl
    · simp only [if_true, spec_l1Quotients.j0, spec_signed, sg_word, Option.bind_some]
      rw [divide_spec _ _ hs0 (by omega) (by omega)]
      simp only [Option.bind_some, spec_l1Quotients.j1, spec_l1Quotients.j2, if_true, spec_word]
      simp [alu, h0]
    · simp only [Int.reduceEq, Int.reduceBEq, if_false, if_true, Bool.false_eq_true, spec_l1Quotients.j0, spec_l1Quotients.j1, spec_l1Quotients.j2, spec_word, Option.bind_some]
      have h_ := ediv_le (a % 4294967296) (b % 4294967296) (by omega) (by omega)
      rw [tdiv_pos (by omega), Int.emod_eq_of_lt (b := 4294967296) (by omega) (by omega)]
      simp [alu, h0]
    · simp only [Int.reduceEq, Int.reduceBEq, if_false, if_true, Bool.false_eq_true, spec_l1Quotients.j0, spec_signed, sg_word, Option.bind_some]
      rw [divide_spec _ _ hs0 (by omega) (by omega)]
      simp only [Int.reduceEq, Int.reduceBEq, if_false, Bool.false_eq_true, Option.bind_some, spec_l1Quotients.j1, spec_l1Quotients.j2, if_true, spec_word]
      simp [alu, h0]
    · simp only [Int.reduceEq, Int.reduceBEq, if_false, if_true, Bool.false_eq_true, spec_l1Quotients.j0, spec_l1Quotients.j1, spec_l1Quotients.j2, spec_word, Option.bind_some]
      have h1_ := Int.emod_nonneg (a % 4294967296) h0
      have h2_ := Int.emod_lt_of_pos (a % 4294967296) (show 0 < b % 4294967296 by omega)
      rw [tmod_pos (by omega), Int.emod_eq_of_lt (b := 4294967296) (by omega) (by omega)]
      simp [alu, h0]
theorem mul_words (x y : Int) (hx : 0 ≤ x) (hx' : x < 4294967296) (hy : 0 ≤ y) (hy' : y < 4294967296) :
    wrap64 (wrap64 (Int.tmod x 65536 * y) + wrap64 (Int.tmod (wrap64 (wrap64 (Int.tdiv x 65536) * Int.tmod y 65536)) 65536 * 65536)) % 4294967296 = x * y % 4294967296 := by
  rw [w64_word, tmod_pos hx, tdiv_pos hx, tmod_pos hy, w64 (n := x / 65536) (by omega) (by omega)]
  have b1 := mul_nn (x := x / 65536) (y := y % 65536) (A := 65536) (B := 65536) (by omega) (by omega) (by omega) (by omega)
  have b2 := mul_nn (x := x % 65536) (y := y) (A := 65536) (B := 4294967296) (by omega) (by omega) (by omega) (by omega)
  rw [w64 (n := x / 65536 * (y % 65536)) (by omega) (by omega), tmod_pos b1.1, w64 (n := x % 65536 * y) (by omega) (by omega), w64 (by omega) (by omega)]
  have e : x * y = x % 65536 * y + 65536 * (x / 65536 * (y % 65536)) + 4294967296 * (x / 65536 * (y / 65536)) := by
    have h := Int.mul_ediv_add_emod y 65536
    have g := Int.mul_ediv_add_emod x 65536
    generalize hA : x / 65536 = xh at *
    generalize hB : x % 65536 = xl at *
    generalize hC : y / 65536 = yh at *
    generalize hD : y % 65536 = yl at *
    subst h
    subst g
    grind
  omega
theorem spec_alu (k : Nat) (op a b : Int) : spec_Alu.f (k + 60) op a b = some (alu op a b) := by
  unfold spec_Alu.f
  by_cases hlo : op < 1
  · rw [if_pos hlo]
    simp only [spec_Alu.j0, if_true]
    unfold alu
    rw [if_neg (by omega), if_neg (by omega), if_neg (by omega), if_neg (by omega), if_neg (by omega), if_neg (by omega), if_neg (by omega), if_neg (by omega), if_neg (by omega), if_neg (by omega), if_neg (by omega), if_neg (by omega), if_neg (by omega), if_neg (by omega), if_neg (by omega), if_neg (by omega), if_neg (by omega), if_neg (by omega)]
  rw [if_neg hlo]
  by_cases hhi : op > 18
  · rw [decide_eq_true hhi]
    simp only [spec_Alu.j0, if_true]
    unfold alu
    rw [if_neg (by omega), if_neg (by omega), if_neg (by omega), if_neg (by omega), if_neg (by omega), if_neg (by omega), if_neg (by omega), if_neg (by omega), if_neg (by omega), if_neg (by omega), if_neg (by omega), if_neg (by omega), if_neg (by omega), if_neg (by omega), if_neg (by omega), if_neg (by omega), if_neg (by omega), if_neg (by omega)]
  rw [decide_eq_false hhi]
  have hn : Int.tmod (b % 4294967296) 32 = (((b % 4294967296 % 32).toNat : Nat) : Int) := by rw [tmod_pos (by omega)]; omega
  have hn' : (b % 4294967296 % 32).toNat < 32 := by omega
  have sa := sg_range a
  have sb := sg_range b
  obtain rfl | rfl | rfl | rfl | rfl | rfl | rfl | rfl | rfl | rfl | rfl | rfl | rfl | rfl | rfl | rfl | rfl | rfl : op = 1 ∨ op = 2 ∨ op = 3 ∨ op = 4 ∨ op = 5 ∨ op = 6 ∨ op = 7 ∨ op = 8 ∨ op = 9 ∨ op = 10 ∨ op = 11 ∨ op = 12 ∨ op = 13 ∨ op = 14 ∨ op = 15 ∨ op = 16 ∨ op = 17 ∨ op = 18 := by omega
  all_goals simp only [Int.reduceEq, Int.reduceBEq, if_false, if_true, Bool.false_eq_true, spec_Alu.j0, spec_Alu.j1, spec_Alu.j2, spec_word, spec_signed, sg_word, Option.bind_some, w64_word]
  · rfl
  · rfl
  · rw [hn, shift_spec_3 (k + 18) _ _ (by omega) (by omega) hn']; rfl
  · have e : alu 4 a b = (if sg a < sg b then 1 else 0, true) := rfl
    rw [e]; split <;> rfl
  · have e : alu 5 a b = (if a % 4294967296 < b % 4294967296 then 1 else 0, true) := rfl
    rw [e]; split <;> rfl
  · rw [spec_xor (k + 17)]; rfl
  · rw [hn, shift_spec_7 (k + 18) _ _ (by omega) (by omega) hn']; rfl
  · rw [hn, shift_spec_8 (k + 18) _ _ hn', sg_word]; rfl
  · rw [spec_or (k + 17)]; rfl
  · rw [spec_and (k + 17)]; rfl
  · rw [← w64_word, mul_words _ _ (by omega) (by omega) (by omega) (by omega)]; rfl
  · rw [high_spec _ _ (by omega) (by omega) (by omega) (by omega) (by omega)]; rfl
  · rw [high_spec _ _ (by omega) (by omega) (by omega) (by omega) (by omega)]; rfl
  · have h_ := mul_nn (x := a % 4294967296) (y := b % 4294967296) (A := 4294967295) (B := 4294967295) (by omega) (by omega) (by omega) (by omega)
    rw [high_spec _ _ (by omega) (by omega) (by omega) (by omega) (by omega)]
    simp only [Option.bind_some, spec_word]
    rw [Int.emod_eq_of_lt (by omega) (by omega)]; rfl
  · rw [quot_spec (k + 52) 15 a b (by omega)]; rfl
  · rw [quot_spec (k + 52) 16 a b (by omega)]; rfl
  · rw [quot_spec (k + 52) 17 a b (by omega)]; rfl
  · rw [quot_spec (k + 52) 18 a b (by omega)]; rfl
theorem open_spec (l : List Int) (h : Bys l) : ∃ b, spec_l1Open.f l = some (b, 0) ∧ Rdr b 0 := by
  unfold spec_l1Open.f
  by_cases c : (l.length : Int) > 1500
  · rw [if_pos c, if_pos (by omega)]
    exact ⟨_, rfl, fun x hx => h x (List.mem_of_mem_take hx), by simp; omega, by omega, by omega⟩
  · rw [if_neg c]
    exact ⟨_, rfl, h, by omega, by omega, by omega⟩
theorem next_spec {l : List Int} {p : Int} (h : Rdr l p) : ∃ v p', spec_l1Rd_next.f l p = some (v, p') ∧ 0 ≤ v ∧ v ≤ 255 ∧ Rdr l p' := by
  obtain ⟨hb, hl, h0, h1⟩ := h
  unfold spec_l1Rd_next.f
  by_cases c : p < (l.length : Int)
  · rw [if_pos c, if_pos h0]
    have hv := hb _ (rd_mem l p h0 c)
    rw [w64 (by omega) (by omega), w64 (by omega) (by omega)]
    exact ⟨_, _, rfl, hv.1, hv.2, hb, hl, by omega, by omega⟩
  · rw [if_neg c]
    exact ⟨_, _, rfl, by omega, by omega, hb, hl, h0, h1⟩
theorem num_spec {l : List Int} {p : Int} (h : Rdr l p) : ∃ v p', spec_l1Num.f l p = some (v, p') ∧ (-9223372036854775808 ≤ v ∧ v ≤ 9223372036854775807) ∧ Rdr l p' := by
  unfold spec_l1Num.f
  obtain ⟨k, p1, e1, k0, k1, r1⟩ := next_spec h
  rw [e1]; simp only [Option.bind_some]
  obtain ⟨v, p2, e2, v0, v1, r2⟩ := next_spec r1
  rw [e2]; simp only [Option.bind_some]
  rw [tmod_pos k0]
  by_cases c0 : k % 4 = 0
  · rw [if_pos c0]; exact ⟨_, _, rfl, by omega, r2⟩
  rw [if_neg c0]
  by_cases c1 : k % 4 = 1
  · rw [if_pos c1]
    obtain ⟨a, p3, e3, _, _, r3⟩ := next_spec r2
    rw [e3]; simp only [Option.bind_some]
    obtain ⟨b, p4, e4, _, _, r4⟩ := next_spec r3
    rw [e4]; simp only [Option.bind_some]
    obtain ⟨c, p5, e5, _, _, r5⟩ := next_spec r4
    rw [e5]; simp only [Option.bind_some]
    exact ⟨_, _, rfl, w64_range _, r5⟩
  rw [if_neg c1]
  by_cases c2 : k % 4 = 2
  · rw [if_pos c2, tmod_pos v0, if_pos (by omega), if_pos (by simp; omega)]
    refine ⟨_, _, rfl, ?_, r2⟩
    have hm := rd_mem [0, 1, 4294967295, 2147483648, 2147483647, 4294967294, 65535, 65536, 32768, 128, 255, 2147483649] (v % 12) (by omega) (by simp; omega)
    generalize rd _ _ = z at hm ⊢
    simp at hm
    omega
  · rw [if_neg c2, tdiv_pos k0, w64 (by omega) (by omega), tmod_pos (by omega), if_pos (by omega), if_pos (by simp; omega)]
    refine ⟨_, _, rfl, ?_, r2⟩
    have hm := rd_mem [(-1), wrap64 (-v), wrap64 (4294967296 + v), (-2147483648), wrap64 ((-4294967296) * v), 1099511627776, wrap64 ((wrap64 (-v)) * 65536), wrap64 (v * 65537)] (k / 4 % 8) (by omega) (by simp; omega)
    generalize rd _ _ = z at hm ⊢
    simp only [List.mem_cons, List.not_mem_nil, or_false] at hm
    have a1 := w64_range (-v)
    have a2 := w64_range (4294967296 + v)
    have a3 := w64_range ((-4294967296) * v)
    have a4 := w64_range ((wrap64 (-v)) * 65536)
    have a5 := w64_range (v * 65537)
    rcases hm with rfl | rfl | rfl | rfl | rfl | rfl | rfl | rfl <;> first | assumption | omega
theorem draw_spec (l : List Int) (h : Bys l) : ∃ op a b, spec_DrawAlu.f l = some (op, a, b) := by
  unfold spec_DrawAlu.f
  obtain ⟨b, e0, r0⟩ := open_spec l h
  rw [e0]; simp only [Option.bind_some]
  obtain ⟨v, p1, e1, _, _, r1⟩ := next_spec r0
  rw [e1]; simp only [Option.bind_some]
  obtain ⟨n, p2, e2, _, r2⟩ := num_spec r1
  rw [e2]; simp only [Option.bind_some]
  obtain ⟨m, p3, e3, _, _⟩ := num_spec r2
  rw [e3]; simp only [Option.bind_some]
  exact ⟨_, _, _, rfl⟩
/-- A product by halves. -/
theorem halves (x y : Int) : x * y = 4294967296 * (x / 65536 * (y / 65536)) + 65536 * (x % 65536 * (y / 65536) + x / 65536 * (y % 65536)) + x % 65536 * (y % 65536) := by
  have h := Int.mul_ediv_add_emod y 65536
  have g := Int.mul_ediv_add_emod x 65536
  generalize x / 65536 = xh at *
  generalize x % 65536 = xl at *
  generalize y / 65536 = yh at *
  generalize y % 65536 = yl at *
  subst h
  subst g
  grind
theorem low_high (x y : Int) (hx : 0 ≤ x) (hx' : x < 4294967296) (hy : 0 ≤ y) (hy' : y < 4294967296) :
    x * y % 4294967296 = Int.tmod (wrap64 ((wrap64 ((Int.tmod x 65536) * (Int.tmod y 65536))) + (wrap64 ((Int.tmod (wrap64 ((wrap64 ((Int.tmod x 65536) * (wrap64 (Int.tdiv y 65536)))) + (wrap64 ((wrap64 (Int.tdiv x 65536)) * (Int.tmod y 65536))))) 65536) * 65536)))) 4294967296 ∧
    x * y / 4294967296 = wrap64 ((wrap64 ((wrap64 ((wrap64 (Int.tdiv x 65536)) * (wrap64 (Int.tdiv y 65536)))) + (wrap64 (Int.tdiv (wrap64 ((wrap64 ((Int.tmod x 65536) * (wrap64 (Int.tdiv y 65536)))) + (wrap64 ((wrap64 (Int.tdiv x 65536)) * (Int.tmod y 65536))))) 65536)))) + (wrap64 (Int.tdiv (wrap64 ((wrap64 ((Int.tmod x 65536) * (Int.tmod y 65536))) + (wrap64 ((Int.tmod (wrap64 ((wrap64 ((Int.tmod x 65536) * (wrap64 (Int.tdiv y 65536)))) + (wrap64 ((wrap64 (Int.tdiv x 65536)) * (Int.tmod y 65536))))) 65536) * 65536)))) 4294967296))) := by
  have e := halves x y
  rw [tmod_pos hx, tmod_pos hy, tdiv_pos hx, tdiv_pos hy, w64 (n := x / 65536) (by omega) (by omega), w64 (n := y / 65536) (by omega) (by omega)]
  have b1 := mul_nn (x := x / 65536) (y := y / 65536) (A := 65536) (B := 65536) (by omega) (by omega) (by omega) (by omega)
  have b2 := mul_nn (x := x % 65536) (y := y / 65536) (A := 65536) (B := 65536) (by omega) (by omega) (by omega) (by omega)
  have b3 := mul_nn (x := x / 65536) (y := y % 65536) (A := 65536) (B := 65536) (by omega) (by omega) (by omega) (by omega)
  have b4 := mul_nn (x := x % 65536) (y := y % 65536) (A := 65536) (B := 65536) (by omega) (by omega) (by omega) (by omega)
  generalize x / 65536 * (y / 65536) = m1 at *
  generalize x % 65536 * (y / 65536) = m2 at *
  generalize x / 65536 * (y % 65536) = m3 at *
  generalize x % 65536 * (y % 65536) = m4 at *
  rw [w64 (n := m1) (by omega) (by omega), w64 (n := m2) (by omega) (by omega), w64 (n := m3) (by omega) (by omega), w64 (n := m4) (by omega) (by omega), w64 (n := m2 + m3) (by omega) (by omega), tmod_pos (a := m2 + m3) (by omega), tdiv_pos (a := m2 + m3) (by omega),
    w64 (n := (m2 + m3) / 65536) (by omega) (by omega), w64 (n := (m2 + m3) % 65536 * 65536) (by omega) (by omega), w64 (n := m4 + (m2 + m3) % 65536 * 65536) (by omega) (by omega), tmod_pos (a := m4 + (m2 + m3) % 65536 * 65536) (by omega), tdiv_pos (a := m4 + (m2 + m3) % 65536 * 65536) (by omega),
    w64 (n := m1 + (m2 + m3) / 65536) (by omega) (by omega), w64 (n := (m4 + (m2 + m3) % 65536 * 65536) / 4294967296) (by omega) (by omega), w64 (by omega) (by omega)]
  omega
/-- The high words of the signed and the mixed products. -/
theorem both_mixed (a b : Int) :
    (sg a * sg b / 4294967296) % 4294967296 = ((a % 4294967296) * (b % 4294967296) / 4294967296 - (if a % 4294967296 ≥ 2147483648 then b % 4294967296 else 0) - (if b % 4294967296 ≥ 2147483648 then a % 4294967296 else 0)) % 4294967296 ∧
    (sg a * (b % 4294967296) / 4294967296) % 4294967296 = ((a % 4294967296) * (b % 4294967296) / 4294967296 - (if a % 4294967296 ≥ 2147483648 then b % 4294967296 else 0)) % 4294967296 := by
  have ha := sg_cases a
  have hb := sg_cases b
  generalize sg a = s at *
  generalize sg b = t at *
  generalize a % 4294967296 = u at *
  generalize b % 4294967296 = v at *
  rcases ha with ⟨h1, e1⟩ | ⟨h1, e1⟩ <;> rcases hb with ⟨h2, e2⟩ | ⟨h2, e2⟩ <;> rw [e1, e2]
  · rw [if_pos h1, if_pos h2]
    rw [show (u - 4294967296) * (v - 4294967296) = u * v - 4294967296 * v - 4294967296 * u + 4294967296 * 4294967296 by grind, show (u - 4294967296) * v = u * v - 4294967296 * v by grind]
    omega
  · rw [if_pos h1, if_neg (by omega)]
    rw [show (u - 4294967296) * v = u * v - 4294967296 * v by grind]
    omega
  · rw [if_neg (by omega), if_pos h2]
    rw [show u * (v - 4294967296) = u * v - 4294967296 * u by grind]
    omega
  · rw [if_neg (by omega), if_neg (by omega)]
    omega
theorem back_spec (a b : Int) (h : b % 4294967296 ≠ 0) :
    wrap64 (wrap64 (sg (Int.tdiv (sg a) (sg b) % 4294967296) * sg b) + sg (Int.tmod (sg a) (sg b) % 4294967296)) % 4294967296 = a % 4294967296 := by
  rw [w64_word, sg_word, sg_word]
  have e := Int.mul_tdiv_add_tmod (sg a) (sg b)
  have hX : ∃ m, sg (Int.tdiv (sg a) (sg b)) = Int.tdiv (sg a) (sg b) + 4294967296 * m := ⟨(sg (Int.tdiv (sg a) (sg b)) - Int.tdiv (sg a) (sg b)) / 4294967296, by unfold sg; omega⟩
  have hR : ∃ m, sg (Int.tmod (sg a) (sg b)) = Int.tmod (sg a) (sg b) + 4294967296 * m := ⟨(sg (Int.tmod (sg a) (sg b)) - Int.tmod (sg a) (sg b)) / 4294967296, by unfold sg; omega⟩
  have hA := sg_back a
  obtain ⟨m, e1⟩ := hX
  obtain ⟨n, e2⟩ := hR
  rw [e1, e2]
  have hm : ∀ x : Int, ∃ z, wrap64 x = x + 4294967296 * z := fun x => ⟨(wrap64 x - x) / 4294967296, by unfold wrap64; omega⟩
  obtain ⟨z, e3⟩ := hm ((Int.tdiv (sg a) (sg b) + 4294967296 * m) * sg b)
  rw [e3]
  have e4 : (Int.tdiv (sg a) (sg b) + 4294967296 * m) * sg b + 4294967296 * z + (Int.tmod (sg a) (sg b) + 4294967296 * n) = sg a + 4294967296 * (m * sg b + z + n) := by grind
  rw [e4]
  omega
theorem FnAlu : laws_FnAlu.Pure := by
  intro l hl _ hw
  refine ⟨60, ?_⟩
  unfold laws_FnAlu.f
  by_cases hc : (l.length : Int) > 1048576
  · rw [if_pos hc]
  rw [if_neg hc]
  obtain ⟨op, a, b, e⟩ := draw_spec l (bys_of hw)
  rw [e]; simp only [Option.bind_some]
  rw [spec_alu 0, impl_alu]; simp only [Option.bind_some]
  rw [if_neg (by simp), show ((alu op a b).1 != (alu op a b).1) = false by simp]
  have ew : ∀ x, wrap64 x % 4294967296 = x % 4294967296 := w64_word
  obtain ⟨l1, l2⟩ := low_high (a % 4294967296) (b % 4294967296) (by omega) (by omega) (by omega) (by omega)
  obtain ⟨m1, m2⟩ := both_mixed a b
  have hz := sg_zero b
  simp only [laws_FnAlu.j0, Bool.false_eq_true, if_false, impl_alu, impl_word, Option.bind_some]
  rw [show (alu 11 a b).1 = (a % 4294967296) * (b % 4294967296) % 4294967296 from rfl, show (alu 14 a b).1 = (a % 4294967296) * (b % 4294967296) / 4294967296 from rfl, if_pos l1, ← l2]
  rw [show ((a % 4294967296 * (b % 4294967296) / 4294967296) != (a % 4294967296 * (b % 4294967296) / 4294967296)) = false by simp]
  simp only [laws_FnAlu.j1, Bool.false_eq_true, if_false]
  have hh := mul_nn (x := a % 4294967296) (y := b % 4294967296) (A := 4294967295) (B := 4294967295) (by omega) (by omega) (by omega) (by omega)
  have end4 : laws_FnAlu.j4 56 a b (a % 4294967296) (b % 4294967296) false = some true := by
    simp only [laws_FnAlu.j4, Bool.false_eq_true, if_false, impl_alu, impl_word, impl_signed, Option.bind_some]
    by_cases h0 : b % 4294967296 = 0
    · rw [if_pos h0]
      simp [alu, h0]
    · rw [if_neg h0]
      rw [show (alu 16 a b).1 = (a % 4294967296) / (b % 4294967296) by simp [alu, h0], show (alu 18 a b).1 = (a % 4294967296) % (b % 4294967296) by simp [alu, h0],
        show (alu 15 a b).1 = (Int.tdiv (sg a) (sg b)) % 4294967296 by simp [alu, h0], show (alu 17 a b).1 = (Int.tmod (sg a) (sg b)) % 4294967296 by simp [alu, h0]]
      have e0 := Int.mul_ediv_add_emod (a % 4294967296) (b % 4294967296)
      have g0 := Int.emod_nonneg (a % 4294967296) h0
      have g1 := Int.emod_lt_of_pos (a % 4294967296) (show 0 < b % 4294967296 by omega)
      rw [Int.mul_comm (a % 4294967296 / (b % 4294967296)), w64 (n := b % 4294967296 * (a % 4294967296 / (b % 4294967296))) (by omega) (by omega), w64 (by omega) (by omega), if_pos e0, if_pos g1, back_spec a b h0]
      simp
  have end3 : ∀ x18 x19 : Int, (sg a * sg b / 4294967296) % 4294967296 = x19 % 4294967296 → (sg a * (b % 4294967296) / 4294967296) % 4294967296 = x18 % 4294967296 → laws_FnAlu.j3 57 a b (a % 4294967296) (b % 4294967296) x18 x19 = some true := by
    intro x18 x19 h1 h2
    simp only [laws_FnAlu.j3, impl_alu, impl_word, Option.bind_some]
    rw [show (alu 12 a b).1 = (sg a * sg b / 4294967296) % 4294967296 from rfl, show (alu 13 a b).1 = (sg a * (b % 4294967296) / 4294967296) % 4294967296 from rfl, if_pos h1, ← h2]
    rw [show ((sg a * (b % 4294967296) / 4294967296 % 4294967296) != (sg a * (b % 4294967296) / 4294967296 % 4294967296)) = false by simp]
    exact end4
  by_cases h1 : a % 4294967296 ≥ 2147483648
  · rw [if_pos h1]
    rw [if_pos h1] at m1 m2
    simp only [laws_FnAlu.j2]
    by_cases h2 : b % 4294967296 ≥ 2147483648
    · rw [if_pos h2] at m1
      rw [if_pos h2, w64 (n := a % 4294967296 * (b % 4294967296) / 4294967296 - b % 4294967296) (by omega) (by omega)]
      exact end3 _ _ (by rw [ew]; exact m1) m2
    · rw [if_neg h2] at m1
      rw [if_neg h2, w64 (n := a % 4294967296 * (b % 4294967296) / 4294967296 - b % 4294967296) (by omega) (by omega)]
      exact end3 _ _ (by rw [m1]; congr 1; omega) m2
  · rw [if_neg h1]
    rw [if_neg h1] at m1 m2
    simp only [laws_FnAlu.j2]
    by_cases h2 : b % 4294967296 ≥ 2147483648
    · rw [if_pos h2] at m1
      rw [if_pos h2]
      exact end3 _ _ (by rw [ew, m1]; congr 1; omega) (by rw [m2]; congr 1; omega)
    · rw [if_neg h2] at m1
      rw [if_neg h2]
      exact end3 _ _ (by rw [m1]; congr 1; omega) (by rw [m2]; congr 1; omega)
end Go.Proofs.Ytgbpofhabhabcaa.Pure
