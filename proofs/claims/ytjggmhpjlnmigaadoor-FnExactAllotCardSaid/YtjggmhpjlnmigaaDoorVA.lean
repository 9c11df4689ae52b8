/- Plain facts on whole numbers. -/
import Derived.RowKit
import Derived.Laws.Entries
import Derived.IntWalk
import Derived.Test.YtjggmhpjlnmigaaDoorVM
set_option linter.unusedVariables false
set_option linter.unusedSimpArgs false
namespace Go.Proofs.YtjggmhpjlnmigaaDoor
open Go.RowKit

/-! Plain facts on whole numbers. -/
theorem w64 {n : Int} (h0 : -9223372036854775808 ≤ n) (h1 : n ≤ 9223372036854775807) : wrap64 n = n := by
  unfold wrap64; omega
theorem tmod_pos {a b : Int} (h : 0 ≤ a) : Int.tmod a b = a % b := Int.tmod_eq_emod_of_nonneg h
theorem tdiv_pos {a b : Int} (h : 0 ≤ a) : Int.tdiv a b = a / b := Int.tdiv_eq_ediv_of_nonneg h
theorem tmod_neg {a b : Int} (h : a ≤ 0) : Int.tmod a b = -((-a) % b) := by
  have := Int.neg_tmod (-a) b
  rw [Int.neg_neg] at this
  rw [this, tmod_pos (by omega)]
theorem tdiv_neg {a b : Int} (h : a ≤ 0) : Int.tdiv a b = -((-a) / b) := by
  have := Int.neg_tdiv (-a) b
  rw [Int.neg_neg] at this
  rw [this, tdiv_pos (by omega)]
theorem word_of (a : Int) : Int.tmod (wrap64 ((Int.tmod a 4294967296) + 4294967296)) 4294967296 = a % 4294967296 := by
  by_cases h : 0 ≤ a
  · rw [tmod_pos (a := a) h, w64 (by omega) (by omega), tmod_pos (by omega)]; omega
  · rw [tmod_neg (a := a) (by omega), w64 (by omega) (by omega), tmod_pos (by omega)]; omega

theorem toNat_ofInt (n : Nat) (x : Int) : (BitVec.ofInt n x).toNat = (x % (2 ^ n : Nat)).toNat := by
  simp [BitVec.toNat_ofInt]
theorem wrap_i64 (n : Int) : IntKind.wrap .i64 n = wrap64 n := by
  simp only [IntKind.wrap, IntKind.signed, IntKind.bits, wrap64, Bool.true_and]
  split
  · rename_i h; simp at h; omega
  · rename_i h; simp at h; omega
theorem wrap_u64 (n : Int) : IntKind.wrap .u64 n = n % 18446744073709551616 := by
  simp [IntKind.wrap, IntKind.signed, IntKind.bits]
theorem wrap_i8 (n : Int) : IntKind.wrap .i8 n = (n + 128) % 256 - 128 := by
  simp only [IntKind.wrap, IntKind.signed, IntKind.bits, Bool.true_and]
  split
  · rename_i h; simp at h; omega
  · rename_i h; simp at h; omega
theorem wrap_i16 (n : Int) : IntKind.wrap .i16 n = (n + 32768) % 65536 - 32768 := by
  simp only [IntKind.wrap, IntKind.signed, IntKind.bits, Bool.true_and]
  split
  · rename_i h; simp at h; omega
  · rename_i h; simp at h; omega
theorem wrap_u8 (n : Int) : IntKind.wrap .u8 n = n % 256 := by
  simp [IntKind.wrap, IntKind.signed, IntKind.bits]

/-- The lower n bits. -/
theorem wrap_u32 (n : Int) : IntKind.wrap .u32 n = n % 4294967296 := by
  simp [IntKind.wrap, IntKind.signed, IntKind.bits]

/-- The lower n bits. -/
theorem wrap_i32 (n : Int) : IntKind.wrap .i32 n = (n + 2147483648) % 4294967296 - 2147483648 := by
  simp only [IntKind.wrap, IntKind.signed, IntKind.bits, Bool.true_and]
  split
  · rename_i h; simp at h; omega
  · rename_i h; simp at h; omega
theorem and_mask (a : Int) (n : Nat) (hn : n ≤ 62) : Go.bits .and .i64 a (2 ^ n - 1) = a % 2 ^ n := by
  have hp0 : (0 : Int) < 2 ^ n := Int.pow_pos (by decide)
  have hpn : (2 : Nat) ^ n ≤ 2 ^ 62 := Nat.pow_le_pow_right (by decide) hn
  have hc : ((2 ^ n : Nat) : Int) = (2 : Int) ^ n := by simp
  have hp0n : 0 < (2 : Nat) ^ n := Nat.pow_pos (by decide)
  have hp : (2 : Int) ^ n ≤ 2 ^ 62 := by omega
  have e : (BitVec.ofInt 64 a &&& BitVec.ofInt 64 (2 ^ n - 1)).toNat = (a % 2 ^ n).toNat := by
    rw [BitVec.toNat_and, toNat_ofInt, toNat_ofInt]
    have e2 : (((2 : Int) ^ n - 1) % ((2 ^ 64 : Nat) : Int)).toNat = 2 ^ n - 1 := by
      rw [Int.emod_eq_of_lt (by omega) (by omega)]
      omega
    rw [e2, Nat.and_two_pow_sub_one_eq_mod]
    have h1 : (((a % ((2 ^ 64 : Nat) : Int)).toNat % 2 ^ n : Nat) : Int) = (a % ((2 ^ 64 : Nat) : Int)) % 2 ^ n := by
      rw [Int.natCast_emod, Int.toNat_of_nonneg (by omega), hc]
    have h2 : (a % ((2 ^ 64 : Nat) : Int)) % 2 ^ n = a % 2 ^ n := by
      refine Int.emod_emod_of_dvd _ ?_
      refine ⟨2 ^ (64 - n), ?_⟩
      rw [← Int.pow_add]
      simp [show n + (64 - n) = 64 by omega]
    have := Int.emod_nonneg a (b := 2 ^ n) (by omega)
    omega
  have := Int.emod_nonneg a (b := 2 ^ n) (by omega)
  have := Int.emod_lt_of_pos a hp0
  show IntKind.wrap .i64 _ = _
  rw [wrap_i64]
  show wrap64 (((BitVec.ofInt 64 a &&& BitVec.ofInt 64 (2 ^ n - 1)).toNat : Nat) : Int) = _
  rw [e, Int.toNat_of_nonneg (by omega)]
  exact w64 (by omega) (by omega)
theorem bits_nat (op : BinOp) (f : Nat → Nat → Nat) (hf : ∀ x y : BitVec 64, (match op with
    | .and => x &&& y
    | .or => x ||| y
    | .xor => x ^^^ y
    | _ => x &&& ~~~y).toNat = f x.toNat y.toNat) (hb : ∀ x y, x < 2 ^ 63 → y < 2 ^ 63 → f x y < 2 ^ 63) (x y : Nat) (hx : x < 2 ^ 63) (hy : y < 2 ^ 63) : Go.bits op .i64 x y = (f x y : Nat) := by
  show IntKind.wrap .i64 _ = _
  rw [wrap_i64]
  have h := hf (BitVec.ofInt 64 x) (BitVec.ofInt 64 y)
  have ex : (BitVec.ofInt 64 (x : Int)).toNat = x := by rw [toNat_ofInt]; omega
  have ey : (BitVec.ofInt 64 (y : Int)).toNat = y := by rw [toNat_ofInt]; omega
  rw [ex, ey] at h
  have := hb x y hx hy
  refine (congrArg (fun n : Nat => wrap64 (n : Int)) h).trans ?_
  exact w64 (by omega) (by omega)
theorem and_nat (x y : Nat) (hx : x < 2 ^ 63) (hy : y < 2 ^ 63) : Go.bits .and .i64 x y = (x &&& y : Nat) :=
  bits_nat .and (· &&& ·) (fun x y => BitVec.toNat_and x y) (fun x y hx hy => Nat.and_lt_two_pow _ hy) x y hx hy
theorem or_nat (x y : Nat) (hx : x < 2 ^ 63) (hy : y < 2 ^ 63) : Go.bits .or .i64 x y = (x ||| y : Nat) :=
  bits_nat .or (· ||| ·) (fun x y => BitVec.toNat_or x y) (fun x y hx hy => Nat.or_lt_two_pow hx hy) x y hx hy
theorem xor_nat (x y : Nat) (hx : x < 2 ^ 63) (hy : y < 2 ^ 63) : Go.bits .xor .i64 x y = (x ^^^ y : Nat) :=
  bits_nat .xor (· ^^^ ·) (fun x y => BitVec.toNat_xor x y) (fun x y hx hy => Nat.xor_lt_two_pow hx hy) x y hx hy
theorem and_w (a : Int) : Go.bits .and .i64 a 4294967295 = a % 4294967296 := and_mask a 32 (by decide)
theorem and_255 (a : Int) : Go.bits .and .i64 a 255 = a % 256 := and_mask a 8 (by decide)
theorem and_65535 (a : Int) : Go.bits .and .i64 a 65535 = a % 65536 := and_mask a 16 (by decide)
theorem and_31 (a : Int) : Go.bits .and .i64 a 31 = a % 32 := and_mask a 5 (by decide)
theorem and_u64 (a : Int) : Go.bits .and .u64 a 4294967295 = a % 4294967296 := by
  show IntKind.wrap .u64 _ = _
  rw [wrap_u64]
  show (((BitVec.ofInt 64 a &&& BitVec.ofInt 64 4294967295).toNat : Nat) : Int) % 18446744073709551616 = _
  have h := and_mask a 32 (by decide)
  have h' : IntKind.wrap .i64 ((BitVec.ofInt 64 a &&& BitVec.ofInt 64 4294967295).toNat : Int) = a % 4294967296 := h
  rw [wrap_i64] at h'
  have hl : (BitVec.ofInt 64 a &&& BitVec.ofInt 64 4294967295).toNat ≤ 4294967295 := by
    rw [BitVec.toNat_and]
    exact Nat.and_le_right
  rw [w64 (by omega) (by omega)] at h'
  omega

/-- A word as a signed number. -/
def sg (a : Int) : Int := (a + 2147483648) % 4294967296 - 2147483648
theorem sg_of (a : Int) : wrap64 (wrap32 (a % 4294967296)) = sg a := by
  unfold sg wrap32
  rw [w64 (by omega) (by omega)]
  omega
theorem sg_range (a : Int) : -2147483648 ≤ sg a ∧ sg a ≤ 2147483647 := by unfold sg; omega
theorem sg_word (a : Int) : sg (a % 4294967296) = sg a := by unfold sg; omega
theorem sg_cases (a : Int) : (a % 4294967296 ≥ 2147483648 ∧ sg a = a % 4294967296 - 4294967296) ∨ (a % 4294967296 < 2147483648 ∧ sg a = a % 4294967296) := by unfold sg; omega
/-! Reading bytes. -/
/-- A reader over bytes: where it stands. -/
theorem w64_range (n : Int) : -9223372036854775808 ≤ wrap64 n ∧ wrap64 n ≤ 9223372036854775807 := by unfold wrap64; omega
/-! Products, shifts, bits of words. -/
theorem w64_word (n : Int) : wrap64 n % 4294967296 = n % 4294967296 := by unfold wrap64; omega
theorem mul_range {x y A B : Int} (hA : 0 ≤ A) (hB : 0 ≤ B) (x0 : -A ≤ x) (x1 : x ≤ A) (y0 : -B ≤ y) (y1 : y ≤ B) : -(A * B) ≤ x * y ∧ x * y ≤ A * B := by
  have h : (x * y).natAbs ≤ A.natAbs * B.natAbs := by
    rw [Int.natAbs_mul]; exact Nat.mul_le_mul (by omega) (by omega)
  have e : ((A.natAbs * B.natAbs : Nat) : Int) = A * B := by
    rw [Int.natCast_mul, Int.natAbs_of_nonneg hA, Int.natAbs_of_nonneg hB]
  omega
theorem mul_nn {x y A B : Int} (x0 : 0 ≤ x) (x1 : x ≤ A) (y0 : 0 ≤ y) (y1 : y ≤ B) : 0 ≤ x * y ∧ x * y ≤ A * B :=
  ⟨Int.mul_nonneg x0 y0, Int.mul_le_mul x1 y1 y0 (by omega)⟩
theorem ediv_le (x y : Int) (h0 : 0 ≤ x) : 0 ≤ y → 0 ≤ x / y ∧ x / y ≤ x := fun hy =>
  ⟨Int.ediv_nonneg h0 hy, Int.ediv_le_self y h0⟩
theorem pow_nn (n : Nat) : (0 : Int) ≤ 2 ^ n := Int.le_of_lt (Int.pow_pos (by decide))
theorem sg_mul (a b : Int) : sg a * sg b % 4294967296 = (a % 4294967296) * (b % 4294967296) % 4294967296 := by
  have ha : ∃ m, sg a = a % 4294967296 + m * 4294967296 := ⟨(sg a - a % 4294967296) / 4294967296, by unfold sg; omega⟩
  have hb : ∃ m, sg b = b % 4294967296 + m * 4294967296 := ⟨(sg b - b % 4294967296) / 4294967296, by unfold sg; omega⟩
  obtain ⟨m, e1⟩ := ha
  obtain ⟨n, e2⟩ := hb
  rw [e1, e2]
  have e : (a % 4294967296 + m * 4294967296) * (b % 4294967296 + n * 4294967296) = (a % 4294967296) * (b % 4294967296) + (m * (b % 4294967296) + n * (a % 4294967296) + m * n * 4294967296) * 4294967296 := by grind
  rw [e, Int.add_mul_emod_self_right]
theorem sg_zero (b : Int) : sg b = 0 ↔ b % 4294967296 = 0 := by unfold sg; omega
theorem sg_back (a : Int) : sg a % 4294967296 = a % 4294967296 := by unfold sg; omega
theorem word_nat (a : Int) : ((a % 4294967296).toNat : Int) = a % 4294967296 ∧ (a % 4294967296).toNat < 2 ^ 32 := by omega
theorem xor_w (a b : Int) : Go.bits .xor .i64 (a % 4294967296) (b % 4294967296) = (((a % 4294967296).toNat ^^^ (b % 4294967296).toNat : Nat) : Int) := by
  have ha := word_nat a
  have hb := word_nat b
  have h := xor_nat (a % 4294967296).toNat (b % 4294967296).toNat (by omega) (by omega)
  rw [ha.1, hb.1] at h
  exact h
theorem or_w (a b : Int) : Go.bits .or .i64 (a % 4294967296) (b % 4294967296) = (((a % 4294967296).toNat ||| (b % 4294967296).toNat : Nat) : Int) := by
  have ha := word_nat a
  have hb := word_nat b
  have h := or_nat (a % 4294967296).toNat (b % 4294967296).toNat (by omega) (by omega)
  rw [ha.1, hb.1] at h
  exact h
theorem and_ww (a b : Int) : Go.bits .and .i64 (a % 4294967296) (b % 4294967296) = (((a % 4294967296).toNat &&& (b % 4294967296).toNat : Nat) : Int) := by
  have ha := word_nat a
  have hb := word_nat b
  have h := and_nat (a % 4294967296).toNat (b % 4294967296).toNat (by omega) (by omega)
  rw [ha.1, hb.1] at h
  exact h
theorem xor_lt (a b : Int) : (a % 4294967296).toNat ^^^ (b % 4294967296).toNat < 4294967296 :=
  Nat.xor_lt_two_pow (n := 32) (word_nat a).2 (word_nat b).2
theorem or_lt (a b : Int) : (a % 4294967296).toNat ||| (b % 4294967296).toNat < 4294967296 :=
  Nat.or_lt_two_pow (n := 32) (word_nat a).2 (word_nat b).2
theorem and_lt (a b : Int) : (a % 4294967296).toNat &&& (b % 4294967296).toNat < 4294967296 :=
  Nat.and_lt_two_pow (n := 32) _ (word_nat b).2
/-! Lists of whole numbers. -/
theorem set_take (l : List Int) (i : Nat) (h : i < l.length) (x : Int) (hx : x = l[i]) : (l.take i ++ List.replicate (l.length - i) 0).set i x = l.take (i + 1) ++ List.replicate (l.length - (i + 1)) 0 := by
  subst hx
  apply List.ext_getElem
  · simp; omega
  · intro j h1 h2
    rw [List.getElem_set]
    by_cases hj : i = j
    · subst hj
      rw [if_pos rfl, List.getElem_append_left (by simp; omega), List.getElem_take]
    · rw [if_neg hj]
      by_cases hlt : j < i
      · rw [List.getElem_append_left (by simp; omega), List.getElem_append_left (by simp; omega), List.getElem_take, List.getElem_take]
      · rw [List.getElem_append_right (by simp; omega), List.getElem_append_right (by simp; omega), List.getElem_replicate, List.getElem_replicate]

end Go.Proofs.YtjggmhpjlnmigaaDoor
