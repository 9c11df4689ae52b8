/- Walks: the reference's Alu. -/
import Derived.Test.YthndggachjdkfaaVAluI
namespace Go.Proofs.Ythndggachjdkfaa
open Go.RowKit
set_option maxRecDepth 20000
set_option linter.unusedSimpArgs false
set_option linter.unusedVariables false
theorem floor_math (a d : Int) (hd : 0 < d) (h0 : -4611686018427387904 ≤ a) (h1 : a ≤ 4611686018427387904) : (a.tmod d < 0 → IntKind.i64.wrap (IntKind.i64.wrap (a.tdiv d) - 1) = a / d) ∧ (0 ≤ a.tmod d → IntKind.i64.wrap (a.tdiv d) = a / d) := by
  by_cases h : 0 ≤ a
  · have h2 := Int.emod_nonneg a (b := d) (by omega)
    have h3 := ediv_le a d h (by omega)
    rw [tmod_pos h, tdiv_pos h]
    exact ⟨fun e => by omega, fun _ => i64w _ (by omega) (by omega)⟩
  · have h3 := ediv_le (-a) d (by omega) (by omega)
    have e := Int.mul_ediv_add_emod a d
    have e' := Int.mul_ediv_add_emod (-a) d
    have g0 := Int.emod_nonneg a (b := d) (by omega)
    have g1 := Int.emod_lt_of_pos a hd
    have g0' := Int.emod_nonneg (-a) (b := d) (by omega)
    have g1' := Int.emod_lt_of_pos (-a) hd
    rw [tmod_neg (a := a) (by omega), tdiv_neg (a := a) (by omega)]
    have key : d * (a / d + (-a) / d) + (a % d + (-a) % d) = 0 := by grind
    refine ⟨fun hm => ?_, fun hm => ?_⟩
    · rw [i64w (-(-a / d)) (by omega) (by omega), i64w _ (by omega) (by omega)]
      have hz : a / d + (-a) / d = -1 := by
        rcases Int.lt_trichotomy (a / d + (-a) / d) (-1) with hlt | he | hgt
        · have := Int.mul_le_mul_of_nonneg_left (show a / d + (-a) / d ≤ -2 by omega) (show 0 ≤ d by omega)
          omega
        · exact he
        · have := Int.mul_le_mul_of_nonneg_left (show 0 ≤ a / d + (-a) / d by omega) (show 0 ≤ d by omega)
          omega
      omega
    · rw [i64w _ (by omega) (by omega)]
      have hz : a / d + (-a) / d = 0 := by
        rcases Int.lt_trichotomy (a / d + (-a) / d) 0 with hlt | he | hgt
        · have := Int.mul_le_mul_of_nonneg_left (show a / d + (-a) / d ≤ -1 by omega) (show 0 ≤ d by omega)
          omega
        · exact he
        · have := Int.mul_le_mul_of_nonneg_left (show 1 ≤ a / d + (-a) / d by omega) (show 0 ≤ d by omega)
          omega
      omega
theorem floor_c (a d : Int) (hd : 0 < d) (h0 : -4611686018427387904 ≤ a) (h1 : a ≤ 4611686018427387904) (h : Hp) : HC Try.prog 173 [.int .i64 a, .int .i64 d] h fun v h' => v = .int .i64 (a / d) ∧ h' = h := by
  have q := floor_math a d hd h0 h1
  refine hc_of Try.func173 (rfl : Try.f173.body = some _) Try.ntmps173 Try.results173 Try.call173 rfl ?_; have HS := Sep.nil h; conv => whnf
  repeat' ((first | (with_reducible first | refine EvSeq.go ?_ | refine EvIf.tt ?_ | refine EvIf.ff ?_) | ((with_reducible refine Hole.mk (kK ?_)); clear kK) | ((with_reducible refine EvIf.mk (fun c => ?_) (fun c => ?_)) <;> (try simp only [cs_] at c) <;> (try (exfalso; first | omega | (revert c; decide)))) | ((with_reducible refine EvNew.sep HS ?_); intro bN hN HS1 hX; replace HS := HS1; clear HS1) | ((with_reducible refine EvIdx.lit ?_ ?_ ?_); (first | omega | decide); (first | omega | decide)) | ((with_reducible first | refine EvNe.mk ?_ ?_ | refine EvGe.mk ?_ ?_); (first | decide | omega)) | ((with_reducible refine EvLd.q HS (by repeat first | exact .h | apply Spot.t) ?_); (conv => whnf); intro hC) | (with_reducible refine EvLdN.q HS (by repeat first | exact .h | apply Spot.t) (fun hC => ?_)) | ((with_reducible refine EvSt.q HS (by repeat first | exact .h | apply Spot.t) ?_); (conv => whnf); intro hN HS1 hU; replace HS := HS1; clear HS1) | ((with_reducible refine EvKeep.cq (A := keepK _ _ (Hole _) _) HS (by repeat first | exact .h | apply Spot.t) ?_); (conv => whnf); (refine ⟨?_, ?_⟩); assumption; intro hC) | ((with_reducible refine EvKeep.nq (A := keepK _ _ (Hole _) _) HS (by repeat first | exact .h | apply Spot.t) ?_ ?_); assumption; intro hC) | ((fail_if_success with_reducible refine EvKeep.hole ?_); (with_reducible refine EvKeep.abs (fun X kK => ?_)))) <;> conv => whnf)
  all_goals
    refine ⟨congrArg (Value.int .i64) ?_, rfl⟩
    first
    | exact q.1 c
    | exact q.2 c
theorem high_c (x y : Int) (x0 : -4294967296 ≤ x) (x1 : x ≤ 4294967296) (y0 : -2147483648 ≤ y) (y1 : y ≤ 4294967295) (h : Hp) : HC Try.prog 171 [.int .i64 x, .int .i64 y] h fun v h' => v = .int .i64 (x * y / 4294967296) ∧ h' = h := by
  have b1 := mul_range (x := x) (y := y % 65536) (A := 4294967296) (B := 65536) (by omega) (by omega) (by omega) (by omega) (by omega) (by omega)
  have b2 := mul_range (x := x) (y := y / 65536) (A := 4294967296) (B := 65536) (by omega) (by omega) (by omega) (by omega) (by omega) (by omega)
  have e0 : IntKind.i64.wrap (y - Go.bits .and .i64 y 65535) = 65536 * (y / 65536) := by rw [and_65535, i64w _ (by omega) (by omega)]; omega
  have e1 : IntKind.i64.wrap (x * (65536 * (y / 65536) / 65536)) = x * (y / 65536) := by rw [show 65536 * (y / 65536) / 65536 = y / 65536 by omega, i64w _ (by omega) (by omega)]
  have e2 : IntKind.i64.wrap (x * Go.bits .and .i64 y 65535) = x * (y % 65536) := by rw [and_65535, i64w _ (by omega) (by omega)]
  refine hc_of Try.func171 (rfl : Try.f171.body = some _) Try.ntmps171 Try.results171 Try.call171 rfl ?_; have HS := Sep.nil h; conv => whnf
  repeat' ((first | (with_reducible first | refine EvSeq.go ?_ | refine EvIf.tt ?_ | refine EvIf.ff ?_) | ((with_reducible refine Hole.mk (kK ?_)); clear kK) | ((with_reducible refine EvIf.mk (fun c => ?_) (fun c => ?_)) <;> (try simp only [cs_] at c) <;> (try (exfalso; first | omega | (revert c; decide)))) | ((with_reducible refine EvNew.sep HS ?_); intro bN hN HS1 hX; replace HS := HS1; clear HS1) | ((with_reducible refine EvIdx.lit ?_ ?_ ?_); (first | omega | decide); (first | omega | decide)) | ((with_reducible first | refine EvNe.mk ?_ ?_ | refine EvGe.mk ?_ ?_); (first | decide | omega)) | ((with_reducible refine EvLd.q HS (by repeat first | exact .h | apply Spot.t) ?_); (conv => whnf); intro hC) | (with_reducible refine EvLdN.q HS (by repeat first | exact .h | apply Spot.t) (fun hC => ?_)) | ((with_reducible refine EvSt.q HS (by repeat first | exact .h | apply Spot.t) ?_); (conv => whnf); intro hN HS1 hU; replace HS := HS1; clear HS1) | ((with_reducible refine EvKeep.cq (A := keepK _ _ (Hole _) _) HS (by repeat first | exact .h | apply Spot.t) ?_); (conv => whnf); (refine ⟨?_, ?_⟩); assumption; intro hC) | ((with_reducible refine EvKeep.nq (A := keepK _ _ (Hole _) _) HS (by repeat first | exact .h | apply Spot.t) ?_ ?_); assumption; intro hC) | ((fail_if_success with_reducible refine EvKeep.hole ?_); (with_reducible refine EvKeep.abs (fun X kK => ?_)))) <;> conv => whnf)
  refine EvCall.mk ((floor_c _ _ (by decide) (by rw [e0]; omega) (by rw [e0]; omega) _).mono ?_)
  rintro _ _ ⟨rfl, rfl⟩
  conv => whnf
  repeat' ((first | (with_reducible first | refine EvSeq.go ?_ | refine EvIf.tt ?_ | refine EvIf.ff ?_) | ((with_reducible refine Hole.mk (kK ?_)); clear kK) | ((with_reducible refine EvIf.mk (fun c => ?_) (fun c => ?_)) <;> (try simp only [cs_] at c) <;> (try (exfalso; first | omega | (revert c; decide)))) | ((with_reducible refine EvNew.sep HS ?_); intro bN hN HS1 hX; replace HS := HS1; clear HS1) | ((with_reducible refine EvIdx.lit ?_ ?_ ?_); (first | omega | decide); (first | omega | decide)) | ((with_reducible first | refine EvNe.mk ?_ ?_ | refine EvGe.mk ?_ ?_); (first | decide | omega)) | ((with_reducible refine EvLd.q HS (by repeat first | exact .h | apply Spot.t) ?_); (conv => whnf); intro hC) | (with_reducible refine EvLdN.q HS (by repeat first | exact .h | apply Spot.t) (fun hC => ?_)) | ((with_reducible refine EvSt.q HS (by repeat first | exact .h | apply Spot.t) ?_); (conv => whnf); intro hN HS1 hU; replace HS := HS1; clear HS1) | ((with_reducible refine EvKeep.cq (A := keepK _ _ (Hole _) _) HS (by repeat first | exact .h | apply Spot.t) ?_); (conv => whnf); (refine ⟨?_, ?_⟩); assumption; intro hC) | ((with_reducible refine EvKeep.nq (A := keepK _ _ (Hole _) _) HS (by repeat first | exact .h | apply Spot.t) ?_ ?_); assumption; intro hC) | ((fail_if_success with_reducible refine EvKeep.hole ?_); (with_reducible refine EvKeep.abs (fun X kK => ?_)))) <;> conv => whnf)
  refine EvCall.mk ((floor_c _ _ (by decide) (by rw [e2]; omega) (by rw [e2]; omega) _).mono ?_)
  rintro _ _ ⟨rfl, rfl⟩
  conv => whnf
  repeat' ((first | (with_reducible first | refine EvSeq.go ?_ | refine EvIf.tt ?_ | refine EvIf.ff ?_) | ((with_reducible refine Hole.mk (kK ?_)); clear kK) | ((with_reducible refine EvIf.mk (fun c => ?_) (fun c => ?_)) <;> (try simp only [cs_] at c) <;> (try (exfalso; first | omega | (revert c; decide)))) | ((with_reducible refine EvNew.sep HS ?_); intro bN hN HS1 hX; replace HS := HS1; clear HS1) | ((with_reducible refine EvIdx.lit ?_ ?_ ?_); (first | omega | decide); (first | omega | decide)) | ((with_reducible first | refine EvNe.mk ?_ ?_ | refine EvGe.mk ?_ ?_); (first | decide | omega)) | ((with_reducible refine EvLd.q HS (by repeat first | exact .h | apply Spot.t) ?_); (conv => whnf); intro hC) | (with_reducible refine EvLdN.q HS (by repeat first | exact .h | apply Spot.t) (fun hC => ?_)) | ((with_reducible refine EvSt.q HS (by repeat first | exact .h | apply Spot.t) ?_); (conv => whnf); intro hN HS1 hU; replace HS := HS1; clear HS1) | ((with_reducible refine EvKeep.cq (A := keepK _ _ (Hole _) _) HS (by repeat first | exact .h | apply Spot.t) ?_); (conv => whnf); (refine ⟨?_, ?_⟩); assumption; intro hC) | ((with_reducible refine EvKeep.nq (A := keepK _ _ (Hole _) _) HS (by repeat first | exact .h | apply Spot.t) ?_ ?_); assumption; intro hC) | ((fail_if_success with_reducible refine EvKeep.hole ?_); (with_reducible refine EvKeep.abs (fun X kK => ?_)))) <;> conv => whnf)
  have e3 : IntKind.i64.wrap (IntKind.i64.wrap (x * (IntKind.i64.wrap (y - Go.bits .and .i64 y 65535) / 65536)) + IntKind.i64.wrap (x * Go.bits .and .i64 y 65535) / 65536) = x * (y / 65536) + x * (y % 65536) / 65536 := by rw [e0, e1, e2, i64w _ (by omega) (by omega)]
  refine EvCall.mk ((floor_c _ _ (by decide) (by rw [e3]; omega) (by rw [e3]; omega) _).mono ?_)
  rintro _ _ ⟨rfl, rfl⟩
  conv => whnf
  repeat' ((first | (with_reducible first | refine EvSeq.go ?_ | refine EvIf.tt ?_ | refine EvIf.ff ?_) | ((with_reducible refine Hole.mk (kK ?_)); clear kK) | ((with_reducible refine EvIf.mk (fun c => ?_) (fun c => ?_)) <;> (try simp only [cs_] at c) <;> (try (exfalso; first | omega | (revert c; decide)))) | ((with_reducible refine EvNew.sep HS ?_); intro bN hN HS1 hX; replace HS := HS1; clear HS1) | ((with_reducible refine EvIdx.lit ?_ ?_ ?_); (first | omega | decide); (first | omega | decide)) | ((with_reducible first | refine EvNe.mk ?_ ?_ | refine EvGe.mk ?_ ?_); (first | decide | omega)) | ((with_reducible refine EvLd.q HS (by repeat first | exact .h | apply Spot.t) ?_); (conv => whnf); intro hC) | (with_reducible refine EvLdN.q HS (by repeat first | exact .h | apply Spot.t) (fun hC => ?_)) | ((with_reducible refine EvSt.q HS (by repeat first | exact .h | apply Spot.t) ?_); (conv => whnf); intro hN HS1 hU; replace HS := HS1; clear HS1) | ((with_reducible refine EvKeep.cq (A := keepK _ _ (Hole _) _) HS (by repeat first | exact .h | apply Spot.t) ?_); (conv => whnf); (refine ⟨?_, ?_⟩); assumption; intro hC) | ((with_reducible refine EvKeep.nq (A := keepK _ _ (Hole _) _) HS (by repeat first | exact .h | apply Spot.t) ?_ ?_); assumption; intro hC) | ((fail_if_success with_reducible refine EvKeep.hole ?_); (with_reducible refine EvKeep.abs (fun X kK => ?_)))) <;> conv => whnf)
  refine ⟨congrArg (Value.int .i64) ?_, rfl⟩
  rw [e3]
  have e : x * y = 65536 * (x * (y / 65536)) + x * (y % 65536) := by
    have h := Int.mul_ediv_add_emod y 65536
    calc x * y = x * (65536 * (y / 65536) + y % 65536) := by rw [h]
      _ = _ := by grind
  rw [e]
  omega
theorem divide_c (x y : Int) (hy : y ≠ 0) (x0 : -4294967296 ≤ x) (x1 : x ≤ 4294967296) (h : Hp) : HC Try.prog 174 [.int .i64 x, .int .i64 y] h fun v h' => v = .tuple #[.int .i64 (x.tdiv y), .int .i64 (x.tmod y)] ∧ h' = h := by
  have hh := Int.natAbs_tdiv_le_natAbs x y
  have e := Int.mul_tdiv_add_tmod x y
  have hm := Int.natAbs_tmod x y
  have hm' := Nat.mod_le x.natAbs y.natAbs
  refine hc_of Try.func174 (rfl : Try.f174.body = some _) Try.ntmps174 Try.results174 Try.call174 rfl ?_; have HS := Sep.nil h; conv => whnf
  repeat' ((first | (with_reducible first | refine EvSeq.go ?_ | refine EvIf.tt ?_ | refine EvIf.ff ?_) | ((with_reducible refine Hole.mk (kK ?_)); clear kK) | ((with_reducible refine EvIf.mk (fun c => ?_) (fun c => ?_)) <;> (try simp only [cs_] at c) <;> (try (exfalso; first | omega | (revert c; decide)))) | ((with_reducible refine EvNew.sep HS ?_); intro bN hN HS1 hX; replace HS := HS1; clear HS1) | ((with_reducible refine EvIdx.lit ?_ ?_ ?_); (first | omega | decide); (first | omega | decide)) | ((with_reducible first | refine EvNe.mk ?_ ?_ | refine EvGe.mk ?_ ?_); (first | decide | omega)) | ((with_reducible refine EvLd.q HS (by repeat first | exact .h | apply Spot.t) ?_); (conv => whnf); intro hC) | (with_reducible refine EvLdN.q HS (by repeat first | exact .h | apply Spot.t) (fun hC => ?_)) | ((with_reducible refine EvSt.q HS (by repeat first | exact .h | apply Spot.t) ?_); (conv => whnf); intro hN HS1 hU; replace HS := HS1; clear HS1) | ((with_reducible refine EvKeep.cq (A := keepK _ _ (Hole _) _) HS (by repeat first | exact .h | apply Spot.t) ?_); (conv => whnf); (refine ⟨?_, ?_⟩); assumption; intro hC) | ((with_reducible refine EvKeep.nq (A := keepK _ _ (Hole _) _) HS (by repeat first | exact .h | apply Spot.t) ?_ ?_); assumption; intro hC) | ((fail_if_success with_reducible refine EvKeep.hole ?_); (with_reducible refine EvKeep.abs (fun X kK => ?_)))) <;> conv => whnf)
  have e1 : IntKind.i64.wrap (x.tdiv y) = x.tdiv y := i64w _ (by omega) (by omega)
  refine ⟨?_, rfl⟩
  show Value.tuple #[.int .i64 (IntKind.i64.wrap (x.tdiv y)), .int .i64 (IntKind.i64.wrap (x - IntKind.i64.wrap (IntKind.i64.wrap (x.tdiv y) * y)))] = _
  rw [e1, Int.mul_comm (x.tdiv y) y, i64w (y * x.tdiv y) (by omega) (by omega), i64w _ (by omega) (by omega), show x - y * x.tdiv y = x.tmod y by omega]
def bop (how : Int) (x y : Nat) : Nat := if how = 1 then x &&& y else if how = 2 then x ||| y else x ^^^ y
theorem bop_bit (how : Int) (X Y k : Nat) : bop how X Y / 2 ^ k % 2 = bop how (X / 2 ^ k % 2) (Y / 2 ^ k % 2) % 2 := by
  unfold bop
  split
  · rw [Nat.and_div_two_pow, show (2 : Nat) = 2 ^ 1 from rfl, Nat.and_mod_two_pow, Nat.and_mod_two_pow, Nat.mod_mod, Nat.mod_mod]
  · split
    · rw [Nat.or_div_two_pow, show (2 : Nat) = 2 ^ 1 from rfl, Nat.or_mod_two_pow, Nat.or_mod_two_pow, Nat.mod_mod, Nat.mod_mod]
    · rw [Nat.xor_div_two_pow, show (2 : Nat) = 2 ^ 1 from rfl, Nat.xor_mod_two_pow, Nat.xor_mod_two_pow, Nat.mod_mod, Nat.mod_mod]
theorem bop_lt (how : Int) (X Y : Nat) (hX : X < 2 ^ 32) (hY : Y < 2 ^ 32) : bop how X Y < 2 ^ 32 := by
  unfold bop
  split
  · exact Nat.and_lt_two_pow _ hY
  · split
    · exact Nat.or_lt_two_pow hX hY
    · exact Nat.xor_lt_two_pow hX hY
theorem bit_at (X k : Nat) (hX : X < 2 ^ 32) : (IntKind.i64.wrap ((X : Int).tdiv (2 ^ k))).tmod 2 = ((X / 2 ^ k % 2 : Nat) : Int) := by
  have h := Nat.div_le_self X (2 ^ k)
  have hc : ((2 ^ k : Nat) : Int) = (2 : Int) ^ k := by simp
  rw [tdiv_pos (by omega), ← hc, ← Int.natCast_ediv]
  generalize X / 2 ^ k = q at *
  rw [i64w _ (by omega) (by omega), tmod_pos (by omega)]
  omega
set_option maxHeartbeats 4000000 in
theorem l1Bits_c (how : Int) (hh : how = 1 ∨ how = 2 ∨ how = 3) (X Y : Nat) (hX : X < 2 ^ 32) (hY : Y < 2 ^ 32) (h : Hp) : HC Try.prog 170 [.int .i64 how, .int .i64 X, .int .i64 Y] h fun v h' => v = .int .i64 (bop how X Y : Nat) ∧ h' = h := by
  refine hc_of Try.func170 (rfl : Try.f170.body = some _) Try.ntmps170 Try.results170 Try.call170 rfl ?_; have HS := Sep.nil h; conv => whnf
  repeat' ((first | (with_reducible first | refine EvSeq.go ?_ | refine EvIf.tt ?_ | refine EvIf.ff ?_) | ((with_reducible refine Hole.mk (kK ?_)); clear kK) | ((with_reducible refine EvIf.mk (fun c => ?_) (fun c => ?_)) <;> (try simp only [cs_] at c) <;> (try (exfalso; first | omega | (revert c; decide)))) | ((with_reducible refine EvNew.sep HS ?_); intro bN hN HS1 hX; replace HS := HS1; clear HS1) | ((with_reducible refine EvIdx.lit ?_ ?_ ?_); (first | omega | decide); (first | omega | decide)) | ((with_reducible first | refine EvNe.mk ?_ ?_ | refine EvGe.mk ?_ ?_); (first | decide | omega)) | ((with_reducible refine EvLd.q HS (by repeat first | exact .h | apply Spot.t) ?_); (conv => whnf); intro hC) | (with_reducible refine EvLdN.q HS (by repeat first | exact .h | apply Spot.t) (fun hC => ?_)) | ((with_reducible refine EvSt.q HS (by repeat first | exact .h | apply Spot.t) ?_); (conv => whnf); intro hN HS1 hU; replace HS := HS1; clear HS1) | ((with_reducible refine EvKeep.cq (A := keepK _ _ (Hole _) _) HS (by repeat first | exact .h | apply Spot.t) ?_); (conv => whnf); (refine ⟨?_, ?_⟩); assumption; intro hC) | ((with_reducible refine EvKeep.nq (A := keepK _ _ (Hole _) _) HS (by repeat first | exact .h | apply Spot.t) ?_ ?_); assumption; intro hC) | ((fail_if_success with_reducible refine EvKeep.hole ?_); (with_reducible refine EvKeep.abs (fun X kK => ?_)))) <;> conv => whnf)
  refine EvLoop.keep ([7, 8, 9, 10, 11, 12, 13, 14, 15, 16, 17, 18, 19, 20, 21, 22, 23, 24, 25, 26, 27, 28, 29, 30, 31, 32, 33, 34, 35, 36, 37, 38, 39, 40, 41, 42, 43, 44, 45, 46, 47, 48, 49, 50, 51, 52, 53, 54, 55], 12) (α := Nat) (fun k => [(9, .int .i64 k), (8, .int .i64 (2 ^ k)), (7, .int .i64 (bop how X Y % 2 ^ k : Nat))]) (fun k h' => k ≤ 32 ∧ h' = h) (fun k => 32 - k) 0 ⟨rfl, rfl, congrArg (fun z : Nat => some (Value.int .i64 z)) (Nat.mod_one _).symm, (by (repeat' (first | exact trivial | refine ⟨rfl, ?_⟩)))⟩ ⟨by omega, rfl⟩ ?_
  rintro k _ ⟨hk, rfl⟩
  have ex := bit_at X k hX
  have ey := bit_at Y k hY
  have eb := bop_bit how X Y k
  have em := Nat.mod_pow_succ (x := bop how X Y) (b := 2) (k := k)
  have hp := pow_le62 k (by omega)
  have hp1 := pow_le62 (k + 1) (by omega)
  have hps : (2 : Int) ^ (k + 1) = 2 ^ k * 2 := Int.pow_succ ..
  have hc : ((2 ^ k : Nat) : Int) = (2 : Int) ^ k := by simp
  have hlt : bop how X Y % 2 ^ k < 2 ^ k := Nat.mod_lt _ (Nat.pow_pos (by decide))
  have hX2 : X / 2 ^ k % 2 = 0 ∨ X / 2 ^ k % 2 = 1 := by omega
  have hY2 : Y / 2 ^ k % 2 = 0 ∨ Y / 2 ^ k % 2 = 1 := by omega
  by_cases hk32 : k = 32
  · subst hk32
    conv => whnf
    repeat' ((first | (with_reducible first | refine EvSeq.go ?_ | refine EvIf.tt ?_ | refine EvIf.ff ?_) | ((with_reducible refine Hole.mk (kK ?_)); clear kK) | ((with_reducible refine EvIf.mk (fun c => ?_) (fun c => ?_)) <;> (try simp only [cs_] at c) <;> (try (exfalso; first | omega | (revert c; decide)))) | ((with_reducible refine EvNew.sep HS ?_); intro bN hN HS1 hX; replace HS := HS1; clear HS1) | ((with_reducible refine EvIdx.lit ?_ ?_ ?_); (first | omega | decide); (first | omega | decide)) | ((with_reducible first | refine EvNe.mk ?_ ?_ | refine EvGe.mk ?_ ?_); (first | decide | omega)) | ((with_reducible refine EvLd.q HS (by repeat first | exact .h | apply Spot.t) ?_); (conv => whnf); intro hC) | (with_reducible refine EvLdN.q HS (by repeat first | exact .h | apply Spot.t) (fun hC => ?_)) | ((with_reducible refine EvSt.q HS (by repeat first | exact .h | apply Spot.t) ?_); (conv => whnf); intro hN HS1 hU; replace HS := HS1; clear HS1) | ((with_reducible refine EvKeep.cq (A := keepK _ _ (Hole _) _) HS (by repeat first | exact .h | apply Spot.t) ?_); (conv => whnf); (refine ⟨?_, ?_⟩); assumption; intro hC) | ((with_reducible refine EvKeep.nq (A := keepK _ _ (Hole _) _) HS (by repeat first | exact .h | apply Spot.t) ?_ ?_); assumption; intro hC) | ((fail_if_success with_reducible refine EvKeep.hole ?_); (with_reducible refine EvKeep.abs (fun X kK => ?_)))) <;> conv => whnf)
    refine ⟨congrArg (fun z : Nat => Value.int .i64 z) ?_, rfl⟩
    exact Nat.mod_eq_of_lt (bop_lt how X Y hX hY)
  · have e9 : IntKind.i64.wrap ((k : Int) + 1) = ((k + 1 : Nat) : Int) := (i64w _ (by omega) (by omega)).trans (by omega)
    have e8 : IntKind.i64.wrap ((2 : Int) ^ k * 2) = 2 ^ (k + 1) := by rw [hps, i64w _ (by omega) (by omega)]
    have e7 : IntKind.i64.wrap (((bop how X Y % 2 ^ k : Nat) : Int) + 2 ^ k) = ((bop how X Y % 2 ^ k + 2 ^ k : Nat) : Int) := (i64w _ (by omega) (by omega)).trans (by omega)
    obtain ⟨xb, hxb⟩ : ∃ xb, X / 2 ^ k % 2 = xb := ⟨_, rfl⟩
    obtain ⟨yb, hyb⟩ : ∃ yb, Y / 2 ^ k % 2 = yb := ⟨_, rfl⟩
    rw [hxb] at ex hX2 eb
    rw [hyb] at ey hY2 eb
    have es : IntKind.i64.wrap ((IntKind.i64.wrap ((X : Int).tdiv (2 ^ k))).tmod 2 + (IntKind.i64.wrap ((Y : Int).tdiv (2 ^ k))).tmod 2) = (xb : Int) + yb := by rw [ex, ey, i64w _ (by omega) (by omega)]
    have hyes : bop how xb yb % 2 = 1 → bop how X Y % 2 ^ (k + 1) = bop how X Y % 2 ^ k + 2 ^ k := fun e => by rw [em, eb, e, Nat.mul_one]
    have hno : bop how xb yb % 2 = 0 → bop how X Y % 2 ^ (k + 1) = bop how X Y % 2 ^ k := fun e => by rw [em, eb, e, Nat.mul_zero, Nat.add_zero]
    conv => whnf
    repeat' ((first | (with_reducible first | refine EvSeq.go ?_ | refine EvIf.tt ?_ | refine EvIf.ff ?_) | ((with_reducible refine Hole.mk (kK ?_)); clear kK) | ((with_reducible refine EvIf.mk (fun c => ?_) (fun c => ?_)) <;> (try simp only [cs_] at c) <;> (try (exfalso; first | omega | (revert c; decide)))) | ((with_reducible refine EvNew.sep HS ?_); intro bN hN HS1 hX; replace HS := HS1; clear HS1) | ((with_reducible refine EvIdx.lit ?_ ?_ ?_); (first | omega | decide); (first | omega | decide)) | ((with_reducible first | refine EvNe.mk ?_ ?_ | refine EvGe.mk ?_ ?_); (first | decide | omega)) | ((with_reducible refine EvLd.q HS (by repeat first | exact .h | apply Spot.t) ?_); (conv => whnf); intro hC) | (with_reducible refine EvLdN.q HS (by repeat first | exact .h | apply Spot.t) (fun hC => ?_)) | ((with_reducible refine EvSt.q HS (by repeat first | exact .h | apply Spot.t) ?_); (conv => whnf); intro hN HS1 hU; replace HS := HS1; clear HS1) | ((with_reducible refine EvKeep.cq (A := keepK _ _ (Hole _) _) HS (by repeat first | exact .h | apply Spot.t) ?_); (conv => whnf); (refine ⟨?_, ?_⟩); assumption; intro hC) | ((with_reducible refine EvKeep.nq (A := keepK _ _ (Hole _) _) HS (by repeat first | exact .h | apply Spot.t) ?_ ?_); assumption; intro hC) | ((fail_if_success with_reducible refine EvKeep.hole ?_); (with_reducible refine EvKeep.abs (fun X kK => ?_)))) <;> conv => whnf)
    all_goals
      rcases hh with rfl | rfl | rfl <;> rcases hX2 with rfl | rfl <;> rcases hY2 with rfl | rfl <;> first
        | (exfalso; omega)
        | exact ⟨k + 1, ⟨congrArg (fun z => some (Value.int .i64 z)) e9, congrArg (fun z => some (Value.int .i64 z)) e8, congrArg (fun z => some (Value.int .i64 z)) (e7.trans (congrArg (fun z : Nat => (z : Int)) (hyes (by decide)).symm)), (by (repeat' (first | exact trivial | refine ⟨rfl, ?_⟩)))⟩, ⟨by omega, rfl⟩, by omega⟩
        | exact ⟨k + 1, ⟨congrArg (fun z => some (Value.int .i64 z)) e9, congrArg (fun z => some (Value.int .i64 z)) e8, congrArg (fun z : Nat => some (Value.int .i64 (z : Int))) (hno (by decide)).symm, (by (repeat' (first | exact trivial | refine ⟨rfl, ?_⟩)))⟩, ⟨by omega, rfl⟩, by omega⟩
theorem pow_split (n : Nat) (hn : n ≤ 32) : (2 : Int) ^ (32 - n) * 2 ^ n = 4294967296 := by
  rw [← Int.pow_add, show 32 - n + n = 32 by omega]; decide
theorem power_e {z : Int} {n : Nat} (e : z = n) (hn : n ≤ 62) (h : Hp) : HC Try.prog 77 [.int .i64 z] h fun v h' => v = .int .i64 (2 ^ n) ∧ h' = h := by
  subst e
  exact power_c n h hn
theorem shift3_c (x : Int) (n : Nat) (hx : 0 ≤ x) (hx' : x < 4294967296) (hn : n < 32) (h : Hp) : HC Try.prog 169 [.int .i64 3, .int .i64 x, .int .i64 n] h fun v h' => v = .int .i64 (x * 2 ^ n % 4294967296) ∧ h' = h := by
  have e0 : IntKind.i64.wrap (32 - (n : Int)) = ((32 - n : Nat) : Int) := (i64w _ (by omega) (by omega)).trans (by omega)
  have hp := pow_split n (by omega)
  have h1 : (0 : Int) < 2 ^ (32 - n) := Int.pow_pos (by decide)
  have h2 : (0 : Int) < 2 ^ n := Int.pow_pos (by decide)
  have e := Int.mul_emod_mul_of_pos x (2 ^ (32 - n)) h2
  rw [Int.mul_comm (2 ^ n) (2 ^ (32 - n)), hp, Int.mul_comm (2 ^ n) x, Int.mul_comm (2 ^ n)] at e
  refine hc_of Try.func169 (rfl : Try.f169.body = some _) Try.ntmps169 Try.results169 Try.call169 rfl ?_; have HS := Sep.nil h; conv => whnf
  repeat' ((first | ((with_reducible refine EvDraw.ord (id := 2) (.go 0 (.go 1 (.go 2 (.go 5 (.alt 3 (.go 4 (.alt 6 (.go 7 (.go 8 .done)) .stop)) .stop))))) fol ?_ ?_ ?_); kernel_rfl; kernel_rfl) | ((with_reducible refine EvCall.mk (HC.mono (power_e e0 (by omega) _) ?_)); (rintro _ _ ⟨rfl, rfl⟩)) | ((with_reducible refine EvCall.mk (HC.mono (power_c _ _ (by omega)) ?_)); (rintro _ _ ⟨rfl, rfl⟩)) | (with_reducible first | refine EvSeq.go ?_ | refine EvIf.tt ?_ | refine EvIf.ff ?_) | ((with_reducible refine Hole.mk (kK ?_)); clear kK) | ((with_reducible refine EvIf.mk (fun c => ?_) (fun c => ?_)) <;> (try simp only [cs_] at c) <;> (try (exfalso; first | omega | (revert c; decide)))) | ((with_reducible refine EvNew.sep HS ?_); intro bN hN HS1 hX; replace HS := HS1; clear HS1) | ((with_reducible refine EvIdx.lit ?_ ?_ ?_); (first | omega | decide); (first | omega | decide)) | ((with_reducible first | refine EvNe.mk ?_ ?_ | refine EvGe.mk ?_ ?_); (first | decide | omega)) | ((with_reducible refine EvLd.q HS (by repeat first | exact .h | apply Spot.t) ?_); (conv => whnf); intro hC) | (with_reducible refine EvLdN.q HS (by repeat first | exact .h | apply Spot.t) (fun hC => ?_)) | ((with_reducible refine EvSt.q HS (by repeat first | exact .h | apply Spot.t) ?_); (conv => whnf); intro hN HS1 hU; replace HS := HS1; clear HS1) | ((with_reducible refine EvKeep.cq (A := keepK _ _ (Hole _) _) HS (by repeat first | exact .h | apply Spot.t) ?_); (conv => whnf); (refine ⟨?_, ?_⟩); assumption; intro hC) | ((with_reducible refine EvKeep.nq (A := keepK _ _ (Hole _) _) HS (by repeat first | exact .h | apply Spot.t) ?_ ?_); assumption; intro hC) | ((fail_if_success with_reducible refine EvKeep.hole ?_); (with_reducible refine EvKeep.abs (fun X kK => ?_)))) <;> conv => whnf)
  refine ⟨congrArg (Value.int .i64) ?_, rfl⟩
  rw [tmod_pos hx, ← e, i64w _ (by omega) (by omega)]
theorem shift7_c (x : Int) (n : Nat) (hx : 0 ≤ x) (hx' : x < 4294967296) (hn : n < 32) (h : Hp) : HC Try.prog 169 [.int .i64 7, .int .i64 x, .int .i64 n] h fun v h' => v = .int .i64 (x / 2 ^ n) ∧ h' = h := by
  have h2 : (0 : Int) < 2 ^ n := Int.pow_pos (by decide)
  have h3 := ediv_le x (2 ^ n) hx (by omega)
  refine hc_of Try.func169 (rfl : Try.f169.body = some _) Try.ntmps169 Try.results169 Try.call169 rfl ?_; have HS := Sep.nil h; conv => whnf
  repeat' ((first | ((with_reducible refine EvDraw.ord (id := 2) (.go 0 (.go 1 (.go 2 (.go 5 (.alt 3 (.go 4 (.alt 6 (.go 7 (.go 8 .done)) .stop)) .stop))))) fol ?_ ?_ ?_); kernel_rfl; kernel_rfl) | ((with_reducible refine EvCall.mk (HC.mono (power_c _ _ (by omega)) ?_)); (rintro _ _ ⟨rfl, rfl⟩)) | (with_reducible first | refine EvSeq.go ?_ | refine EvIf.tt ?_ | refine EvIf.ff ?_) | ((with_reducible refine Hole.mk (kK ?_)); clear kK) | ((with_reducible refine EvIf.mk (fun c => ?_) (fun c => ?_)) <;> (try simp only [cs_] at c) <;> (try (exfalso; first | omega | (revert c; decide)))) | ((with_reducible refine EvNew.sep HS ?_); intro bN hN HS1 hX; replace HS := HS1; clear HS1) | ((with_reducible refine EvIdx.lit ?_ ?_ ?_); (first | omega | decide); (first | omega | decide)) | ((with_reducible first | refine EvNe.mk ?_ ?_ | refine EvGe.mk ?_ ?_); (first | decide | omega)) | ((with_reducible refine EvLd.q HS (by repeat first | exact .h | apply Spot.t) ?_); (conv => whnf); intro hC) | (with_reducible refine EvLdN.q HS (by repeat first | exact .h | apply Spot.t) (fun hC => ?_)) | ((with_reducible refine EvSt.q HS (by repeat first | exact .h | apply Spot.t) ?_); (conv => whnf); intro hN HS1 hU; replace HS := HS1; clear HS1) | ((with_reducible refine EvKeep.cq (A := keepK _ _ (Hole _) _) HS (by repeat first | exact .h | apply Spot.t) ?_); (conv => whnf); (refine ⟨?_, ?_⟩); assumption; intro hC) | ((with_reducible refine EvKeep.nq (A := keepK _ _ (Hole _) _) HS (by repeat first | exact .h | apply Spot.t) ?_ ?_); assumption; intro hC) | ((fail_if_success with_reducible refine EvKeep.hole ?_); (with_reducible refine EvKeep.abs (fun X kK => ?_)))) <;> conv => whnf)
  refine ⟨congrArg (Value.int .i64) ?_, rfl⟩
  rw [tdiv_pos hx, i64w _ (by omega) (by omega)]
theorem shift8_c (x : Int) (n : Nat) (hn : n < 32) (h : Hp) : HC Try.prog 169 [.int .i64 8, .int .i64 x, .int .i64 n] h fun v h' => v = .int .i64 (sg x / 2 ^ n % 4294967296) ∧ h' = h := by
  have h2 : (0 : Int) < 2 ^ n := Int.pow_pos (by decide)
  have h3 := sg_range x
  refine hc_of Try.func169 (rfl : Try.f169.body = some _) Try.ntmps169 Try.results169 Try.call169 rfl ?_; have HS := Sep.nil h; conv => whnf
  repeat' ((first | ((with_reducible refine EvDraw.ord (id := 2) (.go 0 (.go 1 (.go 2 (.go 5 (.alt 3 (.go 4 (.alt 6 (.go 7 (.go 8 .done)) .stop)) .stop))))) fol ?_ ?_ ?_); kernel_rfl; kernel_rfl) | ((with_reducible refine EvCall.mk (HC.mono (power_c _ _ (by omega)) ?_)); (rintro _ _ ⟨rfl, rfl⟩)) | ((with_reducible refine EvCall.mk (HC.mono (sSigned_c _ _) ?_)); (rintro _ _ ⟨rfl, rfl⟩)) | ((with_reducible refine EvCall.mk (HC.mono (floor_c _ _ h2 (by omega) (by omega) _) ?_)); (rintro _ _ ⟨rfl, rfl⟩)) | ((with_reducible refine EvCall.mk (HC.mono (sWord_c _ _) ?_)); (rintro _ _ ⟨rfl, rfl⟩)) | (with_reducible first | refine EvSeq.go ?_ | refine EvIf.tt ?_ | refine EvIf.ff ?_) | ((with_reducible refine Hole.mk (kK ?_)); clear kK) | ((with_reducible refine EvIf.mk (fun c => ?_) (fun c => ?_)) <;> (try simp only [cs_] at c) <;> (try (exfalso; first | omega | (revert c; decide)))) | ((with_reducible refine EvNew.sep HS ?_); intro bN hN HS1 hX; replace HS := HS1; clear HS1) | ((with_reducible refine EvIdx.lit ?_ ?_ ?_); (first | omega | decide); (first | omega | decide)) | ((with_reducible first | refine EvNe.mk ?_ ?_ | refine EvGe.mk ?_ ?_); (first | decide | omega)) | ((with_reducible refine EvLd.q HS (by repeat first | exact .h | apply Spot.t) ?_); (conv => whnf); intro hC) | (with_reducible refine EvLdN.q HS (by repeat first | exact .h | apply Spot.t) (fun hC => ?_)) | ((with_reducible refine EvSt.q HS (by repeat first | exact .h | apply Spot.t) ?_); (conv => whnf); intro hN HS1 hU; replace HS := HS1; clear HS1) | ((with_reducible refine EvKeep.cq (A := keepK _ _ (Hole _) _) HS (by repeat first | exact .h | apply Spot.t) ?_); (conv => whnf); (refine ⟨?_, ?_⟩); assumption; intro hC) | ((with_reducible refine EvKeep.nq (A := keepK _ _ (Hole _) _) HS (by repeat first | exact .h | apply Spot.t) ?_ ?_); assumption; intro hC) | ((fail_if_success with_reducible refine EvKeep.hole ?_); (with_reducible refine EvKeep.abs (fun X kK => ?_)))) <;> conv => whnf)
  exact ⟨rfl, rfl⟩
set_option maxHeartbeats 4000000 in
theorem quot_c (op a b : Int) (ho : op = 15 ∨ op = 16 ∨ op = 17 ∨ op = 18) (h : Hp) : HC Try.prog 172 [.int .i64 op, .int .i64 (a % 4294967296), .int .i64 (b % 4294967296)] h fun v h' => v = .int .i64 (alu op a b).1 ∧ h' = h := by
  have hz := sg_zero b
  have ha := sg_range a
  have sa := sg_word a
  have sb := sg_word b
  rcases ho with rfl | rfl | rfl | rfl
  all_goals
    refine hc_of Try.func172 (rfl : Try.f172.body = some _) Try.ntmps172 Try.results172 Try.call172 rfl ?_; have HS := Sep.nil h; conv => whnf
    repeat' ((first | ((with_reducible refine EvCall.mk (HC.mono (divide_c _ _ (by omega) (by omega) (by omega) _) ?_)); (rintro _ _ ⟨rfl, rfl⟩)) | ((with_reducible refine EvCall.mk (HC.mono (sSigned_c _ _) ?_)); (rintro _ _ ⟨rfl, rfl⟩)) | ((with_reducible refine EvCall.mk (HC.mono (sWord_c _ _) ?_)); (rintro _ _ ⟨rfl, rfl⟩)) | (with_reducible first | refine EvSeq.go ?_ | refine EvIf.tt ?_ | refine EvIf.ff ?_) | ((with_reducible refine Hole.mk (kK ?_)); clear kK) | ((with_reducible refine EvIf.mk (fun c => ?_) (fun c => ?_)) <;> (try simp only [cs_] at c) <;> (try (exfalso; first | omega | (revert c; decide)))) | ((with_reducible refine EvNew.sep HS ?_); intro bN hN HS1 hX; replace HS := HS1; clear HS1) | ((with_reducible refine EvIdx.lit ?_ ?_ ?_); (first | omega | decide); (first | omega | decide)) | ((with_reducible first | refine EvNe.mk ?_ ?_ | refine EvGe.mk ?_ ?_); (first | decide | omega)) | ((with_reducible refine EvLd.q HS (by repeat first | exact .h | apply Spot.t) ?_); (conv => whnf); intro hC) | (with_reducible refine EvLdN.q HS (by repeat first | exact .h | apply Spot.t) (fun hC => ?_)) | ((with_reducible refine EvSt.q HS (by repeat first | exact .h | apply Spot.t) ?_); (conv => whnf); intro hN HS1 hU; replace HS := HS1; clear HS1) | ((with_reducible refine EvKeep.cq (A := keepK _ _ (Hole _) _) HS (by repeat first | exact .h | apply Spot.t) ?_); (conv => whnf); (refine ⟨?_, ?_⟩); assumption; intro hC) | ((with_reducible refine EvKeep.nq (A := keepK _ _ (Hole _) _) HS (by repeat first | exact .h | apply Spot.t) ?_ ?_); assumption; intro hC) | ((fail_if_success with_reducible refine EvKeep.hole ?_); (with_reducible refine EvKeep.abs (fun X kK => ?_)))) <;> conv => whnf)
  all_goals refine ⟨congrArg (Value.int .i64) ?_, rfl⟩
  · show _ = if b % 4294967296 = 0 then 4294967295 else (Int.tdiv (sg a) (sg b)) % 4294967296
    rw [if_pos (by omega)]
  · show _ = if b % 4294967296 = 0 then 4294967295 else (Int.tdiv (sg a) (sg b)) % 4294967296
    rw [if_neg (by omega), sa, sb]
  · show _ = if b % 4294967296 = 0 then 4294967295 else (a % 4294967296) / (b % 4294967296)
    rw [if_pos (by omega)]
  · show _ = if b % 4294967296 = 0 then 4294967295 else (a % 4294967296) / (b % 4294967296)
    rw [if_neg (by omega), tdiv_pos (by omega)]
    have h_ := ediv_le (a % 4294967296) (b % 4294967296) (by omega) (by omega)
    rw [Int.emod_eq_of_lt (b := 4294967296) (by omega) (by omega)]
  · show _ = if b % 4294967296 = 0 then (a % 4294967296) else (Int.tmod (sg a) (sg b)) % 4294967296
    rw [if_pos (by omega)]
  · show _ = if b % 4294967296 = 0 then (a % 4294967296) else (Int.tmod (sg a) (sg b)) % 4294967296
    rw [if_neg (by omega), sa, sb]
  · show _ = if b % 4294967296 = 0 then (a % 4294967296) else (a % 4294967296) % (b % 4294967296)
    rw [if_pos (by omega)]
  · show _ = if b % 4294967296 = 0 then (a % 4294967296) else (a % 4294967296) % (b % 4294967296)
    rw [if_neg (by omega), tmod_pos (by omega)]
    have h1_ := Int.emod_nonneg (a % 4294967296) (b := b % 4294967296) (by omega)
    have h2_ := Int.emod_lt_of_pos (a % 4294967296) (show 0 < b % 4294967296 by omega)
    rw [Int.emod_eq_of_lt (b := 4294967296) (by omega) (by omega)]
theorem mul_words (x y : Int) (hx : 0 ≤ x) (hx' : x < 4294967296) (hy : 0 ≤ y) (hy' : y < 4294967296) :
    IntKind.i64.wrap (IntKind.i64.wrap (Int.tmod x 65536 * y) + IntKind.i64.wrap (Int.tmod (IntKind.i64.wrap (IntKind.i64.wrap (Int.tdiv x 65536) * Int.tmod y 65536)) 65536 * 65536)) % 4294967296 = x * y % 4294967296 := by
  simp only [iw64]
  rw [w64_word, tmod_pos hx, tdiv_pos hx, tmod_pos hy, w64 (n := x / 65536) (by omega) (by omega)]
  have b1 := mul_nn (x := x / 65536) (y := y % 65536) (A := 65536) (B := 65536) (by omega) (by omega) (by omega) (by omega)
  have b2 := mul_nn (x := x % 65536) (y := y) (A := 65536) (B := 4294967296) (by omega) (by omega) (by omega) (by omega)
  rw [w64 (n := x / 65536 * (y % 65536)) (by omega) (by omega), tmod_pos b1.1, w64 (n := x % 65536 * y) (by omega) (by omega), w64 (by omega) (by omega)]
  have e : x * y = x % 65536 * y + 65536 * (x / 65536 * (y % 65536)) + 4294967296 * (x / 65536 * (y / 65536)) := by
    have h := Int.mul_ediv_add_emod y 65536
    have g := Int.mul_ediv_add_emod x 65536
    generalize hA : x / 65536 = xh at *
    generalize hB : x % 65536 = xl at *
    generalize hC : y / 65536 = yh at *
    generalize hD : y % 65536 = yl at *
    subst h
    subst g
    grind
  omega
theorem shift3_e {x z : Int} {n : Nat} (e : z = n) (hx : 0 ≤ x) (hx' : x < 4294967296) (hn : n < 32) (h : Hp) : HC Try.prog 169 [.int .i64 3, .int .i64 x, .int .i64 z] h fun v h' => v = .int .i64 (x * 2 ^ n % 4294967296) ∧ h' = h := by subst e; exact shift3_c x n hx hx' hn h
theorem shift7_e {x z : Int} {n : Nat} (e : z = n) (hx : 0 ≤ x) (hx' : x < 4294967296) (hn : n < 32) (h : Hp) : HC Try.prog 169 [.int .i64 7, .int .i64 x, .int .i64 z] h fun v h' => v = .int .i64 (x / 2 ^ n) ∧ h' = h := by subst e; exact shift7_c x n hx hx' hn h
theorem shift8_e {x z : Int} {n : Nat} (e : z = n) (hn : n < 32) (h : Hp) : HC Try.prog 169 [.int .i64 8, .int .i64 x, .int .i64 z] h fun v h' => v = .int .i64 (sg x / 2 ^ n % 4294967296) ∧ h' = h := by subst e; exact shift8_c x n hn h
theorem l1Bits_e (how : Int) (hh : how = 1 ∨ how = 2 ∨ how = 3) (a b : Int) (h : Hp) : HC Try.prog 170 [.int .i64 how, .int .i64 (a % 4294967296), .int .i64 (b % 4294967296)] h fun v h' => v = .int .i64 (bop how (a % 4294967296).toNat (b % 4294967296).toNat : Nat) ∧ h' = h := by
  have ha := word_nat a
  have hb := word_nat b
  have := l1Bits_c how hh _ _ ha.2 hb.2 h
  rwa [ha.1, hb.1] at this
set_option maxHeartbeats 4000000 in
theorem sAlu_c (op a b : Int) (h : Hp) : HC Try.prog 164 [.int .i64 op, .int .i64 a, .int .i64 b] h fun v h' => v = tup2 (alu op a b).1 (alu op a b).2 ∧ h' = h := by
  by_cases ho : op < 1 ∨ 18 < op
  · refine hc_of Try.func164 (rfl : Try.f164.body = some _) Try.ntmps164 Try.results164 Try.call164 rfl ?_; have HS := Sep.nil h; conv => whnf
    repeat' ((first | (with_reducible first | refine EvSeq.go ?_ | refine EvIf.tt ?_ | refine EvIf.ff ?_) | ((with_reducible refine Hole.mk (kK ?_)); clear kK) | ((with_reducible refine EvIf.mk (fun c => ?_) (fun c => ?_)) <;> (try simp only [cs_] at c) <;> (try (exfalso; first | omega | (revert c; decide)))) | ((with_reducible refine EvNew.sep HS ?_); intro bN hN HS1 hX; replace HS := HS1; clear HS1) | ((with_reducible refine EvIdx.lit ?_ ?_ ?_); (first | omega | decide); (first | omega | decide)) | ((with_reducible first | refine EvNe.mk ?_ ?_ | refine EvGe.mk ?_ ?_); (first | decide | omega)) | ((with_reducible refine EvLd.q HS (by repeat first | exact .h | apply Spot.t) ?_); (conv => whnf); intro hC) | (with_reducible refine EvLdN.q HS (by repeat first | exact .h | apply Spot.t) (fun hC => ?_)) | ((with_reducible refine EvSt.q HS (by repeat first | exact .h | apply Spot.t) ?_); (conv => whnf); intro hN HS1 hU; replace HS := HS1; clear HS1) | ((with_reducible refine EvKeep.cq (A := keepK _ _ (Hole _) _) HS (by repeat first | exact .h | apply Spot.t) ?_); (conv => whnf); (refine ⟨?_, ?_⟩); assumption; intro hC) | ((with_reducible refine EvKeep.nq (A := keepK _ _ (Hole _) _) HS (by repeat first | exact .h | apply Spot.t) ?_ ?_); assumption; intro hC) | ((fail_if_success with_reducible refine EvKeep.hole ?_); (with_reducible refine EvKeep.abs (fun X kK => ?_)))) <;> conv => whnf)
    all_goals
      refine ⟨tup2_eq ?_ ?_, rfl⟩
      all_goals
        unfold alu
        simp (disch := omega) only [if_neg]
  have en : (b % 4294967296).tmod 32 = ((b % 4294967296 % 32).toNat : Int) := by rw [tmod_pos (by omega)]; omega
  have sa := sg_range a
  have sb := sg_range b
  have wa := sg_word a
  have wb := sg_word b
  obtain rfl | rfl | rfl | rfl | rfl | rfl | rfl | rfl | rfl | rfl | rfl | rfl | rfl | rfl | rfl | rfl | rfl | rfl : op = 1 ∨ op = 2 ∨ op = 3 ∨ op = 4 ∨ op = 5 ∨ op = 6 ∨ op = 7 ∨ op = 8 ∨ op = 9 ∨ op = 10 ∨ op = 11 ∨ op = 12 ∨ op = 13 ∨ op = 14 ∨ op = 15 ∨ op = 16 ∨ op = 17 ∨ op = 18 := by omega
  all_goals
    refine hc_of Try.func164 (rfl : Try.f164.body = some _) Try.ntmps164 Try.results164 Try.call164 rfl ?_; have HS := Sep.nil h; conv => whnf
    repeat' ((first | ((with_reducible refine EvCall.mk (HC.mono (sWord_c _ _) ?_)); (rintro _ _ ⟨rfl, rfl⟩)) | ((with_reducible refine EvCall.mk (HC.mono (sSigned_c _ _) ?_)); (rintro _ _ ⟨rfl, rfl⟩)) | ((with_reducible refine EvCall.mk (HC.mono (shift3_e en (by omega) (by omega) (by omega) _) ?_)); (rintro _ _ ⟨rfl, rfl⟩)) | ((with_reducible refine EvCall.mk (HC.mono (shift7_e en (by omega) (by omega) (by omega) _) ?_)); (rintro _ _ ⟨rfl, rfl⟩)) | ((with_reducible refine EvCall.mk (HC.mono (shift8_e en (by omega) _) ?_)); (rintro _ _ ⟨rfl, rfl⟩)) | ((with_reducible refine EvCall.mk (HC.mono (l1Bits_e _ (by decide) a b _) ?_)); (rintro _ _ ⟨rfl, rfl⟩)) | ((with_reducible refine EvCall.mk (HC.mono (high_c _ _ (by omega) (by omega) (by omega) (by omega) _) ?_)); (rintro _ _ ⟨rfl, rfl⟩)) | ((with_reducible refine EvCall.mk (HC.mono (quot_c _ a b (by decide) _) ?_)); (rintro _ _ ⟨rfl, rfl⟩)) | (with_reducible first | refine EvSeq.go ?_ | refine EvIf.tt ?_ | refine EvIf.ff ?_) | ((with_reducible refine Hole.mk (kK ?_)); clear kK) | ((with_reducible refine EvIf.mk (fun c => ?_) (fun c => ?_)) <;> (try simp only [cs_] at c) <;> (try (exfalso; first | omega | (revert c; decide)))) | ((with_reducible refine EvNew.sep HS ?_); intro bN hN HS1 hX; replace HS := HS1; clear HS1) | ((with_reducible refine EvIdx.lit ?_ ?_ ?_); (first | omega | decide); (first | omega | decide)) | ((with_reducible first | refine EvNe.mk ?_ ?_ | refine EvGe.mk ?_ ?_); (first | decide | omega)) | ((with_reducible refine EvLd.q HS (by repeat first | exact .h | apply Spot.t) ?_); (conv => whnf); intro hC) | (with_reducible refine EvLdN.q HS (by repeat first | exact .h | apply Spot.t) (fun hC => ?_)) | ((with_reducible refine EvSt.q HS (by repeat first | exact .h | apply Spot.t) ?_); (conv => whnf); intro hN HS1 hU; replace HS := HS1; clear HS1) | ((with_reducible refine EvKeep.cq (A := keepK _ _ (Hole _) _) HS (by repeat first | exact .h | apply Spot.t) ?_); (conv => whnf); (refine ⟨?_, ?_⟩); assumption; intro hC) | ((with_reducible refine EvKeep.nq (A := keepK _ _ (Hole _) _) HS (by repeat first | exact .h | apply Spot.t) ?_ ?_); assumption; intro hC) | ((fail_if_success with_reducible refine EvKeep.hole ?_); (with_reducible refine EvKeep.abs (fun X kK => ?_)))) <;> conv => whnf)
  · refine ⟨tup2_eq (y := true) ?_ rfl, rfl⟩
    show _ = (a % 4294967296 + b % 4294967296) % 4294967296
    rw [iw64, w64_word]
  · refine ⟨tup2_eq (y := true) ?_ rfl, rfl⟩
    show _ = (a % 4294967296 - b % 4294967296) % 4294967296
    rw [iw64, w64_word]
  · refine ⟨tup2_eq (y := true) ?_ rfl, rfl⟩
    rfl
  · refine ⟨tup2_eq (y := true) ?_ rfl, rfl⟩
    show _ = if sg a < sg b then 1 else 0
    rw [if_pos (by omega)]
  · refine ⟨tup2_eq (y := true) ?_ rfl, rfl⟩
    show _ = if sg a < sg b then 1 else 0
    rw [if_neg (by omega)]
  · refine ⟨tup2_eq (y := true) ?_ rfl, rfl⟩
    show _ = if a % 4294967296 < b % 4294967296 then 1 else 0
    rw [if_pos (by omega)]
  · refine ⟨tup2_eq (y := true) ?_ rfl, rfl⟩
    show _ = if a % 4294967296 < b % 4294967296 then 1 else 0
    rw [if_neg (by omega)]
  · refine ⟨tup2_eq (y := true) ?_ rfl, rfl⟩
    rfl
  · refine ⟨tup2_eq (y := true) ?_ rfl, rfl⟩
    rfl
  · refine ⟨tup2_eq (y := true) ?_ rfl, rfl⟩
    rw [wa]
    rfl
  · refine ⟨tup2_eq (y := true) ?_ rfl, rfl⟩
    rfl
  · refine ⟨tup2_eq (y := true) ?_ rfl, rfl⟩
    rfl
  · refine ⟨tup2_eq (y := true) ?_ rfl, rfl⟩
    show _ = (a % 4294967296) * (b % 4294967296) % 4294967296
    exact mul_words _ _ (by omega) (by omega) (by omega) (by omega)
  · refine ⟨tup2_eq (y := true) ?_ rfl, rfl⟩
    show _ = sg a * sg b / 4294967296 % 4294967296
    rw [wa, wb]
  · refine ⟨tup2_eq (y := true) ?_ rfl, rfl⟩
    show _ = sg a * (b % 4294967296) / 4294967296 % 4294967296
    rw [wa]
  · refine ⟨tup2_eq (y := true) ?_ rfl, rfl⟩
    show _ = (a % 4294967296) * (b % 4294967296) / 4294967296
    have h_ := mul_nn (x := a % 4294967296) (y := b % 4294967296) (A := 4294967295) (B := 4294967295) (by omega) (by omega) (by omega) (by omega)
    rw [Int.emod_eq_of_lt (by omega) (by omega)]
  all_goals exact ⟨rfl, rfl⟩
end Go.Proofs.Ythndggachjdkfaa
