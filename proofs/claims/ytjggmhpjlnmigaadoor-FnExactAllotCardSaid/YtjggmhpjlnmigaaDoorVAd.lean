/- Live registers: what a step after gives is taken over. -/
import Derived.Test.YtjggmhpjlnmigaaDoorVWd
namespace Go.Proofs.YtjggmhpjlnmigaaDoor
open Go.RowKit
set_option maxRecDepth 20000
set_option linter.unusedSimpArgs false
set_option linter.unusedVariables false
def orW (W V : List Nat) : List Nat := List.zipWith (· ||| ·) W V
theorem orW_len {W V : List Nat} (h : W.length = V.length) : (orW W V).length = W.length := by simp [orW, h]
theorem orW_at {W V : List Nat} {k w v : Nat} (h : W[k]? = some w) (h' : V[k]? = some v) : (orW W V)[k]? = some (w ||| v) := by
  unfold orW
  rw [List.getElem?_zipWith, h, h']
theorem orW_64 {W V : List Nat} (b : B64 W) (b' : B64 V) : B64 (orW W V) := by
  intro x hx
  obtain ⟨i, hi⟩ := List.getElem?_of_mem hx
  unfold orW at hi
  rw [List.getElem?_zipWith] at hi
  cases e1 : W[i]? with
  | none => rw [e1] at hi; cases hi
  | some w =>
    cases e2 : V[i]? with
    | none => rw [e1, e2] at hi; cases hi
    | some v =>
      rw [e1, e2] at hi
      cases hi
      have := b.at_ e1
      have := b'.at_ e2
      exact Nat.or_lt_two_pow (n := 64) (by omega) (by omega)
theorem bt_or {W V : List Nat} (h : W.length = V.length) (r : Nat) : bt (orW W V) r = (bt W r || bt V r) := by
  by_cases hr : r / 64 < W.length
  · obtain ⟨w, hw⟩ : ∃ w, W[r / 64]? = some w := ⟨_, List.getElem?_eq_getElem hr⟩
    obtain ⟨v, hv⟩ : ∃ v, V[r / 64]? = some v := ⟨_, List.getElem?_eq_getElem (by omega)⟩
    rw [bt_at (orW_at hw hv) rfl, bt_at hw rfl, bt_at hv rfl, Nat.testBit_or]
  · rw [bt_out (by rw [orW_len h]; omega), bt_out (by omega), bt_out (by omega)]
    rfl
theorem take_set_drop {α : Type} {Z W : List α} {k : Nat} {z : α} (hl : Z.length = W.length) (h : Z[k]? = some z) : (Z.take k ++ W.drop k).set k z = Z.take (k + 1) ++ W.drop (k + 1) := by
  obtain ⟨h1, h2⟩ := List.getElem?_eq_some_iff.mp h
  have hlk : (Z.take k).length = k := by rw [List.length_take]; omega
  rw [List.set_append_right _ _ (by omega), hlk, Nat.sub_self, List.drop_eq_getElem_cons (by omega), List.set_cons_zero, List.take_add_one, h, List.append_assoc]
  rfl
theorem EvSt.slx {h0 h : Hp} {L : List Asn} {T : TypeId} {A : Option Addr} {n c b o j : Nat} {vs : List Value} {v : Value} {K : Hp → Prop} (s : Sep h0 h L) (i : Nat) (hi : L[i]? = some (Sl T A n c vs)) (e : A = some ⟨b, o, none⟩) (hj : j < n)
    (k : ∀ h', Sep h0 h' (L.set i (Sl T A n c (vs.set j v))) → K h') : EvSt h b (o + j * 1) [v] K := by
  rw [Nat.mul_one]
  exact EvSt.sl (s.front i hi) e hj (fun h' q => k h' (q.unfront (List.getElem?_eq_some_iff.mp hi).1))
abbrev AddL (bo bn : Nat) (A : Option Addr) (n ca : Nat) (xs : List (Rg Nat)) (Aw : Option Addr) (N cw : Nat) (W : List Nat) (M : List Asn) : List Asn :=
  Bx bo [.slice A n ca] 56 :: Bx bn [.slice Aw N cw] 58 :: RgP eW 58 96 A n ca xs :: Sl 96 Aw N cw (W.map eW) :: M
set_option maxHeartbeats 1000000 in
theorem add_c {h0 h : Hp} {bo bn : Nat} {A : Option Addr} {n ca : Nat} {xs : List (Rg Nat)} {Aw : Option Addr} {N cw : Nat} {W : List Nat} {M : List Asn} (HS : Sep h0 h (AddL bo bn A n ca xs Aw N cw W M)) {j : Nat} {y : Rg Nat} (hy : xs[j]? = some y) (hyl : y.l.length = N) (hN : N ≤ 100) (b : B64 W) (b' : B64 y.l) :
    HC Tryd.prog 65 [.int .i64 j, .pointer (some ⟨bo, 0, none⟩), .pointer (some ⟨bn, 0, none⟩)] h fun v h' => v = .tuple #[] ∧ Sep h0 h' (AddL bo bn A n ca xs Aw N cw (orW W y.l) M) := by
  have hxl := (HS.rgl 2 rfl).1
  have hyr := HS.rgx 2 rfl hy
  have hyn := hyr.2
  have hWl : W.length = N := HS.mem_rd 3 rfl
  have hjn := (List.getElem?_eq_some_iff.mp hy).1
  have hor : (orW W y.l).length = W.length := orW_len (by omega)
  refine hc_of Tryd.func65 (rfl : Tryd.f65.body = some _) Tryd.ntmps65 Tryd.results65 Tryd.call65 rfl ?_; conv => whnf
  repeat' ((first | ((with_reducible refine EvIdx.rd (HS.rgr 2 rfl) (by simpa [rhds] using hxl) (by omega) (by omega) ?_); intro bI oI eI hI) | ((with_reducible refine EvLd.rowv (by assumption) (rhds_at hy) ?_)) | ((with_reducible refine EvLd.q HS (by repeat first | exact .h | apply Spot.t) ?_); (conv => whnf); intro hC)) <;> conv => whnf)
  refine EvLoop.keep ([4, 5, 11, 12, 13, 14, 15, 16, 17, 18, 19, 20, 21, 22, 23], 6) (α := Nat) (fun k => [(11, .int .i64 k), (10, .int .i64 y.h.n), (9, y.h.v)]) (fun k h' => k ≤ N ∧ Sep h0 h' (AddL bo bn A n ca xs Aw N cw ((orW W y.l).take k ++ W.drop k) M)) (fun k => N - k) 0 (by (repeat' (first | exact trivial | refine ⟨rfl, ?_⟩))) ⟨Nat.zero_le _, by simpa using HS⟩ ?_
  clear HS hyr
  rintro k h1 ⟨hk, HS⟩
  have hyr := HS.rgx 2 rfl hy
  conv => whnf
  obtain hlt | hge := Nat.lt_or_ge k N
  · obtain ⟨w, hw⟩ : ∃ w, W[k]? = some w := ⟨_, List.getElem?_eq_getElem (by omega)⟩
    obtain ⟨v, hv⟩ : ∃ v, y.l[k]? = some v := ⟨_, List.getElem?_eq_getElem (by omega)⟩
    have hw64 := b.at_ hw
    have hv64 := b'.at_ hv
    have vv : (y.l.map eW)[((k : Int)).toNat]? = some (eW v) := by simp [hv]
    have vw : (((orW W y.l).take k ++ W.drop k).map eW)[((k : Int)).toNat]? = some (eW w) := by
      rw [Int.toNat_natCast, List.getElem?_map, List.getElem?_append_right (by rw [List.length_take]; omega), List.length_take, List.getElem?_drop]
      rw [show k + (k - min k (orW W y.l).length) = k by omega, hw]
      rfl
    repeat' ((first | ((with_reducible refine EvIdx.rd hyr.1 (by simpa using hyn) (by omega) (by omega) ?_); intro bI oI eI hI) | ((with_reducible refine EvLd.rowv (by assumption) vv ?_)) | ((with_reducible refine EvIdx.rd (HS.rd 3 rfl) (by simp; omega) (by omega) (by omega) ?_); intro bI oI eI hI) | ((with_reducible refine EvLd.rowv (by assumption) vw ?_)) | (with_reducible first | refine EvSeq.go ?_ | refine EvIf.tt ?_ | refine EvIf.ff ?_) | ((with_reducible refine EvIf.mk (fun c => ?_) (fun c => ?_)) <;> (try simp only [cs_] at c) <;> (try (exfalso; first | omega | (revert c; decide)))) | ((with_reducible refine EvLd.q HS (by repeat first | exact .h | apply Spot.t) ?_); (conv => whnf); intro hC)) <;> conv => whnf)
    refine EvSt.slx HS 3 rfl eI (by omega) ?_
    intro h2 HS2
    clear HS
    have HS := HS2
    clear HS2
    dsimp only [List.set] at HS
    conv => whnf
    repeat' (fail <;> conv => whnf)
    refine ⟨k + 1, ⟨congrArg (fun z => some (Value.int .i64 z)) ((i64w _ (by omega) (by omega)).trans (by omega)), (by (repeat' (first | exact trivial | refine ⟨rfl, ?_⟩)))⟩, ⟨by omega, ?_⟩, by omega⟩
    have e1 : Value.int .u64 (Go.bits .or .u64 (w : Int) (v : Int)) = eW (w ||| v) := congrArg _ (u64_or_nat w v hw64 hv64)
    rw [e1, Int.toNat_natCast, ← List.map_set, take_set_drop hor (orW_at hw hv)] at HS
    exact HS
  · repeat' ((first | (with_reducible first | refine EvSeq.go ?_ | refine EvIf.tt ?_ | refine EvIf.ff ?_) | ((with_reducible refine EvIf.mk (fun c => ?_) (fun c => ?_)) <;> (try simp only [cs_] at c) <;> (try (exfalso; first | omega | (revert c; decide))))) <;> conv => whnf)
    obtain rfl : k = N := by omega
    rw [List.take_of_length_le (by omega), List.drop_eq_nil_of_le (by omega), List.append_nil] at HS
    exact ⟨rfl, HS⟩
end Go.Proofs.YtjggmhpjlnmigaaDoor
