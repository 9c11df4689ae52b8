/- The sort of registers: the comparison; a swap. -/
import Derived.Test.YtjggmhpjlnmigaaDoorVSp
import Derived.Test.YtjggmhpjlnmigaaDoorVAd
import Derived.Test.YtjggmhpjlnmigaaDoorVPl2
namespace Go.Proofs.YtjggmhpjlnmigaaDoor
open Go.RowKit
set_option maxRecDepth 20000
set_option linter.unusedSimpArgs false
set_option linter.unusedVariables false
def cmp3 (x y : Int) : Int := if x < y then -1 else if y < x then 1 else 0
theorem cmp3_neg {x y : Int} : cmp3 x y < 0 ↔ x < y := by
  unfold cmp3
  split
  · omega
  · split <;> omega
theorem nan_c (x : Int) (h : Hp) : HC Tryd.prog 75 [.int .i64 x] h fun v h' => v = .bool false ∧ h' = h := by
  refine hc_of Tryd.func75 (rfl : Tryd.f75.body = some _) Tryd.ntmps75 Tryd.results75 Tryd.call75 rfl ?_; have HS := Sep.nil h; conv => whnf
  repeat' (fail <;> conv => whnf)
  exact ⟨by simp, rfl⟩
theorem cmp_c (x y : Int) (h : Hp) : HC Tryd.prog 48 [.int .i64 x, .int .i64 y] h fun v h' => v = .int .i64 (cmp3 x y) ∧ h' = h := by
  refine hc_of Tryd.func48 (rfl : Tryd.f48.body = some _) Tryd.ntmps48 Tryd.results48 Tryd.call48 rfl ?_; have HS := Sep.nil h; conv => whnf
  repeat' ((first | ((with_reducible refine EvCall.mk (HC.mono (nan_c _ _) ?_)); (rintro _ _ ⟨rfl, rfl⟩)) | (with_reducible first | refine EvSeq.go ?_ | refine EvIf.tt ?_ | refine EvIf.ff ?_) | ((with_reducible refine EvIf.mk (fun c => ?_) (fun c => ?_)) <;> (try simp only [cs_] at c) <;> (try (exfalso; first | omega | (revert c; decide))))) <;> conv => whnf)
  all_goals
    refine ⟨congrArg (Value.int .i64) ?_, rfl⟩
    unfold cmp3
    first
      | (rw [if_pos (by omega)])
      | (rw [if_neg (by omega), if_pos (by omega)])
      | (rw [if_neg (by omega), if_neg (by omega)])
/-- the comparison of two registers -/
def keyOf (xs : List Sp) (r : Nat) : Int := (xs[r]?.map Sp.fr).getD 0
theorem acmp_c {h : Hp} {b3 R ca : Nat} {A : Option Addr} {xs : List Sp} (hb : h[b3]? = some (.cells [Value.slice A R ca].toArray 38 (0, 0))) (rd : Rd h A (xs.flatMap Sp.cells)) (hl : xs.length = R) {a b : Nat} (ha : a < R) (hb2 : b < R) :
    HC Tryd.prog 47 [.int .i64 a, .int .i64 b, .pointer (some ⟨b3, 0, none⟩)] h fun v h' => v = .int .i64 (cmp3 (keyOf xs a) (keyOf xs b)) ∧ h' = h := by
  obtain ⟨x, hx⟩ : ∃ x, xs[a]? = some x := ⟨_, List.getElem?_eq_getElem (by omega)⟩
  obtain ⟨y, hy⟩ : ∃ y, xs[b]? = some y := ⟨_, List.getElem?_eq_getElem (by omega)⟩
  have ka : keyOf xs a = x.fr := by unfold keyOf; rw [hx]; rfl
  have kb : keyOf xs b = y.fr := by unfold keyOf; rw [hy]; rfl
  rw [ka, kb]
  refine hc_of Tryd.func47 (rfl : Tryd.f47.body = some _) Tryd.ntmps47 Tryd.results47 Tryd.call47 rfl ?_; have HS := Sep.nil h; conv => whnf
  repeat' ((first | ((with_reducible refine EvDraw.ord (id := 1) (.go 0 (.go 1 (.go 2 (.go 3 (.go 4 (.go 5 (.go 6 (.go 7 (.go 8 (.go 9 (.alt 10 (.go 11 .done) .stop))))))))))) fol ?_ ?_ ?_); kernel_rfl; kernel_rfl) | ((refine EvLd.nth hb ?_); (conv => whnf); intro hC) | ((with_reducible refine EvIdx.el Sp.len (by decide) rd hl (by omega) (by omega) ?_); intro bI oI z eI hz hI; (first | (have hzx : x = z := Option.some.inj (hx.symm.trans hz); subst hzx) | (have hzy : y = z := Option.some.inj (hy.symm.trans hz); subst hzy))) | ((with_reducible refine EvLd.el0 (by assumption) rfl ?_)) | ((with_reducible refine EvKeep.same ?_)) | ((with_reducible refine EvCall.mk (HC.mono (cmp_c _ _ _) ?_)); (rintro _ _ ⟨rfl, rfl⟩))) <;> conv => whnf)
  exact ⟨rfl, rfl⟩
/-- two places of a row changed about -/
def swp (l : List Int) (i j : Nat) : List Int := (l.set i (l.getD j 0)).set j (l.getD i 0)
def swn (l : List Int) (a b : Nat) : Nat → List Int
  | 0 => l
  | k + 1 => swp (swn l a b k) (a + k) (b + k)
theorem swp_len (l : List Int) (i j : Nat) : (swp l i j).length = l.length := by simp [swp]
theorem swn_len (l : List Int) (a b : Nat) : ∀ k, (swn l a b k).length = l.length
  | 0 => rfl
  | k + 1 => by rw [swn, swp_len, swn_len l a b k]
theorem swapR_c {h0 h : Hp} {L : List Asn} {C : Option Addr} {n cc a b m : Nat} {l : List Int} {fv : Value} (HS : Sep h0 h (Sl 3 C n cc (ints .i64 l) :: L)) (ha : a + m ≤ n) (hb : b + m ≤ n) (hn : n ≤ 1000000) :
    HC Tryd.prog 95 [.slice C n cc, .int .i64 a, .int .i64 b, .int .i64 m, fv] h fun v h' => v = .tuple #[] ∧ Sep h0 h' (Sl 3 C n cc (ints .i64 (swn l a b m)) :: L) := by
  have hll : l.length = n := by simpa using (HS.len 0 rfl).1
  refine hc_of Tryd.func95 (rfl : Tryd.f95.body = some _) Tryd.ntmps95 Tryd.results95 Tryd.call95 rfl ?_; conv => whnf
  repeat' (fail <;> conv => whnf)
  refine EvLoop.keep ([10, 11, 12, 13, 14, 15, 16, 17, 18, 19, 20, 21, 22, 23, 24, 25, 26, 27, 28, 29, 30, 31, 32, 33, 34, 35, 36, 37], 11) (α := Nat) (fun k => [(10, .int .i64 k)]) (fun k h' => k ≤ m ∧ Sep h0 h' (Sl 3 C n cc (ints .i64 (swn l a b k)) :: L)) (fun k => m - k) 0 (by (repeat' (first | exact trivial | refine ⟨rfl, ?_⟩))) ⟨Nat.zero_le _, HS⟩ ?_
  clear HS
  rintro k h1 ⟨hk, HS⟩
  have hlk := swn_len l a b k
  conv => whnf
  obtain hlt | hge := Nat.lt_or_ge k m
  · obtain ⟨w, hw⟩ : ∃ w, swn l a b k = w := ⟨_, rfl⟩
    rw [hw] at HS hlk
    obtain ⟨x, hx⟩ : ∃ x, w[a + k]? = some x := ⟨_, List.getElem?_eq_getElem (by omega)⟩
    obtain ⟨y, hy⟩ : ∃ y, w[b + k]? = some y := ⟨_, List.getElem?_eq_getElem (by omega)⟩
    have wa : IntKind.i64.wrap ((a : Int) + k) = ((a + k : Nat) : Int) := i64w _ (by omega) (by omega)
    have wb : IntKind.i64.wrap ((b : Int) + k) = ((b + k : Nat) : Int) := i64w _ (by omega) (by omega)
    have vx : (ints .i64 w)[(IntKind.i64.wrap ((a : Int) + k)).toNat]? = some (.int .i64 x) := by rw [wa, Int.toNat_natCast]; simp [hx]
    have vy : (ints .i64 w)[(IntKind.i64.wrap ((b : Int) + k)).toNat]? = some (.int .i64 y) := by rw [wb, Int.toNat_natCast]; simp [hy]
    repeat' ((first | ((with_reducible refine EvDraw.ord (id := 3) (.go 0 (.go 1 (.go 2 (.go 3 (.go 4 (.go 5 (.go 6 (.go 7 (.go 8 (.go 9 (.go 10 (.go 11 (.go 12 (.go 13 (.go 14 (.go 15 (.go 16 (.go 17 (.go 18 (.go 19 (.go 20 (.alt 21 (.go 22 (.alt 23 .done .stop)) .stop)))))))))))))))))))))) fol ?_ ?_ ?_); kernel_rfl; kernel_rfl) | ((with_reducible refine EvIdx.rd (HS.rd 0 rfl) (by simp; omega) (by omega) (by omega) ?_); intro bI oI eI hI) | ((with_reducible refine EvLd.rowv (by assumption) vx ?_)) | ((with_reducible refine EvLd.rowv (by assumption) vy ?_)) | (with_reducible first | refine EvSeq.go ?_ | refine EvIf.tt ?_ | refine EvIf.ff ?_) | ((with_reducible refine EvIf.mk (fun c => ?_) (fun c => ?_)) <;> (try simp only [cs_] at c) <;> (try (exfalso; first | omega | (revert c; decide))))) <;> conv => whnf)
    refine EvSt.slx HS 0 rfl eI (by omega) ?_
    intro h2 HS2
    clear HS
    have HS := HS2
    clear HS2
    dsimp only [List.set] at HS
    rw [wa, Int.toNat_natCast, show (ints .i64 w).set (a + k) (.int .i64 y) = ints .i64 (w.set (a + k) y) by simp [ints, List.map_set]] at HS
    conv => whnf
    repeat' (((with_reducible refine EvIdx.rd (HS.rd 0 rfl) (by simp; omega) (by omega) (by omega) ?_); intro bI oI eI hI) <;> conv => whnf)
    refine EvSt.slx HS 0 rfl eI (by omega) ?_
    intro h3 HS2
    clear HS
    have HS := HS2
    clear HS2
    dsimp only [List.set] at HS
    have e : (ints .i64 (w.set (a + k) y)).set (b + k) (.int .i64 x) = ints .i64 (swn l a b (k + 1)) := by
      rw [swn, hw]
      unfold swp
      rw [List.getD_eq_getElem?_getD, List.getD_eq_getElem?_getD, hx, hy]
      simp [ints, List.map_set]
    rw [wb, Int.toNat_natCast, e] at HS
    conv => whnf
    repeat' (fail <;> conv => whnf)
    exact ⟨k + 1, ⟨congrArg (fun z => some (Value.int .i64 z)) ((i64w _ (by omega) (by omega)).trans (by omega)), (by (repeat' (first | exact trivial | refine ⟨rfl, ?_⟩)))⟩, ⟨by omega, HS⟩, by omega⟩
  · repeat' ((first | (with_reducible first | refine EvSeq.go ?_ | refine EvIf.tt ?_ | refine EvIf.ff ?_) | ((with_reducible refine EvIf.mk (fun c => ?_) (fun c => ?_)) <;> (try simp only [cs_] at c) <;> (try (exfalso; first | omega | (revert c; decide))))) <;> conv => whnf)
    obtain rfl : k = m := by omega
    exact ⟨rfl, HS⟩
end Go.Proofs.YtjggmhpjlnmigaaDoor
/- The sort of registers: blocks changed about. -/
namespace Go.Proofs.YtjggmhpjlnmigaaDoor
open Go.RowKit
set_option maxRecDepth 20000
set_option linter.unusedSimpArgs false
set_option linter.unusedVariables false
theorem swp_get {w : List Int} {i j : Nat} (hi : i < w.length) (hj : j < w.length) (q : Nat) : (swp w i j)[q]? = if q = j then w[i]? else if q = i then w[j]? else w[q]? := by
  unfold swp
  rw [List.getElem?_set, List.length_set, List.getElem?_set]
  rw [List.getD_eq_getElem?_getD, List.getD_eq_getElem?_getD, List.getElem?_eq_getElem hi, List.getElem?_eq_getElem hj]
  by_cases e : q = j
  · subst e
    simp [hj]
  · rw [if_neg (Ne.symm e), if_neg e]
    by_cases e2 : q = i
    · subst e2
      simp [hi]
    · rw [if_neg (Ne.symm e2), if_neg e2]
theorem swn_get {l : List Int} {a b m : Nat} (hab : a + m ≤ b) (hb : b + m ≤ l.length) : ∀ k, k ≤ m → ∀ q, (swn l a b k)[q]? = if a ≤ q ∧ q < a + k then l[q + (b - a)]? else if b ≤ q ∧ q < b + k then l[q - (b - a)]? else l[q]?
  | 0, _, q => by
    rw [if_neg (by omega), if_neg (by omega)]
    rfl
  | k + 1, hk, q => by
    have ih := swn_get hab hb k (by omega)
    have hl := swn_len l a b k
    rw [swn, swp_get (by omega) (by omega)]
    have e1 : (swn l a b k)[a + k]? = l[a + k]? := by rw [ih, if_neg (by omega), if_neg (by omega)]
    have e2 : (swn l a b k)[b + k]? = l[b + k]? := by rw [ih, if_neg (by omega), if_neg (by omega)]
    rw [e1, e2]
    by_cases c1 : q = b + k
    · subst c1
      rw [if_pos rfl, if_neg (by omega), if_pos (by omega)]
      congr 1
      omega
    · rw [if_neg c1]
      by_cases c2 : q = a + k
      · subst c2
        rw [if_pos rfl, if_pos (by omega)]
        congr 1
        omega
      · rw [if_neg c2, ih]
        by_cases d1 : a ≤ q ∧ q < a + k
        · rw [if_pos d1, if_pos (by omega)]
        · rw [if_neg d1, if_neg (c := a ≤ q ∧ q < a + (k + 1)) (by omega)]
          by_cases d2 : b ≤ q ∧ q < b + k
          · rw [if_pos d2, if_pos (by omega)]
          · rw [if_neg d2, if_neg (by omega)]
theorem swn_list {P U M V S : List Int} {a b m : Nat} (hP : P.length = a) (hU : U.length = m) (hV : V.length = m) (hb : b = a + m + M.length) : swn (P ++ (U ++ (M ++ (V ++ S)))) a b m = P ++ (V ++ (M ++ (U ++ S))) := by
  apply List.ext_getElem?
  intro q
  rw [swn_get (by omega) (by simp; omega) m (Nat.le_refl _)]
  by_cases c1 : q < a
  · rw [if_neg (by omega), if_neg (by omega), List.getElem?_append_left (by omega), List.getElem?_append_left (by omega)]
  · rw [List.getElem?_append_right (l₁ := P) (l₂ := V ++ (M ++ (U ++ S))) (by omega)]
    by_cases c2 : q < a + m
    · rw [if_pos (by omega), List.getElem?_append_right (by omega), List.getElem?_append_right (by omega), List.getElem?_append_right (by omega), List.getElem?_append_left (by omega), List.getElem?_append_left (by omega)]
      congr 1
      omega
    · rw [if_neg (by omega), List.getElem?_append_right (l₁ := V) (by omega)]
      by_cases c3 : q < b
      · rw [if_neg (by omega), List.getElem?_append_right (by omega), List.getElem?_append_right (by omega), List.getElem?_append_left (by omega), List.getElem?_append_left (by omega), hU, hV]
      · rw [List.getElem?_append_right (l₁ := M) (l₂ := U ++ S) (by omega)]
        by_cases c4 : q < b + m
        · rw [if_pos (by omega), List.getElem?_append_right (by omega), List.getElem?_append_left (by omega), List.getElem?_append_left (by omega)]
          congr 1
          omega
        · rw [if_neg (by omega), List.getElem?_append_right (by omega), List.getElem?_append_right (by omega), List.getElem?_append_right (by omega), List.getElem?_append_right (by omega), List.getElem?_append_right (by omega)]
          congr 1
          omega
theorem swapR_i {h0 h : Hp} {L : List Asn} {C : Option Addr} {n cc a b m : Nat} {ai bi : Int} {l : List Int} {fv : Value} (HS : Sep h0 h (Sl 3 C n cc (ints .i64 l) :: L)) (ea : ai = a) (eb : bi = b) (ha : a + m ≤ n) (hb : b + m ≤ n) (hn : n ≤ 1000000) :
    HC Tryd.prog 95 [.slice C n cc, .int .i64 ai, .int .i64 bi, .int .i64 m, fv] h fun v h' => v = .tuple #[] ∧ Sep h0 h' (Sl 3 C n cc (ints .i64 (swn l a b m)) :: L) := by
  subst ea
  subst eb
  exact swapR_c HS ha hb hn
theorem rot_c {h0 h : Hp} {L : List Asn} {C : Option Addr} {n cc a m b : Nat} {P X Y S : List Int} {fv : Value} (HS : Sep h0 h (Sl 3 C n cc (ints .i64 (P ++ (X ++ (Y ++ S)))) :: L)) (hP : P.length = a) (hX : a + X.length = m) (hY : m + Y.length = b) (x0 : 0 < X.length) (y0 : 0 < Y.length) (hn : n ≤ 1000000) :
    HC Tryd.prog 93 [.slice C n cc, .int .i64 a, .int .i64 m, .int .i64 b, fv] h fun v h' => v = .tuple #[] ∧ Sep h0 h' (Sl 3 C n cc (ints .i64 (P ++ (Y ++ (X ++ S)))) :: L) := by
  have hll : (P ++ (X ++ (Y ++ S))).length = n := by simpa using (HS.len 0 rfl).1
  simp only [List.length_append] at hll
  obtain ⟨T, hT⟩ : ∃ T, P ++ (Y ++ (X ++ S)) = T := ⟨_, rfl⟩
  rw [hT]
  have e1 : IntKind.i64.wrap ((m : Int) - a) = (X.length : Nat) := by rw [i64w _ (by omega) (by omega)]; omega
  have e2 : IntKind.i64.wrap ((b : Int) - m) = (Y.length : Nat) := by rw [i64w _ (by omega) (by omega)]; omega
  refine hc_of Tryd.func93 (rfl : Tryd.f93.body = some _) Tryd.ntmps93 Tryd.results93 Tryd.call93 rfl ?_; conv => whnf
  repeat' ((with_reducible first | refine EvSeq.go ?_ | refine EvIf.tt ?_ | refine EvIf.ff ?_) <;> conv => whnf)
  refine EvLoop.keep ([10, 11, 18, 19, 20, 21, 22, 23, 24, 25, 26, 27, 28, 29, 30, 31, 32, 33, 34, 35, 36, 37, 38, 39, 40, 41, 42, 43, 44, 45, 46, 47, 48, 49], 12) (α := Nat × Nat) (fun (i, j) => [(10, .int .i64 i), (11, .int .i64 j)])
    (fun (i, j) h' => 0 < i ∧ 0 < j ∧ ∃ P' U V S' : List Int, P'.length + i = m ∧ U.length = i ∧ V.length = j ∧ P'.length + (i + (j + S'.length)) = n ∧ P' ++ (V ++ (U ++ S')) = T ∧ Sep h0 h' (Sl 3 C n cc (ints .i64 (P' ++ (U ++ (V ++ S')))) :: L))
    (fun (i, j) => i + j) (X.length, Y.length) ⟨congrArg (fun z => some (Value.int .i64 z)) e1, congrArg (fun z => some (Value.int .i64 z)) e2, (by (repeat' (first | exact trivial | refine ⟨rfl, ?_⟩)))⟩ ⟨x0, y0, P, X, Y, S, by omega, rfl, rfl, by omega, hT, HS⟩ ?_
  clear HS
  rintro ⟨i, j⟩ h1 ⟨i0, j0, P', U, V, S', hP', hU, hV, hn', hT', HS⟩
  have wi : IntKind.i64.wrap ((m : Int) - i) = (P'.length : Nat) := by rw [i64w _ (by omega) (by omega)]; omega
  conv => whnf
  rcases Nat.lt_trichotomy i j with c | c | c
  · have hs : V = V.take (j - i) ++ V.drop (j - i) := (List.take_append_drop _ _).symm
    obtain ⟨V1, hV1⟩ : ∃ V1, V.take (j - i) = V1 := ⟨_, rfl⟩
    obtain ⟨V2, hV2⟩ : ∃ V2, V.drop (j - i) = V2 := ⟨_, rfl⟩
    have l1 : V1.length = j - i := by rw [← hV1, List.length_take]; omega
    have l2 : V2.length = i := by rw [← hV2, List.length_drop]; omega
    rw [hV1, hV2] at hs
    subst hs
    rw [List.append_assoc] at HS
    have w2 : IntKind.i64.wrap (IntKind.i64.wrap ((m : Int) + j) - i) = ((P'.length + i + (j - i) : Nat) : Int) := by
      have e : IntKind.i64.wrap ((m : Int) + j) = m + j := i64w _ (by omega) (by omega)
      rw [e, i64w _ (by omega) (by omega)]
      omega
    repeat' ((first | ((with_reducible refine EvCall.fn 95 ?_); (with_reducible refine HC.mono (swapR_i HS wi w2 (by omega) (by omega) hn) ?_); rintro _ hN ⟨rfl, HS2⟩; clear HS; have HS := HS2; clear HS2) | (with_reducible first | refine EvSeq.go ?_ | refine EvIf.tt ?_ | refine EvIf.ff ?_) | ((with_reducible refine EvIf.mk (fun c => ?_) (fun c => ?_)) <;> (try simp only [cs_] at c) <;> (try (exfalso; first | omega | (revert c; decide))))) <;> conv => whnf)
    rw [swn_list rfl hU l2 (by omega)] at HS
    refine ⟨(i, j - i), ⟨rfl, congrArg (fun z => some (Value.int .i64 z)) (by rw [i64w _ (by omega) (by omega)]; omega), (by (repeat' (first | exact trivial | refine ⟨rfl, ?_⟩)))⟩, ⟨i0, by omega, P', V2, V1, U ++ S', hP', l2, l1, by rw [List.length_append]; omega, ?_, HS⟩, by show i + (j - i) < i + j; omega⟩
    rw [← hT', List.append_assoc]
  · subst c
    repeat' ((first | ((with_reducible refine EvCall.fn 95 ?_); (with_reducible refine HC.mono (swapR_i (b := m) HS wi rfl (by omega) (by omega) hn) ?_); rintro _ hN ⟨rfl, HS2⟩; clear HS; have HS := HS2; clear HS2) | (with_reducible first | refine EvSeq.go ?_ | refine EvIf.tt ?_ | refine EvIf.ff ?_) | ((with_reducible refine EvIf.mk (fun c => ?_) (fun c => ?_)) <;> (try simp only [cs_] at c) <;> (try (exfalso; first | omega | (revert c; decide))))) <;> conv => whnf)
    have e := swn_list (P := P') (U := U) (M := []) (V := V) (S := S') (a := P'.length) (b := m) (m := i) rfl hU hV (by simp; omega)
    simp only [List.nil_append] at e
    rw [e, hT'] at HS
    exact ⟨rfl, HS⟩
  · have hs : U = U.take j ++ U.drop j := (List.take_append_drop _ _).symm
    obtain ⟨U1, hU1⟩ : ∃ U1, U.take j = U1 := ⟨_, rfl⟩
    obtain ⟨U2, hU2⟩ : ∃ U2, U.drop j = U2 := ⟨_, rfl⟩
    have l1 : U1.length = j := by rw [← hU1, List.length_take]; omega
    have l2 : U2.length = i - j := by rw [← hU2, List.length_drop]; omega
    rw [hU1, hU2] at hs
    subst hs
    rw [List.append_assoc] at HS
    repeat' ((first | ((with_reducible refine EvCall.fn 95 ?_); (with_reducible refine HC.mono (swapR_i (b := m) HS wi rfl (by omega) (by omega) hn) ?_); rintro _ hN ⟨rfl, HS2⟩; clear HS; have HS := HS2; clear HS2) | (with_reducible first | refine EvSeq.go ?_ | refine EvIf.tt ?_ | refine EvIf.ff ?_) | ((with_reducible refine EvIf.mk (fun c => ?_) (fun c => ?_)) <;> (try simp only [cs_] at c) <;> (try (exfalso; first | omega | (revert c; decide))))) <;> conv => whnf)
    rw [swn_list rfl l1 hV (by omega)] at HS
    refine ⟨(i - j, j), ⟨congrArg (fun z => some (Value.int .i64 z)) (by rw [i64w _ (by omega) (by omega)]; omega), rfl, (by (repeat' (first | exact trivial | refine ⟨rfl, ?_⟩)))⟩, ⟨by omega, j0, P' ++ V, U2, U1, S', by rw [List.length_append]; omega, l2, l1, by rw [List.length_append]; omega, ?_, ?_⟩, by show i - j + j < i + j; omega⟩
    · rw [← hT']
      simp only [List.append_assoc]
    · rw [List.append_assoc]
      exact HS
end Go.Proofs.YtjggmhpjlnmigaaDoor
/- The sort of registers: insertion. -/
namespace Go.Proofs.YtjggmhpjlnmigaaDoor
open Go.RowKit
set_option maxRecDepth 20000
set_option linter.unusedSimpArgs false
set_option linter.unusedVariables false
def ky (xs : List Sp) (r : Int) : Int := keyOf xs r.toNat
def Lt (xs : List Sp) (x y : Int) : Prop := ky xs x < ky xs y ∨ (ky xs x = ky xs y ∧ x < y)
theorem Lt.trans {xs : List Sp} {x y z : Int} (h : Lt xs x y) (h' : Lt xs y z) : Lt xs x z := by
  unfold Lt at *
  omega
theorem acmp_z {h : Hp} {b3 R ca : Nat} {A : Option Addr} {xs : List Sp} (hb : h[b3]? = some (.cells [Value.slice A R ca].toArray 38 (0, 0))) (rd : Rd h A (xs.flatMap Sp.cells)) (hl : xs.length = R) {x y : Int} (hx : 0 ≤ x ∧ x < R) (hy : 0 ≤ y ∧ y < R) :
    HC Tryd.prog 47 [.int .i64 x, .int .i64 y, .pointer (some ⟨b3, 0, none⟩)] h fun v h' => v = .int .i64 (cmp3 (ky xs x) (ky xs y)) ∧ h' = h := by
  obtain ⟨a, rfl⟩ : ∃ a : Nat, x = a := ⟨x.toNat, by omega⟩
  obtain ⟨b, rfl⟩ : ∃ b : Nat, y = b := ⟨y.toNat, by omega⟩
  exact acmp_c hb rd hl (by omega) (by omega)
abbrev cmpV (b3 : Nat) : Value := .func (.func 47) #[] #[.pointer (some ⟨b3, 0, none⟩)]
abbrev SrtL (C : Option Addr) (n cc : Nat) (l : List Int) (b3 : Nat) (A : Option Addr) (R ca : Nat) (xs : List Sp) (M : List Asn) : List Asn :=
  Sl 3 C n cc (ints .i64 l) :: Bx b3 [.slice A R ca] 38 :: SpP A R ca xs :: M
/-- one taken in among those that are in order -/
theorem ins_mid {xs : List Sp} {L1 L2 : List Int} {e : Int} (hp : (L1 ++ L2).Pairwise (Lt xs)) (h1 : ∀ x ∈ L1, x < e) (h2 : ∀ y ∈ L2, ky xs e < ky xs y) (hz : ∀ z, L1.getLast? = some z → ¬ ky xs e < ky xs z) : (L1 ++ e :: L2).Pairwise (Lt xs) := by
  rw [List.pairwise_append] at hp ⊢
  obtain ⟨p1, p2, p3⟩ := hp
  refine ⟨p1, List.pairwise_cons.mpr ⟨fun y hy => .inl (h2 y hy), p2⟩, fun x hx y hy => ?_⟩
  rcases List.mem_cons.mp hy with rfl | hy
  · have hlt := h1 x hx
    have : ky xs x ≤ ky xs y := by
      obtain ⟨z, hzl⟩ : ∃ z, L1.getLast? = some z := by
        cases h : L1.getLast? with
        | none => rw [List.getLast?_eq_none_iff.mp h] at hx; cases hx
        | some z => exact ⟨z, rfl⟩
      have hk := hz z hzl
      obtain ⟨L0, rfl⟩ : ∃ L0, L1 = L0 ++ [z] := by
        obtain ⟨L0, h⟩ := List.getLast?_eq_some_iff.mp hzl
        exact ⟨L0, h⟩
      rcases List.mem_append.mp hx with hx | hx
      · have := (List.pairwise_append.mp p1).2.2 x hx z (by simp)
        unfold Lt at this
        omega
      · obtain rfl := List.mem_singleton.mp hx
        omega
    unfold Lt
    omega
  · exact p3 x hx y hy
set_option maxHeartbeats 1000000 in
theorem ins_c {h0 h : Hp} {M : List Asn} {C A : Option Addr} {n cc a b b3 R ca : Nat} {P X S : List Int} {xs : List Sp} (HS : Sep h0 h (SrtL C n cc (P ++ (X ++ S)) b3 A R ca xs M)) (hP : P.length = a) (hX : a + X.length = b) (hr : ∀ x ∈ X, 0 ≤ x ∧ x < R) (ha : X.Pairwise (· < ·)) (hn : n ≤ 1000000) :
    HC Tryd.prog 85 [.slice C n cc, .int .i64 a, .int .i64 b, cmpV b3] h fun v h' => v = .tuple #[] ∧ ∃ X' : List Int, X'.Perm X ∧ X'.Pairwise (Lt xs) ∧ Sep h0 h' (SrtL C n cc (P ++ (X' ++ S)) b3 A R ca xs M) := by
  have hll : (P ++ (X ++ S)).length = n := by simpa using (HS.len 0 rfl).1
  simp only [List.length_append] at hll
  have hxl := (HS.spl 2 rfl).1
  refine hc_of Tryd.func85 (rfl : Tryd.f85.body = some _) Tryd.ntmps85 Tryd.results85 Tryd.call85 rfl ?_; conv => whnf
  repeat' (fail <;> conv => whnf)
  refine EvLoop.keep ([8, 9, 12, 13, 14, 15, 16, 17, 18, 19, 20, 21, 22, 23, 24, 25, 26, 27, 28, 29, 30, 31, 32, 33, 34, 35, 36, 37, 38, 39, 40, 41, 42, 43, 44, 45, 46, 47, 48, 49, 50, 51, 52], 10) (α := Nat) (fun k => [(8, .int .i64 ((a : Int) + k))])
    (fun k h' => 1 ≤ k ∧ (k ≤ X.length ∨ X.length = 0 ∧ k = 1) ∧ ∃ W : List Int, W.Perm (X.take k) ∧ W.Pairwise (Lt xs) ∧ Sep h0 h' (SrtL C n cc (P ++ (W ++ (X.drop k ++ S))) b3 A R ca xs M))
    (fun k => X.length + 1 - k) 1 ⟨congrArg (fun z => some (Value.int .i64 z)) (i64w _ (by omega) (by omega)), (by (repeat' (first | exact trivial | refine ⟨rfl, ?_⟩)))⟩ ⟨Nat.le_refl _, by omega, X.take 1, List.Perm.refl _, by rcases X with _ | ⟨x, _ | ⟨y, X⟩⟩ <;> simp, ?_⟩ ?_
  · rw [← List.append_assoc (X.take 1), List.take_append_drop]
    exact HS
  · clear HS
    rintro k h1 ⟨hk1, hk, W, hW, hWs, HS⟩
    have hWl := hW.length_eq
    rw [List.length_take] at hWl
    conv => whnf
    obtain hlt | hge := Nat.lt_or_ge k X.length
    · obtain ⟨e, he⟩ : ∃ e, X[k]? = some e := ⟨_, List.getElem?_eq_getElem hlt⟩
      obtain ⟨rest, hrest⟩ : ∃ rest, X.drop (k + 1) ++ S = rest := ⟨_, rfl⟩
      have hd : X.drop k ++ S = e :: rest := by
        rw [List.drop_eq_getElem_cons hlt, List.cons_append, hrest]
        congr 1
        have := List.getElem?_eq_getElem hlt
        rw [he] at this
        exact (Option.some.inj this).symm
      rw [hd] at HS
      have heR := hr e (List.mem_of_getElem? he)
      have hlte : ∀ x ∈ W, x < e := fun x hx => by
        obtain ⟨q, hq⟩ := List.getElem?_of_mem (hW.mem_iff.mp hx)
        rw [List.getElem?_take] at hq
        split at hq
        · rename_i hqk
          obtain ⟨g1, g2⟩ := List.getElem?_eq_some_iff.mp hq
          obtain ⟨g3, g4⟩ := List.getElem?_eq_some_iff.mp he
          have := List.pairwise_iff_getElem.mp ha q k g1 g3 hqk
          omega
        · cases hq
      have hperm : ∀ L1 L2 : List Int, L1 ++ L2 = W → (L1 ++ e :: L2).Perm (X.take (k + 1)) := fun L1 L2 hL => by
        rw [List.take_add_one, he]
        refine List.perm_middle.trans ?_
        rw [hL]
        exact ((List.Perm.cons e hW).trans (List.perm_append_comm (l₁ := [e]) (l₂ := X.take k)))
      repeat' ((first | (with_reducible first | refine EvSeq.go ?_ | refine EvIf.tt ?_ | refine EvIf.ff ?_) | ((with_reducible refine EvIf.mk (fun c => ?_) (fun c => ?_)) <;> (try simp only [cs_] at c) <;> (try (exfalso; first | omega | (revert c; decide))))) <;> conv => whnf)
      refine EvLoop.keep ([9, 18, 19, 20, 21, 22, 23, 24, 25, 26, 27, 28, 29, 30, 31, 32, 33, 34, 35, 36, 37, 38, 39, 40, 41, 42, 43, 44, 45, 46, 47, 48, 49, 50, 51, 52], 10) (α := Nat) (fun j => [(9, .int .i64 j)])
        (fun j h' => ∃ L1 L2 : List Int, L1 ++ L2 = W ∧ a + L1.length = j ∧ (∀ y ∈ L2, ky xs e < ky xs y) ∧ Sep h0 h' (SrtL C n cc (P ++ (L1 ++ (e :: (L2 ++ rest)))) b3 A R ca xs M))
        (fun j => j) (a + k) ⟨congrArg (fun z => some (Value.int .i64 z)) (by omega), (by (repeat' (first | exact trivial | refine ⟨rfl, ?_⟩)))⟩ ⟨W, [], by simp, by omega, (fun y hy => by cases hy), HS⟩ ?_
      clear HS
      rintro j h2 ⟨L1, L2, hL, hj, h2k, HS⟩
      conv => whnf
      rcases List.eq_nil_or_concat L1 with rfl | ⟨L0, z, rfl⟩
      · have hj0 : a = j := by simpa using hj
        repeat' ((first | ((with_reducible refine EvDraw.ord (id := 4) (.go 0 (.go 1 (.go 2 (.go 3 (.go 4 (.go 5 (.go 6 (.go 7 (.go 8 (.go 9 (.go 10 (.go 11 (.go 12 (.go 13 (.alt 14 (.go 15 (.go 16 .done)) .stop))))))))))))))) fol ?_ ?_ ?_); kernel_rfl; kernel_rfl) | (with_reducible first | refine EvSeq.go ?_ | refine EvIf.tt ?_ | refine EvIf.ff ?_) | ((with_reducible refine EvIf.mk (fun c => ?_) (fun c => ?_)) <;> (try simp only [cs_] at c) <;> (try (exfalso; first | omega | (revert c; decide))))) <;> conv => whnf)
        refine ⟨k + 1, ⟨congrArg (fun z => some (Value.int .i64 z)) ((i64w _ (by omega) (by omega)).trans (by omega)), (by (repeat' (first | exact trivial | refine ⟨rfl, ?_⟩)))⟩, ⟨by omega, .inl (by omega), _, ?_, ins_mid (by rw [hL]; exact hWs) (fun x hx => hlte x (hL ▸ List.mem_append_left _ hx)) h2k ?_, ?_⟩, by omega⟩
        · exact hperm [] L2 hL
        · intro z hz
          cases hz
        · rw [← hrest] at HS
          simpa using HS
      · simp only [List.concat_eq_append] at HS hL hj
        have hj0 : a + (L0.length + 1) = j := by simpa using hj
        have hWb := hW.length_eq
        have hLb : L0.length + 1 + L2.length = W.length := by rw [← hL]; simp; omega
        have hzW : z ∈ W := by rw [← hL]; simp
        have hzR := hr z (List.mem_of_mem_take (hW.mem_iff.mp hzW))
        obtain ⟨D, hD⟩ : ∃ D, P ++ (L0 ++ [z] ++ (e :: (L2 ++ rest))) = D := ⟨_, rfl⟩
        have hD2 : D = (P ++ L0) ++ ([z] ++ ([] ++ ([e] ++ (L2 ++ rest)))) := by rw [← hD]; simp
        have hDl : D.length = n := by
          rw [hD] at HS
          simpa using (HS.len 0 rfl).1
        have wj : IntKind.i64.wrap ((j : Int) - 1) = ((j - 1 : Nat) : Int) := by rw [i64w _ (by omega) (by omega)]; omega
        have de : D[j]? = some e := by
          rw [hD2, List.getElem?_append_right (by simp; omega)]
          have : j - (P ++ L0).length = 1 := by rw [List.length_append]; omega
          rw [this]
          rfl
        have dz : D[j - 1]? = some z := by
          rw [hD2, List.getElem?_append_right (by simp; omega)]
          have : j - 1 - (P ++ L0).length = 0 := by rw [List.length_append]; omega
          rw [this]
          rfl
        have ve : (ints .i64 D)[((j : Int)).toNat]? = some (.int .i64 e) := by simp [de]
        have vz : (ints .i64 D)[(IntKind.i64.wrap ((j : Int) - 1)).toNat]? = some (.int .i64 z) := by rw [wj, Int.toNat_natCast]; simp [dz]
        rw [hD] at HS
        repeat' ((first | ((with_reducible refine EvDraw.ord (id := 4) (.go 0 (.go 1 (.go 2 (.go 3 (.go 4 (.go 5 (.go 6 (.go 7 (.go 8 (.go 9 (.go 10 (.go 11 (.go 12 (.go 13 (.alt 14 (.go 15 (.go 16 .done)) .stop))))))))))))))) fol ?_ ?_ ?_); kernel_rfl; kernel_rfl) | ((with_reducible refine EvDraw.ord (id := 6) (.go 0 (.go 1 (.go 2 (.go 3 (.go 4 (.go 5 (.go 6 (.go 7 (.go 8 (.go 9 (.go 10 (.go 11 (.go 12 (.go 13 (.go 14 (.alt 15 (.go 16 (.alt 17 .done .stop)) .stop)))))))))))))))) fol ?_ ?_ ?_); kernel_rfl; kernel_rfl) | ((with_reducible refine EvIdx.rd (vs := ints .i64 D) (HS.rd 0 rfl) (by simpa using hDl) (by omega) (by omega) ?_); intro bI oI eI hI) | ((with_reducible refine EvLd.rowv (by assumption) ve ?_)) | ((with_reducible refine EvLd.rowv (by assumption) vz ?_)) | ((with_reducible refine EvCall.fn 47 ?_); (refine HC.mono (acmp_z (HS.pt_i 1 rfl) (HS.spr 2 rfl) hxl heR hzR) ?_); rintro _ _ ⟨rfl, rfl⟩) | (with_reducible first | refine EvSeq.go ?_ | refine EvIf.tt ?_ | refine EvIf.ff ?_) | ((with_reducible refine EvIf.mk (fun c => ?_) (fun c => ?_)) <;> (try simp only [cs_] at c) <;> (try (exfalso; first | omega | (revert c; decide))))) <;> conv => whnf)
        · refine EvSt.slx HS 0 rfl eI (by omega) ?_
          intro h4 HS2
          clear HS
          have HS := HS2
          clear HS2
          dsimp only [List.set] at HS
          conv => whnf
          repeat' (((with_reducible refine EvIdx.rd (HS.rd 0 rfl) (by simp; omega) (by omega) (by omega) ?_); intro bI oI eI hI) <;> conv => whnf)
          refine EvSt.slx HS 0 rfl eI (by omega) ?_
          intro h5 HS2
          clear HS
          have HS := HS2
          clear HS2
          dsimp only [List.set] at HS
          have eD : ((ints .i64 D).set ((j : Int)).toNat (.int .i64 z)).set (IntKind.i64.wrap ((j : Int) - 1)).toNat (.int .i64 e) = ints .i64 (P ++ (L0 ++ (e :: ((z :: L2) ++ rest)))) := by
            have e1 := swn_list (P := P ++ L0) (U := [z]) (M := []) (V := [e]) (S := L2 ++ rest) (a := j - 1) (b := j) (m := 1) (by rw [List.length_append]; omega) rfl rfl (by simp; omega)
            rw [← hD2] at e1
            have e2 : swn D (j - 1) j 1 = (D.set (j - 1) e).set j z := by
              show swp D (j - 1 + 0) (j + 0) = _
              unfold swp
              rw [Nat.add_zero, Nat.add_zero, List.getD_eq_getElem?_getD, List.getD_eq_getElem?_getD, de, dz]
              rfl
            rw [e2, List.set_comm _ _ (by omega)] at e1
            rw [wj, Int.toNat_natCast, Int.toNat_natCast]
            have e3 : P ++ (L0 ++ (e :: ((z :: L2) ++ rest))) = P ++ L0 ++ ([e] ++ ([] ++ ([z] ++ (L2 ++ rest)))) := by simp
            rw [e3, ← e1]
            simp [ints, List.map_set]
          rw [eD] at HS
          conv => whnf
          repeat' (fail <;> conv => whnf)
          refine ⟨j - 1, ⟨congrArg (fun z => some (Value.int .i64 z)) wj, (by (repeat' (first | exact trivial | refine ⟨rfl, ?_⟩)))⟩, ⟨L0, z :: L2, by rw [← hL]; simp, by omega, fun y hy => ?_, HS⟩, by omega⟩
          rcases List.mem_cons.mp hy with rfl | hy
          · exact cmp3_neg.mp c
          · exact h2k y hy
        · refine ⟨k + 1, ⟨congrArg (fun z => some (Value.int .i64 z)) ((i64w _ (by omega) (by omega)).trans (by omega)), (by (repeat' (first | exact trivial | refine ⟨rfl, ?_⟩)))⟩, ⟨by omega, .inl (by omega), _, ?_, ins_mid (by rw [hL]; exact hWs) (fun x hx => hlte x (hL ▸ List.mem_append_left _ hx)) h2k ?_, ?_⟩, by omega⟩
          · exact hperm (L0 ++ [z]) L2 hL
          · intro z' hz
            simp only [List.getLast?_concat, Option.some.injEq] at hz
            subst hz
            rw [← cmp3_neg]
            omega
          · have eD : P ++ (L0 ++ [z] ++ e :: L2 ++ (X.drop (k + 1) ++ S)) = D := by
              rw [hrest, ← hD]
              simp
            rw [eD]
            exact HS
    · repeat' ((first | (with_reducible first | refine EvSeq.go ?_ | refine EvIf.tt ?_ | refine EvIf.ff ?_) | ((with_reducible refine EvIf.mk (fun c => ?_) (fun c => ?_)) <;> (try simp only [cs_] at c) <;> (try (exfalso; first | omega | (revert c; decide))))) <;> conv => whnf)
      refine ⟨rfl, W, ?_, hWs, ?_⟩
      · rw [List.take_of_length_le (by omega)] at hW
        exact hW
      · rw [List.drop_eq_nil_of_le (by omega), List.nil_append] at HS
        exact HS
end Go.Proofs.YtjggmhpjlnmigaaDoor
/- The sort of registers: one taken into a block that is in order. -/
namespace Go.Proofs.YtjggmhpjlnmigaaDoor
open Go.RowKit
set_option maxRecDepth 20000
set_option linter.unusedSimpArgs false
set_option linter.unusedVariables false
/-- what the merge ends with: two parts, the first before the second, each in order -/
theorem srt_join {xs : List Sp} {X Y : List Int} (hx : X.Pairwise (Lt xs)) (hy : Y.Pairwise (Lt xs)) (h : ∀ x ∈ X, ∀ y ∈ Y, Lt xs x y) : (X ++ Y).Pairwise (Lt xs) := List.pairwise_append.mpr ⟨hx, hy, h⟩
/-- across the blocks the comparison tells the order -/
theorem lt_cross {xs : List Sp} {x y : Int} (h : x < y) : (cmp3 (ky xs y) (ky xs x) < 0 ↔ Lt xs y x) ∧ (¬ cmp3 (ky xs y) (ky xs x) < 0 ↔ Lt xs x y) := by
  rw [cmp3_neg]
  unfold Lt
  omega
/-- the cut of the merge: what stands before it is before what stands behind it -/
theorem cut_ok {xs : List Sp} {A1 A2 B1 B2 : List Int} (hA : (A1 ++ A2).Pairwise (Lt xs)) (hB : (B1 ++ B2).Pairwise (Lt xs))
    (h1 : ∀ x y, A1.getLast? = some x → B2.head? = some y → Lt xs x y) (h2 : ∀ y x, B1.getLast? = some y → A2.head? = some x → Lt xs y x) :
    ∀ u ∈ A1 ++ B1, ∀ w ∈ A2 ++ B2, Lt xs u w := by
  have key : ∀ (X1 Y2 X2 Y1 : List Int), (X1 ++ X2).Pairwise (Lt xs) → (Y1 ++ Y2).Pairwise (Lt xs) → (∀ x y, X1.getLast? = some x → Y2.head? = some y → Lt xs x y) → ∀ u ∈ X1, ∀ w ∈ Y2, Lt xs u w := by
    intro X1 Y2 X2 Y1 hX hY h u hu w hw
    obtain ⟨L0, z, rfl⟩ : ∃ L0 z, X1 = L0 ++ [z] := by
      rcases List.eq_nil_or_concat X1 with rfl | ⟨L0, z, rfl⟩
      · cases hu
      · exact ⟨L0, z, by simp⟩
    cases Y2 with
    | nil => cases hw
    | cons y Y2 =>
      have h0 := h z y (by simp) rfl
      have hz : u = z ∨ Lt xs u z := by
        rcases List.mem_append.mp hu with hu | hu
        · exact .inr ((List.pairwise_append.mp (List.pairwise_append.mp hX).1).2.2 u hu z (by simp))
        · exact .inl (List.mem_singleton.mp hu)
      have hy : y = w ∨ Lt xs y w := by
        rcases List.mem_cons.mp hw with rfl | hw
        · exact .inl rfl
        · exact .inr ((List.pairwise_cons.mp (List.pairwise_append.mp hY).2.1).1 w hw)
      have h3 : Lt xs u y := hz.elim (fun e => e ▸ h0) (fun e => e.trans h0)
      exact hy.elim (fun e => e ▸ h3) (fun e => h3.trans e)
  intro u hu w hw
  rcases List.mem_append.mp hu with hu | hu <;> rcases List.mem_append.mp hw with hw | hw
  · exact (List.pairwise_append.mp hA).2.2 u hu w hw
  · exact key A1 B2 A2 B1 hA hB h1 u hu w hw
  · exact key B1 A2 B2 A1 hB hA h2 u hu w hw
  · exact (List.pairwise_append.mp hB).2.2 u hu w hw
end Go.Proofs.YtjggmhpjlnmigaaDoor
/- The sort of registers: the merge of two blocks, one of which is of one place. -/
namespace Go.Proofs.YtjggmhpjlnmigaaDoor
open Go.RowKit
set_option maxRecDepth 20000
set_option linter.unusedSimpArgs false
set_option linter.unusedVariables false
/-- the middle of two places -/
abbrev hlf (x : Int) : Int := IntKind.i64.wrap (IntKind.u64.wrap (IntKind.i64.wrap x) / 2 ^ (min (Int.toNat 1) IntKind.u64.bits))
theorem hlf_ok (i j : Nat) (h : i + j ≤ 4000000) : hlf ((i : Int) + j) = (((i + j) / 2 : Nat) : Int) := by
  have e : min (Int.toNat 1) IntKind.u64.bits = 1 := by decide
  have e1 : IntKind.i64.wrap ((i : Int) + j) = (i : Int) + j := i64w _ (by omega) (by omega)
  unfold hlf
  rw [e, e1]
  have e2 : IntKind.u64.wrap ((i : Int) + j) = (i : Int) + j := by
    show ((i : Int) + j) % 18446744073709551616 = _
    omega
  rw [e2, i64w _ (by omega) (by omega)]
  omega
/-- one put in at its place -/
theorem ins_cut {xs : List Sp} {Y : List Int} {e : Int} {t : Nat} (hs : Y.Pairwise (Lt xs)) (ht : t ≤ Y.length) (h1 : t = 0 ∨ ∃ y, Y[t - 1]? = some y ∧ Lt xs y e) (h2 : t = Y.length ∨ ∃ y, Y[t]? = some y ∧ Lt xs e y) : (Y.take t ++ e :: Y.drop t).Pairwise (Lt xs) := by
  have hB : (Y.take t ++ Y.drop t).Pairwise (Lt xs) := by rw [List.take_append_drop]; exact hs
  have c1 := cut_ok (A1 := [e]) (A2 := []) (B1 := Y.take t) (B2 := Y.drop t) (List.pairwise_singleton _ _) hB (fun x y hx hy => by
      simp only [List.getLast?_singleton, Option.some.injEq] at hx
      subst hx
      rw [List.head?_drop] at hy
      rcases h2 with h2 | ⟨z, hz, hl⟩
      · rw [h2, List.getElem?_eq_none (Nat.le_refl _)] at hy
        cases hy
      · rw [hz] at hy
        cases hy
        exact hl) (fun y x _ hx => by cases hx)
  have c2 := cut_ok (A1 := []) (A2 := [e]) (B1 := Y.take t) (B2 := Y.drop t) (List.pairwise_singleton _ _) hB (fun x y hx _ => by cases hx) (fun y x hy hx => by
      simp only [List.head?_cons, Option.some.injEq] at hx
      subst hx
      rcases h1 with h1 | ⟨z, hz, hl⟩
      · rw [h1] at hy
        simp at hy
      · have ht0 : t ≠ 0 := by
          intro h0
          subst h0
          simp at hy
        rw [List.getLast?_take, if_neg ht0, hz] at hy
        cases hy
        exact hl)
  refine List.pairwise_append.mpr ⟨(List.pairwise_append.mp hB).1, List.pairwise_cons.mpr ⟨fun w hw => c1 e (by simp) w (by simpa using hw), (List.pairwise_append.mp hB).2.1⟩, fun u hu w hw => c2 u (by simpa using hu) w ?_⟩
  simpa using hw
/-- two that lie side by side changed about -/
theorem adj1 {Q S : List Int} {x y : Int} {j : Nat} (hQ : Q.length = j) : ((ints .i64 (Q ++ (x :: (y :: S)))).set j (.int .i64 y)).set (j + 1) (.int .i64 x) = ints .i64 (Q ++ (y :: (x :: S))) := by
  subst hQ
  have e : (ints .i64 Q).length = Q.length := by simp
  simp only [ints, List.map_append, List.map_cons]
  rw [List.set_append_right _ _ (by simp), List.set_append_right _ _ (by simp)]
  simp
theorem adj2 {Q S : List Int} {x y : Int} {j : Nat} (hQ : Q.length = j) : ((ints .i64 (Q ++ (x :: (y :: S)))).set (j + 1) (.int .i64 x)).set j (.int .i64 y) = ints .i64 (Q ++ (y :: (x :: S))) := by
  rw [List.set_comm _ _ (by omega)]
  exact adj1 hQ
/-- a loop whose way out is held back -/
theorem EvLoop.keepH {P : Program} {n : Nat} {c : Code} {K : Exit → Fr → Hp → Prop} {f : Fr} {h : Hp} (ml : List Nat × Nat) {α : Type} (G : α → Fr) (I : α → Hp → Prop) (μ : α → Nat) (x0 : α) (hF : SubK f (G x0)) (h0 : I x0 h)
    (round : ∀ KK : Exit → Fr → Hp → Prop, (∀ e f h, K e f h → KK e f h) → ∀ x h, I x h → VC P n c (fun e f' h' => match e with | .normal => ∃ x', SubK f' (G x' ++ keepF ml.1 ml.2 [] f) ∧ I x' h' ∧ μ x' < μ x | e => KK e f' h') (G x ++ keepF ml.1 ml.2 [] f) h) : EvLoop P n c K f h :=
  EvLoop.keep ml G I μ x0 hF h0 (round K fun _ _ _ k => k)
theorem sym1_c {h0 h : Hp} {M : List Asn} {C A : Option Addr} {n cc a m b b3 R ca : Nat} {P Y S : List Int} {e : Int} {xs : List Sp} (HS : Sep h0 h (SrtL C n cc (P ++ ([e] ++ (Y ++ S))) b3 A R ca xs M)) (hP : P.length = a) (hm : a + 1 = m) (hY : m + Y.length = b) (heR : 0 ≤ e ∧ e < R) (hr : ∀ y ∈ Y, 0 ≤ y ∧ y < R)
    (hs : Y.Pairwise (Lt xs)) (hlt : ∀ y ∈ Y, e < y) (hn : n ≤ 1000000) :
    HC Tryd.prog 86 [.slice C n cc, .int .i64 a, .int .i64 m, .int .i64 b, cmpV b3] h fun v h' => v = .tuple #[] ∧ ∃ Z : List Int, Z.Perm ([e] ++ Y) ∧ Z.Pairwise (Lt xs) ∧ Sep h0 h' (SrtL C n cc (P ++ (Z ++ S)) b3 A R ca xs M) := by
  have hll : (P ++ ([e] ++ (Y ++ S))).length = n := by simpa using (HS.len 0 rfl).1
  simp only [List.length_append, List.length_singleton] at hll
  have hxl := (HS.spl 2 rfl).1
  have w0 : IntKind.i64.wrap ((m : Int) - a) = 1 := by rw [i64w _ (by omega) (by omega)]; omega
  obtain ⟨D, hD⟩ : ∃ D, P ++ ([e] ++ (Y ++ S)) = D := ⟨_, rfl⟩
  have hDl : D.length = n := by rw [← hD]; simp only [List.length_append, List.length_singleton]; omega
  have de : D[a]? = some e := by
    rw [← hD, List.getElem?_append_right (by omega), hP, Nat.sub_self]
    rfl
  have dy : ∀ q, q < Y.length → D[m + q]? = Y[q]? := fun q hq => by
    rw [← hD, List.getElem?_append_right (by omega), List.getElem?_append_right (by simp; omega), List.getElem?_append_left (by simp; omega)]
    congr 1
    simp
    omega
  have ve : (ints .i64 D)[((a : Int)).toNat]? = some (.int .i64 e) := by simp [de]
  refine hc_of Tryd.func86 (rfl : Tryd.f86.body = some _) Tryd.ntmps86 Tryd.results86 Tryd.call86 rfl ?_; conv => whnf
  repeat' ((first | (with_reducible first | refine EvSeq.go ?_ | refine EvIf.tt ?_ | refine EvIf.ff ?_) | ((with_reducible refine EvIf.mk (fun c => ?_) (fun c => ?_)) <;> (try simp only [cs_] at c) <;> (try (exfalso; first | omega | (revert c; decide))))) <;> conv => whnf)
  refine EvLoop.keep ([10, 11, 12, 31, 32, 33, 34, 35, 36, 37, 38, 39, 40, 41, 42, 43, 44, 45, 46, 47, 48, 49, 50, 51, 52, 53], 25) (α := Nat × Nat) (fun (i, j) => [(10, .int .i64 i), (11, .int .i64 j)])
    (fun (i, j) h' => h' = h ∧ m ≤ i ∧ i ≤ j ∧ j ≤ b ∧ (i = m ∨ ∃ y, Y[i - 1 - m]? = some y ∧ Lt xs y e) ∧ (j = b ∨ ∃ y, Y[j - m]? = some y ∧ Lt xs e y))
    (fun (i, j) => j - i) (m, b) (by (repeat' (first | exact trivial | refine ⟨rfl, ?_⟩))) ⟨rfl, Nat.le_refl _, by omega, Nat.le_refl _, .inl rfl, .inl rfl⟩ ?_
  rintro ⟨i, j⟩ _ ⟨rfl, h1, h2, h3, h4, h5⟩
  conv => whnf
  obtain hij | hij := Nat.lt_or_ge i j
  · have hw := hlf_ok i j (by omega)
    obtain ⟨g, hg⟩ : ∃ g, (i + j) / 2 = g := ⟨_, rfl⟩
    rw [hg] at hw
    delta hlf at hw
    obtain ⟨y, hy⟩ : ∃ y, Y[g - m]? = some y := ⟨_, List.getElem?_eq_getElem (by omega)⟩
    have dg : D[g]? = some y := by
      have := dy (g - m) (by omega)
      rw [show m + (g - m) = g by omega, hy] at this
      exact this
    have vg : (ints .i64 D)[(hlf ((i : Int) + j)).toNat]? = some (.int .i64 y) := by delta hlf; rw [hw, Int.toNat_natCast]; simp [dg]
    have hyY := List.mem_of_getElem? hy
    rw [hD] at HS
    repeat' ((first | ((with_reducible refine EvDraw.ord (id := 5) (.go 0 (.go 1 (.go 2 (.go 3 (.go 4 (.go 5 (.go 6 (.go 7 (.go 8 (.alt 9 (.go 10 .done) .stop)))))))))) fol ?_ ?_ ?_); kernel_rfl; kernel_rfl) | ((with_reducible refine EvIdx.rd (vs := ints .i64 D) (HS.rd 0 rfl) (by simpa using hDl) (by omega) (by omega) ?_); intro bI oI eI hI) | ((with_reducible refine EvLd.rowv (by assumption) ve ?_)) | ((with_reducible refine EvLd.rowv (by assumption) vg ?_)) | ((with_reducible refine EvCall.fn 47 ?_); (refine HC.mono (acmp_z (HS.pt_i 1 rfl) (HS.spr 2 rfl) hxl (hr y hyY) heR) ?_); rintro _ _ ⟨rfl, rfl⟩) | (with_reducible first | refine EvSeq.go ?_ | refine EvIf.tt ?_ | refine EvIf.ff ?_) | ((with_reducible refine EvIf.mk (fun c => ?_) (fun c => ?_)) <;> (try simp only [cs_] at c) <;> (try (exfalso; first | omega | (revert c; decide)))) | ((with_reducible first | refine EvNe.mk ?_ ?_ | refine EvGe.mk ?_ ?_); (first | decide | omega))) <;> conv => whnf)
    · refine ⟨(g + 1, j), ⟨congrArg (fun z => some (Value.int .i64 z)) (by rw [hw, i64w _ (by omega) (by omega)]; omega), rfl, (by (repeat' (first | exact trivial | refine ⟨rfl, ?_⟩)))⟩, ⟨rfl, by omega, by omega, h3, .inr ⟨y, by rw [show g + 1 - 1 - m = g - m by omega]; exact hy, (lt_cross (hlt y hyY)).1.mp c⟩, h5⟩, by show j - (g + 1) < j - i; omega⟩
    · refine ⟨(i, g), ⟨rfl, congrArg (fun z => some (Value.int .i64 z)) hw, (by (repeat' (first | exact trivial | refine ⟨rfl, ?_⟩)))⟩, ⟨rfl, h1, by omega, by omega, h4, .inr ⟨y, hy, (lt_cross (hlt y hyY)).2.mp (by omega)⟩⟩, by show g - i < j - i; omega⟩
  · obtain rfl : i = j := by omega
    obtain ⟨t, ht⟩ : ∃ t, i = m + t := ⟨i - m, by omega⟩
    subst ht
    have wi : IntKind.i64.wrap (((m + t : Nat) : Int) - 1) = ((a + t : Nat) : Int) := by rw [i64w _ (by omega) (by omega)]; omega
    have hZ := ins_cut (e := e) (t := t) hs (by omega) (h4.imp (fun x => by omega) (fun ⟨y, a1, a2⟩ => ⟨y, by rw [show m + t - 1 - m = t - 1 by omega] at a1; exact a1, a2⟩)) (h5.imp (fun x => by omega) (fun ⟨y, a1, a2⟩ => ⟨y, by rw [show m + t - m = t by omega] at a1; exact a1, a2⟩))
    have hp : (Y.take t ++ e :: Y.drop t).Perm ([e] ++ Y) := by
      refine List.perm_middle.trans ?_
      rw [List.take_append_drop]
      exact List.Perm.refl _
    repeat' ((first | (with_reducible first | refine EvSeq.go ?_ | refine EvIf.tt ?_ | refine EvIf.ff ?_) | ((with_reducible refine EvIf.mk (fun c => ?_) (fun c => ?_)) <;> (try simp only [cs_] at c) <;> (try (exfalso; first | omega | (revert c; decide))))) <;> conv => whnf)
    refine EvLoop.keep ([13, 55, 56, 57, 58, 59, 60, 61, 62, 63, 64, 65, 66, 67, 68, 69, 70, 71, 72, 73, 74, 75, 76], 25) (α := Nat) (fun k => [(13, .int .i64 (a + k : Nat))]) (fun k h' => k ≤ t ∧ Sep h0 h' (SrtL C n cc (P ++ (Y.take k ++ (e :: (Y.drop k ++ S)))) b3 A R ca xs M)) (fun k => t - k) 0 (by (repeat' (first | exact trivial | refine ⟨rfl, ?_⟩))) ⟨Nat.zero_le _, HS⟩ ?_
    clear HS
    rintro k h6 ⟨hk, HS⟩
    conv => whnf
    obtain hlk | hgk := Nat.lt_or_ge k t
    · obtain ⟨y, hy⟩ : ∃ y, Y[k]? = some y := ⟨_, List.getElem?_eq_getElem (by omega)⟩
      have hd : Y.drop k = y :: Y.drop (k + 1) := by
        obtain ⟨g1, g2⟩ := List.getElem?_eq_some_iff.mp hy
        rw [List.drop_eq_getElem_cons g1, g2]
      have hQl : (P ++ Y.take k).length = a + k := by rw [List.length_append, List.length_take]; omega
      obtain ⟨D, hD⟩ : ∃ D, P ++ (Y.take k ++ (e :: (Y.drop k ++ S))) = D := ⟨_, rfl⟩
      have hD2 : D = (P ++ Y.take k) ++ (e :: (y :: (Y.drop (k + 1) ++ S))) := by rw [← hD, hd]; simp
      rw [hD] at HS
      have hDl : D.length = n := by simpa using (HS.len 0 rfl).1
      have d0 : D[a + k]? = some e := by
        rw [hD2, List.getElem?_append_right (by omega), hQl, Nat.sub_self]
        rfl
      have d1 : D[a + k + 1]? = some y := by
        rw [hD2, List.getElem?_append_right (by omega), hQl, show a + k + 1 - (a + k) = 1 by omega]
        rfl
      have wk : IntKind.i64.wrap (((a + k : Nat) : Int) + 1) = ((a + k + 1 : Nat) : Int) := by rw [i64w _ (by omega) (by omega)]; omega
      have v0 : (ints .i64 D)[(((a + k : Nat) : Int)).toNat]? = some (.int .i64 e) := by rw [Int.toNat_natCast]; simp [d0]
      have v1 : (ints .i64 D)[(IntKind.i64.wrap (((a + k : Nat) : Int) + 1)).toNat]? = some (.int .i64 y) := by rw [wk, Int.toNat_natCast]; simp [d1]
      repeat' ((first | ((with_reducible refine EvDraw.ord (id := 11) (.go 0 (.go 1 (.go 2 (.go 3 (.go 4 (.go 5 (.go 6 (.go 7 (.go 8 (.go 9 (.go 10 (.go 11 (.go 12 (.go 13 (.go 14 (.alt 15 (.go 16 (.alt 17 .done .stop)) .stop)))))))))))))))) fol ?_ ?_ ?_); kernel_rfl; kernel_rfl) | ((with_reducible refine EvIdx.rd (vs := ints .i64 D) (HS.rd 0 rfl) (by simpa using hDl) (by omega) (by omega) ?_); intro bI oI eI hI) | ((with_reducible refine EvLd.rowv (by assumption) v0 ?_)) | ((with_reducible refine EvLd.rowv (by assumption) v1 ?_)) | (with_reducible first | refine EvSeq.go ?_ | refine EvIf.tt ?_ | refine EvIf.ff ?_) | ((with_reducible refine EvIf.mk (fun c => ?_) (fun c => ?_)) <;> (try simp only [cs_] at c) <;> (try (exfalso; first | omega | (revert c; decide))))) <;> conv => whnf)
      refine EvSt.slx HS 0 rfl eI (by omega) ?_
      intro h7 HS2
      clear HS
      have HS := HS2
      clear HS2
      dsimp only [List.set] at HS
      conv => whnf
      repeat' (((with_reducible refine EvIdx.rd (HS.rd 0 rfl) (by simp; omega) (by omega) (by omega) ?_); intro bI oI eI hI) <;> conv => whnf)
      refine EvSt.slx HS 0 rfl eI (by omega) ?_
      intro h8 HS2
      clear HS
      have HS := HS2
      clear HS2
      dsimp only [List.set] at HS
      rw [wk, Int.toNat_natCast, Int.toNat_natCast, hD2, adj1 hQl] at HS
      conv => whnf
      repeat' (fail <;> conv => whnf)
      refine ⟨k + 1, ⟨congrArg (fun z => some (Value.int .i64 z)) wk, (by (repeat' (first | exact trivial | refine ⟨rfl, ?_⟩)))⟩, ⟨by omega, ?_⟩, by omega⟩
      have e9 : Y.take (k + 1) = Y.take k ++ [y] := by rw [List.take_add_one, hy]; rfl
      have e10 : P ++ (Y.take (k + 1) ++ (e :: (Y.drop (k + 1) ++ S))) = (P ++ Y.take k) ++ (y :: (e :: (Y.drop (k + 1) ++ S))) := by rw [e9]; simp
      rw [e10]
      exact HS
    · repeat' ((first | (with_reducible first | refine EvSeq.go ?_ | refine EvIf.tt ?_ | refine EvIf.ff ?_) | ((with_reducible refine EvIf.mk (fun c => ?_) (fun c => ?_)) <;> (try simp only [cs_] at c) <;> (try (exfalso; first | omega | (revert c; decide))))) <;> conv => whnf)
      obtain rfl : k = t := by omega
      refine ⟨rfl, _, hp, hZ, ?_⟩
      simpa using HS
theorem sym2_c {h0 h : Hp} {M : List Asn} {C A : Option Addr} {n cc a m b b3 R ca : Nat} {P X S : List Int} {e : Int} {xs : List Sp} (HS : Sep h0 h (SrtL C n cc (P ++ (X ++ (e :: S))) b3 A R ca xs M)) (hP : P.length = a) (hX : a + X.length = m) (hX1 : X.length ≠ 1) (hb : m + 1 = b) (heR : 0 ≤ e ∧ e < R) (hr : ∀ x ∈ X, 0 ≤ x ∧ x < R)
    (hs : X.Pairwise (Lt xs)) (hlt : ∀ x ∈ X, x < e) (hn : n ≤ 1000000) :
    HC Tryd.prog 86 [.slice C n cc, .int .i64 a, .int .i64 m, .int .i64 b, cmpV b3] h fun v h' => v = .tuple #[] ∧ ∃ Z : List Int, Z.Perm (X ++ [e]) ∧ Z.Pairwise (Lt xs) ∧ Sep h0 h' (SrtL C n cc (P ++ (Z ++ S)) b3 A R ca xs M) := by
  have hll : (P ++ (X ++ (e :: S))).length = n := by simpa using (HS.len 0 rfl).1
  simp only [List.length_append, List.length_cons] at hll
  have hxl := (HS.spl 2 rfl).1
  have w0 : IntKind.i64.wrap ((m : Int) - a) = X.length := by rw [i64w _ (by omega) (by omega)]; omega
  have w1 : IntKind.i64.wrap ((b : Int) - m) = 1 := by rw [i64w _ (by omega) (by omega)]; omega
  obtain ⟨D, hD⟩ : ∃ D, P ++ (X ++ (e :: S)) = D := ⟨_, rfl⟩
  have hDl : D.length = n := by rw [← hD]; simp only [List.length_append, List.length_cons]; omega
  have de : D[m]? = some e := by
    rw [← hD, List.getElem?_append_right (by omega), List.getElem?_append_right (by omega), show m - P.length - X.length = 0 by omega]
    rfl
  have dy : ∀ q, q < X.length → D[a + q]? = X[q]? := fun q hq => by
    rw [← hD, List.getElem?_append_right (by omega), List.getElem?_append_left (by omega)]
    congr 1
    omega
  have ve : (ints .i64 D)[((m : Int)).toNat]? = some (.int .i64 e) := by simp [de]
  refine hc_of Tryd.func86 (rfl : Tryd.f86.body = some _) Tryd.ntmps86 Tryd.results86 Tryd.call86 rfl ?_; conv => whnf
  repeat' ((first | (with_reducible first | refine EvSeq.go ?_ | refine EvIf.tt ?_ | refine EvIf.ff ?_) | ((with_reducible refine EvIf.mk (fun c => ?_) (fun c => ?_)) <;> (try simp only [cs_] at c) <;> (try (exfalso; first | omega | (revert c; decide))))) <;> conv => whnf)
  refine EvLoop.keepH ([14, 15, 16, 83, 84, 85, 86, 87, 88, 89, 90, 91, 92, 93, 94, 95, 96, 97, 98, 99, 100, 101, 102, 103, 104, 105, 106], 25) (α := Nat × Nat) (fun (i, j) => [(14, .int .i64 i), (15, .int .i64 j)])
    (fun (i, j) h' => h' = h ∧ a ≤ i ∧ i ≤ j ∧ j ≤ m ∧ (i = a ∨ ∃ y, X[i - 1 - a]? = some y ∧ Lt xs y e) ∧ (j = m ∨ ∃ y, X[j - a]? = some y ∧ Lt xs e y))
    (fun (i, j) => j - i) (a, m) (by (repeat' (first | exact trivial | refine ⟨rfl, ?_⟩))) ⟨rfl, Nat.le_refl _, by omega, Nat.le_refl _, .inl rfl, .inl rfl⟩ ?_
  intro KK hKK
  rintro ⟨i, j⟩ _ ⟨rfl, h1, h2, h3, h4, h5⟩
  conv => whnf
  obtain hij | hij := Nat.lt_or_ge i j
  · have hw := hlf_ok i j (by omega)
    obtain ⟨g, hg⟩ : ∃ g, (i + j) / 2 = g := ⟨_, rfl⟩
    rw [hg] at hw
    delta hlf at hw
    obtain ⟨y, hy⟩ : ∃ y, X[g - a]? = some y := ⟨_, List.getElem?_eq_getElem (by omega)⟩
    have dg : D[g]? = some y := by
      have := dy (g - a) (by omega)
      rw [show a + (g - a) = g by omega, hy] at this
      exact this
    have vg : (ints .i64 D)[(hlf ((i : Int) + j)).toNat]? = some (.int .i64 y) := by delta hlf; rw [hw, Int.toNat_natCast]; simp [dg]
    have hyX := List.mem_of_getElem? hy
    rw [hD] at HS
    repeat' ((first | ((with_reducible refine EvDraw.ord (id := 17) (.go 0 (.go 1 (.go 2 (.go 3 (.go 4 (.go 5 (.go 6 (.go 7 (.go 8 (.alt 9 (.go 10 (.go 11 .done)) .stop)))))))))) fol ?_ ?_ ?_); kernel_rfl; kernel_rfl) | ((with_reducible refine EvIdx.rd (vs := ints .i64 D) (HS.rd 0 rfl) (by simpa using hDl) (by omega) (by omega) ?_); intro bI oI eI hI) | ((with_reducible refine EvLd.rowv (by assumption) ve ?_)) | ((with_reducible refine EvLd.rowv (by assumption) vg ?_)) | ((with_reducible refine EvCall.fn 47 ?_); (refine HC.mono (acmp_z (HS.pt_i 1 rfl) (HS.spr 2 rfl) hxl heR (hr y hyX)) ?_); rintro _ _ ⟨rfl, rfl⟩) | (with_reducible first | refine EvSeq.go ?_ | refine EvIf.tt ?_ | refine EvIf.ff ?_) | ((with_reducible refine EvIf.mk (fun c => ?_) (fun c => ?_)) <;> (try simp only [cs_] at c) <;> (try (exfalso; first | omega | (revert c; decide)))) | ((with_reducible first | refine EvNe.mk ?_ ?_ | refine EvGe.mk ?_ ?_); (first | decide | omega))) <;> conv => whnf)
    · refine ⟨(g + 1, j), ⟨congrArg (fun z => some (Value.int .i64 z)) (by rw [hw, i64w _ (by omega) (by omega)]; omega), rfl, (by (repeat' (first | exact trivial | refine ⟨rfl, ?_⟩)))⟩, ⟨rfl, by omega, by omega, h3, .inr ⟨y, by rw [show g + 1 - 1 - a = g - a by omega]; exact hy, (lt_cross (hlt y hyX)).2.mp (by omega)⟩, h5⟩, by show j - (g + 1) < j - i; omega⟩
    · refine ⟨(i, g), ⟨rfl, congrArg (fun z => some (Value.int .i64 z)) hw, (by (repeat' (first | exact trivial | refine ⟨rfl, ?_⟩)))⟩, ⟨rfl, h1, by omega, by omega, h4, .inr ⟨y, hy, (lt_cross (hlt y hyX)).1.mp (by omega)⟩⟩, by show g - i < j - i; omega⟩
  · obtain rfl : i = j := by omega
    obtain ⟨t, ht⟩ : ∃ t, i = a + t := ⟨i - a, by omega⟩
    subst ht
    have hZ := ins_cut (e := e) (t := t) hs (by omega) (h4.imp (fun x => by omega) (fun ⟨y, a1, a2⟩ => ⟨y, by rw [show a + t - 1 - a = t - 1 by omega] at a1; exact a1, a2⟩)) (h5.imp (fun x => by omega) (fun ⟨y, a1, a2⟩ => ⟨y, by rw [show a + t - a = t by omega] at a1; exact a1, a2⟩))
    have hp : (X.take t ++ e :: X.drop t).Perm (X ++ [e]) := by
      refine List.perm_middle.trans ?_
      rw [List.take_append_drop]
      exact List.perm_append_comm (l₁ := [e]) (l₂ := X)
    repeat' ((first | (with_reducible first | refine EvSeq.go ?_ | refine EvIf.tt ?_ | refine EvIf.ff ?_) | ((with_reducible refine EvIf.mk (fun c => ?_) (fun c => ?_)) <;> (try simp only [cs_] at c) <;> (try (exfalso; first | omega | (revert c; decide))))) <;> conv => whnf)
    refine hKK _ _ _ ?_
    conv => whnf
    repeat' ((with_reducible first | refine EvSeq.go ?_ | refine EvIf.tt ?_ | refine EvIf.ff ?_) <;> conv => whnf)
    refine EvLoop.keepH ([17, 108, 109, 110, 111, 112, 113, 114, 115, 116, 117, 118, 119, 120, 121, 122, 123, 124, 125, 126, 127, 128], 25) (α := Nat) (fun k => [(17, .int .i64 (a + k : Nat))]) (fun k h' => t ≤ k ∧ k ≤ X.length ∧ Sep h0 h' (SrtL C n cc (P ++ (X.take k ++ (e :: (X.drop k ++ S)))) b3 A R ca xs M)) (fun k => k) X.length ⟨congrArg (fun z => some (Value.int .i64 z)) (by omega), (by (repeat' (first | exact trivial | refine ⟨rfl, ?_⟩)))⟩ ⟨by omega, Nat.le_refl _, by simpa using HS⟩ ?_
    clear HS
    intro KK2 hKK2
    rintro k h6 ⟨hk, hk2, HS⟩
    conv => whnf
    obtain hlk | hgk := Nat.lt_or_ge t k
    · obtain ⟨k, rfl⟩ : ∃ q, k = q + 1 := ⟨k - 1, by omega⟩
      obtain ⟨y, hy⟩ : ∃ y, X[k]? = some y := ⟨_, List.getElem?_eq_getElem (by omega)⟩
      have e9 : X.take (k + 1) = X.take k ++ [y] := by rw [List.take_add_one, hy]; rfl
      have hd : X.drop k = y :: X.drop (k + 1) := by
        obtain ⟨g1, g2⟩ := List.getElem?_eq_some_iff.mp hy
        rw [List.drop_eq_getElem_cons g1, g2]
      have hQl : (P ++ X.take k).length = a + k := by rw [List.length_append, List.length_take]; omega
      obtain ⟨D, hD⟩ : ∃ D, P ++ (X.take (k + 1) ++ (e :: (X.drop (k + 1) ++ S))) = D := ⟨_, rfl⟩
      have hD2 : D = (P ++ X.take k) ++ (y :: (e :: (X.drop (k + 1) ++ S))) := by rw [← hD, e9]; simp
      rw [hD] at HS
      have hDl : D.length = n := by simpa using (HS.len 0 rfl).1
      have d0 : D[a + k]? = some y := by
        rw [hD2, List.getElem?_append_right (by omega), hQl, Nat.sub_self]
        rfl
      have d1 : D[a + (k + 1)]? = some e := by
        rw [hD2, List.getElem?_append_right (by omega), hQl, show a + (k + 1) - (a + k) = 1 by omega]
        rfl
      have wk : IntKind.i64.wrap (((a + (k + 1) : Nat) : Int) - 1) = ((a + k : Nat) : Int) := by rw [i64w _ (by omega) (by omega)]; omega
      have v0 : (ints .i64 D)[(((a + (k + 1) : Nat) : Int)).toNat]? = some (.int .i64 e) := by rw [Int.toNat_natCast]; simp [d1]
      have v1 : (ints .i64 D)[(IntKind.i64.wrap (((a + (k + 1) : Nat) : Int) - 1)).toNat]? = some (.int .i64 y) := by rw [wk, Int.toNat_natCast]; simp [d0]
      repeat' ((first | ((with_reducible refine EvDraw.ord (id := 23) (.go 0 (.go 1 (.go 2 (.go 3 (.go 4 (.go 5 (.go 6 (.go 7 (.go 8 (.go 9 (.go 10 (.go 11 (.go 12 (.go 13 (.go 14 (.alt 15 (.go 16 (.alt 17 .done .stop)) .stop)))))))))))))))) fol ?_ ?_ ?_); kernel_rfl; kernel_rfl) | ((with_reducible refine EvIdx.rd (vs := ints .i64 D) (HS.rd 0 rfl) (by simpa using hDl) (by omega) (by omega) ?_); intro bI oI eI hI) | ((with_reducible refine EvLd.rowv (by assumption) v0 ?_)) | ((with_reducible refine EvLd.rowv (by assumption) v1 ?_)) | (with_reducible first | refine EvSeq.go ?_ | refine EvIf.tt ?_ | refine EvIf.ff ?_) | ((with_reducible refine EvIf.mk (fun c => ?_) (fun c => ?_)) <;> (try simp only [cs_] at c) <;> (try (exfalso; first | omega | (revert c; decide))))) <;> conv => whnf)
      refine EvSt.slx HS 0 rfl eI (by omega) ?_
      intro h7 HS2
      clear HS
      have HS := HS2
      clear HS2
      dsimp only [List.set] at HS
      conv => whnf
      repeat' (((with_reducible refine EvIdx.rd (HS.rd 0 rfl) (by simp; omega) (by omega) (by omega) ?_); intro bI oI eI hI) <;> conv => whnf)
      refine EvSt.slx HS 0 rfl eI (by omega) ?_
      intro h8 HS2
      clear HS
      have HS := HS2
      clear HS2
      dsimp only [List.set] at HS
      rw [wk, Int.toNat_natCast, Int.toNat_natCast, hD2, ← Nat.add_assoc, adj2 hQl] at HS
      conv => whnf
      repeat' (fail <;> conv => whnf)
      refine ⟨k, ⟨congrArg (fun z => some (Value.int .i64 z)) wk, (by (repeat' (first | exact trivial | refine ⟨rfl, ?_⟩)))⟩, ⟨by omega, by omega, ?_⟩, by omega⟩
      have e10 : P ++ (X.take k ++ (e :: (X.drop k ++ S))) = (P ++ X.take k) ++ (e :: (y :: (X.drop (k + 1) ++ S))) := by rw [hd]; simp
      rw [e10]
      exact HS
    · repeat' ((first | (with_reducible first | refine EvSeq.go ?_ | refine EvIf.tt ?_ | refine EvIf.ff ?_) | ((with_reducible refine EvIf.mk (fun c => ?_) (fun c => ?_)) <;> (try simp only [cs_] at c) <;> (try (exfalso; first | omega | (revert c; decide))))) <;> conv => whnf)
      refine hKK2 _ _ _ ?_
      conv => whnf
      repeat' (fail <;> conv => whnf)
      obtain rfl : k = t := by omega
      refine ⟨rfl, _, hp, hZ, ?_⟩
      simpa using HS
end Go.Proofs.YtjggmhpjlnmigaaDoor
/- The sort of registers: the merge. -/
namespace Go.Proofs.YtjggmhpjlnmigaaDoor
open Go.RowKit
set_option maxRecDepth 20000
set_option linter.unusedSimpArgs false
set_option linter.unusedVariables false
/-- a cut whose way out is held back -/
theorem EvSeq.keepcutH {P : Program} {n : Nat} {x y : Code} {K : Exit → Fr → Hp → Prop} {f : Fr} {h : Hp} (ml : List Nat × Nat) {α : Type} (G : α → Fr) (I : α → Hp → Prop)
    (h1 : ∀ KK : Exit → Fr → Hp → Prop, (∀ e f h, K e f h → KK e f h) → VC P n x (fun e f' h' => match e with | .normal => ∃ x, SubK f' (G x ++ keepF ml.1 ml.2 [] f) ∧ I x h' | e => KK e f' h') f h)
    (h2 : ∀ x h, I x h → VC P n y K (G x ++ keepF ml.1 ml.2 [] f) h) : EvSeq P n x y K f h :=
  EvSeq.keepcut ml G I (h1 K fun _ _ _ k => k) h2
theorem mrg_cut {xs : List Sp} {X Y : List Int} {a m b s nn s0 r0 : Nat} (hX : a + X.length = m) (hY : m + Y.length = b) (sx : X.Pairwise (Lt xs)) (sy : Y.Pairwise (Lt xs)) (s1 : a ≤ s) (s2 : s ≤ m) (e1 : m + s ≤ nn) (e2 : nn ≤ b + s)
    (q0 : s0 = a ∨ nn = b + s0) (q1 : r0 = m ∨ nn = m + r0)
    (g0 : s = s0 ∨ ∃ x y, X[s - 1 - a]? = some x ∧ Y[nn - s - m]? = some y ∧ Lt xs x y) (g1 : s = r0 ∨ ∃ x y, X[s - a]? = some x ∧ Y[nn - 1 - s - m]? = some y ∧ Lt xs y x) :
    ∀ u ∈ X.take (s - a) ++ Y.take (nn - s - m), ∀ w ∈ X.drop (s - a) ++ Y.drop (nn - s - m), Lt xs u w := by
  refine cut_ok (by rw [List.take_append_drop]; exact sx) (by rw [List.take_append_drop]; exact sy) (fun x y hx hy => ?_) (fun y x hy hx => ?_)
  · rw [List.getLast?_take] at hx
    split at hx
    · cases hx
    · rename_i h0
      rw [List.head?_drop] at hy
      rcases g0 with g0 | ⟨x', y', a1, a2, a3⟩
      · rcases q0 with q0 | q0
        · omega
        · rw [List.getElem?_eq_none (by omega)] at hy
          cases hy
      · rw [show s - a - 1 = s - 1 - a by omega, a1] at hx
        rw [a2] at hy
        cases hx
        cases hy
        exact a3
  · rw [List.getLast?_take] at hy
    split at hy
    · cases hy
    · rename_i h0
      rw [List.head?_drop] at hx
      rcases g1 with g1 | ⟨x', y', a1, a2, a3⟩
      · rcases q1 with q1 | q1
        · rw [List.getElem?_eq_none (by omega)] at hx
          cases hx
        · omega
      · rw [show nn - s - m - 1 = nn - 1 - s - m by omega, a2] at hy
        rw [a1] at hx
        cases hx
        cases hy
        exact a3
theorem rot_i {h0 h : Hp} {L : List Asn} {C : Option Addr} {n cc a m b : Nat} {bi : Int} {D P X Y S : List Int} {fv : Value} (HS : Sep h0 h (Sl 3 C n cc (ints .i64 D) :: L)) (hD : D = P ++ (X ++ (Y ++ S))) (eb : bi = b) (hP : P.length = a) (hX : a + X.length = m) (hY : m + Y.length = b) (x0 : 0 < X.length) (y0 : 0 < Y.length) (hn : n ≤ 1000000) :
    HC Tryd.prog 93 [.slice C n cc, .int .i64 a, .int .i64 m, .int .i64 bi, fv] h fun v h' => v = .tuple #[] ∧ Sep h0 h' (Sl 3 C n cc (ints .i64 (P ++ (Y ++ (X ++ S)))) :: L) := by
  subst eb
  subst hD
  exact rot_c HS hP hX hY x0 y0 hn
set_option maxHeartbeats 1000000 in
theorem sym_c : ∀ (N : Nat) {h0 h : Hp} {M : List Asn} {C A : Option Addr} {n cc a m b b3 R ca : Nat} {P X Y S D : List Int} {xs : List Sp} (HS : Sep h0 h (SrtL C n cc D b3 A R ca xs M)) (hD : D = P ++ (X ++ (Y ++ S))) (hN : X.length + Y.length ≤ N) (hP : P.length = a) (hX : a + X.length = m) (hY : m + Y.length = b) (x0 : 0 < X.length) (y0 : 0 < Y.length)
    (rx : ∀ x ∈ X, 0 ≤ x ∧ x < R) (ry : ∀ y ∈ Y, 0 ≤ y ∧ y < R) (sx : X.Pairwise (Lt xs)) (sy : Y.Pairwise (Lt xs)) (hlt : ∀ x ∈ X, ∀ y ∈ Y, x < y) (hn : n ≤ 1000000),
    HC Tryd.prog 86 [.slice C n cc, .int .i64 a, .int .i64 m, .int .i64 b, cmpV b3] h fun v h' => v = .tuple #[] ∧ ∃ Z : List Int, Z.Perm (X ++ Y) ∧ Z.Pairwise (Lt xs) ∧ Sep h0 h' (SrtL C n cc (P ++ (Z ++ S)) b3 A R ca xs M)
  | 0, _, _, _, _, _, _, _, _, _, _, _, _, _, _, _, _, _, _, _, HS, hD, hN, hP, hX, hY, x0, y0, rx, ry, sx, sy, hlt, hn => by omega
  | N + 1, h0, h, M, C, A, n, cc, a, m, b, b3, R, ca, P, X, Y, S, D, xs, HS, hD, hN, hP, hX, hY, x0, y0, rx, ry, sx, sy, hlt, hn => by
    by_cases hx1 : X.length = 1
    · obtain ⟨e, rfl⟩ := List.length_eq_one_iff.mp hx1
      subst hD
      exact sym1_c HS hP hX hY (rx e (by simp)) ry sy (fun y hy => hlt e (by simp) y hy) hn
    by_cases hy1 : Y.length = 1
    · obtain ⟨e, rfl⟩ := List.length_eq_one_iff.mp hy1
      subst hD
      exact sym2_c HS hP hX hx1 hY (ry e (by simp)) rx sx (fun x hx => hlt x hx e (by simp)) hn
    have hDl : D.length = n := by simpa using (HS.len 0 rfl).1
    have hll := congrArg List.length hD
    simp only [List.length_append] at hll
    have hxl := (HS.spl 2 rfl).1
    have w0 : IntKind.i64.wrap ((m : Int) - a) = X.length := by rw [i64w _ (by omega) (by omega)]; omega
    have w1 : IntKind.i64.wrap ((b : Int) - m) = Y.length := by rw [i64w _ (by omega) (by omega)]; omega
    have hw := hlf_ok a b (by omega)
    obtain ⟨mid, hmid⟩ : ∃ g, (a + b) / 2 = g := ⟨_, rfl⟩
    rw [hmid] at hw
    delta hlf at hw
    obtain ⟨nn, hnn⟩ : ∃ g, mid + m = g := ⟨_, rfl⟩
    have dx : ∀ q, a ≤ q → q < m → D[q]? = X[q - a]? := fun q h1 h2 => by
      rw [hD, List.getElem?_append_right (by omega), List.getElem?_append_left (by omega), hP]
    have dy : ∀ q, m ≤ q → q < b → D[q]? = Y[q - m]? := fun q h1 h2 => by
      rw [hD, List.getElem?_append_right (by omega), List.getElem?_append_right (by omega), List.getElem?_append_left (by omega)]
      congr 1
      omega
    have hw2 : IntKind.i64.wrap (hlf ((a : Int) + b) + m) = (nn : Int) := by delta hlf; rw [hw, i64w _ (by omega) (by omega)]; omega
    delta hlf at hw2
    refine hc_of Tryd.func86 (rfl : Tryd.f86.body = some _) Tryd.ntmps86 Tryd.results86 Tryd.call86 rfl ?_; conv => whnf
    repeat' (fail <;> conv => whnf)
    refine EvSeq.go ?_
    conv => whnf
    repeat' (((with_reducible refine EvIf.mk (fun c => ?_) (fun c => ?_)) <;> (try simp only [cs_] at c) <;> (try (exfalso; first | omega | (revert c; decide)))) <;> conv => whnf)
    refine EvSeq.go ?_
    conv => whnf
    repeat' ((first | ((with_reducible refine EvIf.mk (fun c => ?_) (fun c => ?_)) <;> (try simp only [cs_] at c) <;> (try (exfalso; first | omega | (revert c; decide)))) | ((with_reducible first | refine EvNe.mk ?_ ?_ | refine EvGe.mk ?_ ?_); (first | decide | omega))) <;> conv => whnf)
    refine EvSeq.keepcutH ([18, 19, 20, 21], 25) (α := Nat × Nat) (fun (s, r) => [(18, .int .i64 mid), (19, .int .i64 nn), (20, .int .i64 s), (21, .int .i64 r)]) (fun (s, r) h' => h' = h ∧ a ≤ s ∧ s ≤ r ∧ (s = a ∧ r = m ∧ m ≤ mid ∨ nn = b + s ∧ nn = m + r ∧ mid ≤ m)) ?_ ?_
    · intro KK hKK
      conv => whnf
      repeat' (((with_reducible refine EvIf.mk (fun c => ?_) (fun c => ?_)) <;> (try simp only [cs_] at c) <;> (try (exfalso; first | omega | (revert c; decide)))) <;> conv => whnf)
      · exact ⟨(nn - b, mid), ⟨congrArg (fun z => some (Value.int .i64 z)) hw, congrArg (fun z => some (Value.int .i64 z)) hw2, congrArg (fun z => some (Value.int .i64 z)) (by rw [hw2, i64w _ (by omega) (by omega)]; omega), congrArg (fun z => some (Value.int .i64 z)) hw, (by (repeat' (first | exact trivial | refine ⟨rfl, ?_⟩)))⟩, rfl, by omega, by omega, .inr ⟨by omega, hnn.symm.trans (Nat.add_comm _ _), by omega⟩⟩
      · exact ⟨(a, m), ⟨congrArg (fun z => some (Value.int .i64 z)) hw, congrArg (fun z => some (Value.int .i64 z)) hw2, (by (repeat' (first | exact trivial | refine ⟨rfl, ?_⟩)))⟩, rfl, Nat.le_refl _, by omega, .inl ⟨rfl, rfl, by omega⟩⟩
    · rintro ⟨s0, r0⟩ h ⟨rfl, hs0, hsr, q⟩
      have wp : IntKind.i64.wrap ((nn : Int) - 1) = ((nn - 1 : Nat) : Int) := by rw [i64w _ (by omega) (by omega)]; omega
      conv => whnf
      repeat' ((with_reducible first | refine EvSeq.go ?_ | refine EvIf.tt ?_ | refine EvIf.ff ?_) <;> conv => whnf)
      refine EvLoop.keepH ([20, 21, 23, 149, 150, 151, 152, 153, 154, 155, 156, 157, 158, 159, 160, 161, 162, 163, 164, 165, 166, 167, 168, 169, 170, 171, 172, 173, 174], 25) (α := Nat × Nat) (fun (s, r) => [(20, .int .i64 s), (21, .int .i64 r)])
        (fun (s, r) h' => h' = h ∧ s0 ≤ s ∧ s ≤ r ∧ r ≤ r0 ∧ (s = s0 ∨ ∃ x y, X[s - 1 - a]? = some x ∧ Y[nn - s - m]? = some y ∧ Lt xs x y) ∧ (r = r0 ∨ ∃ x y, X[r - a]? = some x ∧ Y[nn - 1 - r - m]? = some y ∧ Lt xs y x))
        (fun (s, r) => r - s) (s0, r0) (by (repeat' (first | exact trivial | refine ⟨rfl, ?_⟩))) ⟨rfl, Nat.le_refl _, by omega, Nat.le_refl _, .inl rfl, .inl rfl⟩ ?_
      intro KK hKK
      rintro ⟨s, r⟩ h ⟨rfl, h1, h2, h3, h4, h5⟩
      conv => whnf
      obtain hij | hij := Nat.lt_or_ge s r
      · have hv := hlf_ok s r (by omega)
        obtain ⟨g, hg⟩ : ∃ g, (s + r) / 2 = g := ⟨_, rfl⟩
        rw [hg] at hv
        delta hlf at hv
        have wc : IntKind.i64.wrap (IntKind.i64.wrap ((nn : Int) - 1) - hlf ((s : Int) + r)) = ((nn - 1 - g : Nat) : Int) := by delta hlf; rw [wp, hv, i64w _ (by omega) (by omega)]; omega
        delta hlf at wc
        obtain ⟨x, hx⟩ : ∃ x, X[g - a]? = some x := ⟨_, List.getElem?_eq_getElem (by omega)⟩
        obtain ⟨y, hy⟩ : ∃ y, Y[nn - 1 - g - m]? = some y := ⟨_, List.getElem?_eq_getElem (by omega)⟩
        have vx : (ints .i64 D)[(hlf ((s : Int) + r)).toNat]? = some (.int .i64 x) := by delta hlf; rw [hv, Int.toNat_natCast]; simp [dx g (by omega) (by omega), hx]
        have vy : (ints .i64 D)[(IntKind.i64.wrap (IntKind.i64.wrap ((nn : Int) - 1) - hlf ((s : Int) + r))).toNat]? = some (.int .i64 y) := by delta hlf; rw [wc, Int.toNat_natCast]; simp [dy (nn - 1 - g) (by omega) (by omega), hy]
        have hxX := List.mem_of_getElem? hx
        have hyY := List.mem_of_getElem? hy
        repeat' ((first | ((with_reducible refine EvDraw.ord (id := 35) (.go 0 (.go 1 (.go 2 (.go 3 (.go 4 (.go 5 (.go 6 (.go 7 (.go 8 (.go 9 (.go 10 (.alt 11 (.go 12 (.go 13 .done)) .stop)))))))))))) fol ?_ ?_ ?_); kernel_rfl; kernel_rfl) | ((with_reducible refine EvIdx.rd (vs := ints .i64 D) (HS.rd 0 rfl) (by simpa using hDl) (by omega) (by omega) ?_); intro bI oI eI hI) | ((with_reducible refine EvLd.rowv (by assumption) vx ?_)) | ((with_reducible refine EvLd.rowv (by assumption) vy ?_)) | ((with_reducible refine EvCall.fn 47 ?_); (refine HC.mono (acmp_z (HS.pt_i 1 rfl) (HS.spr 2 rfl) hxl (ry y hyY) (rx x hxX)) ?_); rintro _ _ ⟨rfl, rfl⟩) | (with_reducible first | refine EvSeq.go ?_ | refine EvIf.tt ?_ | refine EvIf.ff ?_) | ((with_reducible refine EvIf.mk (fun c => ?_) (fun c => ?_)) <;> (try simp only [cs_] at c) <;> (try (exfalso; first | omega | (revert c; decide)))) | ((with_reducible first | refine EvNe.mk ?_ ?_ | refine EvGe.mk ?_ ?_); (first | decide | omega))) <;> conv => whnf)
        · refine ⟨(g + 1, r), ⟨congrArg (fun z => some (Value.int .i64 z)) (by rw [hv, i64w _ (by omega) (by omega)]; omega), rfl, (by (repeat' (first | exact trivial | refine ⟨rfl, ?_⟩)))⟩, ⟨rfl, by omega, by omega, h3, .inr ⟨x, y, by rw [show g + 1 - 1 - a = g - a by omega]; exact hx, by rw [show nn - (g + 1) - m = nn - 1 - g - m by omega]; exact hy, (lt_cross (hlt x hxX y hyY)).2.mp (by omega)⟩, h5⟩, by show r - (g + 1) < r - s; omega⟩
        · refine ⟨(s, g), ⟨rfl, congrArg (fun z => some (Value.int .i64 z)) hv, (by (repeat' (first | exact trivial | refine ⟨rfl, ?_⟩)))⟩, ⟨rfl, h1, by omega, by omega, h4, .inr ⟨x, y, hx, hy, (lt_cross (hlt x hxX y hyY)).1.mp (by omega)⟩⟩, by show g - s < r - s; omega⟩
      · obtain rfl : s = r := by omega
        have hcut := mrg_cut hX hY sx sy (s := s) (nn := nn) (by omega) (by omega) (by omega) (by omega) (q.imp (fun q => q.1) (fun q => q.1)) (q.imp (fun q => q.2.1) (fun q => q.2.1)) h4 h5
        obtain ⟨p, hp⟩ : ∃ p, nn - s = p := ⟨_, rfl⟩
        rw [hp] at hcut
        have wE : IntKind.i64.wrap ((nn : Int) - s) = (p : Nat) := by rw [i64w _ (by omega) (by omega)]; omega
        obtain ⟨A1, hA1⟩ : ∃ A1, X.take (s - a) = A1 := ⟨_, rfl⟩
        obtain ⟨A2, hA2⟩ : ∃ A2, X.drop (s - a) = A2 := ⟨_, rfl⟩
        obtain ⟨B1, hB1⟩ : ∃ B1, Y.take (p - m) = B1 := ⟨_, rfl⟩
        obtain ⟨B2, hB2⟩ : ∃ B2, Y.drop (p - m) = B2 := ⟨_, rfl⟩
        have eX : X = A1 ++ A2 := by rw [← hA1, ← hA2, List.take_append_drop]
        have eY : Y = B1 ++ B2 := by rw [← hB1, ← hB2, List.take_append_drop]
        have lA1 : A1.length = s - a := by rw [← hA1, List.length_take]; omega
        have lB1 : B1.length = p - m := by rw [← hB1, List.length_take]; omega
        have lX := congrArg List.length eX
        have lY := congrArg List.length eY
        rw [List.length_append] at lX lY
        rw [hA1, hA2, hB1, hB2] at hcut
        clear hA1 hA2 hB1 hB2 h4 h5 dx dy
        subst eX
        subst eY
        have eD : D = (P ++ A1) ++ (A2 ++ (B1 ++ (B2 ++ S))) := by rw [hD]; simp
        conv => whnf
        repeat' ((first | (with_reducible first | refine EvSeq.go ?_ | refine EvIf.tt ?_ | refine EvIf.ff ?_) | ((with_reducible refine EvIf.mk (fun c => ?_) (fun c => ?_)) <;> (try simp only [cs_] at c) <;> (try (exfalso; first | omega | (revert c; decide))))) <;> conv => whnf)
        refine hKK _ _ _ ?_
        conv => whnf
        repeat' (fail <;> conv => whnf)
        refine EvSeq.keepcutH ([24], 25) (α := Unit) (fun _ => [(24, .int .i64 p)]) (fun _ h' => Sep h0 h' (SrtL C n cc (P ++ (A1 ++ (B1 ++ (A2 ++ (B2 ++ S))))) b3 A R ca xs M)) ?_ ?_
        · intro KK2 hKK2
          conv => whnf
          by_cases hc : s < m ∧ m < p
          · repeat' ((first | ((with_reducible refine EvCall.fn 93 ?_); (with_reducible refine HC.mono (rot_i (a := s) (m := m) HS eD wE (by rw [List.length_append]; omega) (by omega) (by omega) (by omega) (by omega) hn) ?_); rintro _ hN ⟨rfl, HS2⟩; clear HS; have HS := HS2; clear HS2) | (with_reducible first | refine EvSeq.go ?_ | refine EvIf.tt ?_ | refine EvIf.ff ?_) | ((with_reducible refine EvIf.mk (fun c => ?_) (fun c => ?_)) <;> (try simp only [cs_] at c) <;> (try (exfalso; first | omega | (revert c; decide))))) <;> conv => whnf)
            refine ⟨(), ⟨congrArg (fun z => some (Value.int .i64 z)) wE, (by (repeat' (first | exact trivial | refine ⟨rfl, ?_⟩)))⟩, ?_⟩
            rw [List.append_assoc] at HS
            exact HS
          · have e9 : D = P ++ (A1 ++ (B1 ++ (A2 ++ (B2 ++ S)))) := by
              rw [eD]
              have : A2 = [] ∨ B1 = [] := by
                rcases Nat.lt_or_ge s m with h6 | h6
                · exact .inr (List.eq_nil_of_length_eq_zero (by omega))
                · exact .inl (List.eq_nil_of_length_eq_zero (by omega))
              rcases this with rfl | rfl <;> simp
            rw [e9] at HS
            repeat' ((first | (with_reducible first | refine EvSeq.go ?_ | refine EvIf.tt ?_ | refine EvIf.ff ?_) | ((with_reducible refine EvIf.mk (fun c => ?_) (fun c => ?_)) <;> (try simp only [cs_] at c) <;> (try (exfalso; first | omega | (revert c; decide))))) <;> conv => whnf)
            all_goals exact ⟨(), ⟨congrArg (fun z => some (Value.int .i64 z)) wE, (by (repeat' (first | exact trivial | refine ⟨rfl, ?_⟩)))⟩, HS⟩
        · rintro ⟨⟩ hN HS
          have lp : p + s = mid + m := by omega
          have rA : ∀ x ∈ A1 ++ A2, 0 ≤ x ∧ x < R := rx
          have hc1 : ∀ u ∈ A1 ++ B1, ∀ w ∈ A2 ++ B2, Lt xs u w := hcut
          conv => whnf
          refine EvSeq.keepcutH ([], 25) (α := Unit) (fun _ => []) (fun _ h' => ∃ Z : List Int, Z.Perm (A1 ++ B1) ∧ Z.Pairwise (Lt xs) ∧ Sep h0 h' (SrtL C n cc (P ++ (Z ++ (A2 ++ (B2 ++ S)))) b3 A R ca xs M)) ?_ ?_
          · intro KK3 hKK3
            conv => whnf
            by_cases hc : a < s ∧ s < mid
            · repeat' ((first | ((with_reducible refine EvCall.fn 86 ?_); (refine HC.mono (sym_c N (a := a) (m := s) (b := mid) HS rfl (by omega) hP (by omega) (by omega) (by omega) (by omega) (fun x hx => rx x (by simp [hx])) (fun y hy => ry y (by simp [hy])) (List.pairwise_append.mp sx).1 (List.pairwise_append.mp sy).1 (fun x hx y hy => hlt x (by simp [hx]) y (by simp [hy])) hn) ?_); rintro _ hN ⟨rfl, Z, z1, z2, HS2⟩; clear HS; have HS := HS2; clear HS2) | (with_reducible first | refine EvSeq.go ?_ | refine EvIf.tt ?_ | refine EvIf.ff ?_) | ((with_reducible refine EvIf.mk (fun c => ?_) (fun c => ?_)) <;> (try simp only [cs_] at c) <;> (try (exfalso; first | omega | (revert c; decide))))) <;> conv => whnf)
              exact ⟨(), (by (repeat' (first | exact trivial | refine ⟨rfl, ?_⟩))), Z, z1, z2, HS⟩
            · have hpw : (A1 ++ B1).Pairwise (Lt xs) := by
                rcases Nat.lt_or_ge a s with h6 | h6
                · obtain rfl := List.eq_nil_of_length_eq_zero (l := B1) (by omega)
                  rw [List.append_nil]
                  exact (List.pairwise_append.mp sx).1
                · obtain rfl := List.eq_nil_of_length_eq_zero (l := A1) (by omega)
                  exact (List.pairwise_append.mp sy).1
              rw [← List.append_assoc A1 B1] at HS
              repeat' ((first | (with_reducible first | refine EvSeq.go ?_ | refine EvIf.tt ?_ | refine EvIf.ff ?_) | ((with_reducible refine EvIf.mk (fun c => ?_) (fun c => ?_)) <;> (try simp only [cs_] at c) <;> (try (exfalso; first | omega | (revert c; decide))))) <;> conv => whnf)
              all_goals exact ⟨(), (by (repeat' (first | exact trivial | refine ⟨rfl, ?_⟩))), _, List.Perm.refl _, hpw, HS⟩
          · rintro ⟨⟩ hN2 ⟨Z, z1, z2, HS⟩
            have lZ := z1.length_eq
            rw [List.length_append] at lZ
            rw [← List.append_assoc P] at HS
            have hpm : ∀ W : List Int, W.Perm (A2 ++ B2) → (Z ++ W).Perm (A1 ++ A2 ++ (B1 ++ B2)) := fun W hW => by
              refine (List.Perm.append z1 hW).trans ?_
              rw [List.append_assoc A1 B1, List.append_assoc A1 A2]
              refine List.Perm.append_left A1 ?_
              rw [← List.append_assoc, ← List.append_assoc]
              exact List.Perm.append_right B2 List.perm_append_comm
            have hsd : ∀ W : List Int, W.Perm (A2 ++ B2) → W.Pairwise (Lt xs) → (Z ++ W).Pairwise (Lt xs) := fun W hW sW => srt_join z2 sW fun x hx y hy => hc1 x (z1.mem_iff.mp hx) y (hW.mem_iff.mp hy)
            conv => whnf
            by_cases hc : mid < p ∧ p < b
            · repeat' ((first | ((with_reducible refine EvCall.fn 86 ?_); (refine HC.mono (sym_c N (a := mid) (m := p) (b := b) HS rfl (by omega) (by rw [List.length_append]; omega) (by omega) (by omega) (by omega) (by omega) (fun x hx => rx x (by simp [hx])) (fun y hy => ry y (by simp [hy])) (List.pairwise_append.mp sx).2.1 (List.pairwise_append.mp sy).2.1 (fun x hx y hy => hlt x (by simp [hx]) y (by simp [hy])) hn) ?_); rintro _ hN ⟨rfl, W, y1, y2, HS2⟩; clear HS; have HS := HS2; clear HS2) | (with_reducible first | refine EvSeq.go ?_ | refine EvIf.tt ?_ | refine EvIf.ff ?_) | ((with_reducible refine EvIf.mk (fun c => ?_) (fun c => ?_)) <;> (try simp only [cs_] at c) <;> (try (exfalso; first | omega | (revert c; decide))))) <;> conv => whnf)
              refine ⟨rfl, Z ++ W, hpm W y1, hsd W y1 y2, ?_⟩
              rw [List.append_assoc] at HS
              rw [List.append_assoc Z]
              exact HS
            · have hpw : (A2 ++ B2).Pairwise (Lt xs) := by
                rcases Nat.lt_or_ge mid p with h6 | h6
                · obtain rfl := List.eq_nil_of_length_eq_zero (l := B2) (by omega)
                  rw [List.append_nil]
                  exact (List.pairwise_append.mp sx).2.1
                · obtain rfl := List.eq_nil_of_length_eq_zero (l := A2) (by omega)
                  exact (List.pairwise_append.mp sy).2.1
              have e9 : P ++ Z ++ (A2 ++ (B2 ++ S)) = P ++ (Z ++ (A2 ++ B2) ++ S) := by simp
              rw [e9] at HS
              repeat' ((first | (with_reducible first | refine EvSeq.go ?_ | refine EvIf.tt ?_ | refine EvIf.ff ?_) | ((with_reducible refine EvIf.mk (fun c => ?_) (fun c => ?_)) <;> (try simp only [cs_] at c) <;> (try (exfalso; first | omega | (revert c; decide))))) <;> conv => whnf)
              all_goals exact ⟨rfl, Z ++ (A2 ++ B2), hpm _ (List.Perm.refl _), hsd _ (List.Perm.refl _) hpw, HS⟩
end Go.Proofs.YtjggmhpjlnmigaaDoor
/- The sort of registers: whole. -/
namespace Go.Proofs.YtjggmhpjlnmigaaDoor
open Go.RowKit
set_option maxRecDepth 20000
set_option linter.unusedSimpArgs false
set_option linter.unusedVariables false
/-- W is X, sorted block by block -/
inductive Blocks (xs : List Sp) (bs : Nat) : List Int → List Int → Prop
  | last {X W : List Int} (hl : X.length ≤ bs) (hp : W.Perm X) (hs : W.Pairwise (Lt xs)) : Blocks xs bs X W
  | cons {X1 X2 W1 W2 : List Int} (hl : X1.length = bs) (hp : W1.Perm X1) (hs : W1.Pairwise (Lt xs)) (r : Blocks xs bs X2 W2) : Blocks xs bs (X1 ++ X2) (W1 ++ W2)
theorem Blocks.perm {xs : List Sp} {bs : Nat} {X W : List Int} (h : Blocks xs bs X W) : W.Perm X := by
  induction h with
  | last hl hp hs => exact hp
  | cons hl hp hs r ih => exact List.Perm.append hp ih
theorem Blocks.one {xs : List Sp} {bs : Nat} {X W : List Int} (h : Blocks xs bs X W) (hl : X.length ≤ bs) : W.Perm X ∧ W.Pairwise (Lt xs) := by
  refine ⟨h.perm, ?_⟩
  cases h with
  | last _ hp hs => exact hs
  | cons hl1 hp hs r =>
    rename_i X1 X2 W1 W2
    have h2 := r.perm
    rw [List.length_append] at hl
    obtain rfl := List.eq_nil_of_length_eq_zero (l := X2) (by omega)
    obtain rfl := List.Perm.eq_nil h2
    rw [List.append_nil]
    exact hs
theorem Blocks.cut {xs : List Sp} {bs : Nat} {X W : List Int} (h : Blocks xs bs X W) (hl : bs ≤ X.length) : ∃ X1 X2 W1 W2, X = X1 ++ X2 ∧ W = W1 ++ W2 ∧ X1.length = bs ∧ W1.Perm X1 ∧ W1.Pairwise (Lt xs) ∧ Blocks xs bs X2 W2 := by
  cases h with
  | last h1 hp hs => exact ⟨X, [], W, [], by simp, by simp, by omega, hp, hs, .last (by simp) (List.Perm.refl _) List.Pairwise.nil⟩
  | cons hl1 hp hs r => exact ⟨_, _, _, _, rfl, rfl, hl1, hp, hs, r⟩
/-- what is done so far -/
def Pre (xs : List Sp) (bs : Nat) (XP WP : List Int) : Prop := WP.length = XP.length ∧ ∀ XR WR, Blocks xs bs XR WR → Blocks xs bs (XP ++ XR) (WP ++ WR)
theorem Pre.nil (xs : List Sp) (bs : Nat) : Pre xs bs [] [] := ⟨rfl, fun _ _ h => h⟩
theorem Pre.more {xs : List Sp} {bs : Nat} {XP WP X1 W1 : List Int} (p : Pre xs bs XP WP) (hl : X1.length = bs) (hp : W1.Perm X1) (hs : W1.Pairwise (Lt xs)) : Pre xs bs (XP ++ X1) (WP ++ W1) :=
  ⟨by rw [List.length_append, List.length_append, p.1, hp.length_eq], fun XR WR h => by
    rw [List.append_assoc, List.append_assoc]
    exact p.2 _ _ (.cons hl hp hs h)⟩
theorem sym_i {h0 h : Hp} {M : List Asn} {C A : Option Addr} {n cc a m b b3 R ca : Nat} {mi : Int} {P X Y S D : List Int} {xs : List Sp} (HS : Sep h0 h (SrtL C n cc D b3 A R ca xs M)) (hm : mi = m) (hD : D = P ++ (X ++ (Y ++ S))) (hP : P.length = a) (hX : a + X.length = m) (hY : m + Y.length = b) (x0 : 0 < X.length) (y0 : 0 < Y.length)
    (rx : ∀ x ∈ X, 0 ≤ x ∧ x < R) (ry : ∀ y ∈ Y, 0 ≤ y ∧ y < R) (sx : X.Pairwise (Lt xs)) (sy : Y.Pairwise (Lt xs)) (hlt : ∀ x ∈ X, ∀ y ∈ Y, x < y) (hn : n ≤ 1000000) :
    HC Tryd.prog 86 [.slice C n cc, .int .i64 a, .int .i64 mi, .int .i64 b, cmpV b3] h fun v h' => v = .tuple #[] ∧ ∃ Z : List Int, Z.Perm (X ++ Y) ∧ Z.Pairwise (Lt xs) ∧ Sep h0 h' (SrtL C n cc (P ++ (Z ++ S)) b3 A R ca xs M) := by
  subst hm
  exact sym_c _ HS hD (Nat.le_refl _) hP hX hY x0 y0 rx ry sx sy hlt hn
set_option maxHeartbeats 1000000 in
theorem stable_c {h0 h : Hp} {M : List Asn} {C A : Option Addr} {n cc b3 R ca : Nat} {X : List Int} {xs : List Sp} (HS : Sep h0 h (SrtL C n cc X b3 A R ca xs M)) (hr : ∀ x ∈ X, 0 ≤ x ∧ x < R) (ha : X.Pairwise (· < ·)) (hn : n ≤ 1000000) :
    HC Tryd.prog 74 [.slice C n cc, .int .i64 n, cmpV b3] h fun v h' => v = .tuple #[] ∧ ∃ Z : List Int, Z.Perm X ∧ Z.Pairwise (Lt xs) ∧ Sep h0 h' (SrtL C n cc Z b3 A R ca xs M) := by
  have hl : X.length = n := by simpa using (HS.len 0 rfl).1
  refine hc_of Tryd.func74 (rfl : Tryd.f74.body = some _) Tryd.ntmps74 Tryd.results74 Tryd.call74 rfl ?_; conv => whnf
  repeat' ((with_reducible first | refine EvSeq.go ?_ | refine EvIf.tt ?_ | refine EvIf.ff ?_) <;> conv => whnf)
  refine EvLoop.keepH ([7, 8, 11, 12, 13, 14, 15, 16, 17, 18, 19, 20, 21, 22], 10) (α := Nat) (fun a => [(7, .int .i64 a), (8, .int .i64 (a + 20 : Nat))])
    (fun a h' => a ≤ n ∧ ∃ XP XR WP : List Int, X = XP ++ XR ∧ XP.length = a ∧ Pre xs 20 XP WP ∧ Sep h0 h' (SrtL C n cc (WP ++ XR) b3 A R ca xs M))
    (fun a => n - a) 0 (by (repeat' (first | exact trivial | refine ⟨rfl, ?_⟩))) ⟨Nat.zero_le _, [], X, [], rfl, rfl, Pre.nil _ _, HS⟩ ?_
  clear HS
  intro KK hKK
  rintro a h1 ⟨han, XP, XR, WP, hX, hXP, hpre, HS⟩
  have hlX := congrArg List.length hX
  rw [List.length_append] at hlX
  have hWP := hpre.1
  conv => whnf
  obtain hlt | hge := Nat.lt_or_ge n (a + 20)
  · repeat' ((first | (with_reducible first | refine EvSeq.go ?_ | refine EvIf.tt ?_ | refine EvIf.ff ?_) | ((with_reducible refine EvIf.mk (fun c => ?_) (fun c => ?_)) <;> (try simp only [cs_] at c) <;> (try (exfalso; first | omega | (revert c; decide))))) <;> conv => whnf)
    refine hKK _ _ _ ?_
    rw [← List.append_nil XR] at HS
    have hrR : ∀ x ∈ XR, 0 ≤ x ∧ x < R := fun x hx => hr x (by rw [hX]; exact List.mem_append_right _ hx)
    have haR : XR.Pairwise (· < ·) := by
      rw [hX] at ha
      exact (List.pairwise_append.mp ha).2.1
    conv => whnf
    repeat' (((with_reducible refine EvCall.fn 85 ?_); (refine HC.mono (ins_c (a := a) (b := n) HS (by omega) (by omega) hrR haR hn) ?_); rintro _ hN ⟨rfl, WR, w1, w2, HS2⟩; clear HS; have HS := HS2; clear HS2) <;> conv => whnf)
    have hB : Blocks xs 20 X (WP ++ WR) := by
      rw [hX]
      exact hpre.2 _ _ (.last (by omega) w1 w2)
    rw [List.append_nil] at HS
    clear hpre hX
    obtain ⟨W, hW⟩ : ∃ W, WP ++ WR = W := ⟨_, rfl⟩
    rw [hW] at HS hB
    clear hW w1 w2 hWP
    refine EvLoop.keepH ([6, 7, 8, 9, 28, 29, 30, 31, 32, 33, 34, 35, 36, 37, 38, 39, 40, 41, 42, 43, 44, 45, 46, 47, 48, 49, 50, 51, 52, 53, 54, 55, 56, 57, 58, 59, 60, 61, 62], 10) (α := Nat) (fun bs => [(6, .int .i64 bs)])
      (fun bs h' => 0 < bs ∧ bs ≤ 2000020 ∧ ∃ W : List Int, Blocks xs bs X W ∧ Sep h0 h' (SrtL C n cc W b3 A R ca xs M))
      (fun bs => n - bs) 20 (by (repeat' (first | exact trivial | refine ⟨rfl, ?_⟩))) ⟨by omega, by omega, W, hB, HS⟩ ?_
    clear HS hB
    intro KK2 hKK2
    rintro bs h2 ⟨bs0, bs1, W, hB, HS⟩
    conv => whnf
    obtain hlt2 | hge2 := Nat.lt_or_ge bs n
    · have w2 : IntKind.i64.wrap (2 * (bs : Int)) = ((0 + 2 * bs : Nat) : Int) := by rw [i64w _ (by omega) (by omega)]; omega
      have w3 : IntKind.i64.wrap ((bs : Int) * 2) = ((2 * bs : Nat) : Int) := by rw [i64w _ (by omega) (by omega)]; omega
      repeat' ((first | (with_reducible first | refine EvSeq.go ?_ | refine EvIf.tt ?_ | refine EvIf.ff ?_) | ((with_reducible refine EvIf.mk (fun c => ?_) (fun c => ?_)) <;> (try simp only [cs_] at c) <;> (try (exfalso; first | omega | (revert c; decide))))) <;> conv => whnf)
      refine EvLoop.keepH ([7, 8, 33, 34, 35, 36, 37, 38, 39, 40, 41, 42, 43, 44, 45, 46, 47, 48], 10) (α := Nat) (fun a => [(7, .int .i64 a), (8, .int .i64 (a + 2 * bs : Nat))])
        (fun a h' => a ≤ n ∧ ∃ XP XR WP WR : List Int, X = XP ++ XR ∧ XP.length = a ∧ Pre xs (2 * bs) XP WP ∧ Blocks xs bs XR WR ∧ Sep h0 h' (SrtL C n cc (WP ++ WR) b3 A R ca xs M))
        (fun a => n - a) 0 ⟨rfl, congrArg (fun z => some (Value.int .i64 z)) w2, (by (repeat' (first | exact trivial | refine ⟨rfl, ?_⟩)))⟩ ⟨Nat.zero_le _, [], X, [], W, rfl, rfl, Pre.nil _ _, hB, HS⟩ ?_
      clear HS hB W
      intro KK3 hKK3
      rintro a h3 ⟨han, XP, XR, WP, WR, hX, hXP, hpre, hB, HS⟩
      have hlX := congrArg List.length hX
      rw [List.length_append] at hlX
      have hWP := hpre.1
      have hWR := hB.perm.length_eq
      have wm : IntKind.i64.wrap ((a : Int) + bs) = ((a + bs : Nat) : Int) := by rw [i64w _ (by omega) (by omega)]; omega
      have hrR : ∀ x ∈ XR, 0 ≤ x ∧ x < R := fun x hx => hr x (by rw [hX]; exact List.mem_append_right _ hx)
      have haR : XR.Pairwise (· < ·) := by
        rw [hX] at ha
        exact (List.pairwise_append.mp ha).2.1
      conv => whnf
      obtain hlt3 | hge3 := Nat.lt_or_ge n (a + 2 * bs)
      · by_cases hm : a + bs < n
        · obtain ⟨X1, X2, W1, W2, rfl, rfl, l1, p1, s1, r2⟩ := hB.cut (by omega)
          rw [List.length_append] at hlX
          obtain ⟨p2, s2⟩ := r2.one (by omega)
          have lW1 := p1.length_eq
          have lW2 := p2.length_eq
          repeat' ((first | (with_reducible first | refine EvSeq.go ?_ | refine EvIf.tt ?_ | refine EvIf.ff ?_) | ((with_reducible refine EvIf.mk (fun c => ?_) (fun c => ?_)) <;> (try simp only [cs_] at c) <;> (try (exfalso; first | omega | (revert c; decide))))) <;> conv => whnf)
          refine hKK3 _ _ _ ?_
          conv => whnf
          repeat' ((first | ((with_reducible refine EvCall.fn 86 ?_); (refine HC.mono (sym_i (a := a) (m := a + bs) (b := n) (P := WP) (X := W1) (Y := W2) (S := []) HS wm (by simp) (by omega) (by omega) (by omega) (by omega) (by omega) (fun x hx => hrR x (List.mem_append_left _ (p1.mem_iff.mp hx))) (fun x hx => hrR x (List.mem_append_right _ (p2.mem_iff.mp hx))) s1 s2 (fun x hx y hy => (List.pairwise_append.mp haR).2.2 x (p1.mem_iff.mp hx) y (p2.mem_iff.mp hy)) hn) ?_); rintro _ hN ⟨rfl, Z, z1, z2, HS2⟩; clear HS; have HS := HS2; clear HS2) | (with_reducible first | refine EvSeq.go ?_ | refine EvIf.tt ?_ | refine EvIf.ff ?_) | ((with_reducible refine EvIf.mk (fun c => ?_) (fun c => ?_)) <;> (try simp only [cs_] at c) <;> (try (exfalso; first | omega | (revert c; decide))))) <;> conv => whnf)
          refine ⟨2 * bs, ⟨congrArg (fun z => some (Value.int .i64 z)) w3, (by (repeat' (first | exact trivial | refine ⟨rfl, ?_⟩)))⟩, ⟨by omega, by omega, WP ++ Z, ?_, ?_⟩, by omega⟩
          · rw [hX]
            exact hpre.2 _ _ (.last (by rw [List.length_append]; omega) (z1.trans (List.Perm.append p1 p2)) z2)
          · rw [List.append_nil] at HS
            exact HS
        · obtain ⟨p2, s2⟩ := hB.one (by omega)
          repeat' ((first | (with_reducible first | refine EvSeq.go ?_ | refine EvIf.tt ?_ | refine EvIf.ff ?_) | ((with_reducible refine EvIf.mk (fun c => ?_) (fun c => ?_)) <;> (try simp only [cs_] at c) <;> (try (exfalso; first | omega | (revert c; decide))))) <;> conv => whnf)
          refine hKK3 _ _ _ ?_
          conv => whnf
          repeat' ((first | (with_reducible first | refine EvSeq.go ?_ | refine EvIf.tt ?_ | refine EvIf.ff ?_) | ((with_reducible refine EvIf.mk (fun c => ?_) (fun c => ?_)) <;> (try simp only [cs_] at c) <;> (try (exfalso; first | omega | (revert c; decide))))) <;> conv => whnf)
          refine ⟨2 * bs, ⟨congrArg (fun z => some (Value.int .i64 z)) w3, (by (repeat' (first | exact trivial | refine ⟨rfl, ?_⟩)))⟩, ⟨by omega, by omega, WP ++ WR, ?_, HS⟩, by omega⟩
          rw [hX]
          exact hpre.2 _ _ (.last (by omega) p2 s2)
      · obtain ⟨X1, X2, W1, W2, rfl, rfl, l1, p1, s1, r2⟩ := hB.cut (by omega)
        rw [List.length_append] at hlX
        obtain ⟨X3, X4, W3, W4, rfl, rfl, l3, p3, s3, r4⟩ := r2.cut (by omega)
        rw [List.length_append] at hlX
        have lW1 := p1.length_eq
        have lW3 := p3.length_eq
        have hc := List.pairwise_append.mp haR
        repeat' ((first | ((with_reducible refine EvCall.fn 86 ?_); (refine HC.mono (sym_i (a := a) (m := a + bs) (b := a + 2 * bs) (P := WP) (X := W1) (Y := W3) (S := W4) HS wm rfl (by omega) (by omega) (by omega) (by omega) (by omega) (fun x hx => hrR x (List.mem_append_left _ (p1.mem_iff.mp hx))) (fun x hx => hrR x (List.mem_append_right _ (List.mem_append_left _ (p3.mem_iff.mp hx)))) s1 s3 (fun x hx y hy => hc.2.2 x (p1.mem_iff.mp hx) y (List.mem_append_left _ (p3.mem_iff.mp hy))) hn) ?_); rintro _ hN ⟨rfl, Z, z1, z2, HS2⟩; clear HS; have HS := HS2; clear HS2) | (with_reducible first | refine EvSeq.go ?_ | refine EvIf.tt ?_ | refine EvIf.ff ?_) | ((with_reducible refine EvIf.mk (fun c => ?_) (fun c => ?_)) <;> (try simp only [cs_] at c) <;> (try (exfalso; first | omega | (revert c; decide))))) <;> conv => whnf)
        refine ⟨a + 2 * bs, ⟨rfl, congrArg (fun z => some (Value.int .i64 z)) ?_, (by (repeat' (first | exact trivial | refine ⟨rfl, ?_⟩)))⟩, ⟨by omega, XP ++ (X1 ++ X3), X4, WP ++ Z, W4, ?_, ?_, hpre.more ?_ (z1.trans (List.Perm.append p1 p3)) z2, r4, ?_⟩, by omega⟩
        · have : IntKind.i64.wrap (2 * (bs : Int)) = 2 * (bs : Int) := i64w _ (by omega) (by omega)
          rw [this, i64w _ (by omega) (by omega)]
          omega
        · rw [hX]
          simp
        · rw [List.length_append, List.length_append]
          omega
        · rw [List.length_append]
          omega
        · rw [List.append_assoc]
          exact HS
    · repeat' ((first | (with_reducible first | refine EvSeq.go ?_ | refine EvIf.tt ?_ | refine EvIf.ff ?_) | ((with_reducible refine EvIf.mk (fun c => ?_) (fun c => ?_)) <;> (try simp only [cs_] at c) <;> (try (exfalso; first | omega | (revert c; decide))))) <;> conv => whnf)
      refine hKK2 _ _ _ ?_
      conv => whnf
      obtain ⟨p2, s2⟩ := hB.one (by omega)
      exact ⟨rfl, W, p2, s2, HS⟩
  · have hs : XR = XR.take 20 ++ XR.drop 20 := (List.take_append_drop _ _).symm
    obtain ⟨X1, hX1⟩ : ∃ X1, XR.take 20 = X1 := ⟨_, rfl⟩
    obtain ⟨X2, hX2⟩ : ∃ X2, XR.drop 20 = X2 := ⟨_, rfl⟩
    have l1 : X1.length = 20 := by rw [← hX1, List.length_take]; omega
    rw [hX1, hX2] at hs
    subst hs
    have hrR : ∀ x ∈ X1, 0 ≤ x ∧ x < R := fun x hx => hr x (by rw [hX]; simp [hx])
    have haR : X1.Pairwise (· < ·) := by
      rw [hX] at ha
      exact (List.pairwise_append.mp (List.pairwise_append.mp ha).2.1).1
    repeat' ((first | ((with_reducible refine EvCall.fn 85 ?_); (refine HC.mono (ins_c (a := a) (b := a + 20) HS (by omega) (by omega) hrR haR hn) ?_); rintro _ hN ⟨rfl, W1, w1, w2, HS2⟩; clear HS; have HS := HS2; clear HS2) | (with_reducible first | refine EvSeq.go ?_ | refine EvIf.tt ?_ | refine EvIf.ff ?_) | ((with_reducible refine EvIf.mk (fun c => ?_) (fun c => ?_)) <;> (try simp only [cs_] at c) <;> (try (exfalso; first | omega | (revert c; decide))))) <;> conv => whnf)
    refine ⟨a + 20, ⟨rfl, congrArg (fun z => some (Value.int .i64 z)) (by rw [i64w _ (by omega) (by omega)]; omega), (by (repeat' (first | exact trivial | refine ⟨rfl, ?_⟩)))⟩, ⟨by omega, XP ++ X1, X2, WP ++ W1, ?_, ?_, hpre.more l1 w1 w2, ?_⟩, by omega⟩
    · rw [hX, List.append_assoc]
    · rw [List.length_append]
      omega
    · rw [List.append_assoc]
      exact HS
theorem sort_c {h0 h : Hp} {M : List Asn} {C A : Option Addr} {n cc b3 R ca : Nat} {X : List Int} {xs : List Sp} (HS : Sep h0 h (SrtL C n cc X b3 A R ca xs M)) (hr : ∀ x ∈ X, 0 ≤ x ∧ x < R) (ha : X.Pairwise (· < ·)) (hn : n ≤ 1000000) :
    HC Tryd.prog 46 [.slice C n cc, cmpV b3] h fun v h' => v = .tuple #[] ∧ ∃ Z : List Int, Z.Perm X ∧ Z.Pairwise (Lt xs) ∧ Sep h0 h' (SrtL C n cc Z b3 A R ca xs M) := by
  refine hc_of Tryd.func46 (rfl : Tryd.f46.body = some _) Tryd.ntmps46 Tryd.results46 Tryd.call46 rfl ?_; conv => whnf
  repeat' (((with_reducible refine EvCall.fn 74 ?_); (refine HC.mono (stable_c HS hr ha hn) ?_); rintro _ hN ⟨rfl, W1, w1, w2, HS2⟩; clear HS; have HS := HS2; clear HS2) <;> conv => whnf)
  exact ⟨rfl, W1, w1, w2, HS⟩
/-- the order is one -/
theorem srt_uniq {xs : List Sp} : ∀ {X Y : List Int}, X.Perm Y → X.Pairwise (Lt xs) → Y.Pairwise (Lt xs) → X = Y := by
  intro X Y hp hx hy
  exact List.Perm.eq_of_pairwise (fun a b _ _ h1 h2 => by unfold Lt at h1 h2; omega) hx hy hp
end Go.Proofs.YtjggmhpjlnmigaaDoor
