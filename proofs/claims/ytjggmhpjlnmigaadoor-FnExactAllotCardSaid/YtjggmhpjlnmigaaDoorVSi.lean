/- Spans: the program's, its parts. -/
import Derived.Test.YtjggmhpjlnmigaaDoorVSv
import Derived.Test.YtjggmhpjlnmigaaDoorVLvJ
namespace Go.Proofs.YtjggmhpjlnmigaaDoor
open Go.RowKit
set_option maxRecDepth 20000
set_option linter.unusedSimpArgs false
set_option linter.unusedVariables false
/-- register stands at step i -/
def std (s : Sp) (i : Nat) : Sp := ⟨if s.to < 0 then (i : Int) else s.fr, i, s.x⟩
def stl (pa : Int) (r i : Nat) (s : Sp) : Sp := if i = 0 ∧ (r : Int) < pa then ⟨-1, i, s.x⟩ else std s i
open Classical in
/-- before step i -/
noncomputable def bas (f : Fu) (i r : Nat) : Sp := ⟨if 0 < i ∧ (r : Int) < f.pa ∧ Lv f.cl 0 r then -1 else (spg f.cl r i).1, (spg f.cl r i).2, false⟩
theorem std_std (s : Sp) (i : Nat) : std (std s i) i = std s i := by
  have h : ¬ ((i : Int) < 0) := by omega
  simp [std, h]
theorem stl_stl (pa : Int) (r i : Nat) (s : Sp) : stl pa r i (stl pa r i s) = stl pa r i s := by
  have h : ¬ ((i : Int) < 0) := by omega
  unfold stl
  split
  · rfl
  · exact std_std s i
theorem std_stl (pa : Int) (r i : Nat) (s : Sp) : std (stl pa r i s) i = stl pa r i s := by
  have h : ¬ ((i : Int) < 0) := by omega
  unfold stl
  split
  · simp [std, h]
  · exact std_std s i
theorem spg_pos {cl : List Ii} {r : Nat} (h : onR cl 0 r) : ∀ i, 0 < i → 0 ≤ (spg cl r i).2
  | 1, _ => by rw [spg_on h]; exact Int.le_refl _
  | i + 2, _ => by
    have ih := spg_pos h (i + 1) (by omega)
    by_cases h2 : onR cl (i + 1) r
    · rw [spg_on h2]
      dsimp only
      omega
    · rw [spg_off h2]
      exact ih
theorem bas_live {f : Fu} {i r : Nat} (h : Lv f.cl i r) : stl f.pa r i (bas f i r) = bas f (i + 1) r := by
  have hs := spg_on (cl := f.cl) (r := r) (i := i) (.inl h)
  cases i with
  | zero =>
    have z : spg f.cl r 0 = (0, -1) := rfl
    rw [z] at hs
    unfold stl std bas
    rw [hs, z]
    by_cases hA : (r : Int) < f.pa <;> simp [hA, h]
  | succ i =>
    have hpos : Lv f.cl 0 r → ¬ (spg f.cl r (i + 1)).2 < 0 := fun h0 => by have := spg_pos (cl := f.cl) (r := r) (.inl h0) (i + 1) (by omega); omega
    unfold stl std bas
    rw [hs]
    by_cases hB : Lv f.cl 0 r
    · have hp := hpos hB
      by_cases hA : (r : Int) < f.pa <;> simp [hA, hB, hp]
    · by_cases hA : (r : Int) < f.pa <;> simp [hA, hB]
theorem bas_set {f : Fu} {i r : Nat} (h : ¬ Lv f.cl i r) (h2 : ∃ x, f.cl[i]? = some x ∧ st x = r) : std (bas f i r) i = bas f (i + 1) r := by
  have hs := spg_on (cl := f.cl) (r := r) (i := i) (.inr h2)
  cases i with
  | zero =>
    have z : spg f.cl r 0 = (0, -1) := rfl
    rw [z] at hs
    unfold std bas
    rw [hs, z]
    simp [h]
  | succ i =>
    have hpos : Lv f.cl 0 r → ¬ (spg f.cl r (i + 1)).2 < 0 := fun h0 => by have := spg_pos (cl := f.cl) (r := r) (.inl h0) (i + 1) (by omega); omega
    unfold std bas
    rw [hs]
    by_cases hB : Lv f.cl 0 r
    · have hp := hpos hB
      by_cases hA : (r : Int) < f.pa <;> simp [hA, hB, hp]
    · by_cases hA : (r : Int) < f.pa <;> simp [hA, hB]
theorem bas_off {f : Fu} {i r : Nat} (h : ¬ Lv f.cl i r) (h2 : ¬ ∃ x, f.cl[i]? = some x ∧ st x = r) : bas f i r = bas f (i + 1) r := by
  have hs := spg_off (cl := f.cl) (r := r) (i := i) (fun hh => hh.elim h h2)
  unfold bas
  rw [hs]
  cases i with
  | zero => simp [h]
  | succ i =>
    by_cases hA : (r : Int) < f.pa <;> by_cases hB : Lv f.cl 0 r <;> simp [hA, hB]
open Classical in
/-- a step's whole work -/
theorem bas_step {f : Fu} {i r : Nat} {x : Ii} (hx : f.cl[i]? = some x) :
    (if st x = r then std (if Lv f.cl i r then stl f.pa r i (bas f i r) else bas f i r) i else (if Lv f.cl i r then stl f.pa r i (bas f i r) else bas f i r)) = bas f (i + 1) r := by
  by_cases h : Lv f.cl i r
  · rw [if_pos h, std_stl, ite_self, bas_live h]
  · rw [if_neg h]
    by_cases h2 : st x = r
    · rw [if_pos h2, bas_set h ⟨x, hx, h2⟩]
    · rw [if_neg h2, bas_off h (fun ⟨y, hy, e⟩ => h2 (by rw [hx] at hy; cases hy; exact e))]
theorem bas_zero (f : Fu) (r : Nat) : bas f 0 r = ⟨0, -1, false⟩ := by
  unfold bas
  rw [if_neg (fun hh => by omega)]
  rfl
theorem bas_last {f : Fu} (h : 0 < f.cl.length) (r : Nat) : bas f f.cl.length r = ⟨frm f r, (spg f.cl r f.cl.length).2, false⟩ := by
  unfold bas frm
  congr 1
  by_cases h0 : (r : Int) < f.pa ∧ Lv f.cl 0 r
  · rw [if_pos ⟨h, h0⟩, if_pos h0]
  · rw [if_neg (fun hh => h0 hh.2), if_neg h0]
/-! ### the calls in front -/
open Classical in
noncomputable def cct (cl : List Ii) : Nat → Nat
  | 0 => 0
  | i + 1 => cct cl i + if callAt cl i then 1 else 0
theorem cct_le (cl : List Ii) : ∀ i, cct cl i ≤ i
  | 0 => Nat.le_refl _
  | i + 1 => by
    have := cct_le cl i
    simp only [cct]
    split <;> omega
theorem cct_lt (cl : List Ii) (a : Nat) : ∀ b, a ≤ b → cct cl a ≤ cct cl b ∧ (cct cl a < cct cl b ↔ crs cl a b)
  | 0, h => by
    obtain rfl : a = 0 := by omega
    exact ⟨Nat.le_refl _, ⟨fun h => by omega, fun h => absurd h (crs_none (Int.le_refl _))⟩⟩
  | b + 1, h => by
    obtain h1 | h1 := Nat.lt_or_ge a (b + 1)
    · have ih := cct_lt cl a b (by omega)
      have hs := crs_step (cl := cl) (a := (a : Int)) (j := b) (by omega)
      by_cases hc : callAt cl b
      · have e : cct cl (b + 1) = cct cl b + 1 := by simp only [cct, if_pos hc]
        rw [e]
        exact ⟨by omega, ⟨fun _ => hs.mpr (.inr hc), fun _ => by omega⟩⟩
      · have e : cct cl (b + 1) = cct cl b := by simp only [cct, if_neg hc, Nat.add_zero]
        rw [e]
        refine ⟨ih.1, ih.2.trans ⟨fun h => hs.mpr (.inl h), fun h => (hs.mp h).elim id (fun h => absurd h hc)⟩⟩
    · obtain rfl : a = b + 1 := by omega
      exact ⟨Nat.le_refl _, ⟨fun h => by omega, fun h => absurd h (crs_none (Int.le_refl _))⟩⟩
/-! ### rows of spans by register -/
def spl (F : Nat → Sp) (R : Nat) : List Sp := (List.range R).map F
theorem spl_len (F : Nat → Sp) (R : Nat) : (spl F R).length = R := by simp [spl]
theorem spl_at (F : Nat → Sp) {R r : Nat} (h : r < R) : (spl F R)[r]? = some (F r) := by simp [spl, h]
theorem spl_set (F : Nat → Sp) {R r : Nat} (y : Sp) : (spl F R).set r y = spl (fun q => if q = r then y else F q) R := by
  apply List.ext_getElem?
  intro j
  rw [List.getElem?_set]
  by_cases hj : j < R
  · rw [spl_at _ hj, spl_len, spl_at _ hj]
    by_cases e : r = j
    · subst e
      simp [hj]
    · rw [if_neg e, if_neg (Ne.symm e)]
  · rw [List.getElem?_eq_none (l := spl (fun q => if q = r then y else F q) R) (by rw [spl_len]; omega), List.getElem?_eq_none (l := spl F R) (by rw [spl_len]; omega), spl_len]
    split
    · rw [if_neg (by omega)]
    · rfl
theorem spl_ext {F G : Nat → Sp} {R : Nat} (h : ∀ q, q < R → F q = G q) : spl F R = spl G R := List.map_congr_left fun q hq => h q (List.mem_range.mp hq)
theorem spl_rep (s : Sp) (R : Nat) : (spl (fun _ => s) R).flatMap Sp.cells = mkCells s.cells R := by
  unfold spl mkCells
  rw [List.flatMap_map]
  induction R with
  | zero => rfl
  | succ n ih => rw [List.range_succ, List.flatMap_append, ih, List.replicate_succ', List.flatten_append]; simp
theorem marked_mem {p : Int → Prop} {n : Nat} {r : Int} : r ∈ marked p n ↔ (0 ≤ r ∧ r < n) ∧ p r := by
  unfold marked
  simp only [List.mem_filter, decide_eq_true_eq, List.mem_map, List.mem_range]
  refine and_congr_left fun _ => ⟨fun ⟨q, hq, e⟩ => ?_, fun h => ⟨r.toNat, by omega, by show ((r.toNat : Nat) : Int) = r; omega⟩⟩
  subst e
  exact ⟨by show (0 : Int) ≤ (q : Int); omega, by show (q : Int) < n; omega⟩
theorem truth_c (b : Bool) (h : Hp) : HC Tryd.prog 43 [.bool b] h fun v h' => v = .int .i64 (if b then 1 else 0) ∧ h' = h := by
  refine hc_of Tryd.func43 (rfl : Tryd.f43.body = some _) Tryd.ntmps43 Tryd.results43 Tryd.call43 rfl ?_; have HS := Sep.nil h; conv => whnf
  cases b
  · repeat' ((with_reducible first | refine EvSeq.go ?_ | refine EvIf.tt ?_ | refine EvIf.ff ?_) <;> conv => whnf)
    exact ⟨rfl, rfl⟩
  · repeat' ((with_reducible first | refine EvSeq.go ?_ | refine EvIf.tt ?_ | refine EvIf.ff ?_) <;> conv => whnf)
    exact ⟨rfl, rfl⟩
/-- stand -/
theorem stand_c {h0 h : Hp} {b3 R ca : Nat} {A : Option Addr} {F : Nat → Sp} {M : List Asn} (HS : Sep h0 h (Bx b3 [.slice A R ca] 38 :: SpP A R ca (spl F R) :: M)) {r i : Nat} (hr : r < R) (hi : i ≤ 100000) (hR : R ≤ 100000) :
    HC Tryd.prog 41 [.int .i64 r, .int .i64 i, .pointer (some ⟨b3, 0, none⟩)] h fun v h' => v = .tuple #[] ∧ Sep h0 h' (Bx b3 [.slice A R ca] 38 :: SpP A R ca (spl (fun q => if q = r then std (F r) i else F q) R) :: M) := by
  have hxr := spl_at F hr
  have hll := spl_len F R
  obtain ⟨x, hx⟩ : ∃ x, F r = x := ⟨_, rfl⟩
  rw [hx] at hxr ⊢
  refine hc_of Tryd.func41 (rfl : Tryd.f41.body = some _) Tryd.ntmps41 Tryd.results41 Tryd.call41 rfl ?_; conv => whnf
  repeat' ((first | ((with_reducible refine EvIdx.el Sp.len (by decide) (HS.spr 1 rfl) (HS.spl 1 rfl).1 (by omega) (by omega) ?_); intro bI oI z eI hz hI; (try (have hzx : x = z := Option.some.inj (hxr.symm.trans hz); subst hzx))) | ((with_reducible refine EvLd.el 1 hI rfl ?_)) | (with_reducible first | refine EvSeq.go ?_ | refine EvIf.tt ?_ | refine EvIf.ff ?_) | ((with_reducible refine EvIf.mk (fun c => ?_) (fun c => ?_)) <;> (try simp only [cs_] at c) <;> (try (exfalso; first | omega | (revert c; decide)))) | ((with_reducible refine EvLd.q HS (by repeat first | exact .h | apply Spot.t) ?_); (conv => whnf); intro hC)) <;> conv => whnf)
  · refine EvSt.sp HS 1 rfl eI hxr ⟨i, x.to, x.x⟩ 0 (by first | rfl | (rw [Int.toNat_natCast]; rfl)) (by simp) rfl ?_
    intro h2 HS2
    clear HS
    have HS := HS2
    clear HS2
    dsimp only [List.set] at HS
    conv => whnf
    repeat' ((first | ((with_reducible refine EvIdx.el Sp.len (by decide) (HS.spr 1 rfl) (HS.spl 1 rfl).1 (by omega) (by omega) ?_); intro bI oI z eI hz hI) | ((with_reducible refine EvLd.q HS (by repeat first | exact .h | apply Spot.t) ?_); (conv => whnf); intro hC)) <;> conv => whnf)
    have hx1 : ((spl F R).set r ⟨i, x.to, x.x⟩)[r]? = some ⟨i, x.to, x.x⟩ := List.getElem?_set_self (by rw [spl_len]; exact hr)
    refine EvSt.sp HS 1 rfl eI hx1 ⟨i, i, x.x⟩ 1 (by first | rfl | (rw [Int.toNat_natCast]; rfl)) (by simp) rfl ?_
    intro h2 HS2
    clear HS
    have HS := HS2
    clear HS2
    dsimp only [List.set] at HS
    rw [List.set_set, spl_set] at HS
    conv => whnf
    repeat' (fail <;> conv => whnf)
    refine ⟨rfl, ?_⟩
    have e : std x i = ⟨i, i, x.x⟩ := by
      unfold std
      rw [if_pos c]
    rw [e]
    exact HS
  · refine EvSt.sp HS 1 rfl eI hxr ⟨x.fr, i, x.x⟩ 1 (by first | rfl | (rw [Int.toNat_natCast]; rfl)) (by simp) rfl ?_
    intro h2 HS2
    clear HS
    have HS := HS2
    clear HS2
    dsimp only [List.set] at HS
    rw [spl_set] at HS
    conv => whnf
    repeat' (fail <;> conv => whnf)
    refine ⟨rfl, ?_⟩
    have e : std x i = ⟨x.fr, i, x.x⟩ := by
      unfold std
      rw [if_neg (by omega)]
    rw [e]
    exact HS
end Go.Proofs.YtjggmhpjlnmigaaDoor
