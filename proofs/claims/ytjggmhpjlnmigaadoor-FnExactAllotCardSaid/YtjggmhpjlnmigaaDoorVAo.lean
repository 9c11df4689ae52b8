/- Places: the order of the registers. -/
import Derived.Test.YtjggmhpjlnmigaaDoorVSoM
import Derived.Test.YtjggmhpjlnmigaaDoorVAl2
namespace Go.Proofs.YtjggmhpjlnmigaaDoor
open Go.RowKit
set_option maxRecDepth 20000
set_option linter.unusedSimpArgs false
set_option linter.unusedVariables false
def toI (xs : List Sp) (r : Nat) : Int := (xs[r]?.map Sp.to).getD 0
/-- does register r stand somewhere? -/
def stn (xs : List Sp) (r : Nat) : Bool := decide (keyOf xs r ≤ toI xs r)
structure OkS (xs : List Sp) : Prop where
  f0 : ∀ r, -1 ≤ keyOf xs r
  f1 : ∀ r, keyOf xs r ≤ 1000000
  t1 : ∀ r, r < xs.length → (keyOf xs r ≤ toI xs r ↔ 0 ≤ toI xs r)
structure IsOrd (xs : List Sp) (l : List Int) : Prop where
  srt : l.Pairwise (Lt xs)
  mem : ∀ q, q ∈ l ↔ ∃ r : Nat, q = r ∧ r < xs.length ∧ stn xs r = true
theorem srt_nodup {xs : List Sp} {l : List Int} (h : l.Pairwise (Lt xs)) : l.Nodup := h.imp fun {a b} h e => by
  subst e
  unfold Lt at h
  omega
theorem IsOrd.uniq {xs : List Sp} {l l' : List Int} (h : IsOrd xs l) (h' : IsOrd xs l') : l = l' :=
  srt_uniq ((List.perm_ext_iff_of_nodup (srt_nodup h.srt) (srt_nodup h'.srt)).mpr fun q => by rw [h.mem, h'.mem]) h.srt h'.srt
theorem mem_mkd {p : Nat → Bool} {n : Nat} {q : Int} : q ∈ mkd p n ↔ ∃ r : Nat, q = r ∧ r < n ∧ p r = true := by
  unfold mkd
  simp only [List.mem_map, List.mem_filter, List.mem_range]
  exact ⟨fun ⟨a, ⟨h1, h2⟩, h3⟩ => ⟨a, h3.symm, h1, h2⟩, fun ⟨a, h3, h1, h2⟩ => ⟨a, ⟨h1, h2⟩, h3.symm⟩⟩
theorem mkd_len (p : Nat → Bool) : ∀ n, (mkd p n).length ≤ n ∧ ((mkd p n).length = n → ∀ r, r < n → p r = true)
  | 0 => ⟨by simp [mkd], fun _ r hr => by omega⟩
  | n + 1 => by
    obtain ⟨a, b⟩ := mkd_len p n
    rw [mkd_succ]
    by_cases hp : p n = true
    · rw [if_pos hp, List.length_append, List.length_singleton]
      refine ⟨by omega, fun h r hr => ?_⟩
      obtain rfl | hr := Nat.eq_or_lt_of_le (Nat.le_of_lt_succ hr)
      · exact hp
      · exact b (by omega) r hr
    · rw [if_neg hp]
      exact ⟨by omega, fun h => by omega⟩
theorem mkd_asc (p : Nat → Bool) (n : Nat) : (mkd p n).Pairwise (· < ·) := by
  unfold mkd
  rw [List.pairwise_map]
  refine (List.Pairwise.filter _ List.pairwise_lt_range).imp fun h => ?_
  show (Int.ofNat _) < (Int.ofNat _)
  simp only [Int.ofNat_eq_natCast]
  omega
/-- the order as far as the places below fr -/
structure OrdTo (xs : List Sp) (fr : Int) (l : List Int) : Prop where
  srt : l.Pairwise (Lt xs)
  mem : ∀ q, q ∈ l ↔ ∃ r : Nat, q = r ∧ r < xs.length ∧ stn xs r = true ∧ keyOf xs r < fr
theorem OrdTo.more {xs : List Sp} {fr : Int} {l : List Int} (o : OrdTo xs fr l) : OrdTo xs (fr + 1) (l ++ mkd (fun q => stn xs q && keyOf xs q == fr) xs.length) := by
  constructor
  · refine List.pairwise_append.mpr ⟨o.srt, ?_, fun x hx y hy => ?_⟩
    · refine List.Pairwise.imp_of_mem (fun {a b} ha hb h => ?_) (mkd_asc _ _)
      obtain ⟨r, rfl, _, hr⟩ := mem_mkd.mp ha
      obtain ⟨s, rfl, _, hs⟩ := mem_mkd.mp hb
      simp only [Bool.and_eq_true, beq_iff_eq] at hr hs
      refine .inr ⟨?_, h⟩
      unfold ky
      rw [Int.toNat_natCast, Int.toNat_natCast, hr.2, hs.2]
    · obtain ⟨r, rfl, _, _, hr⟩ := (o.mem x).mp hx
      obtain ⟨s, rfl, _, hs⟩ := mem_mkd.mp hy
      simp only [Bool.and_eq_true, beq_iff_eq] at hs
      refine .inl ?_
      unfold ky
      rw [Int.toNat_natCast, Int.toNat_natCast, hs.2]
      exact hr
  · intro q
    rw [List.mem_append, o.mem, mem_mkd]
    constructor
    · rintro (⟨r, h1, h2, h3, h4⟩ | ⟨r, h1, h2, h3⟩)
      · exact ⟨r, h1, h2, h3, by omega⟩
      · simp only [Bool.and_eq_true, beq_iff_eq] at h3
        exact ⟨r, h1, h2, h3.1, by omega⟩
    · rintro ⟨r, h1, h2, h3, h4⟩
      rcases Int.lt_or_le (keyOf xs r) fr with h5 | h5
      · exact .inl ⟨r, h1, h2, h3, h5⟩
      · exact .inr ⟨r, h1, h2, by simp only [Bool.and_eq_true, beq_iff_eq]; exact ⟨h3, by omega⟩⟩
theorem OrdTo.all {xs : List Sp} {fr : Int} {l : List Int} (o : OrdTo xs fr l) (h : ∀ r, r < xs.length → stn xs r = true → keyOf xs r < fr) : IsOrd xs l :=
  ⟨o.srt, fun q => by rw [o.mem]; exact ⟨fun ⟨r, h1, h2, h3, _⟩ => ⟨r, h1, h2, h3⟩, fun ⟨r, h1, h2, h3⟩ => ⟨r, h1, h2, h3, h r h2 h3⟩⟩⟩
theorem OrdTo.full {xs : List Sp} {fr : Int} {l : List Int} (o : OrdTo xs fr l) (h : xs.length ≤ l.length) : IsOrd xs l := by
  have hp : l.Perm (mkd (fun r => stn xs r && decide (keyOf xs r < fr)) xs.length) := by
    refine (List.perm_ext_iff_of_nodup (srt_nodup o.srt) ((mkd_asc _ _).imp fun {a b} h e => by omega)).mpr fun q => ?_
    rw [o.mem, mem_mkd]
    exact exists_congr fun r => and_congr_right fun _ => and_congr_right fun _ => by simp
  have hl := hp.length_eq
  obtain ⟨a, b⟩ := mkd_len (fun r => stn xs r && decide (keyOf xs r < fr)) xs.length
  refine o.all fun r hr _ => ?_
  have := b (by omega) r hr
  simp only [Bool.and_eq_true, decide_eq_true_eq] at this
  exact this.2
theorem some_succ {P : Nat → Prop} {r : Nat} {b v : Bool} (hb : b = true ↔ ∃ q, q < r ∧ P q) (hv : v = true ↔ b = true ∨ P r) : v = true ↔ ∃ q, q < r + 1 ∧ P q := by
  rw [hv, hb]
  constructor
  · rintro (⟨q, h1, h2⟩ | h)
    · exact ⟨q, by omega, h2⟩
    · exact ⟨r, by omega, h⟩
  · rintro ⟨q, h1, h2⟩
    by_cases e : q = r
    · exact .inr (e ▸ h2)
    · exact .inl ⟨q, by omega, h2⟩
set_option maxHeartbeats 1000000 in
theorem order_c {h : Hp} {A : Option Addr} {n ca : Nat} {xs : List Sp} (ra : Rd h A (xs.flatMap Sp.cells)) (la : xs.length = n) (hn : n ≤ 1000000) (ok : OkS xs) :
    HC Tryd.prog 70 [.slice A n ca] h fun v h' => ∃ B m c l, v = .slice B m c ∧ IsOrd xs l ∧ Sep h h' [Sl 3 B m c (ints .i64 l)] := by
  refine hc_of Tryd.func70 (rfl : Tryd.f70.body = some _) Tryd.ntmps70 Tryd.results70 Tryd.call70 rfl ?_; have HS := Sep.nil h; conv => whnf
  repeat' ((first | (with_reducible first | refine EvSeq.go ?_ | refine EvIf.tt ?_ | refine EvIf.ff ?_) | ((with_reducible refine EvNew.sep HS ?_); intro bN hN HS1 hX; replace HS := HS1; clear HS1)) <;> conv => whnf)
  have HS0 := HS.row (vs := []) (rest := []) (n := 0) (c := 0) rfl rfl
  clear HS
  refine EvLoop.keepH ([2, 3, 4, 5, 6, 8, 9, 10, 11, 12, 13, 14, 15, 16, 17, 18, 19, 20, 21, 22, 23, 24, 25, 26, 27, 28, 29, 30, 31, 32, 33, 34, 35, 36, 37, 38, 39, 40, 41, 42, 43, 44, 45, 46, 47, 48, 49, 50, 51, 52, 53, 54, 55, 56, 57, 58, 59, 60, 61, 62, 63, 64, 65, 66, 67, 68, 69, 70], 7) (α := Option Addr × Nat × Nat × Int) (fun (B, m, cc, fr) => [(3, .slice B m cc), (4, .int .i64 fr)])
    (fun (B, m, cc, fr) h' => -1 ≤ fr ∧ fr ≤ 1000001 ∧ ∃ l : List Int, OrdTo xs fr l ∧ Sep h h' [Sl 3 B m cc (ints .i64 l)]) (fun (_, _, _, fr) => (1000002 - fr).toNat) (_, 0, 0, -1) (by (repeat' (first | exact trivial | refine ⟨rfl, ?_⟩))) ⟨by omega, by omega, [], ⟨List.Pairwise.nil, fun q => ⟨fun h => (by cases h), fun ⟨r, _, _, _, h4⟩ => by have := ok.f0 r; omega⟩⟩, HS0⟩ ?_
  clear HS0
  intro KK hKK
  rintro ⟨B, m, cc, fr⟩ h1 ⟨f0, f1, l, ho, HS⟩
  have hlm : l.length = m := by simpa using (HS.len 0 rfl).1
  conv => whnf
  obtain hlt | hge := Nat.lt_or_ge m n
  · repeat' ((first | (with_reducible first | refine EvSeq.go ?_ | refine EvIf.tt ?_ | refine EvIf.ff ?_) | ((with_reducible refine EvIf.mk (fun c => ?_) (fun c => ?_)) <;> (try simp only [cs_] at c) <;> (try (exfalso; first | omega | (revert c; decide))))) <;> conv => whnf)
    refine EvLoop.keepH ([3, 5, 6, 15, 16, 17, 18, 19, 20, 21, 22, 23, 24, 25, 26, 27, 28, 29, 30, 31, 32, 33, 34, 35, 36, 37, 38, 39, 40, 41, 42, 43, 44, 45, 46, 47, 48, 49, 50, 51, 52, 53, 54, 55, 56, 57, 58, 59, 60, 61, 62, 63, 64, 65, 66, 67], 7) (α := Nat × Option Addr × Nat × Nat × Bool) (fun (r, B, m, c, b) => [(6, .int .i64 r), (3, .slice B m c), (5, .bool b)])
      (fun (r, B, m, c, b) h' => r ≤ n ∧ (b = true ↔ ∃ q, q < r ∧ stn xs q = true ∧ fr < keyOf xs q) ∧ m ≤ 2000000 + r ∧ Sep h h' [Sl 3 B m c (ints .i64 (l ++ mkd (fun q => stn xs q && keyOf xs q == fr) r))])
      (fun (r, _) => n - r) (0, B, m, cc, false) (by (repeat' (first | exact trivial | refine ⟨rfl, ?_⟩))) ⟨Nat.zero_le _, ⟨fun h => (by cases h), fun ⟨q, hq, _⟩ => (by omega)⟩, by omega, by simpa [mkd] using HS⟩ ?_
    clear HS
    intro KK2 hKK2
    rintro ⟨r, B2, m2, c2, b⟩ h2 ⟨hr, hb, hm2, HS⟩
    have hlm2 : (l ++ mkd (fun q => stn xs q && keyOf xs q == fr) r).length = m2 := by simpa using (HS.len 0 rfl).1
    conv => whnf
    obtain hlt2 | hge2 := Nat.lt_or_ge r n
    · obtain ⟨x, hx⟩ : ∃ x, xs[r]? = some x := ⟨_, List.getElem?_eq_getElem (by omega)⟩
      have kx : keyOf xs r = x.fr := by unfold keyOf; rw [hx]; rfl
      have tx : toI xs r = x.to := by unfold toI; rw [hx]; rfl
      have sx : stn xs r = decide (x.fr ≤ x.to) := by unfold stn; rw [kx, tx]
      cases b
      all_goals
        repeat' ((first | ((with_reducible refine EvDraw.ord (id := 9) (.go 0 (.go 1 (.go 2 (.go 3 (.go 4 (.go 5 (.go 6 (.go 7 (.go 8 (.go 9 (.go 10 (.go 11 (.go 12 (.go 13 (.go 14 (.go 15 (.go 16 (.go 17 (.go 18 (.go 19 .done)))))))))))))))))))) fol ?_ ?_ ?_); kernel_rfl; kernel_rfl) | ((with_reducible refine EvDraw.ord (id := 11) (.go 0 (.go 1 (.go 2 (.go 3 (.go 4 (.go 5 (.go 6 (.go 7 (.go 8 (.go 9 (.go 10 (.go 11 (.go 12 (.go 13 (.go 14 (.go 15 (.go 16 (.go 17 (.go 18 (.go 19 (.go 20 (.go 21 (.go 22 (.alt 23 .done .stop)))))))))))))))))))))))) fol ?_ ?_ ?_); kernel_rfl; kernel_rfl) | ((with_reducible refine EvIdx.el Sp.len (by decide) (ra.ext HS.to_ext) la (by omega) (by omega) ?_); intro bI oI z eI hz hI; have hzx : x = z := Option.some.inj (hx.symm.trans hz); subst hzx) | ((with_reducible refine EvLd.el0 hI rfl ?_)) | ((with_reducible refine EvLd.el 1 hI rfl ?_)) | ((first | refine EvApp.sli HS 1 rfl (Rd.of_blk (HS.pt_i 0 rfl)) rfl (by simp [Value.oneCell']) (by omega) (by omega) ?_ | refine EvApp.sli HS 2 rfl (Rd.of_blk (HS.pt_i 0 rfl)) rfl (by simp [Value.oneCell']) (by omega) (by omega) ?_ | refine EvApp.sli HS 3 rfl (Rd.of_blk (HS.pt_i 0 rfl)) rfl (by simp [Value.oneCell']) (by omega) (by omega) ?_ | refine EvApp.sli HS 4 rfl (Rd.of_blk (HS.pt_i 0 rfl)) rfl (by simp [Value.oneCell']) (by omega) (by omega) ?_ | refine EvApp.sli HS 5 rfl (Rd.of_blk (HS.pt_i 0 rfl)) rfl (by simp [Value.oneCell']) (by omega) (by omega) ?_ | refine EvApp.sli HS 6 rfl (Rd.of_blk (HS.pt_i 0 rfl)) rfl (by simp [Value.oneCell']) (by omega) (by omega) ?_ | refine EvApp.sli HS 7 rfl (Rd.of_blk (HS.pt_i 0 rfl)) rfl (by simp [Value.oneCell']) (by omega) (by omega) ?_ | refine EvApp.sli HS 8 rfl (Rd.of_blk (HS.pt_i 0 rfl)) rfl (by simp [Value.oneCell']) (by omega) (by omega) ?_); intro AP cP hP HSP; replace HS := HSP; clear HSP; dsimp only [List.eraseIdx] at HS) | (with_reducible first | refine EvSeq.go ?_ | refine EvIf.tt ?_ | refine EvIf.ff ?_) | ((with_reducible refine EvIf.mk (fun c => ?_) (fun c => ?_)) <;> (try simp only [cs_] at c) <;> (try (exfalso; first | omega | (revert c; decide)))) | ((with_reducible refine EvNew.sep HS ?_); intro bN hN HS1 hX; replace HS := HS1; clear HS1)) <;> conv => whnf)
      all_goals refine ⟨(r + 1, _, _, _, _), ⟨congrArg (fun z => some (Value.int .i64 z)) ((i64w _ (by omega) (by omega)).trans (by omega)), rfl, rfl, (by (repeat' (first | exact trivial | refine ⟨rfl, ?_⟩)))⟩, ⟨by omega, some_succ hb ?_, by omega, ?_⟩, by show n - (r + 1) < n - r; omega⟩
      all_goals first
        | (rw [sx, kx]; simp only [decide_eq_true_eq, Bool.false_eq_true, false_or, true_or, iff_true, true_iff, false_iff]; omega)
        | (rw [sx, kx]; simp; done)
        | (rw [mkd_succ, if_neg (by rw [sx, kx]; simp only [Bool.and_eq_true, decide_eq_true_eq, beq_iff_eq]; omega)]; exact HS)
        | (rw [mkd_succ, if_pos (by rw [sx, kx]; simp only [Bool.and_eq_true, decide_eq_true_eq, beq_iff_eq]; omega), ← List.append_assoc, show ints .i64 (l ++ mkd (fun q => stn xs q && keyOf xs q == fr) r ++ [(r : Int)]) = ints .i64 (l ++ mkd (fun q => stn xs q && keyOf xs q == fr) r) ++ [.int .i64 (r : Int)] by simp]; exact HS.take [_])
    · obtain rfl : r = n := by omega
      have hmore := ho.more
      rw [la] at hmore
      cases b
      · repeat' ((first | (with_reducible first | refine EvSeq.go ?_ | refine EvIf.tt ?_ | refine EvIf.ff ?_) | ((with_reducible refine EvIf.mk (fun c => ?_) (fun c => ?_)) <;> (try simp only [cs_] at c) <;> (try (exfalso; first | omega | (revert c; decide))))) <;> conv => whnf)
        refine hKK2 _ _ _ ?_
        conv => whnf
        repeat' (((with_reducible refine EvIf.mk (fun c => ?_) (fun c => ?_)) <;> (try simp only [cs_] at c) <;> (try (exfalso; first | omega | (revert c; decide)))) <;> conv => whnf)
        refine hKK _ _ _ ?_
        conv => whnf
        refine ⟨_, _, _, _, rfl, hmore.all fun q hq hs => ?_, HS⟩
        rcases Int.lt_or_le fr (keyOf xs q) with h5 | h5
        · exact absurd (hb.mpr ⟨q, by omega, hs, h5⟩) (by simp)
        · omega
      · obtain ⟨q, hq, _, hq2⟩ := hb.mp rfl
        have := ok.f1 q
        repeat' ((first | (with_reducible first | refine EvSeq.go ?_ | refine EvIf.tt ?_ | refine EvIf.ff ?_) | ((with_reducible refine EvIf.mk (fun c => ?_) (fun c => ?_)) <;> (try simp only [cs_] at c) <;> (try (exfalso; first | omega | (revert c; decide))))) <;> conv => whnf)
        refine hKK2 _ _ _ ?_
        conv => whnf
        repeat' (((with_reducible refine EvIf.mk (fun c => ?_) (fun c => ?_)) <;> (try simp only [cs_] at c) <;> (try (exfalso; first | omega | (revert c; decide)))) <;> conv => whnf)
        exact ⟨(B2, m2, c2, fr + 1), ⟨rfl, congrArg (fun z => some (Value.int .i64 z)) (i64w _ (by omega) (by omega)), (by (repeat' (first | exact trivial | refine ⟨rfl, ?_⟩)))⟩, ⟨by omega, by omega, _, hmore, HS⟩, by show (1000002 - (fr + 1)).toNat < (1000002 - fr).toNat; omega⟩
  · repeat' ((first | (with_reducible first | refine EvSeq.go ?_ | refine EvIf.tt ?_ | refine EvIf.ff ?_) | ((with_reducible refine EvIf.mk (fun c => ?_) (fun c => ?_)) <;> (try simp only [cs_] at c) <;> (try (exfalso; first | omega | (revert c; decide))))) <;> conv => whnf)
    refine hKK _ _ _ ?_
    conv => whnf
    repeat' (fail <;> conv => whnf)
    exact ⟨_, _, _, _, rfl, ho.full (by omega), HS⟩
end Go.Proofs.YtjggmhpjlnmigaaDoor
