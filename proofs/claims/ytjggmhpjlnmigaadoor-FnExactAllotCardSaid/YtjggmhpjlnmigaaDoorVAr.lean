/- Places: the program's walked. -/
import Derived.Test.YtjggmhpjlnmigaaDoorVAq
namespace Go.Proofs.YtjggmhpjlnmigaaDoor
open Go.RowKit
set_option maxRecDepth 20000
set_option linter.unusedSimpArgs false
set_option linter.unusedVariables false
noncomputable def ordS (xs : List Sp) : List Int := by
  classical exact if h : ∃ l, IsOrd xs l then h.choose else []
theorem ordS_eq {xs : List Sp} {l : List Int} (h : IsOrd xs l) : ordS xs = l := by
  have hx : ∃ l, IsOrd xs l := ⟨l, h⟩
  unfold ordS
  rw [dif_pos hx]
  exact hx.choose_spec.uniq h
/-- Allot, purely -/
noncomputable def alls (f : Fu) : List Pl := if fok f then (stA (spans f) (ordS (spans f)) (ordS (spans f)).length).1 else []
theorem flat_rep (k : Nat) : (mkCells (#[Value.int .i64 0, Value.int .i64 0] : Array Value).toList k) = (List.replicate k (⟨0, 0⟩ : Pl)).flatMap Pl.cells := by
  induction k with
  | zero => rfl
  | succ k ih =>
    rw [List.replicate_succ, List.flatMap_cons, ← ih]
    rfl
set_option maxHeartbeats 8000000 in
theorem iAl_c {h : Hp} {f : Fu} (gr : GR h) (o : FuOk h f) : HC Tryd.prog 21 [f.v] h fun v h' => ∃ A n c, v = .slice A n c ∧ n ≤ 2000 ∧ Sep h h' [PlP A n c (alls f)] := by
  refine hc_of Tryd.func21 (rfl : Tryd.f21.body = some _) Tryd.ntmps21 Tryd.results21 Tryd.call21 rfl ?_; have HS := Sep.nil h; conv => whnf
  refine EvNew.sep HS ?_
  intro bf gbf HS1 xbf
  replace HS := HS1
  clear HS1
  conv => whnf
  repeat' ((first | ((with_reducible refine EvCall.fn 32 ?_); (with_reducible refine HC.mono (plain_c (gr.q.t.ext HS.to_ext) (o.ext HS.to_ext)) ?_); rintro _ hN ⟨rfl, hX⟩; replace HS := HS.ext hX) | (with_reducible first | refine EvSeq.go ?_ | refine EvIf.tt ?_ | refine EvIf.ff ?_) | ((with_reducible refine EvIf.mk (fun c => ?_) (fun c => ?_)) <;> (try simp only [cs_] at c) <;> (try (exfalso; first | omega | (revert c; decide)))) | (with_reducible refine EvLdN.q HS (by repeat first | exact .h | apply Spot.t) (fun hC => ?_))) <;> conv => whnf)
  · have e : alls f = [] := by
      unfold alls
      rw [c]
      rfl
    refine ⟨none, 0, 0, rfl, by omega, ?_⟩
    rw [e]
    exact (HS.pp0 _).take [_]
  · have gd := good_of c
    have hlen := gd.len
    have hrg := gd.rg
    obtain ⟨R, hR⟩ : ∃ R : Nat, f.rg.toNat = R := ⟨_, rfl⟩
    have hR2 : f.rg = R := by omega
    have ok := spans_ok gd
    obtain ⟨xs, hxs⟩ : ∃ xs, spans f = xs := ⟨_, rfl⟩
    have hxs2 : (List.range f.rg.toNat).map (span f) = xs := by
      rw [← hxs]
      unfold spans
      rw [c]
      rfl
    rw [hxs2] at ok
    have hxl : xs.length = R := by rw [← hxs2, List.length_map, List.length_range, hR]
    have e0 : alls f = (stA xs (ordS xs) (ordS xs).length).1 := by
      unfold alls
      rw [c, hxs]
      rfl
    rw [e0]
    clear e0 c hxs2
    refine EvCall.mk ((iSp_c (gr.q.ext HS.to_ext) (o.ext HS.to_ext)).mono ?_)
    rintro _ hN ⟨A, n, ca, rfl, hn2, HS1⟩
    rw [hxs] at HS1
    replace HS := HS.join1 HS1
    clear HS1
    obtain rfl : R = n := hxl.symm.trans (HS.spl 0 rfl).1
    conv => whnf
    refine EvNew.sep HS ?_
    intro b3 gb3 HS1 xb3
    replace HS := HS1
    clear HS1
    conv => whnf
    repeat' ((first | ((with_reducible refine EvLd.q HS (by repeat first | exact .h | apply Spot.t) ?_); (conv => whnf); intro hC) | ((with_reducible refine EvSt.q HS (by repeat first | exact .h | apply Spot.t) ?_); (conv => whnf); intro hN HS1 hU; replace HS := HS1; clear HS1)) <;> conv => whnf)
    refine EvMk.mk (by omega) (by omega) (by omega) (by omega) ?_
    rw [hR]
    conv => whnf
    refine EvNew.sep HS ?_
    intro ba gba HS1 xba
    replace HS := HS1
    clear HS1
    conv => whnf
    conv => whnf
    refine EvNew.sep HS ?_
    intro b4 gb4 HS1 xb4
    replace HS := HS1
    clear HS1
    conv => whnf
    repeat' ((first | (with_reducible first | refine EvSeq.go ?_ | refine EvIf.tt ?_ | refine EvIf.ff ?_) | ((with_reducible refine EvLd.q HS (by repeat first | exact .h | apply Spot.t) ?_); (conv => whnf); intro hC) | ((with_reducible refine EvSt.q HS (by repeat first | exact .h | apply Spot.t) ?_); (conv => whnf); intro hN HS1 hU; replace HS := HS1; clear HS1)) <;> conv => whnf)
    have HS2 := HS.front 1 rfl
    dsimp only [List.eraseIdx] at HS2
    have ez : mkCells (#[Value.int .i64 0, Value.int .i64 0] : Array Value).toList R = (List.replicate R (⟨0, 0⟩ : Pl)).flatMap Pl.cells ++ [] := by
      rw [List.append_nil, flat_rep]
    rw [ez] at HS2
    have HS3 : Sep h _ (PlP (some ⟨ba, 0, none⟩) R R (List.replicate R ⟨0, 0⟩) :: _) := HS2.rowz (z := 2) (n := R) (c := R) (by rw [rec_len Pl.len, List.length_replicate]) (Nat.le_refl _) (by rw [rec_len Pl.len, List.length_replicate]; rfl)
    clear HS HS2 ez
    have HS := HS3.triv 3 none
    clear HS3
    obtain ⟨B, hB⟩ : ∃ B : Option Addr, some ⟨ba, 0, none⟩ = B := ⟨_, rfl⟩
    rw [hB] at HS
    refine EvLoop.keepH ([5, 6, 7, 35, 36, 37, 38, 39, 40, 41, 42, 43, 44, 45, 46, 47, 48, 49, 50, 51], 25) (α := Nat × Option Addr × Nat × Nat) (fun (k, C, m, cc) => [(35, .int .i64 k), (34, .int .i64 R), (33, .slice A R ca), (5, .slice C m cc)])
      (fun (k, C, m, cc) h' => k ≤ R ∧ m ≤ k ∧ Sep h h' [Sl 3 C m cc (ints .i64 (mkd (fun r => decide (0 ≤ toI xs r)) k)), PlP B R R (List.replicate k ⟨0, -1⟩ ++ List.replicate (R - k) ⟨0, 0⟩), Bx b4 [.slice B R R] 42, Bx b3 [.slice A R ca] 38, SpP A R ca xs, Bx bf (fcs f) 31])
      (fun (k, _) => R - k) (0, none, 0, 0) (by (repeat' (first | exact trivial | refine ⟨rfl, ?_⟩))) ⟨Nat.zero_le _, Nat.le_refl _, (show Sep h _ [Sl 3 none 0 0 [], PlP B R R (List.replicate R ⟨0, 0⟩), Bx b4 [.slice B R R] 42, Bx b3 [.slice A R ca] 38, SpP A R ca xs, Bx bf (fcs f) 31] from HS.pk (by (repeat' (first | exact PK.nil | with_reducible refine PK.q (by repeat first | exact .h | apply Del.t) ?_))))⟩ ?_
    clear HS
    intro KK hKK
    rintro ⟨k, C, m, cc⟩ h1 ⟨hk, hm, HS⟩
    have pl := (HS.ppl 1 rfl).1
    conv => whnf
    obtain hlt | hge := Nat.lt_or_ge k R
    · obtain ⟨x, hx⟩ : ∃ x, xs[k]? = some x := ⟨_, List.getElem?_eq_getElem (by omega)⟩
      have tx : toI xs k = x.to := by unfold toI; rw [hx]; rfl
      have hp : (List.replicate k (⟨0, -1⟩ : Pl) ++ List.replicate (R - k) (⟨0, 0⟩ : Pl))[k]? = some (⟨0, 0⟩ : Pl) := by
        rw [List.getElem?_append_right (by simp), List.length_replicate, Nat.sub_self, List.getElem?_replicate, if_pos (by omega)]
      have hps : (List.replicate k (⟨0, -1⟩ : Pl) ++ List.replicate (R - k) (⟨0, 0⟩ : Pl)).set k (⟨0, -1⟩ : Pl) = List.replicate (k + 1) (⟨0, -1⟩ : Pl) ++ List.replicate (R - (k + 1)) (⟨0, 0⟩ : Pl) := by
        rw [List.set_append_right _ _ (by simp), List.length_replicate, Nat.sub_self, show R - k = (R - (k + 1)) + 1 by omega, List.replicate_succ, List.set_cons_zero, List.replicate_succ', List.append_assoc]
        rfl
      repeat' ((first | ((with_reducible refine EvIdx.el Sp.len (by decide) (by first | exact HS.spr 0 rfl | exact HS.spr 1 rfl | exact HS.spr 2 rfl | exact HS.spr 3 rfl | exact HS.spr 4 rfl | exact HS.spr 5 rfl | exact HS.spr 6 rfl | exact HS.spr 7 rfl | exact HS.spr 8 rfl | exact HS.spr 9 rfl | exact HS.spr 10 rfl | exact HS.spr 11 rfl | exact HS.spr 12 rfl | exact HS.spr 13 rfl | exact HS.spr 14 rfl | exact HS.spr 15 rfl | exact HS.spr 16 rfl | exact HS.spr 17 rfl | exact HS.spr 18 rfl | exact HS.spr 19 rfl) hxl (by omega) (by omega) ?_); intro bI oI z eI hz hI; have hzx : x = z := Option.some.inj (hx.symm.trans hz); subst hzx) | ((with_reducible refine EvLdN.el (by assumption) (Sp.len _) ?_)) | ((with_reducible refine EvIdx.el Pl.len (by decide) (by first | exact HS.ppr 0 rfl | exact HS.ppr 1 rfl | exact HS.ppr 2 rfl | exact HS.ppr 3 rfl | exact HS.ppr 4 rfl | exact HS.ppr 5 rfl | exact HS.ppr 6 rfl | exact HS.ppr 7 rfl | exact HS.ppr 8 rfl | exact HS.ppr 9 rfl | exact HS.ppr 10 rfl | exact HS.ppr 11 rfl | exact HS.ppr 12 rfl | exact HS.ppr 13 rfl | exact HS.ppr 14 rfl | exact HS.ppr 15 rfl | exact HS.ppr 16 rfl | exact HS.ppr 17 rfl | exact HS.ppr 18 rfl | exact HS.ppr 19 rfl) pl (by omega) (by omega) ?_); intro bI oI z eI hz hI) | (with_reducible first | refine EvSeq.go ?_ | refine EvIf.tt ?_ | refine EvIf.ff ?_) | ((with_reducible refine EvIf.mk (fun c => ?_) (fun c => ?_)) <;> (try simp only [cs_] at c) <;> (try (exfalso; first | omega | (revert c; decide)))) | ((with_reducible refine EvNew.sep HS ?_); intro bN hN HS1 hX; replace HS := HS1; clear HS1) | ((with_reducible refine EvLd.q HS (by repeat first | exact .h | apply Spot.t) ?_); (conv => whnf); intro hC) | ((with_reducible refine EvSt.q HS (by repeat first | exact .h | apply Spot.t) ?_); (conv => whnf); intro hN HS1 hU; replace HS := HS1; clear HS1)) <;> conv => whnf)
      refine EvSt.pp HS 2 rfl eI hp ⟨0, -1⟩ 1 (by first | rfl | (rw [Int.toNat_natCast]; rfl)) (by simp) rfl ?_
      intro h2 HS2
      clear HS
      have HS := HS2
      clear HS2
      dsimp only [List.set] at HS
      rw [hps] at HS
      conv => whnf
      repeat' ((first | ((first | refine EvApp.sli HS 1 rfl (Rd.of_blk (HS.pt_i 0 rfl)) rfl (by simp [Value.oneCell']) (by omega) (by omega) ?_ | refine EvApp.sli HS 2 rfl (Rd.of_blk (HS.pt_i 0 rfl)) rfl (by simp [Value.oneCell']) (by omega) (by omega) ?_ | refine EvApp.sli HS 3 rfl (Rd.of_blk (HS.pt_i 0 rfl)) rfl (by simp [Value.oneCell']) (by omega) (by omega) ?_ | refine EvApp.sli HS 4 rfl (Rd.of_blk (HS.pt_i 0 rfl)) rfl (by simp [Value.oneCell']) (by omega) (by omega) ?_ | refine EvApp.sli HS 5 rfl (Rd.of_blk (HS.pt_i 0 rfl)) rfl (by simp [Value.oneCell']) (by omega) (by omega) ?_ | refine EvApp.sli HS 6 rfl (Rd.of_blk (HS.pt_i 0 rfl)) rfl (by simp [Value.oneCell']) (by omega) (by omega) ?_ | refine EvApp.sli HS 7 rfl (Rd.of_blk (HS.pt_i 0 rfl)) rfl (by simp [Value.oneCell']) (by omega) (by omega) ?_ | refine EvApp.sli HS 8 rfl (Rd.of_blk (HS.pt_i 0 rfl)) rfl (by simp [Value.oneCell']) (by omega) (by omega) ?_); intro AP cP hP HSP; replace HS := HSP; clear HSP; dsimp only [List.eraseIdx] at HS) | ((with_reducible refine EvIf.mk (fun c => ?_) (fun c => ?_)) <;> (try simp only [cs_] at c) <;> (try (exfalso; first | omega | (revert c; decide)))) | ((with_reducible refine EvNew.sep HS ?_); intro bN hN HS1 hX; replace HS := HS1; clear HS1) | ((with_reducible refine EvLd.q HS (by repeat first | exact .h | apply Spot.t) ?_); (conv => whnf); intro hC)) <;> conv => whnf)
      · refine ⟨(k + 1, _, m + 1, _), ⟨congrArg (fun z => some (Value.int .i64 z)) ((i64w _ (by omega) (by omega)).trans (by omega)), rfl, rfl, rfl, (by (repeat' (first | exact trivial | refine ⟨rfl, ?_⟩)))⟩, ⟨by omega, by omega, ?_⟩, by show R - (k + 1) < R - k; omega⟩
        rw [mkd_succ, if_pos (by rw [tx]; exact decide_eq_true (by omega)), show ints .i64 (mkd (fun r => decide (0 ≤ toI xs r)) k ++ [(k : Int)]) = ints .i64 (mkd (fun r => decide (0 ≤ toI xs r)) k) ++ [.int .i64 (k : Int)] by simp]
        exact HS.pk (by (repeat' (first | exact PK.nil | with_reducible refine PK.q (by repeat first | exact .h | apply Del.t) ?_)))
      · refine ⟨(k + 1, _, m, _), ⟨congrArg (fun z => some (Value.int .i64 z)) ((i64w _ (by omega) (by omega)).trans (by omega)), rfl, rfl, rfl, (by (repeat' (first | exact trivial | refine ⟨rfl, ?_⟩)))⟩, ⟨by omega, by omega, ?_⟩, by show R - (k + 1) < R - k; omega⟩
        rw [mkd_succ, if_neg (by rw [tx, decide_eq_true_eq]; omega)]
        exact HS.pk (by (repeat' (first | exact PK.nil | with_reducible refine PK.q (by repeat first | exact .h | apply Del.t) ?_)))
    · obtain rfl : R = k := by omega
      obtain ⟨X, hXX⟩ : ∃ X, mkd (fun r => decide (0 ≤ toI xs r)) R = X := ⟨_, rfl⟩
      rw [Nat.sub_self, List.replicate_zero, List.append_nil, hXX] at HS
      have hXr : ∀ x ∈ X, 0 ≤ x ∧ x < R := fun x hx => by
        rw [← hXX] at hx
        obtain ⟨r, rfl, hr, _⟩ := mem_mkd.mp hx
        omega
      have hXa : X.Pairwise (· < ·) := by rw [← hXX]; exact mkd_asc _ _
      have HS2 : Sep h h1 (SrtL C m cc X b3 A R ca xs [PlP B R R (List.replicate R ⟨0, -1⟩), Bx b4 [.slice B R R] 42, Bx bf (fcs f) 31]) := HS.pk (by (repeat' (first | exact PK.nil | with_reducible refine PK.q (by repeat first | exact .h | apply Del.t) ?_)))
      clear HS
      have HS := HS2
      clear HS2
      repeat' ((first | (with_reducible first | refine EvSeq.go ?_ | refine EvIf.tt ?_ | refine EvIf.ff ?_) | ((with_reducible refine EvIf.mk (fun c => ?_) (fun c => ?_)) <;> (try simp only [cs_] at c) <;> (try (exfalso; first | omega | (revert c; decide))))) <;> conv => whnf)
      refine hKK _ _ _ ?_
      conv => whnf
      repeat' ((first | ((with_reducible refine EvCall.fn 46 ?_); (refine HC.mono (sort_c HS hXr hXa (by omega)) ?_); rintro _ hN ⟨rfl, od, w1, w2, HS2⟩; clear HS; have HS := HS2; clear HS2) | (with_reducible first | refine EvSeq.go ?_ | refine EvIf.tt ?_ | refine EvIf.ff ?_) | ((with_reducible refine EvNew.sep HS ?_); intro bN hN HS1 hX; replace HS := HS1; clear HS1) | ((with_reducible refine EvSt.q HS (by repeat first | exact .h | apply Spot.t) ?_); (conv => whnf); intro hN HS1 hU; replace HS := HS1; clear HS1)) <;> conv => whnf)
      rename_i rm g1 g2 b8 g3 g4 g5 g6 g7
      rename Nat => b9
      have io : IsOrd xs od := ⟨w2, fun z => by
        rw [w1.mem_iff, ← hXX, mem_mkd]
        constructor
        · rintro ⟨r, e, h1, h2⟩
          exact ⟨r, e, by omega, by unfold stn; rw [decide_eq_true_eq] at h2 ⊢; exact (ok.t1 r (by omega)).mpr h2⟩
        · rintro ⟨r, e, h1, h2⟩
          exact ⟨r, e, by omega, by unfold stn at h2; rw [decide_eq_true_eq] at h2 ⊢; exact (ok.t1 r h1).mp h2⟩⟩
      rw [ordS_eq io]
      have hod : od.length = m := by simpa using (HS.len 3 rfl).1
      have hom := io.le
      have und : Tryd.prog.underlying 3 = some (.int .i64) := Tryd.underlying3
      replace HS := HS.pk (M := Pt rm (.map #[] 0) :: [Bx b4 [.slice B R R] 42, PlP B R R (List.replicate R ⟨0, -1⟩), Bx b8 [.map (some rm)] 76, Bx b9 [.int .i64 0] 3, Sl 3 C m cc (ints .i64 od), Bx b3 [.slice A R ca] 38, SpP A R ca xs, Bx bf (fcs f) 31]) (by (repeat' (first | exact PK.nil | with_reducible refine PK.q (by repeat first | exact .h | apply Del.t) ?_)))
      replace HS := HS.mapNew
      refine EvLoop.keepH ([13, 14, 15, 16, 17, 18, 19, 21, 22, 23, 24, 60, 61, 62, 63, 64, 65, 66, 67, 68, 69, 70, 71, 72, 73, 74, 75, 76, 77, 78, 79, 80, 81, 82, 83, 84, 85, 86, 87, 88, 89, 90, 91, 92, 93, 94, 95, 96, 97, 98, 99, 100, 101, 102, 103, 104, 105, 106, 107, 108, 109, 110, 111, 112, 113, 114, 115, 116, 117, 118, 119, 120, 121, 122, 123, 124, 125, 126, 127, 128, 129, 130, 131, 132, 133, 134, 135, 136, 137, 138, 139, 140, 141, 142, 143, 144, 145, 146, 147, 148, 149, 150, 151, 152, 153, 154, 155, 156, 157, 158, 159, 160, 161, 162, 163, 164, 165, 166, 167, 168, 169, 170, 171], 25) (α := Nat × List Pl × Nat × (Int → Option Value) × Int) (fun (k, _) => [(60, .int .i64 k), (59, .int .i64 m), (58, .slice C m cc)])
        (fun (k, ps, s, g, fr) h' => k ≤ m ∧ stA xs od k = (ps, s) ∧ HI xs ps fr g ∧ (∀ j q, k ≤ j → od[j]? = some q → fr ≤ keyOf xs q.toNat) ∧ Sep h h' [MapP rm g, Bx b4 [.slice B R R] 42, PlP B R R ps, Bx b8 [.map (some rm)] 76, Bx b9 [.int .i64 s] 3, Sl 3 C m cc (ints .i64 od), Bx b3 [.slice A R ca] 38, SpP A R ca xs, Bx bf (fcs f) 31])
        (fun (k, _) => m - k) (0, List.replicate R ⟨0, -1⟩, 0, (fun _ => none), -1) (by (repeat' (first | exact trivial | refine ⟨rfl, ?_⟩))) ⟨Nat.zero_le _, (by show (List.replicate xs.length (⟨0, -1⟩ : Pl), 0) = _; rw [hxl]), ⟨fun m v h => (by cases h), fun q h1 h2 _ => (by unfold rgI at h2; rw [Int.toNat_natCast, List.getElem?_replicate, if_pos (by omega)] at h2; exact absurd h2 (Int.lt_irrefl 0))⟩, fun j q _ _ => ok.f0 _, HS⟩ ?_
      clear HS
      intro KK2 hKK2
      rintro ⟨k, ps, s, g, fr⟩ h2 ⟨hk, hst, hi, hfr, HS⟩
      have sa := SA.at_ io k (by omega)
      rw [hst] at sa
      have pl := (HS.ppl 2 rfl).1
      conv => whnf
      obtain hlt | hge := Nat.lt_or_ge k m
      · obtain ⟨q, hq⟩ : ∃ q, od[k]? = some q := ⟨_, List.getElem?_eq_getElem (by omega)⟩
        obtain ⟨r, rfl, hr, hsr⟩ := (io.mem q).mp (List.mem_of_getElem? hq)
        rw [hxl] at hr
        obtain ⟨x, hx⟩ : ∃ x, xs[r]? = some x := ⟨_, List.getElem?_eq_getElem (by omega)⟩
        have kx : keyOf xs r = x.fr := by unfold keyOf; rw [hx]; rfl
        have tx : toI xs r = x.to := by unfold toI; rw [hx]; rfl
        have cx : crI xs r = x.x := by unfold crI; rw [hx]; rfl
        have hp := sa.fresh k r (Nat.le_refl _) hq
        rw [Int.toNat_natCast] at hp
        have r0 : rgI ps r = 0 := by unfold rgI; rw [Int.toNat_natCast]; show (ps[r]?.map Pl.rg).getD 0 = 0; rw [hp]; rfl
        have hnx := stA_succ (xs := xs) hq
        rw [hst] at hnx
        have hfr2 : ∀ j q, k + 1 ≤ j → od[j]? = some q → keyOf xs r ≤ keyOf xs q.toNat := fun j q hj hjq => by
          have := ord_mono io hq hjq (by omega)
          rwa [Int.toNat_natCast] at this
        have hi2 := hi.up (hfr k r (Nat.le_refl _) hq)
        rw [Int.toNat_natCast] at hi2
        have vq : (ints .i64 od)[((k : Int)).toNat]? = some (.int .i64 r) := by rw [Int.toNat_natCast]; simp [hq]
        have ok1 : s ≤ 10000 := by have := sa.sp; show s ≤ 10000; simp only at this; omega
        repeat' ((first | ((with_reducible refine EvIdx.rd (vs := ints .i64 od) (HS.rd 5 rfl) (by simpa using hod) (by omega) (by omega) ?_); intro bI oI eI hI) | ((with_reducible refine EvLd.rowv (by assumption) vq ?_)) | ((with_reducible refine EvIdx.el Sp.len (by decide) (by first | exact HS.spr 0 rfl | exact HS.spr 1 rfl | exact HS.spr 2 rfl | exact HS.spr 3 rfl | exact HS.spr 4 rfl | exact HS.spr 5 rfl | exact HS.spr 6 rfl | exact HS.spr 7 rfl | exact HS.spr 8 rfl | exact HS.spr 9 rfl | exact HS.spr 10 rfl | exact HS.spr 11 rfl | exact HS.spr 12 rfl | exact HS.spr 13 rfl | exact HS.spr 14 rfl | exact HS.spr 15 rfl | exact HS.spr 16 rfl | exact HS.spr 17 rfl | exact HS.spr 18 rfl | exact HS.spr 19 rfl) hxl (by omega) (by omega) ?_); intro bI oI z eI hz hI; have hzx : x = z := Option.some.inj (hx.symm.trans hz); subst hzx) | ((with_reducible refine EvLdN.el (by assumption) (Sp.len _) ?_)) | (with_reducible first | refine EvSeq.go ?_ | refine EvIf.tt ?_ | refine EvIf.ff ?_) | ((with_reducible refine EvIf.mk (fun c => ?_) (fun c => ?_)) <;> (try simp only [cs_] at c) <;> (try (exfalso; first | omega | (revert c; decide)))) | ((with_reducible refine EvNew.sep HS ?_); intro bN hN HS1 hX; replace HS := HS1; clear HS1) | ((with_reducible refine EvLd.q HS (by repeat first | exact .h | apply Spot.t) ?_); (conv => whnf); intro hC) | ((with_reducible refine EvSt.q HS (by repeat first | exact .h | apply Spot.t) ?_); (conv => whnf); intro hN HS1 hU; replace HS := HS1; clear HS1)) <;> conv => whnf)
        rename Nat => b14
        refine EvRange.mp (fun m => ∀ q : Nat, g m = some (.int .i64 q) → x.fr ≤ toI xs q) HS 1 rfl ?_
        intro rit h3 N0 HS2
        clear HS
        have HS := HS2
        clear HS2
        dsimp only [List.eraseIdx] at HS
        conv => whnf
        repeat' (fail <;> conv => whnf)
        refine EvLoop.keepH ([15, 16, 70, 71, 72, 73, 74, 75, 76, 77, 78, 79, 80, 81, 82, 83, 84], 25) (α := Nat × (Int → Option Value)) (fun _ => [(69, .pointer (some ⟨rit, 0, none⟩)), (60, .int .i64 k), (59, .int .i64 m), (58, .slice C m cc)])
          (fun (N, g') h' => HI xs ps x.fr g' ∧ (∀ m v, g' m = some v → g m = some v) ∧ Sep h h' [MapIt rm rit g' N (fun m => ∀ q : Nat, g m = some (.int .i64 q) → x.fr ≤ toI xs q), Bx b14 [.int .i64 x.fr, .int .i64 x.to, .bool x.x] 64, Bx b4 [.slice B R R] 42, PlP B R R ps, Bx b8 [.map (some rm)] 76, Bx b9 [.int .i64 s] 3, Sl 3 C m cc (ints .i64 od), Bx b3 [.slice A R ca] 38, SpP A R ca xs, Bx bf (fcs f) 31])
          (fun (N, _) => N) (N0, g) (by (repeat' (first | exact trivial | refine ⟨rfl, ?_⟩))) ⟨by rw [← kx]; exact hi2, fun _ _ h => h, HS⟩ ?_
        clear HS
        intro KK3 hKK3
        rintro ⟨N, g'⟩ h4 ⟨hi3, hsub, HS⟩
        conv => whnf
        repeat' (fail <;> conv => whnf)
        refine EvNext.mp HS (by repeat first | exact .h | apply Spot.t) ?_ ?_
        · intro hok
          have he : HE xs ps (keyOf xs r) g' := by
            rw [kx]
            exact ⟨hi3, fun m q hm => hok m _ hm q (hsub m _ hm)⟩
          replace HS := HS.itOver (by repeat first | exact .h | apply Spot.t)
          conv => whnf
          repeat' ((with_reducible first | refine EvSeq.go ?_ | refine EvIf.tt ?_ | refine EvIf.ff ?_) <;> conv => whnf)
          refine hKK3 _ _ _ ?_
          conv => whnf
          obtain ⟨AT, cT, hA1, hAc, hA2⟩ := (gr.a.ext HS.to_ext).out
          obtain ⟨bt, ot, rfl, _⟩ := hA2 0 _ rfl
          refine EvLd.at_ hA1 ?_
          conv => whnf
          repeat' (fail <;> conv => whnf)
          refine EvSeq.keepcutH ([17], 25) (α := Option Addr × Nat × Nat) (fun (U, un, cU) => [(17, .slice U un cU), (60, .int .i64 k), (59, .int .i64 m), (58, .slice C m cc)]) (fun (U, un, _) h' => h' = h4 ∧ un = (usb x.x).length ∧ Rd h4 U (ints .i64 (usb x.x))) ?_ ?_
          · intro KK4 hKK4
            conv => whnf
            repeat' ((first | ((with_reducible refine EvLd.at_ hA1 ?_)) | ((refine EvCut.mk (by omega) (by omega) (by omega) (by omega) ?_)) | ((with_reducible refine EvIf.mk (fun c => ?_) (fun c => ?_)) <;> (try simp only [cs_] at c) <;> (try (exfalso; first | omega | (revert c; decide)))) | ((with_reducible refine EvLd.q HS (by repeat first | exact .h | apply Spot.t) ?_); (conv => whnf); intro hC)) <;> conv => whnf)
            · refine ⟨(_, _, _), ⟨rfl, (by (repeat' (first | exact trivial | refine ⟨rfl, ?_⟩)))⟩, rfl, ?_, ?_⟩
              · rw [c]
                rfl
              · rw [c, if_neg (by show ¬ ((cT : Int)).toNat = 4; omega)]
                exact hA2.dropr (k := 4)
            · refine ⟨(_, _, _), ⟨rfl, (by (repeat' (first | exact trivial | refine ⟨rfl, ?_⟩)))⟩, rfl, ?_, ?_⟩
              · rw [c]
                rfl
              · rw [c]
                exact hA2
          · rintro ⟨U, un, cU⟩ h5 ⟨rfl, hun, rU⟩
            obtain ⟨us, hus⟩ : ∃ us, usb x.x = us := ⟨_, rfl⟩
            rw [hus] at hun rU
            have hcu : usb (crI xs r) = us := by rw [cx, hus]
            have hul : us.length ≤ 16 := by rw [← hus]; exact usb_len _
            have hup : ∀ m ∈ us, 0 < m ∧ m < 32 := fun m hm => usb_pos (by rw [hus]; exact hm)
            conv => whnf
            repeat' ((with_reducible first | refine EvSeq.go ?_ | refine EvIf.tt ?_ | refine EvIf.ff ?_) <;> conv => whnf)
            refine EvLoop.keepH ([18, 19, 21, 22, 23, 92, 93, 94, 95, 96, 97, 98, 99, 100, 101, 102, 103, 104, 105, 106, 107, 108, 109, 110, 111, 112, 113, 114, 115, 116, 117, 118, 119, 120, 121, 122, 123, 124, 125, 126, 127, 128, 129, 130, 131, 132, 133, 134, 135, 136, 137, 138, 139], 25) (α := Nat × Int) (fun (j, w) => [(92, .int .i64 j), (91, .int .i64 un), (90, .slice U un cU), (19, .int .i64 w), (18, .int .i64 0), (60, .int .i64 k), (59, .int .i64 m), (58, .slice C m cc)])
              (fun (j, w) h' => h' = h5 ∧ j ≤ un ∧ (∀ m ∈ us.take j, ∃ v, g' m = some v) ∧ FarI xs (fun z => ∃ i : Nat, z = i ∧ i < xs.length ∧ rgI ps i ∈ us.take j ∧ keyOf xs r ≤ toI xs i) w)
              (fun (j, _) => un - j) (0, -1) (by (repeat' (first | exact trivial | refine ⟨rfl, ?_⟩))) ⟨rfl, Nat.zero_le _, fun m hm => by simp at hm, .inl ⟨rfl, fun z ⟨i, _, _, h3, _⟩ => by simp at h3⟩⟩ ?_
            intro KK5 hKK5
            rintro ⟨j, w⟩ h5 ⟨rfl, hj, hall, hfar⟩
            conv => whnf
            obtain hjl | hjg := Nat.lt_or_ge j un
            · obtain ⟨u, hu⟩ : ∃ u, us[j]? = some u := ⟨_, List.getElem?_eq_getElem (by omega)⟩
              have vu : (ints .i64 us)[((j : Int)).toNat]? = some (.int .i64 u) := by rw [Int.toNat_natCast]; simp [hu]
              have hu0 := (hup u (List.mem_of_getElem? hu)).1
              repeat' ((first | ((with_reducible refine EvIdx.rd (vs := ints .i64 us) rU (by simp; omega) (by omega) (by omega) ?_); intro bI oI eI hI) | ((with_reducible refine EvLd.rowv (by assumption) vu ?_)) | (with_reducible first | refine EvSeq.go ?_ | refine EvIf.tt ?_ | refine EvIf.ff ?_) | ((with_reducible refine EvIf.mk (fun c => ?_) (fun c => ?_)) <;> (try simp only [cs_] at c) <;> (try (exfalso; first | omega | (revert c; decide)))) | ((with_reducible refine EvLd.q HS (by repeat first | exact .h | apply Spot.t) ?_); (conv => whnf); intro hC)) <;> conv => whnf)
              refine EvLook.mp HS (by repeat first | exact .h | apply Spot.t) und (fun hgu => ?_) (fun v hgu => ?_)
              · replace HS := HS.pk (M := [Bx b4 [.slice B R R] 42, PlP B R R ps, Bx b8 [.map (some rm)] 76, MapP rm g', Bx b14 [.int .i64 x.fr, .int .i64 x.to, .bool x.x] 64, Bx b9 [.int .i64 s] 3, Sl 3 C m cc (ints .i64 od), Bx b3 [.slice A R ca] 38, SpP A R ca xs, Bx bf (fcs f) 31]) (by (repeat' (first | exact PK.nil | with_reducible refine PK.q (by repeat first | exact .h | apply Del.t) ?_)))
                conv => whnf
                repeat' ((first | (with_reducible first | refine EvSeq.go ?_ | refine EvIf.tt ?_ | refine EvIf.ff ?_) | ((with_reducible refine EvIf.mk (fun c => ?_) (fun c => ?_)) <;> (try simp only [cs_] at c) <;> (try (exfalso; first | omega | (revert c; decide))))) <;> conv => whnf)
                refine hKK5 _ _ _ ?_
                conv => whnf
                repeat' ((first | ((with_reducible refine EvCall.fn 50 ?_); (with_reducible refine HC.mono (take_c HS hr (by omega)) ?_); rintro _ hN ⟨rfl, HS2⟩; clear HS; have HS := HS2; clear HS2) | ((with_reducible refine EvIf.mk (fun c => ?_) (fun c => ?_)) <;> (try simp only [cs_] at c) <;> (try (exfalso; first | omega | (revert c; decide))))) <;> conv => whnf)
                refine ⟨(k + 1, _, s, _, keyOf xs r), ⟨congrArg (fun z => some (Value.int .i64 z)) ((i64w _ (by omega) (by omega)).trans (by omega)), rfl, rfl, (by (repeat' (first | exact trivial | refine ⟨rfl, ?_⟩)))⟩, ⟨by omega, ?_, he.take (by omega) (by omega) r0 hu0 hgu, hfr2, HS.pk (by (repeat' (first | exact PK.nil | with_reducible refine PK.q (by repeat first | exact .h | apply Del.t) ?_)))⟩, by show m - (k + 1) < m - k; omega⟩
                rw [hnx]
                unfold stepA
                dsimp only
                rw [Int.toNat_natCast, he.fre_some (by rw [hcu]; exact hall) (by rw [hcu]; exact hu) hgu]
              · obtain ⟨q, rfl, hq1, hq2, hq3⟩ := hi3.back u v hgu
                obtain ⟨z0, hz0⟩ : ∃ z, xs[q]? = some z := ⟨_, List.getElem?_eq_getElem hq1⟩
                have tz : toI xs q = z0.to := by unfold toI; rw [hz0]; rfl
                have hall2 : ∀ m ∈ us.take (j + 1), ∃ v, g' m = some v := fun m hm => by
                  rw [List.take_add_one, hu, List.mem_append] at hm
                  rcases hm with hm | hm
                  · exact hall m hm
                  · simp only [Option.toList_some, List.mem_singleton] at hm
                    rw [hm]
                    exact ⟨_, hgu⟩
                have hiff : ∀ z : Int, (∃ i : Nat, z = i ∧ i < xs.length ∧ rgI ps i ∈ us.take (j + 1) ∧ keyOf xs r ≤ toI xs i) ↔ (∃ i : Nat, z = i ∧ i < xs.length ∧ rgI ps i ∈ us.take j ∧ keyOf xs r ≤ toI xs i) ∨ z = q := fun z => by
                  constructor
                  · rintro ⟨i, e1, e2, e3, e4⟩
                    rw [List.take_add_one, hu, List.mem_append] at e3
                    rcases e3 with e3 | e3
                    · exact .inl ⟨i, e1, e2, e3, e4⟩
                    · simp only [Option.toList_some, List.mem_singleton] at e3
                      have h9 := he.i.forth i e2 (by omega) e4
                      rw [e3, hgu] at h9
                      cases h9
                      exact .inr e1
                  · rintro (⟨i, e1, e2, e3, e4⟩ | rfl)
                    · exact ⟨i, e1, e2, by rw [List.take_add_one]; exact List.mem_append_left _ e3, e4⟩
                    · exact ⟨q, rfl, hq1, by rw [List.take_add_one, hu, hq2]; simp, he.e u q hgu⟩
                have hwc : w = -1 ∨ ∃ i2 : Nat, w = i2 ∧ i2 < R := by
                  rcases hfar with ⟨hw, _⟩ | ⟨⟨i2, e1, e2, _⟩, _⟩
                  · exact .inl hw
                  · exact .inr ⟨i2, e1, by omega⟩
                rcases hwc with rfl | ⟨i2, rfl, hi2⟩
                · conv => whnf
                  repeat' ((first | ((with_reducible refine EvDraw.ord (id := 38) (.go 0 (.go 1 (.go 2 (.go 3 (.go 4 (.go 5 (.go 6 (.go 7 (.go 8 (.go 9 (.go 10 (.go 11 (.go 12 (.go 13 (.go 14 (.go 15 (.go 16 (.go 17 (.go 18 (.go 19 (.go 20 (.go 21 (.go 22 (.go 23 (.go 24 (.go 25 (.go 26 (.go 27 (.go 28 (.go 29 (.go 30 (.go 31 (.go 32 .done))))))))))))))))))))))))))))))))) fol ?_ ?_ ?_); kernel_rfl; kernel_rfl) | (with_reducible first | refine EvSeq.go ?_ | refine EvIf.tt ?_ | refine EvIf.ff ?_) | ((with_reducible refine EvIf.mk (fun c => ?_) (fun c => ?_)) <;> (try simp only [cs_] at c) <;> (try (exfalso; first | omega | (revert c; decide))))) <;> conv => whnf)
                  refine ⟨(j + 1, q), ⟨congrArg (fun z => some (Value.int .i64 z)) ((i64w _ (by omega) (by omega)).trans (by omega)), rfl, rfl, rfl, rfl, rfl, rfl, rfl, (by (repeat' (first | exact trivial | refine ⟨rfl, ?_⟩)))⟩, ⟨rfl, by omega, hall2, hfar.more hiff (by omega) (.inl ⟨.inl (by omega), rfl⟩)⟩, by show un - (j + 1) < un - j; omega⟩
                · obtain ⟨z2, hz2⟩ : ∃ z, xs[i2]? = some z := ⟨_, List.getElem?_eq_getElem (by omega)⟩
                  have tz2 : toI xs i2 = z2.to := by unfold toI; rw [hz2]; rfl
                  conv => whnf
                  repeat' ((first | ((with_reducible refine EvDraw.ord (id := 38) (.go 0 (.go 1 (.go 2 (.go 3 (.go 4 (.go 5 (.go 6 (.go 7 (.go 8 (.go 9 (.go 10 (.go 11 (.go 12 (.go 13 (.go 14 (.go 15 (.go 16 (.go 17 (.go 18 (.go 19 (.go 20 (.go 21 (.go 22 (.go 23 (.go 24 (.go 25 (.go 26 (.go 27 (.go 28 (.go 29 (.go 30 (.go 31 (.go 32 .done))))))))))))))))))))))))))))))))) fol ?_ ?_ ?_); kernel_rfl; kernel_rfl) | ((with_reducible refine EvIdx.el Sp.len (by decide) (by first | exact HS.spr 0 rfl | exact HS.spr 1 rfl | exact HS.spr 2 rfl | exact HS.spr 3 rfl | exact HS.spr 4 rfl | exact HS.spr 5 rfl | exact HS.spr 6 rfl | exact HS.spr 7 rfl | exact HS.spr 8 rfl | exact HS.spr 9 rfl | exact HS.spr 10 rfl | exact HS.spr 11 rfl | exact HS.spr 12 rfl | exact HS.spr 13 rfl | exact HS.spr 14 rfl | exact HS.spr 15 rfl | exact HS.spr 16 rfl | exact HS.spr 17 rfl | exact HS.spr 18 rfl | exact HS.spr 19 rfl) hxl (by omega) (by omega) ?_); intro bI oI z eI hz hI; (first | (have hzx : z0 = z := Option.some.inj (hz0.symm.trans hz); subst hzx) | (have hzx : z2 = z := Option.some.inj (hz2.symm.trans hz); subst hzx))) | ((with_reducible refine EvLd.el 1 hI rfl ?_)) | (with_reducible first | refine EvSeq.go ?_ | refine EvIf.tt ?_ | refine EvIf.ff ?_) | ((with_reducible refine EvIf.mk (fun c => ?_) (fun c => ?_)) <;> (try simp only [cs_] at c) <;> (try (exfalso; first | omega | (revert c; decide)))) | ((with_reducible refine EvLd.q HS (by repeat first | exact .h | apply Spot.t) ?_); (conv => whnf); intro hC)) <;> conv => whnf)
                  · refine ⟨(j + 1, _), ⟨congrArg (fun z => some (Value.int .i64 z)) ((i64w _ (by omega) (by omega)).trans (by omega)), rfl, rfl, rfl, rfl, rfl, rfl, rfl, (by (repeat' (first | exact trivial | refine ⟨rfl, ?_⟩)))⟩, ⟨rfl, by omega, hall2, hfar.more hiff (by omega) (.inl ⟨.inr (by rw [Int.toNat_natCast, Int.toNat_natCast, tz, tz2]; omega), rfl⟩)⟩, by show un - (j + 1) < un - j; omega⟩
                  · refine ⟨(j + 1, _), ⟨congrArg (fun z => some (Value.int .i64 z)) ((i64w _ (by omega) (by omega)).trans (by omega)), rfl, rfl, rfl, rfl, rfl, rfl, rfl, (by (repeat' (first | exact trivial | refine ⟨rfl, ?_⟩)))⟩, ⟨rfl, by omega, hall2, hfar.more hiff (by omega) (.inl ⟨.inr (by rw [Int.toNat_natCast, Int.toNat_natCast, tz, tz2]; omega), rfl⟩)⟩, by show un - (j + 1) < un - j; omega⟩
                  · refine ⟨(j + 1, _), ⟨congrArg (fun z => some (Value.int .i64 z)) ((i64w _ (by omega) (by omega)).trans (by omega)), rfl, rfl, rfl, rfl, rfl, rfl, rfl, (by (repeat' (first | exact trivial | refine ⟨rfl, ?_⟩)))⟩, ⟨rfl, by omega, hall2, hfar.more hiff (by omega) (.inr ⟨by rw [Int.toNat_natCast, Int.toNat_natCast, tz, tz2]; omega, rfl⟩)⟩, by show un - (j + 1) < un - j; omega⟩
                  · refine ⟨(j + 1, _), ⟨congrArg (fun z => some (Value.int .i64 z)) ((i64w _ (by omega) (by omega)).trans (by omega)), rfl, rfl, rfl, rfl, rfl, rfl, rfl, (by (repeat' (first | exact trivial | refine ⟨rfl, ?_⟩)))⟩, ⟨rfl, by omega, hall2, hfar.more hiff (by omega) (.inr ⟨by rw [Int.toNat_natCast, Int.toNat_natCast, tz, tz2]; omega, rfl⟩)⟩, by show un - (j + 1) < un - j; omega⟩
            · obtain rfl : j = un := by omega
              rw [List.take_of_length_le (by omega)] at hall hfar
              have hfn : fre xs ps r = none := he.fre_none (by rw [hcu]; exact hall)
              have hfw : farF xs ps (usb (crI xs r)) (hdR xs ps r) = w := HE.far (by rw [hcu]; exact hfar)
              have hst1 : stepA xs (ps, s) (r : Int) = if 0 ≤ w ∧ toI xs r < toI xs w.toNat then ((ps.set r ⟨rgI ps w, -1⟩).set w.toNat ⟨0, s⟩, s + 1) else (ps.set r ⟨0, s⟩, s + 1) := by
                unfold stepA
                dsimp only
                rw [Int.toNat_natCast, hfn]
                dsimp only
                rw [hfw]
              have hne0 : ∃ u, us[0]? = some u := by rw [← hus]; cases x.x <;> exact ⟨_, rfl⟩
              obtain ⟨u, hu⟩ := hne0
              obtain ⟨i2, e1, hi2, hru, hto2⟩ : ∃ i : Nat, w = i ∧ i < xs.length ∧ rgI ps i ∈ us ∧ keyOf xs r ≤ toI xs i := by
                rcases hfar with ⟨_, hno⟩ | ⟨hp, _⟩
                · exfalso
                  obtain ⟨v, hv⟩ := hall u (List.mem_of_getElem? hu)
                  obtain ⟨q, rfl, hq1, hq2, hq3⟩ := hi3.back u v hv
                  exact hno q ⟨q, rfl, hq1, by rw [hq2]; exact List.mem_of_getElem? hu, he.e u q hv⟩
                · exact hp
              subst e1
              have hg2 : 0 < rgI ps i2 := (hup _ hru).1
              obtain ⟨z2, hz2⟩ : ∃ z, xs[i2]? = some z := ⟨_, List.getElem?_eq_getElem (by omega)⟩
              have tz2 : toI xs i2 = z2.to := by unfold toI; rw [hz2]; rfl
              obtain ⟨y2, hy2⟩ : ∃ y, ps[i2]? = some y := ⟨_, List.getElem?_eq_getElem (by omega)⟩
              have ry2 : rgI ps i2 = y2.rg := by unfold rgI; rw [Int.toNat_natCast, hy2]; rfl
              have hne : r ≠ i2 := fun e => by
                subst e
                omega
              replace HS := HS.pk (M := [Bx b4 [.slice B R R] 42, PlP B R R ps, Bx b9 [.int .i64 s] 3, Bx b8 [.map (some rm)] 76, MapP rm g', Bx b14 [.int .i64 x.fr, .int .i64 x.to, .bool x.x] 64, Sl 3 C m cc (ints .i64 od), Bx b3 [.slice A R ca] 38, SpP A R ca xs, Bx bf (fcs f) 31]) (by (repeat' (first | exact PK.nil | with_reducible refine PK.q (by repeat first | exact .h | apply Del.t) ?_)))
              repeat' ((first | (with_reducible first | refine EvSeq.go ?_ | refine EvIf.tt ?_ | refine EvIf.ff ?_) | ((with_reducible refine EvIf.mk (fun c => ?_) (fun c => ?_)) <;> (try simp only [cs_] at c) <;> (try (exfalso; first | omega | (revert c; decide))))) <;> conv => whnf)
              refine hKK5 _ _ _ ?_
              conv => whnf
              repeat' ((first | ((with_reducible refine EvDraw.ord (id := 44) (.go 0 (.go 1 (.go 2 (.go 3 (.go 4 (.go 5 (.go 6 (.go 7 (.go 8 .done))))))))) fol ?_ ?_ ?_); kernel_rfl; kernel_rfl) | ((with_reducible refine EvIdx.el Sp.len (by decide) (by first | exact HS.spr 0 rfl | exact HS.spr 1 rfl | exact HS.spr 2 rfl | exact HS.spr 3 rfl | exact HS.spr 4 rfl | exact HS.spr 5 rfl | exact HS.spr 6 rfl | exact HS.spr 7 rfl | exact HS.spr 8 rfl | exact HS.spr 9 rfl | exact HS.spr 10 rfl | exact HS.spr 11 rfl | exact HS.spr 12 rfl | exact HS.spr 13 rfl | exact HS.spr 14 rfl | exact HS.spr 15 rfl | exact HS.spr 16 rfl | exact HS.spr 17 rfl | exact HS.spr 18 rfl | exact HS.spr 19 rfl) hxl (by omega) (by omega) ?_); intro bI oI z eI hz hI; (first | (have hzx : z2 = z := Option.some.inj (hz2.symm.trans hz); subst hzx))) | ((with_reducible refine EvLd.el 1 hI rfl ?_)) | ((with_reducible refine EvIdx.el Pl.len (by decide) (by first | exact HS.ppr 0 rfl | exact HS.ppr 1 rfl | exact HS.ppr 2 rfl | exact HS.ppr 3 rfl | exact HS.ppr 4 rfl | exact HS.ppr 5 rfl | exact HS.ppr 6 rfl | exact HS.ppr 7 rfl | exact HS.ppr 8 rfl | exact HS.ppr 9 rfl | exact HS.ppr 10 rfl | exact HS.ppr 11 rfl | exact HS.ppr 12 rfl | exact HS.ppr 13 rfl | exact HS.ppr 14 rfl | exact HS.ppr 15 rfl | exact HS.ppr 16 rfl | exact HS.ppr 17 rfl | exact HS.ppr 18 rfl | exact HS.ppr 19 rfl) pl (by omega) (by omega) ?_); intro bI oI z eI hz hI; have hzx : y2 = z := Option.some.inj (hy2.symm.trans hz); subst hzx) | ((with_reducible refine EvLd.el0 hI rfl ?_)) | ((with_reducible refine EvIf.mk (fun c => ?_) (fun c => ?_)) <;> (try simp only [cs_] at c) <;> (try (exfalso; first | omega | (revert c; decide)))) | ((with_reducible refine EvLd.q HS (by repeat first | exact .h | apply Spot.t) ?_); (conv => whnf); intro hC)) <;> conv => whnf)
              · repeat' (((with_reducible refine EvCall.fn 49 ?_); (with_reducible refine HC.mono (spill_c (r := i2) HS (by omega) (by omega) (by omega)) ?_); rintro _ hN ⟨rfl, HS2⟩; clear HS; have HS := HS2; clear HS2) <;> conv => whnf)
                replace HS := HS.pk (M := [Bx b4 [.slice B R R] 42, PlP B R R (ps.set i2 ⟨0, s⟩), Bx b8 [.map (some rm)] 76, MapP rm g', Bx b14 [.int .i64 x.fr, .int .i64 x.to, .bool x.x] 64, Bx b9 [.int .i64 (s + 1 : Nat)] 3, Sl 3 C m cc (ints .i64 od), Bx b3 [.slice A R ca] 38, SpP A R ca xs, Bx bf (fcs f) 31]) (by (repeat' (first | exact PK.nil | with_reducible refine PK.q (by repeat first | exact .h | apply Del.t) ?_)))
                repeat' (((with_reducible refine EvCall.fn 50 ?_); (with_reducible refine HC.mono (take_c HS hr (by omega)) ?_); rintro _ hN ⟨rfl, HS2⟩; clear HS; have HS := HS2; clear HS2) <;> conv => whnf)
                refine ⟨(k + 1, _, s + 1, _, keyOf xs r), ⟨congrArg (fun z => some (Value.int .i64 z)) ((i64w _ (by omega) (by omega)).trans (by omega)), rfl, rfl, (by (repeat' (first | exact trivial | refine ⟨rfl, ?_⟩)))⟩, ⟨by omega, ?_, (by have h9 := he.swap (r := r) (w := i2) (s := s) (by omega) (by omega) (by omega) r0 hg2 hto2; rw [ry2] at h9; exact h9), hfr2, HS.pk (by (repeat' (first | exact PK.nil | with_reducible refine PK.q (by repeat first | exact .h | apply Del.t) ?_)))⟩, by show m - (k + 1) < m - k; omega⟩
                rw [hnx, hst1, if_pos ⟨by omega, by rw [tx, Int.toNat_natCast, tz2]; omega⟩, Int.toNat_natCast, ry2, List.set_comm _ _ hne]
              · repeat' (((with_reducible refine EvCall.fn 49 ?_); (with_reducible refine HC.mono (spill_c (r := r) HS (by omega) (by omega) (by omega)) ?_); rintro _ hN ⟨rfl, HS2⟩; clear HS; have HS := HS2; clear HS2) <;> conv => whnf)
                refine ⟨(k + 1, _, s + 1, _, keyOf xs r), ⟨congrArg (fun z => some (Value.int .i64 z)) ((i64w _ (by omega) (by omega)).trans (by omega)), rfl, rfl, (by (repeat' (first | exact trivial | refine ⟨rfl, ?_⟩)))⟩, ⟨by omega, ?_, he.spill (by omega) (by omega) r0, hfr2, HS.pk (by (repeat' (first | exact PK.nil | with_reducible refine PK.q (by repeat first | exact .h | apply Del.t) ?_)))⟩, by show m - (k + 1) < m - k; omega⟩
                rw [hnx, hst1, if_neg (fun hc => by have := hc.2; rw [tx, Int.toNat_natCast, tz2] at this; omega)]
        · intro N' mq v h5 hN' hg HS2
          clear HS
          have HS := HS2
          clear HS2
          obtain ⟨q, rfl, hq1, hq2, hq3⟩ := hi3.back mq v hg
          obtain ⟨z0, hz0⟩ : ∃ z, xs[q]? = some z := ⟨_, List.getElem?_eq_getElem hq1⟩
          have tz : toI xs q = z0.to := by unfold toI; rw [hz0]; rfl
          conv => whnf
          repeat' ((with_reducible first | refine EvSeq.go ?_ | refine EvIf.tt ?_ | refine EvIf.ff ?_) <;> conv => whnf)
          refine EvEnt.mp HS (by repeat first | exact .h | apply Spot.t) ?_
          conv => whnf
          repeat' ((first | ((with_reducible refine EvDraw.ord (id := 25) (.go 0 (.go 1 (.go 2 (.go 3 (.go 4 (.go 5 (.go 6 (.go 7 .done)))))))) fol ?_ ?_ ?_); kernel_rfl; kernel_rfl) | ((with_reducible refine EvIdx.el Sp.len (by decide) (by first | exact HS.spr 0 rfl | exact HS.spr 1 rfl | exact HS.spr 2 rfl | exact HS.spr 3 rfl | exact HS.spr 4 rfl | exact HS.spr 5 rfl | exact HS.spr 6 rfl | exact HS.spr 7 rfl | exact HS.spr 8 rfl | exact HS.spr 9 rfl | exact HS.spr 10 rfl | exact HS.spr 11 rfl | exact HS.spr 12 rfl | exact HS.spr 13 rfl | exact HS.spr 14 rfl | exact HS.spr 15 rfl | exact HS.spr 16 rfl | exact HS.spr 17 rfl | exact HS.spr 18 rfl | exact HS.spr 19 rfl) hxl (by omega) (by omega) ?_); intro bI oI z eI hz hI; have hzx : z0 = z := Option.some.inj (hz0.symm.trans hz); subst hzx) | ((with_reducible refine EvLd.el 1 hI rfl ?_)) | ((with_reducible refine EvIf.mk (fun c => ?_) (fun c => ?_)) <;> (try simp only [cs_] at c) <;> (try (exfalso; first | omega | (revert c; decide)))) | ((with_reducible refine EvLd.q HS (by repeat first | exact .h | apply Spot.t) ?_); (conv => whnf); intro hC)) <;> conv => whnf)
          · refine EvDel.mp HS (by repeat first | exact .h | apply Spot.t) und ?_
            intro h6 HS2
            clear HS
            have HS := HS2
            clear HS2
            conv => whnf
            repeat' (fail <;> conv => whnf)
            refine ⟨(N', _), (by (repeat' (first | exact trivial | refine ⟨rfl, ?_⟩))), ⟨hi3.del hg (by omega), fun m v hm => ?_, HS⟩, hN'⟩
            by_cases e : m = mq
            · simp [e] at hm
            · simp only [e, if_false] at hm
              exact hsub m v hm
          · refine ⟨(N', g'), (by (repeat' (first | exact trivial | refine ⟨rfl, ?_⟩))), ⟨hi3, hsub, HS.enStay (by repeat first | exact .h | apply Spot.t) ?_⟩, hN'⟩
            intro q' hq'
            have := hsub mq _ hg
            rw [this] at hq'
            cases hq'
            omega
      · obtain rfl : k = m := by omega
        repeat' ((first | (with_reducible first | refine EvSeq.go ?_ | refine EvIf.tt ?_ | refine EvIf.ff ?_) | ((with_reducible refine EvIf.mk (fun c => ?_) (fun c => ?_)) <;> (try simp only [cs_] at c) <;> (try (exfalso; first | omega | (revert c; decide))))) <;> conv => whnf)
        refine hKK2 _ _ _ ?_
        conv => whnf
        repeat' (((with_reducible refine EvLd.q HS (by repeat first | exact .h | apply Spot.t) ?_); (conv => whnf); intro hC) <;> conv => whnf)
        refine ⟨_, _, _, rfl, hn2, ?_⟩
        rw [hod, hst]
        exact HS.pk (by (repeat' (first | exact PK.nil | with_reducible refine PK.q (by repeat first | exact .h | apply Del.t) ?_)))
end Go.Proofs.YtjggmhpjlnmigaaDoor
