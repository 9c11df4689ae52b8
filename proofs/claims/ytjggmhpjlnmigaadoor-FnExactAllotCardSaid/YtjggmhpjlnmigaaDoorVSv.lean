/- Spans: what they are, and the reference's. -/
import Derived.Test.YtjggmhpjlnmigaaDoorVLvM
import Derived.Test.YtjggmhpjlnmigaaDoorVSp
namespace Go.Proofs.YtjggmhpjlnmigaaDoor
open Go.RowKit
set_option maxRecDepth 20000
set_option linter.unusedSimpArgs false
set_option linter.unusedVariables false
/-- does register r stand at step i? -/
def onR (cl : List Ii) (i r : Nat) : Prop := Lv cl i r ∨ ∃ x, cl[i]? = some x ∧ st x = r
def callAt (cl : List Ii) (i : Nat) : Prop := ∃ x, cl[i]? = some x ∧ (x.op = 9 ∨ x.op = 10)
open Classical in
/-- the first and the last place before step i -/
noncomputable def spg (cl : List Ii) (r : Nat) : Nat → Int × Int
  | 0 => (0, -1)
  | i + 1 => if onR cl i r then ((if (spg cl r i).2 < 0 then (i : Int) else (spg cl r i).1), (i : Int)) else spg cl r i
open Classical in
noncomputable def frm (f : Fu) (r : Nat) : Int := if (r : Int) < f.pa ∧ Lv f.cl 0 r then -1 else (spg f.cl r f.cl.length).1
def crs (cl : List Ii) (a b : Int) : Prop := ∃ i : Nat, a ≤ i ∧ (i : Int) < b ∧ callAt cl i
open Classical in
noncomputable def span (f : Fu) (r : Nat) : Sp := ⟨frm f r, (spg f.cl r f.cl.length).2, decide (crs f.cl (frm f r + 1) (spg f.cl r f.cl.length).2)⟩
noncomputable def spans (f : Fu) : List Sp := if fok f then (List.range f.rg.toNat).map (span f) else []
theorem spg_on {cl : List Ii} {r i : Nat} (h : onR cl i r) : spg cl r (i + 1) = ((if (spg cl r i).2 < 0 then (i : Int) else (spg cl r i).1), (i : Int)) := by
  simp only [spg, if_pos h]
theorem spg_off {cl : List Ii} {r i : Nat} (h : ¬ onR cl i r) : spg cl r (i + 1) = spg cl r i := by
  simp only [spg, if_neg h]
theorem spg_bd (cl : List Ii) (r : Nat) : ∀ i, 0 ≤ (spg cl r i).1 ∧ -1 ≤ (spg cl r i).2 ∧ (spg cl r i).2 < i ∧ (0 ≤ (spg cl r i).2 → (spg cl r i).1 ≤ (spg cl r i).2) ∧ ((spg cl r i).2 < 0 → (spg cl r i).1 = 0)
  | 0 => by simp [spg]
  | i + 1 => by
    have ih := spg_bd cl r i
    by_cases h : onR cl i r
    · rw [spg_on h]
      dsimp only
      split <;> omega
    · rw [spg_off h]
      omega
/-! ### it hangs on what the function reads as -/
theorem onR_cln {cl : List Ii} {i r : Nat} : onR (cl.map Ii.cln) i r ↔ onR cl i r := by
  unfold onR
  rw [Lv_cln]
  refine or_congr_right ⟨fun ⟨x, hx, e⟩ => ?_, fun ⟨x, hx, e⟩ => ⟨x.cln, by simp only [List.getElem?_map, hx]; rfl, e⟩⟩
  simp only [List.getElem?_map, Option.map_eq_some_iff] at hx
  obtain ⟨y, hy, rfl⟩ := hx
  exact ⟨y, hy, e⟩
theorem callAt_cln {cl : List Ii} {i : Nat} : callAt (cl.map Ii.cln) i ↔ callAt cl i := by
  unfold callAt
  refine ⟨fun ⟨x, hx, e⟩ => ?_, fun ⟨x, hx, e⟩ => ⟨x.cln, by simp only [List.getElem?_map, hx]; rfl, e⟩⟩
  simp only [List.getElem?_map, Option.map_eq_some_iff] at hx
  obtain ⟨y, hy, rfl⟩ := hx
  exact ⟨y, hy, e⟩
theorem spg_cln (cl : List Ii) (r : Nat) : ∀ i, spg (cl.map Ii.cln) r i = spg cl r i
  | 0 => rfl
  | i + 1 => by
    by_cases h : onR cl i r
    · rw [spg_on h, spg_on (onR_cln.mpr h), spg_cln cl r i]
    · rw [spg_off h, spg_off (fun h' => h (onR_cln.mp h')), spg_cln cl r i]
theorem crs_cln {cl : List Ii} {a b : Int} : crs (cl.map Ii.cln) a b ↔ crs cl a b := by
  unfold crs
  simp only [callAt_cln]
theorem spans_full (f : Fu) : spans (Fu.of f.full) = spans f := by
  unfold spans
  rw [fok_full, Fu.of_full]
  congr 1
  refine congrArg (fun g => List.map g _) (funext fun r => ?_)
  have e1 : frm { f with sh := ⟨none, 0, 0⟩, ch := ⟨none, 0, 0⟩, cl := f.cl.map Ii.cln } r = frm f r := by
    unfold frm
    classical exact ite_congr (propext (and_congr_right fun _ => Lv_cln)) (fun _ => rfl) (fun _ => by rw [List.length_map, spg_cln])
  unfold span
  rw [e1]
  simp only [List.length_map, spg_cln]
  congr 1
  exact decide_eq_decide.mpr (by rw [List.length_map, spg_cln]; exact crs_cln)
theorem crs_none {cl : List Ii} {a b : Int} (h : b ≤ a) : ¬ crs cl a b := fun ⟨i, h1, h2, _⟩ => by omega
theorem crs_step {cl : List Ii} {a : Int} {j : Nat} (h : a ≤ j) : crs cl a (j + 1) ↔ crs cl a j ∨ callAt cl j := by
  constructor
  · rintro ⟨i, h1, h2, h3⟩
    obtain h4 | h4 := Nat.lt_or_ge i j
    · exact .inl ⟨i, h1, by omega, h3⟩
    · obtain rfl : i = j := by omega
      exact .inr h3
  · rintro (⟨i, h1, h2, h3⟩ | h3)
    · exact ⟨i, h1, by omega, h3⟩
    · exact ⟨j, h, by omega, h3⟩
set_option maxHeartbeats 4000000 in
theorem sSpans_c {h : Hp} {f : Fu} (o : FuOk h f) (g : Good f) : HC Tryd.prog 40 [f.v] h fun v h' => ∃ A c, v = .slice A f.rg.toNat c ∧ Sep h h' [SpP A f.rg.toNat c ((List.range f.rg.toNat).map (span f))] := by
  have hxl := o.c.l
  have hn := o.c.b
  have hlen := g.len
  have hrg := g.rg
  have hpa := g.pa
  obtain ⟨R, hR⟩ : ∃ R : Nat, f.rg.toNat = R := ⟨_, rfl⟩
  have hR2 : f.rg = R := by omega
  rw [hR]
  refine hc_of Tryd.func40 (rfl : Tryd.f40.body = some _) Tryd.ntmps40 Tryd.results40 Tryd.call40 rfl ?_; have HS := Sep.nil h; conv => whnf
  refine EvNew.sep HS ?_
  intro bf gbf HS1 xbf
  replace HS := HS1
  clear HS1
  conv => whnf
  repeat' ((first | ((with_reducible refine EvNew.sep HS ?_); intro bN hN HS1 hX; replace HS := HS1; clear HS1) | (with_reducible refine EvLdN.q HS (by repeat first | exact .h | apply Spot.t) (fun hC => ?_))) <;> conv => whnf)
  refine EvCall.mk ((sLive_c (o.ext HS.to_ext) g).mono ?_)
  rintro _ hN ⟨A, ca, xs, rfl, xr, xi, HS1⟩
  rw [hR] at xr
  replace HS := HS.join1 HS1
  clear HS1
  have hll := (HS.rgl 0 rfl).1
  conv => whnf
  repeat' ((with_reducible first | refine EvSeq.go ?_ | refine EvIf.tt ?_ | refine EvIf.ff ?_) <;> conv => whnf)
  refine EvLoop.keep ([3, 5, 6, 7, 8, 12, 13, 14, 15, 16, 17, 18, 19, 20, 21, 22, 23, 24, 25, 26, 27, 28, 29, 30, 31, 32, 33, 34, 35, 36, 37, 38, 39, 40, 41, 42, 43, 44, 45, 46, 47, 48, 49, 50, 51, 52, 53, 54, 55, 56, 57, 58, 59, 60, 61, 62, 63, 64, 65, 66, 67, 68, 69, 70, 71, 72, 73, 74, 75, 76, 77, 78, 79, 80, 81, 82, 83, 84, 85, 86, 87, 88, 89, 90, 91, 92], 9) (α := Nat × Option Addr × Nat) (fun (k, B, d) => [(5, .int .i64 k), (3, .slice B k d)])
    (fun (k, B, d) h' => k ≤ R ∧ Sep h h' [SpP B k d ((List.range k).map (span f)), RgP Value.bool 52 4 A f.cl.length ca xs, Bx bf (fcs f) 31])
    (fun (k, _) => R - k) (0, _, 0) (by (repeat' (first | exact trivial | refine ⟨rfl, ?_⟩))) ⟨Nat.zero_le _, (HS.sp0 _).pk (PK.q .h (PK.q .h (PK.q (.t .h) .nil)))⟩ ?_
  clear HS
  rintro ⟨r, B, d⟩ h1 ⟨hr, HS⟩
  conv => whnf
  obtain hlt | hge := Nat.lt_or_ge r R
  · repeat' ((first | (with_reducible first | refine EvSeq.go ?_ | refine EvIf.tt ?_ | refine EvIf.ff ?_) | ((with_reducible refine EvIf.mk (fun c => ?_) (fun c => ?_)) <;> (try simp only [cs_] at c) <;> (try (exfalso; first | omega | (revert c; decide)))) | ((with_reducible refine EvNew.sep HS ?_); intro bN hN HS1 hX; replace HS := HS1; clear HS1) | ((with_reducible refine EvLd.q HS (by repeat first | exact .h | apply Spot.t) ?_); (conv => whnf); intro hC) | ((with_reducible refine EvSt.q HS (by repeat first | exact .h | apply Spot.t) ?_); (conv => whnf); intro hN HS1 hU; replace HS := HS1; clear HS1)) <;> conv => whnf)
    refine EvLoop.keep ([7, 19, 20, 21, 22, 23, 24, 25, 26, 27, 28, 29, 30, 31, 32, 33, 34, 35, 36, 37, 38, 39, 40, 41, 42, 43, 44, 45, 46, 47, 48, 49], 9) (α := Nat × Int × Int) (fun (i, _) => [(7, .int .i64 i)])
      (fun (i, a, b) h' => i ≤ f.cl.length ∧ spg f.cl r i = (a, b) ∧ Sep h h' [Bx bN [.int .i64 a, .int .i64 b, .bool false] 64, SpP B r d ((List.range r).map (span f)), RgP Value.bool 52 4 A f.cl.length ca xs, Bx bf (fcs f) 31])
      (fun (i, _) => f.cl.length - i) (0, 0, -1) (by (repeat' (first | exact trivial | refine ⟨rfl, ?_⟩))) ⟨Nat.zero_le _, rfl, HS⟩ ?_
    clear HS
    rintro ⟨i, a, b⟩ h2 ⟨hi, hab, HS⟩
    conv => whnf
    obtain hilt | hige := Nat.lt_or_ge i f.cl.length
    · obtain ⟨x, hxi⟩ : ∃ x, f.cl[i]? = some x := ⟨_, List.getElem?_eq_getElem (by omega)⟩
      obtain ⟨y, hyi⟩ : ∃ y, xs[i]? = some y := ⟨_, List.getElem?_eq_getElem (by omega)⟩
      have hyw := xr.at_ hyi
      have hyr := HS.rgx 2 rfl hyi
      have hyn := hyr.2
      obtain ⟨bi, hbi⟩ : ∃ bi, y.l[r]? = some bi := ⟨_, List.getElem?_eq_getElem (by omega)⟩
      have hbv : (y.l.map Value.bool)[((r : Int)).toNat]? = some (.bool bi) := by simp [hbi]
      have hon : onR f.cl i r ↔ bi = true ∨ st x = r := by
        unfold onR
        refine or_congr ⟨fun hl => ?_, fun hl => ?_⟩ ⟨fun ⟨x', hx', e⟩ => ?_, fun e => ⟨x, hxi, e⟩⟩
        · obtain ⟨y', hy', ht⟩ := (xi i r).mpr ⟨hilt, hl⟩
          rw [hyi] at hy'
          cases hy'
          rw [hbi] at ht
          exact Option.some.inj ht
        · exact ((xi i r).mp ⟨y, hyi, by rw [hbi, hl]⟩).2
        · rw [hxi] at hx'
          cases hx'
          exact e
      have hsb := spg_bd f.cl r i
      rw [hab] at hsb
      dsimp only at hsb
      cases bi with
      | true =>
        repeat' ((first | ((with_reducible refine EvIdx.rd (HS.rgr 2 rfl) (by simpa [rhds] using hll) (by omega) (by omega) ?_); intro bI oI eI hI) | ((with_reducible refine EvLd.rowv (by assumption) (rhds_at hyi) ?_)) | ((with_reducible refine EvIdx.rd hyr.1 (by simpa using hyn) (by omega) (by omega) ?_); intro bI oI eI hI) | ((with_reducible refine EvLd.rowv (by assumption) hbv ?_)) | (with_reducible first | refine EvSeq.go ?_ | refine EvIf.tt ?_ | refine EvIf.ff ?_) | ((with_reducible refine EvIf.mk (fun c => ?_) (fun c => ?_)) <;> (try simp only [cs_] at c) <;> (try (exfalso; first | omega | (revert c; decide)))) | ((with_reducible refine EvLd.q HS (by repeat first | exact .h | apply Spot.t) ?_); (conv => whnf); intro hC) | ((with_reducible refine EvSt.q HS (by repeat first | exact .h | apply Spot.t) ?_); (conv => whnf); intro hN HS1 hU; replace HS := HS1; clear HS1)) <;> conv => whnf)
        · refine ⟨(i + 1, i, i), ⟨congrArg (fun z => some (Value.int .i64 z)) ((i64w _ (by omega) (by omega)).trans (by omega)), (by (repeat' (first | exact trivial | refine ⟨rfl, ?_⟩)))⟩, ⟨by omega, ?_, HS⟩, by show _ - (i + 1) < _ - i; omega⟩
          rw [spg_on (hon.mpr (.inl rfl)), hab]
          exact congrArg (fun z => (z, (i : Int))) (if_pos c)
        · refine ⟨(i + 1, a, i), ⟨congrArg (fun z => some (Value.int .i64 z)) ((i64w _ (by omega) (by omega)).trans (by omega)), (by (repeat' (first | exact trivial | refine ⟨rfl, ?_⟩)))⟩, ⟨by omega, ?_, HS⟩, by show _ - (i + 1) < _ - i; omega⟩
          rw [spg_on (hon.mpr (.inl rfl)), hab]
          exact congrArg (fun z => (z, (i : Int))) (if_neg (by show ¬ b < 0; omega))
      | false =>
        repeat' ((first | ((with_reducible refine EvIdx.el Ii.len (by decide) (o.c.r.ext HS.to_ext) hxl (by omega) (by omega) ?_); intro bI oI z eI hz hI; have hzx : x = z := Option.some.inj (hxi.symm.trans hz); subst hzx) | ((with_reducible refine EvLdN.el hI (Ii.len _) ?_)) | ((with_reducible refine EvIdx.rd (HS.rgr 2 rfl) (by simpa [rhds] using hll) (by omega) (by omega) ?_); intro bI oI eI hI) | ((with_reducible refine EvLd.rowv (by assumption) (rhds_at hyi) ?_)) | ((with_reducible refine EvIdx.rd hyr.1 (by simpa using hyn) (by omega) (by omega) ?_); intro bI oI eI hI) | ((with_reducible refine EvLd.rowv (by assumption) hbv ?_)) | ((with_reducible refine EvCall.fn 59 ?_); (with_reducible refine HC.mono (sets_c (g.op hxi) _) ?_); rintro _ hN ⟨rfl, hX⟩; replace HS := HS.ext hX) | (with_reducible first | refine EvSeq.go ?_ | refine EvIf.tt ?_ | refine EvIf.ff ?_) | ((with_reducible refine EvIf.mk (fun c => ?_) (fun c => ?_)) <;> (try simp only [cs_] at c) <;> (try (exfalso; first | omega | (revert c; decide)))) | ((with_reducible refine EvLd.q HS (by repeat first | exact .h | apply Spot.t) ?_); (conv => whnf); intro hC) | ((with_reducible refine EvSt.q HS (by repeat first | exact .h | apply Spot.t) ?_); (conv => whnf); intro hN HS1 hU; replace HS := HS1; clear HS1)) <;> conv => whnf)
        · refine ⟨(i + 1, i, i), ⟨congrArg (fun z => some (Value.int .i64 z)) ((i64w _ (by omega) (by omega)).trans (by omega)), (by (repeat' (first | exact trivial | refine ⟨rfl, ?_⟩)))⟩, ⟨by omega, ?_, HS⟩, by show _ - (i + 1) < _ - i; omega⟩
          rw [spg_on (hon.mpr (.inr (by assumption))), hab]
          exact congrArg (fun z => (z, (i : Int))) (if_pos c)
        · refine ⟨(i + 1, a, i), ⟨congrArg (fun z => some (Value.int .i64 z)) ((i64w _ (by omega) (by omega)).trans (by omega)), (by (repeat' (first | exact trivial | refine ⟨rfl, ?_⟩)))⟩, ⟨by omega, ?_, HS⟩, by show _ - (i + 1) < _ - i; omega⟩
          rw [spg_on (hon.mpr (.inr (by assumption))), hab]
          exact congrArg (fun z => (z, (i : Int))) (if_neg (by show ¬ b < 0; omega))
        · refine ⟨(i + 1, a, b), ⟨congrArg (fun z => some (Value.int .i64 z)) ((i64w _ (by omega) (by omega)).trans (by omega)), (by (repeat' (first | exact trivial | refine ⟨rfl, ?_⟩)))⟩, ⟨by omega, ?_, HS⟩, by show _ - (i + 1) < _ - i; omega⟩
          rw [spg_off (fun h => (hon.mp h).elim (by decide) c), hab]
    · obtain rfl : i = f.cl.length := by omega
      have hsb := spg_bd f.cl r f.cl.length
      rw [hab] at hsb
      dsimp only at hsb
      obtain ⟨y, hy0⟩ : ∃ y, xs[0]? = some y := ⟨_, List.getElem?_eq_getElem (by omega)⟩
      have hyw := xr.at_ hy0
      have hyr := HS.rgx 2 rfl hy0
      have hyn := hyr.2
      obtain ⟨bi, hbi⟩ : ∃ bi, y.l[r]? = some bi := ⟨_, List.getElem?_eq_getElem (by omega)⟩
      have hbv : (y.l.map Value.bool)[((r : Int)).toNat]? = some (.bool bi) := by simp [hbi]
      have hlv : Lv f.cl 0 r ↔ bi = true := by
        refine ⟨fun hl => ?_, fun hl => ?_⟩
        · obtain ⟨y', hy', ht⟩ := (xi 0 r).mpr ⟨by omega, hl⟩
          rw [hy0] at hy'
          cases hy'
          rw [hbi] at ht
          exact Option.some.inj ht
        · exact ((xi 0 r).mp ⟨y, hy0, by rw [hbi, hl]⟩).2
      obtain ⟨fr, hfr⟩ : ∃ fr, frm f r = fr := ⟨_, rfl⟩
      have hfb : -1 ≤ fr ∧ fr ≤ 8000 := by
        rw [← hfr]
        unfold frm
        rw [hab]
        split <;> (try dsimp only) <;> omega
      repeat' (fail <;> conv => whnf)
      refine EvSeq.go ?_
      conv => whnf
      repeat' ((first | ((with_reducible refine EvIf.mk (fun c => ?_) (fun c => ?_)) <;> (try simp only [cs_] at c) <;> (try (exfalso; first | omega | (revert c; decide)))) | ((with_reducible refine EvLd.q HS (by repeat first | exact .h | apply Spot.t) ?_); (conv => whnf); intro hC)) <;> conv => whnf)
      refine EvSeq.keepcut ([], 9) (α := Unit) (fun _ => []) (fun _ h' => Sep h h' [Bx bN [.int .i64 fr, .int .i64 b, .bool false] 64, SpP B r d ((List.range r).map (span f)), RgP Value.bool 52 4 A f.cl.length ca xs, Bx bf (fcs f) 31]) ?_ ?_
      · conv => whnf
        have hrow : (rhds xs)[Int.toNat 0]? = some y.h.v := rhds_at hy0
        cases bi with
        | true =>
          repeat' ((first | ((with_reducible refine EvIdx.rd (HS.rgr 2 rfl) (by simpa [rhds] using hll) (by omega) (by omega) ?_); intro bI oI eI hI) | ((with_reducible refine EvLd.rowv (by assumption) hrow ?_)) | ((with_reducible refine EvIdx.rd hyr.1 (by simpa using hyn) (by omega) (by omega) ?_); intro bI oI eI hI) | ((with_reducible refine EvLd.rowv (by assumption) hbv ?_)) | (with_reducible first | refine EvSeq.go ?_ | refine EvIf.tt ?_ | refine EvIf.ff ?_) | ((with_reducible refine EvIf.mk (fun c => ?_) (fun c => ?_)) <;> (try simp only [cs_] at c) <;> (try (exfalso; first | omega | (revert c; decide)))) | ((with_reducible refine EvLd.q HS (by repeat first | exact .h | apply Spot.t) ?_); (conv => whnf); intro hC) | ((with_reducible refine EvSt.q HS (by repeat first | exact .h | apply Spot.t) ?_); (conv => whnf); intro hN HS1 hU; replace HS := HS1; clear HS1)) <;> conv => whnf)
          · refine ⟨(), (by (repeat' (first | exact trivial | refine ⟨rfl, ?_⟩))), ?_⟩
            have e : -1 = fr := by
              rw [← hfr]
              unfold frm
              rw [if_pos ⟨c, hlv.mpr rfl⟩]
            rw [← e]
            exact HS
          · refine ⟨(), (by (repeat' (first | exact trivial | refine ⟨rfl, ?_⟩))), ?_⟩
            have e : a = fr := by
              rw [← hfr]
              unfold frm
              rw [hab, if_neg (fun hh => by omega)]
            rw [← e]
            exact HS
        | false =>
          repeat' ((first | ((with_reducible refine EvIdx.rd (HS.rgr 2 rfl) (by simpa [rhds] using hll) (by omega) (by omega) ?_); intro bI oI eI hI) | ((with_reducible refine EvLd.rowv (by assumption) hrow ?_)) | ((with_reducible refine EvIdx.rd hyr.1 (by simpa using hyn) (by omega) (by omega) ?_); intro bI oI eI hI) | ((with_reducible refine EvLd.rowv (by assumption) hbv ?_)) | (with_reducible first | refine EvSeq.go ?_ | refine EvIf.tt ?_ | refine EvIf.ff ?_) | ((with_reducible refine EvIf.mk (fun c => ?_) (fun c => ?_)) <;> (try simp only [cs_] at c) <;> (try (exfalso; first | omega | (revert c; decide)))) | ((with_reducible refine EvLd.q HS (by repeat first | exact .h | apply Spot.t) ?_); (conv => whnf); intro hC)) <;> conv => whnf)
          · refine ⟨(), (by (repeat' (first | exact trivial | refine ⟨rfl, ?_⟩))), ?_⟩
            have e : a = fr := by
              rw [← hfr]
              unfold frm
              rw [hab, if_neg (fun hh => by have := hlv.mp hh.2; cases this)]
            rw [← e]
            exact HS
          · refine ⟨(), (by (repeat' (first | exact trivial | refine ⟨rfl, ?_⟩))), ?_⟩
            have e : a = fr := by
              rw [← hfr]
              unfold frm
              rw [hab, if_neg (fun hh => by omega)]
            rw [← e]
            exact HS
      · clear HS hyr
        rintro _ h3 HS
        conv => whnf
        repeat' ((first | (with_reducible first | refine EvSeq.go ?_ | refine EvIf.tt ?_ | refine EvIf.ff ?_) | ((with_reducible refine EvLd.q HS (by repeat first | exact .h | apply Spot.t) ?_); (conv => whnf); intro hC)) <;> conv => whnf)
        refine EvLoop.keep ([8, 66, 67, 68, 69, 70, 71, 72, 73, 74, 75, 76, 77, 78, 79, 80, 81, 82, 83, 84, 85, 86, 87, 88], 9) (α := Int × Bool) (fun (j, _) => [(8, .int .i64 j)])
          (fun (j, xb) h' => fr + 1 ≤ j ∧ (j = fr + 1 ∨ j ≤ b) ∧ (xb = true ↔ crs f.cl (fr + 1) j) ∧ Sep h h' [Bx bN [.int .i64 fr, .int .i64 b, .bool xb] 64, SpP B r d ((List.range r).map (span f)), RgP Value.bool 52 4 A f.cl.length ca xs, Bx bf (fcs f) 31])
          (fun (j, _) => (b - j).toNat) (fr + 1, false) ⟨congrArg (fun z => some (Value.int .i64 z)) (i64w _ (by omega) (by omega)), (by (repeat' (first | exact trivial | refine ⟨rfl, ?_⟩)))⟩ ⟨Int.le_refl _, .inl rfl, ⟨(fun e => by cases e), (fun e => absurd e (crs_none (Int.le_refl _)))⟩, HS⟩ ?_
        clear HS
        rintro ⟨j, xb⟩ h4 ⟨hj, hj2, hx, HS⟩
        conv => whnf
        obtain hlt2 | hge2 := Int.lt_or_le j b
        · obtain ⟨n, rfl⟩ : ∃ n : Nat, j = n := ⟨j.toNat, by omega⟩
          obtain ⟨z0, hz0⟩ : ∃ z0, f.cl[n]? = some z0 := ⟨_, List.getElem?_eq_getElem (by omega)⟩
          repeat' ((first | ((with_reducible refine EvIdx.el Ii.len (by decide) (o.c.r.ext HS.to_ext) hxl (by omega) (by omega) ?_); intro bI oI z eI hz hI; have hzx : z0 = z := Option.some.inj (hz0.symm.trans hz); subst hzx) | ((with_reducible refine EvLd.el0 hI rfl ?_)) | (with_reducible first | refine EvSeq.go ?_ | refine EvIf.tt ?_ | refine EvIf.ff ?_) | ((with_reducible refine EvIf.mk (fun c => ?_) (fun c => ?_)) <;> (try simp only [cs_] at c) <;> (try (exfalso; first | omega | (revert c; decide)))) | ((with_reducible refine EvLd.q HS (by repeat first | exact .h | apply Spot.t) ?_); (conv => whnf); intro hC) | ((with_reducible refine EvSt.q HS (by repeat first | exact .h | apply Spot.t) ?_); (conv => whnf); intro hN HS1 hU; replace HS := HS1; clear HS1)) <;> conv => whnf)
          · refine ⟨((n : Int) + 1, true), ⟨congrArg (fun z => some (Value.int .i64 z)) (i64w _ (by omega) (by omega)), (by (repeat' (first | exact trivial | refine ⟨rfl, ?_⟩)))⟩, ⟨by omega, .inr (by omega), ⟨fun _ => (crs_step hj).mpr (.inr ⟨z0, hz0, .inl c⟩), fun _ => rfl⟩, HS⟩, by show (b - ((n : Int) + 1)).toNat < (b - (n : Int)).toNat; omega⟩
          · refine ⟨((n : Int) + 1, true), ⟨congrArg (fun z => some (Value.int .i64 z)) (i64w _ (by omega) (by omega)), (by (repeat' (first | exact trivial | refine ⟨rfl, ?_⟩)))⟩, ⟨by omega, .inr (by omega), ⟨fun _ => (crs_step hj).mpr (.inr ⟨z0, hz0, .inr c⟩), fun _ => rfl⟩, HS⟩, by show (b - ((n : Int) + 1)).toNat < (b - (n : Int)).toNat; omega⟩
          · refine ⟨((n : Int) + 1, xb), ⟨congrArg (fun z => some (Value.int .i64 z)) (i64w _ (by omega) (by omega)), (by (repeat' (first | exact trivial | refine ⟨rfl, ?_⟩)))⟩, ⟨by omega, .inr (by omega), hx.trans ⟨fun h => (crs_step hj).mpr (.inl h), fun h => ((crs_step hj).mp h).elim id (fun ⟨z', h1, h2⟩ => by rw [hz0] at h1; cases h1; rcases h2 with h2 | h2 <;> contradiction)⟩, HS⟩, by show (b - ((n : Int) + 1)).toNat < (b - (n : Int)).toNat; omega⟩
        · repeat' ((first | (with_reducible first | refine EvSeq.go ?_ | refine EvIf.tt ?_ | refine EvIf.ff ?_) | ((with_reducible refine EvIf.mk (fun c => ?_) (fun c => ?_)) <;> (try simp only [cs_] at c) <;> (try (exfalso; first | omega | (revert c; decide)))) | ((with_reducible refine EvNew.sep HS ?_); intro bN hN HS1 hX; replace HS := HS1; clear HS1) | ((with_reducible refine EvLd.q HS (by repeat first | exact .h | apply Spot.t) ?_); (conv => whnf); intro hC) | (with_reducible refine EvLdN.q HS (by repeat first | exact .h | apply Spot.t) (fun hC => ?_))) <;> conv => whnf)
          have hiff : xb = true ↔ crs f.cl (fr + 1) b := by
            rcases hj2 with e | e
            · subst e
              exact ⟨fun e => absurd (hx.mp e) (crs_none (Int.le_refl _)), fun e => absurd e (crs_none hge2)⟩
            · obtain rfl : j = b := by omega
              exact hx
          have hsp : (⟨fr, b, xb⟩ : Sp) = span f r := by
            unfold span
            rw [hfr, hab]
            congr 1
            refine Bool.eq_iff_iff.mpr (hiff.trans ?_)
            simp only [decide_eq_true_eq]
          refine EvApp.sp (x := ⟨fr, b, xb⟩) HS 2 rfl (Rd.of_blk (HS.pt_i 0 rfl)) (by omega) (by omega) ?_
          intro B2 d2 h6 zs hz HS2
          clear HS
          have HS := HS2
          clear HS2
          dsimp only [List.eraseIdx] at HS
          conv => whnf
          repeat' (fail <;> conv => whnf)
          refine ⟨(r + 1, B2, d2), ⟨congrArg (fun z => some (Value.int .i64 z)) ((i64w _ (by omega) (by omega)).trans (by omega)), rfl, (by (repeat' (first | exact trivial | refine ⟨rfl, ?_⟩)))⟩, ⟨by omega, ?_⟩, by show R - (r + 1) < R - r; omega⟩
          have e : (List.range (r + 1)).map (span f) = zs := by
            rw [← hz, List.range_succ, List.map_append]
            rw [hsp]
            rfl
          rw [e]
          exact HS.pk (by (repeat' (first | exact PK.nil | with_reducible refine PK.q (by repeat first | exact .h | apply Del.t) ?_)))
  · repeat' ((first | (with_reducible first | refine EvSeq.go ?_ | refine EvIf.tt ?_ | refine EvIf.ff ?_) | ((with_reducible refine EvIf.mk (fun c => ?_) (fun c => ?_)) <;> (try simp only [cs_] at c) <;> (try (exfalso; first | omega | (revert c; decide)))) | ((with_reducible refine EvLd.q HS (by repeat first | exact .h | apply Spot.t) ?_); (conv => whnf); intro hC)) <;> conv => whnf)
    obtain rfl : r = R := by omega
    exact ⟨_, _, rfl, HS.take [_]⟩
theorem sSp_c {h : Hp} {f : Fu} (o : FuOk h f) : HC Tryd.prog 15 [f.v] h fun v h' => ∃ A n c, v = .slice A n c ∧ n ≤ 2000 ∧ Sep h h' [SpP A n c (spans f)] := by
  refine hc_of Tryd.func15 (rfl : Tryd.f15.body = some _) Tryd.ntmps15 Tryd.results15 Tryd.call15 rfl ?_; have HS := Sep.nil h; conv => whnf
  refine EvNew.sep HS ?_
  intro bf gbf HS1 xbf
  replace HS := HS1
  clear HS1
  conv => whnf
  repeat' ((first | ((with_reducible refine EvCall.mk (HC.mono (sFok_c (o.ext HS.to_ext)) ?_)); (rintro _ hN ⟨rfl, hX⟩); replace HS := HS.ext hX) | (with_reducible first | refine EvSeq.go ?_ | refine EvIf.tt ?_ | refine EvIf.ff ?_) | ((with_reducible refine EvIf.mk (fun c => ?_) (fun c => ?_)) <;> (try simp only [cs_] at c) <;> (try (exfalso; first | omega | (revert c; decide)))) | ((with_reducible refine EvNew.sep HS ?_); intro bN hN HS1 hX; replace HS := HS1; clear HS1) | (with_reducible refine EvLdN.q HS (by repeat first | exact .h | apply Spot.t) (fun hC => ?_))) <;> conv => whnf)
  · refine ⟨_, 0, 0, rfl, by omega, ?_⟩
    have e : spans f = [] := by
      unfold spans
      rw [c]
      rfl
    rw [e]
    exact (HS.sp0 _).take [_]
  · have g := good_of c
    have hrg := g.rg
    refine EvCall.mk ((sSpans_c (o.ext HS.to_ext) g).mono ?_)
    rintro _ h1 ⟨A, d, rfl, HS1⟩
    replace HS := HS.join1 HS1
    clear HS1
    conv => whnf
    repeat' (fail <;> conv => whnf)
    refine ⟨A, _, d, rfl, by omega, ?_⟩
    have e : spans f = (List.range f.rg.toNat).map (span f) := by
      unfold spans
      rw [c]
      rfl
    rw [e]
    exact HS.take [_]
end Go.Proofs.YtjggmhpjlnmigaaDoor
