/- Live registers: the reference's answer. -/
import Derived.Test.YtjggmhpjlnmigaaDoorVLvT
import Derived.Test.YtjggmhpjlnmigaaDoorVLive0
namespace Go.Proofs.YtjggmhpjlnmigaaDoor
open Go.RowKit
set_option maxRecDepth 20000
set_option linter.unusedSimpArgs false
set_option linter.unusedVariables false
theorem mkd_marked {R : Nat} {l : List Bool} {p : Int → Prop} (hl : l.length = R) (h : ∀ r : Nat, l[r]? = some true ↔ p r) (hp : ∀ r : Nat, p r → r < R) : mkd (fun i => l[i]? == some true) R = marked p R := by
  unfold mkd marked
  rw [List.filter_map]
  congr 1
  refine List.filter_congr (fun r hr => ?_)
  simp only [Function.comp]
  by_cases e : l[r]? = some true
  · rw [e]
    have := (h r).mp e
    simp [this]
  · have : ¬ p r := fun hh => e ((h r).mpr hh)
    simp only [beq_iff_eq, Int.ofNat_eq_natCast, this, decide_false]
    simpa using e
/-- rows of registers, as the law's own rows -/
def Rg.w (x : Rg Int) : Rw := ⟨x.h, x.l⟩
theorem Sep.to_rr {h0 h : Hp} {L : List Asn} {A : Option Addr} {n c : Nat} {xs : List (Rg Int)} (s : Sep h0 h (RgP (Value.int .i64) 22 3 A n c xs :: L)) : Sep h0 h (RrP A n c (xs.map Rg.w) :: L) := by
  have e : RrP A n c (xs.map Rg.w) = RgP (Value.int .i64) 22 3 A n c xs := by
    unfold RrP RgP RrL RgL hds rhds
    simp only [List.map_map]
    rfl
  rw [e]
  exact s
theorem marked_len (p : Int → Prop) (n : Nat) : (marked p n).length ≤ n := by
  unfold marked
  refine Nat.le_trans (List.length_filter_le _ _) ?_
  simp
set_option maxHeartbeats 2000000 in
theorem sLb_c {h : Hp} {f : Fu} (o : FuOk h f) : HC Tryd.prog 7 [f.v] h fun v h' => ∃ A n c xs, v = .slice A n c ∧ xs.map Rw.l = lvf f ∧ n ≤ 8000 ∧ (∀ x ∈ xs, x.l.length = x.h.n ∧ x.h.n ≤ 2000) ∧ Sep h h' [RrP A n c xs] := by
  refine hc_of Tryd.func7 (rfl : Tryd.f7.body = some _) Tryd.ntmps7 Tryd.results7 Tryd.call7 rfl ?_; have HS := Sep.nil h; conv => whnf
  refine EvNew.sep HS ?_
  intro bf gbf HS1 xbf
  replace HS := HS1
  clear HS1
  conv => whnf
  repeat' ((first | ((with_reducible refine EvCall.mk (HC.mono (sFok_c (o.ext HS.to_ext)) ?_)); (rintro _ hN ⟨rfl, hX⟩); replace HS := HS.ext hX) | (with_reducible first | refine EvSeq.go ?_ | refine EvIf.tt ?_ | refine EvIf.ff ?_) | ((with_reducible refine Hole.mk (kK ?_)); clear kK) | ((with_reducible refine EvIf.mk (fun c => ?_) (fun c => ?_)) <;> (try simp only [cs_] at c) <;> (try (exfalso; first | omega | (revert c; decide)))) | ((with_reducible refine EvNew.sep HS ?_); intro bN hN HS1 hX; replace HS := HS1; clear HS1) | ((with_reducible refine EvIdx.lit ?_ ?_ ?_); (first | omega | decide); (first | omega | decide)) | ((with_reducible first | refine EvNe.mk ?_ ?_ | refine EvGe.mk ?_ ?_); (first | decide | omega)) | ((with_reducible refine EvLd.q HS (by repeat first | exact .h | apply Spot.t) ?_); (conv => whnf); intro hC) | (with_reducible refine EvLdN.q HS (by repeat first | exact .h | apply Spot.t) (fun hC => ?_)) | ((with_reducible refine EvSt.q HS (by repeat first | exact .h | apply Spot.t) ?_); (conv => whnf); intro hN HS1 hU; replace HS := HS1; clear HS1) | ((with_reducible refine EvKeep.cq (A := keepK _ _ (Hole _) _) HS (by repeat first | exact .h | apply Spot.t) ?_); (conv => whnf); (refine ⟨?_, ?_⟩); assumption; intro hC) | ((with_reducible refine EvKeep.nq (A := keepK _ _ (Hole _) _) HS (by repeat first | exact .h | apply Spot.t) ?_ ?_); assumption; intro hC) | ((fail_if_success with_reducible refine EvKeep.hole ?_); (with_reducible refine EvKeep.abs (fun X kK => ?_)))) <;> conv => whnf)
  · have HS2 := ((HS.row (vs := []) (rest := []) (n := 0) (c := 0) rfl rfl).rg0 (enc := Value.int .i64) (T := 3)).to_rr
    refine ⟨_, 0, 0, [], rfl, ?_, by omega, (fun x hx => by cases hx), HS2.take [_]⟩
    unfold lvf
    rw [c]
    rfl
  · have g := good_of c
    have hlen := g.len
    have hrg := g.rg
    have e0 : lvf f = (List.range f.cl.length).map (fun i => marked (fun r => Lv f.cl i r) f.rg.toNat) := by
      unfold lvf
      rw [c]
      rfl
    refine EvCall.mk ((sLive_c (o.ext HS.to_ext) g).mono ?_)
    rintro _ hN ⟨A, ca, xs, rfl, xr, xi, HS1⟩
    replace HS := HS.join1 HS1
    clear HS1
    have hxl := (HS.rgl 0 rfl).1
    conv => whnf
    repeat' ((first | (with_reducible first | refine EvSeq.go ?_ | refine EvIf.tt ?_ | refine EvIf.ff ?_) | ((with_reducible refine Hole.mk (kK ?_)); clear kK) | ((with_reducible refine EvIf.mk (fun c => ?_) (fun c => ?_)) <;> (try simp only [cs_] at c) <;> (try (exfalso; first | omega | (revert c; decide)))) | ((with_reducible refine EvNew.sep HS ?_); intro bN hN HS1 hX; replace HS := HS1; clear HS1) | ((with_reducible refine EvIdx.lit ?_ ?_ ?_); (first | omega | decide); (first | omega | decide)) | ((with_reducible first | refine EvNe.mk ?_ ?_ | refine EvGe.mk ?_ ?_); (first | decide | omega)) | ((with_reducible refine EvLd.q HS (by repeat first | exact .h | apply Spot.t) ?_); (conv => whnf); intro hC) | (with_reducible refine EvLdN.q HS (by repeat first | exact .h | apply Spot.t) (fun hC => ?_)) | ((with_reducible refine EvSt.q HS (by repeat first | exact .h | apply Spot.t) ?_); (conv => whnf); intro hN HS1 hU; replace HS := HS1; clear HS1) | ((with_reducible refine EvKeep.cq (A := keepK _ _ (Hole _) _) HS (by repeat first | exact .h | apply Spot.t) ?_); (conv => whnf); (refine ⟨?_, ?_⟩); assumption; intro hC) | ((with_reducible refine EvKeep.nq (A := keepK _ _ (Hole _) _) HS (by repeat first | exact .h | apply Spot.t) ?_ ?_); assumption; intro hC) | ((fail_if_success with_reducible refine EvKeep.hole ?_); (with_reducible refine EvKeep.abs (fun X kK => ?_)))) <;> conv => whnf)
    have HS0 := ((HS.front 1 rfl).row (vs := []) (rest := []) (n := 0) (c := 0) rfl rfl).rg0 (enc := Value.int .i64) (T := 3)
    clear HS
    dsimp only [List.eraseIdx] at HS0
    refine EvLoop.keep ([3, 5, 13, 14, 15, 16, 17, 18, 19, 20, 21, 22, 23, 24, 25, 26], 6) (α := Nat × Option Addr × Nat × List (Rg Int)) (fun (k, B, d, _) => [(5, .int .i64 k), (3, .slice B k d)])
      (fun (k, B, d, ys) h' => k ≤ f.cl.length ∧ ys.map Rg.l = (List.range k).map (fun i => marked (fun r => Lv f.cl i r) f.rg.toNat) ∧ (∀ y ∈ ys, y.l.length = y.h.n ∧ y.h.n ≤ 2000) ∧ Sep h h' [RgP (Value.int .i64) 22 3 B k d ys, RgP Value.bool 52 4 A f.cl.length ca xs])
      (fun (k, _) => f.cl.length - k) (0, _, 0, []) (by (repeat' (first | exact trivial | refine ⟨rfl, ?_⟩))) ⟨Nat.zero_le _, rfl, (fun y hy => by cases hy), HS0.take [_, _]⟩ ?_
    clear HS0
    rintro ⟨k, B, d, ys⟩ h1 ⟨hk, hys, hyb, HS⟩
    conv => whnf
    obtain hlt | hge := Nat.lt_or_ge k f.cl.length
    · obtain ⟨x, hxk⟩ : ∃ x, xs[k]? = some x := ⟨_, List.getElem?_eq_getElem (by omega)⟩
      have hxr := HS.rgx 1 rfl hxk
      have hxw := xr.at_ hxk
      have hxn := hxr.2
      have hyl := (HS.rgl 0 rfl).1
      repeat' ((first | ((with_reducible refine EvIdx.rd (HS.rgr 1 rfl) (by simpa [rhds] using hxl) (by omega) (by omega) ?_); intro bI oI eI hI) | ((with_reducible refine EvLd.rowv (by assumption) (rhds_at hxk) ?_)) | (with_reducible first | refine EvSeq.go ?_ | refine EvIf.tt ?_ | refine EvIf.ff ?_) | ((with_reducible refine Hole.mk (kK ?_)); clear kK) | ((with_reducible refine EvIf.mk (fun c => ?_) (fun c => ?_)) <;> (try simp only [cs_] at c) <;> (try (exfalso; first | omega | (revert c; decide)))) | ((with_reducible refine EvNew.sep HS ?_); intro bN hN HS1 hX; replace HS := HS1; clear HS1) | ((with_reducible refine EvIdx.lit ?_ ?_ ?_); (first | omega | decide); (first | omega | decide)) | ((with_reducible first | refine EvNe.mk ?_ ?_ | refine EvGe.mk ?_ ?_); (first | decide | omega)) | ((with_reducible refine EvLd.q HS (by repeat first | exact .h | apply Spot.t) ?_); (conv => whnf); intro hC) | (with_reducible refine EvLdN.q HS (by repeat first | exact .h | apply Spot.t) (fun hC => ?_)) | ((with_reducible refine EvSt.q HS (by repeat first | exact .h | apply Spot.t) ?_); (conv => whnf); intro hN HS1 hU; replace HS := HS1; clear HS1) | ((with_reducible refine EvKeep.cq (A := keepK _ _ (Hole _) _) HS (by repeat first | exact .h | apply Spot.t) ?_); (conv => whnf); (refine ⟨?_, ?_⟩); assumption; intro hC) | ((with_reducible refine EvKeep.nq (A := keepK _ _ (Hole _) _) HS (by repeat first | exact .h | apply Spot.t) ?_ ?_); assumption; intro hC) | ((fail_if_success with_reducible refine EvKeep.hole ?_); (with_reducible refine EvKeep.abs (fun X kK => ?_)))) <;> conv => whnf)
      refine EvCall.mk ((smarked_c hxr.1 hxr.2 (by omega)).mono ?_)
      rintro _ h2 ⟨M, m, cm, rfl, hm, HS1⟩
      replace HS := HS.join1 HS1
      clear HS1
      have hml := (HS.len 0 rfl).1
      have em : mkd (fun i => x.l[i]? == some true) x.h.n = marked (fun r => Lv f.cl k r) f.rg.toNat := by
        rw [← hxn, hxw]
        refine mkd_marked hxw (fun r => ?_) (fun r hr => by have := hr.bd g; omega)
        constructor
        · exact fun e => ((xi k r).mp ⟨x, hxk, e⟩).2
        · intro e
          obtain ⟨y, hy, hyr⟩ := (xi k r).mpr ⟨hlt, e⟩
          rw [hxk] at hy
          cases hy
          exact hyr
      rw [em] at HS hml
      conv => whnf
      repeat' ((first | (with_reducible first | refine EvSeq.go ?_ | refine EvIf.tt ?_ | refine EvIf.ff ?_) | ((with_reducible refine Hole.mk (kK ?_)); clear kK) | ((with_reducible refine EvIf.mk (fun c => ?_) (fun c => ?_)) <;> (try simp only [cs_] at c) <;> (try (exfalso; first | omega | (revert c; decide)))) | ((with_reducible refine EvNew.sep HS ?_); intro bN hN HS1 hX; replace HS := HS1; clear HS1) | ((with_reducible refine EvIdx.lit ?_ ?_ ?_); (first | omega | decide); (first | omega | decide)) | ((with_reducible first | refine EvNe.mk ?_ ?_ | refine EvGe.mk ?_ ?_); (first | decide | omega)) | ((with_reducible refine EvLd.q HS (by repeat first | exact .h | apply Spot.t) ?_); (conv => whnf); intro hC) | (with_reducible refine EvLdN.q HS (by repeat first | exact .h | apply Spot.t) (fun hC => ?_)) | ((with_reducible refine EvSt.q HS (by repeat first | exact .h | apply Spot.t) ?_); (conv => whnf); intro hN HS1 hU; replace HS := HS1; clear HS1) | ((with_reducible refine EvKeep.cq (A := keepK _ _ (Hole _) _) HS (by repeat first | exact .h | apply Spot.t) ?_); (conv => whnf); (refine ⟨?_, ?_⟩); assumption; intro hC) | ((with_reducible refine EvKeep.nq (A := keepK _ _ (Hole _) _) HS (by repeat first | exact .h | apply Spot.t) ?_ ?_); assumption; intro hC) | ((fail_if_success with_reducible refine EvKeep.hole ?_); (with_reducible refine EvKeep.abs (fun X kK => ?_)))) <;> conv => whnf)
      refine EvApp.rg (x := ⟨⟨M, m, cm⟩, marked (fun r => Lv f.cl k r) f.rg.toNat⟩) HS 2 rfl 1 rfl (Rd.of_blk (HS.pt_i 0 rfl)) (by omega) (by omega) ?_
      intro B2 d2 h4 zs hz HS2
      clear HS
      have HS := HS2
      clear HS2
      dsimp only [List.eraseIdx] at HS
      conv => whnf
      repeat' ((first | (with_reducible first | refine EvSeq.go ?_ | refine EvIf.tt ?_ | refine EvIf.ff ?_) | ((with_reducible refine Hole.mk (kK ?_)); clear kK) | ((with_reducible refine EvIf.mk (fun c => ?_) (fun c => ?_)) <;> (try simp only [cs_] at c) <;> (try (exfalso; first | omega | (revert c; decide)))) | ((with_reducible refine EvNew.sep HS ?_); intro bN hN HS1 hX; replace HS := HS1; clear HS1) | ((with_reducible refine EvIdx.lit ?_ ?_ ?_); (first | omega | decide); (first | omega | decide)) | ((with_reducible first | refine EvNe.mk ?_ ?_ | refine EvGe.mk ?_ ?_); (first | decide | omega)) | ((with_reducible refine EvLd.q HS (by repeat first | exact .h | apply Spot.t) ?_); (conv => whnf); intro hC) | (with_reducible refine EvLdN.q HS (by repeat first | exact .h | apply Spot.t) (fun hC => ?_)) | ((with_reducible refine EvSt.q HS (by repeat first | exact .h | apply Spot.t) ?_); (conv => whnf); intro hN HS1 hU; replace HS := HS1; clear HS1) | ((with_reducible refine EvKeep.cq (A := keepK _ _ (Hole _) _) HS (by repeat first | exact .h | apply Spot.t) ?_); (conv => whnf); (refine ⟨?_, ?_⟩); assumption; intro hC) | ((with_reducible refine EvKeep.nq (A := keepK _ _ (Hole _) _) HS (by repeat first | exact .h | apply Spot.t) ?_ ?_); assumption; intro hC) | ((fail_if_success with_reducible refine EvKeep.hole ?_); (with_reducible refine EvKeep.abs (fun X kK => ?_)))) <;> conv => whnf)
      refine ⟨(k + 1, B2, d2, zs), ⟨congrArg (fun z => some (Value.int .i64 z)) ((i64w _ (by omega) (by omega)).trans (by omega)), rfl, (by (repeat' (first | exact trivial | refine ⟨rfl, ?_⟩)))⟩, ⟨by omega, ?_, fun y hy => ?_, HS.pk (PK.q .h (PK.q (.t .h) .nil))⟩, by show _ - (k + 1) < _ - k; omega⟩
      · rw [← hz, List.map_append, hys, List.range_succ, List.map_append]
        rfl
      · rw [← hz] at hy
        rcases List.mem_append.mp hy with hy | hy
        · exact hyb y hy
        · obtain rfl := List.mem_singleton.mp hy
          exact ⟨by simpa using hml, by show m ≤ 2000; omega⟩
    · repeat' ((first | (with_reducible first | refine EvSeq.go ?_ | refine EvIf.tt ?_ | refine EvIf.ff ?_) | ((with_reducible refine Hole.mk (kK ?_)); clear kK) | ((with_reducible refine EvIf.mk (fun c => ?_) (fun c => ?_)) <;> (try simp only [cs_] at c) <;> (try (exfalso; first | omega | (revert c; decide)))) | ((with_reducible refine EvNew.sep HS ?_); intro bN hN HS1 hX; replace HS := HS1; clear HS1) | ((with_reducible refine EvIdx.lit ?_ ?_ ?_); (first | omega | decide); (first | omega | decide)) | ((with_reducible first | refine EvNe.mk ?_ ?_ | refine EvGe.mk ?_ ?_); (first | decide | omega)) | ((with_reducible refine EvLd.q HS (by repeat first | exact .h | apply Spot.t) ?_); (conv => whnf); intro hC) | (with_reducible refine EvLdN.q HS (by repeat first | exact .h | apply Spot.t) (fun hC => ?_)) | ((with_reducible refine EvSt.q HS (by repeat first | exact .h | apply Spot.t) ?_); (conv => whnf); intro hN HS1 hU; replace HS := HS1; clear HS1) | ((with_reducible refine EvKeep.cq (A := keepK _ _ (Hole _) _) HS (by repeat first | exact .h | apply Spot.t) ?_); (conv => whnf); (refine ⟨?_, ?_⟩); assumption; intro hC) | ((with_reducible refine EvKeep.nq (A := keepK _ _ (Hole _) _) HS (by repeat first | exact .h | apply Spot.t) ?_ ?_); assumption; intro hC) | ((fail_if_success with_reducible refine EvKeep.hole ?_); (with_reducible refine EvKeep.abs (fun X kK => ?_)))) <;> conv => whnf)
      obtain rfl : k = f.cl.length := by omega
      refine ⟨B, _, d, ys.map Rg.w, rfl, ?_, by omega, fun x hx => ?_, HS.to_rr.take [_]⟩
      · rw [e0, ← hys, List.map_map]
        rfl
      · obtain ⟨y, hy, rfl⟩ := List.mem_map.mp hx
        exact hyb y hy
theorem sLb (Q : Hp → Prop) : LiveC Q 7 (fun F => lvf (Fu.of F)) := fun h f _ o _ => (sLb_c o).mono fun v h' ⟨A, n, c, xs, e, e2, r⟩ => ⟨A, n, c, xs, e, e2.trans (lvf_full f).symm, r⟩
end Go.Proofs.YtjggmhpjlnmigaaDoor
