/- Live registers: the program's answer. -/
import Derived.Test.YtjggmhpjlnmigaaDoorVLvJ
import Derived.Test.YtjggmhpjlnmigaaDoorVLvM
namespace Go.Proofs.YtjggmhpjlnmigaaDoor
open Go.RowKit
set_option maxRecDepth 20000
set_option linter.unusedSimpArgs false
set_option linter.unusedVariables false
theorem mkd_bt {W : List Nat} {p : Int → Prop} {R M : Nat} (hR : R ≤ M) (h : ∀ r : Nat, bt W r = true ↔ p r) (hp : ∀ r : Nat, p r → r < R) : mkd (bt W) M = marked p R := by
  obtain ⟨k, rfl⟩ : ∃ k, M = R + k := ⟨M - R, by omega⟩
  unfold mkd marked
  rw [List.range_add, List.filter_append, List.map_append]
  have e : ((List.range k).map (R + ·)).filter (bt W) = [] := List.filter_eq_nil_iff.mpr (fun r hr hb => by
    obtain ⟨j, _, rfl⟩ := List.mem_map.mp hr
    have := hp _ ((h _).mp hb)
    omega)
  rw [e, List.map_nil, List.append_nil, List.filter_map]
  congr 1
  refine List.filter_congr (fun r hr => ?_)
  simp only [Function.comp]
  by_cases e : bt W r = true
  · rw [e]
    have := (h r).mp e
    simp [this]
  · have : ¬ p r := fun hh => e ((h r).mpr hh)
    simp only [Int.ofNat_eq_natCast, this, decide_false]
    simpa using e
/-- what the program's two tables give -/
structure GQ (h : Hp) : Prop where
  t : GT h
  b : GB h
theorem GQ.ext {h h' : Hp} (e : Ext h h') (g : GQ h) : GQ h' := ⟨g.t.ext e, g.b.ext e⟩
set_option maxHeartbeats 2000000 in
theorem iLb_c {h : Hp} {f : Fu} (q : GQ h) (o : FuOk h f) : HC Tryd.prog 9 [f.v] h fun v h' => ∃ A n c xs, v = .slice A n c ∧ xs.map Rw.l = lvf f ∧ n ≤ 8000 ∧ (∀ x ∈ xs, x.l.length = x.h.n ∧ x.h.n ≤ 2000) ∧ Sep h h' [RrP A n c xs] := by
  refine hc_of Tryd.func9 (rfl : Tryd.f9.body = some _) Tryd.ntmps9 Tryd.results9 Tryd.call9 rfl ?_; have HS := Sep.nil h; conv => whnf
  refine EvNew.sep HS ?_
  intro bf gbf HS1 xbf
  replace HS := HS1
  clear HS1
  conv => whnf
  repeat' ((first | ((with_reducible refine EvCall.mk (HC.mono (plain_c (q.t.ext HS.to_ext) (o.ext HS.to_ext)) ?_)); (rintro _ hN ⟨rfl, hX⟩); replace HS := HS.ext hX) | (with_reducible first | refine EvSeq.go ?_ | refine EvIf.tt ?_ | refine EvIf.ff ?_) | ((with_reducible refine EvIf.mk (fun c => ?_) (fun c => ?_)) <;> (try simp only [cs_] at c) <;> (try (exfalso; first | omega | (revert c; decide)))) | (with_reducible refine EvLdN.q HS (by repeat first | exact .h | apply Spot.t) (fun hC => ?_))) <;> conv => whnf)
  · have HS2 := ((HS.triv 22 none).rg0 (enc := Value.int .i64) (T := 3)).to_rr
    refine ⟨_, 0, 0, [], rfl, ?_, by omega, (fun x hx => by cases hx), HS2.take [_]⟩
    unfold lvf
    rw [c]
    rfl
  · have g := good_of c
    have hlen := g.len
    have hrg := g.rg
    have e0 : lvf f = (List.range f.cl.length).map (fun i => marked (fun r => Lv f.cl i r) f.rg.toNat) := by
      unfold lvf
      rw [c]
      rfl
    obtain ⟨N, hN⟩ : ∃ N : Nat, ((f.rg + 63) / 64).toNat = N := ⟨_, rfl⟩
    have hnl : f.ch.n = f.cl.length := o.c.l.symm
    refine EvCall.mk ((iLive_c (o.ext HS.to_ext) g).mono ?_)
    rintro _ h9 ⟨A, ca, xs, rfl, xr, xi, HS1⟩
    rw [hN] at xr
    rw [hnl] at HS1 ⊢
    replace HS := HS.join1 HS1
    clear HS1
    have hxl := (HS.rgl 0 rfl).1
    conv => whnf
    repeat' (fail <;> conv => whnf)
    have HS0 := (HS.triv 22 none).rg0 (enc := Value.int .i64) (T := 3)
    clear HS
    refine EvLoop.keep ([3, 5, 12, 13, 14, 15, 16, 17, 18, 19, 20, 21], 6) (α := Nat × Option Addr × Nat × List (Rg Int)) (fun (k, B, d, _) => [(12, .int .i64 k), (11, .int .i64 f.cl.length), (10, .slice A f.cl.length ca), (3, .slice B k d)])
      (fun (k, B, d, ys) h' => k ≤ f.cl.length ∧ ys.map Rg.l = (List.range k).map (fun i => marked (fun r => Lv f.cl i r) f.rg.toNat) ∧ (∀ y ∈ ys, y.l.length = y.h.n ∧ y.h.n ≤ 2000) ∧ Sep h h' [RgP (Value.int .i64) 22 3 B k d ys, RgP eW 58 96 A f.cl.length ca xs])
      (fun (k, _) => f.cl.length - k) (0, _, 0, []) (by (repeat' (first | exact trivial | refine ⟨rfl, ?_⟩))) ⟨Nat.zero_le _, rfl, (fun y hy => by cases hy), HS0.take [_, _]⟩ ?_
    clear HS0
    rintro ⟨k, B, d, ys⟩ h1 ⟨hk, hys, hyb, HS⟩
    conv => whnf
    obtain hlt | hge := Nat.lt_or_ge k f.cl.length
    · obtain ⟨x, hxk⟩ : ∃ x, xs[k]? = some x := ⟨_, List.getElem?_eq_getElem (by omega)⟩
      have hxr := HS.rgx 1 rfl hxk
      have hxw := xr.at_ hxk
      have hxn := hxr.2
      have hyl := (HS.rgl 0 rfl).1
      have hxN : x.h.n = N := by omega
      repeat' ((first | ((with_reducible refine EvIdx.rd (HS.rgr 1 rfl) (by simpa [rhds] using hxl) (by omega) (by omega) ?_); intro bI oI eI hI) | ((with_reducible refine EvLd.rowv (by assumption) (rhds_at hxk) ?_)) | (with_reducible first | refine EvSeq.go ?_ | refine EvIf.tt ?_ | refine EvIf.ff ?_) | ((with_reducible refine EvIf.mk (fun c => ?_) (fun c => ?_)) <;> (try simp only [cs_] at c) <;> (try (exfalso; first | omega | (revert c; decide))))) <;> conv => whnf)
      refine EvCall.mk ((members_c (q.b.ext HS.to_ext) hxr.1 hxr.2 hxw.2 (by omega)).mono ?_)
      rintro _ h2 ⟨M, m, cm, rfl, hm, HS1⟩
      replace HS := HS.join1 HS1
      clear HS1
      have hml := (HS.len 0 rfl).1
      have em : mkd (bt x.l) (64 * x.h.n) = marked (fun r => Lv f.cl k r) f.rg.toNat := by
        refine mkd_bt (by omega) (fun r => ?_) (fun r hr => by have := hr.bd g; omega)
        constructor
        · exact fun e => ((xi k r).mp ⟨x, hxk, e⟩).2
        · intro e
          obtain ⟨y, hy, hyr⟩ := (xi k r).mpr ⟨hlt, e⟩
          rw [hxk] at hy
          cases hy
          exact hyr
      rw [em] at HS hml
      have hmk := marked_len (fun r => Lv f.cl k r) f.rg.toNat
      have hml2 : (marked (fun r => Lv f.cl k r) f.rg.toNat).length = m := by simpa using hml
      conv => whnf
      repeat' (((with_reducible refine EvNew.sep HS ?_); intro bN hN HS1 hX; replace HS := HS1; clear HS1) <;> conv => whnf)
      refine EvApp.rg (x := ⟨⟨M, m, cm⟩, marked (fun r => Lv f.cl k r) f.rg.toNat⟩) HS 2 rfl 1 rfl (Rd.of_blk (HS.pt_i 0 rfl)) (by omega) (by omega) ?_
      intro B2 d2 h4 zs hz HS2
      clear HS
      have HS := HS2
      clear HS2
      dsimp only [List.eraseIdx] at HS
      conv => whnf
      repeat' (fail <;> conv => whnf)
      refine ⟨(k + 1, B2, d2, zs), ⟨congrArg (fun z => some (Value.int .i64 z)) ((i64w _ (by omega) (by omega)).trans (by omega)), rfl, (by (repeat' (first | exact trivial | refine ⟨rfl, ?_⟩)))⟩, ⟨by omega, ?_, fun y hy => ?_, HS.pk (PK.q .h (PK.q (.t .h) .nil))⟩, by show _ - (k + 1) < _ - k; omega⟩
      · rw [← hz, List.map_append, hys, List.range_succ, List.map_append]
        rfl
      · rw [← hz] at hy
        rcases List.mem_append.mp hy with hy | hy
        · exact hyb y hy
        · obtain rfl := List.mem_singleton.mp hy
          exact ⟨hml2, by show m ≤ 2000; omega⟩
    · repeat' ((first | (with_reducible first | refine EvSeq.go ?_ | refine EvIf.tt ?_ | refine EvIf.ff ?_) | ((with_reducible refine EvIf.mk (fun c => ?_) (fun c => ?_)) <;> (try simp only [cs_] at c) <;> (try (exfalso; first | omega | (revert c; decide))))) <;> conv => whnf)
      obtain rfl : k = f.cl.length := by omega
      refine ⟨B, _, d, ys.map Rg.w, rfl, ?_, by omega, fun x hx => ?_, HS.to_rr.take [_]⟩
      · rw [e0, ← hys, List.map_map]
        rfl
      · obtain ⟨y, hy, rfl⟩ := List.mem_map.mp hx
        exact hyb y hy
theorem iLb : LiveC GQ 9 (fun F => lvf (Fu.of F)) := fun h f q o _ => (iLb_c q o).mono fun v h' ⟨A, n, c, xs, e, e2, r⟩ => ⟨A, n, c, xs, e, e2.trans (lvf_full f).symm, r⟩
theorem lawLive {h : Hp} {v : Value} (q : GQ h) (r : RdA h shFun v) : HC Tryd.prog 3 [v] h fun v h' => v = .bool true ∧ Ext h h' := lawLive_r GQ.ext (sLb GQ) iLb q r
end Go.Proofs.YtjggmhpjlnmigaaDoor
