/- Functions that are right: the program's test of a step, walked. -/
import Derived.Test.YtjggmhpjlnmigaaDoorVPl
import Derived.Test.YtjggmhpjlnmigaaDoorVLv
namespace Go.Proofs.YtjggmhpjlnmigaaDoor
open Go.RowKit
set_option maxRecDepth 20000
set_option linter.unusedSimpArgs false
set_option linter.unusedVariables false
theorem EvCall.fn {P : Program} {args : List Value} {h : Hp} {K : Value → Hp → Prop} (f : FuncId) (c : HC P f args h K) : EvCall P f args h K := ⟨c⟩
theorem Sep.sp {h0 h : Hp} {L : List Asn} {F : Asn → List Asn} {b : Nat} {o : Obj} (s : Sep h0 h L) (p : Spot (Pt b o) L F) : h[b]? = some o := by
  obtain ⟨i, hi, _⟩ := p.idx
  exact s.pt_i i hi
def shp (rg m : Int) (x : Ii) : Bool := lok rg m x && (decide (¬(11 ≤ x.op ∧ x.op ≤ 13)) || decide (0 ≤ x.n))
/-- what the switch leaves: the test's answer, how many arguments -/
def okv (rg m : Int) (x : Ii) : Bool :=
  if x.op = 1 then inR rg x.d && isW x.n
  else if x.op = 2 then inR rg x.d && inR rg x.a
  else if x.op = 3 then (inR rg x.d && (inR rg x.a && inR rg x.b)) && decide (1 ≤ x.n ∧ x.n ≤ 18)
  else if x.op = 4 then (inR rg x.d && inR rg x.a) && decide (1 ≤ x.n ∧ x.n ≤ 4)
  else if x.op = 5 then (inR rg x.d && inR rg x.a) && decide (1 ≤ x.n ∧ x.n ≤ 5)
  else if x.op = 6 then (inR rg x.a && inR rg x.b) && decide (1 ≤ x.n ∧ x.n ≤ 5)
  else if x.op = 7 then inR rg x.d && decide (0 ≤ x.n ∧ x.n ≤ 60000)
  else if x.op = 8 then inR rg x.d && decide (0 ≤ x.n ∧ x.n ≤ m - 1)
  else if x.op = 9 then mayR rg x.d && x.l.all (inR rg)
  else if x.op = 10 then (mayR rg x.d && inR rg x.a) && x.l.all (inR rg)
  else if x.op = 11 ∨ x.op = 12 then decide (x.n ≥ 0)
  else if x.op = 13 then ((inR rg x.a && inR rg x.b) && decide (x.n ≥ 0)) && strIn tests x.s
  else if x.op = 14 then mayR rg x.a
  else if x.op = 15 then (inR rg x.a && inR rg x.b) && decide (1 ≤ x.n ∧ x.n ≤ 60000)
  else inR rg x.a && decide (1 ≤ x.n ∧ x.n ≤ 60000)
structure Yv (x y : Ii) : Prop where
  d : y.d = if 0 < fld x.op % 4 then x.d else 0
  a : y.a = if 0 < fld x.op / 4 % 4 then x.a else 0
  b : y.b = if 0 < fld x.op / 16 % 2 then x.b else 0
  n : y.n = if 0 < fld x.op / 32 % 2 then x.n else 0
  s : y.s = if 0 < fld x.op / 64 % 2 then x.s else ByteArray.empty
def arv (n : Nat) (x : Ii) : Int := if 128 ≤ fld x.op then n else 0
abbrev Ii.ycs (y : Ii) (o : Int) : List Value := [.int .i64 o, .int .i64 y.d, .int .i64 y.a, .int .i64 y.b, .int .i64 y.n, .string y.s, .slice none 0 0]
theorem shp_eq {rg m : Int} {x : Ii} {n : Nat} (hrg : 0 ≤ rg) (hop : 1 ≤ x.op ∧ x.op ≤ 16) (hl : x.l.length = n) : shp rg m x = (okv rg m x && (decide (arv n x ≤ 8) && (decide ((n : Int) = arv n x) && (decide (x.d = if 0 < fld x.op % 4 then x.d else 0) && (decide (x.a = if 0 < fld x.op / 4 % 4 then x.a else 0) && (decide (x.b = if 0 < fld x.op / 16 % 2 then x.b else 0) && (decide (x.n = if 0 < fld x.op / 32 % 2 then x.n else 0) && decide (x.s.toList = (if 0 < fld x.op / 64 % 2 then x.s else ByteArray.empty).toList)))))))) := by
  have r1 : ∀ r, rok rg r 1 = inR rg r := fun r => by unfold rok inR; rw [if_neg (by decide)]; simp; grind
  have r0 : ∀ r, rok rg r 0 = decide (r = 0) := fun r => by unfold rok; rw [if_pos rfl]
  have r2 : ∀ r, rok rg r 2 = mayR rg r := fun r => by unfold rok mayR inR; rw [if_neg (by decide)]; rw [Bool.eq_iff_iff]; simp; omega
  have hw : ∀ n, wok n = isW n := fun n => rfl
  have hks : ∀ n, decide (0 < ks n) = decide (1 ≤ n ∧ n ≤ 5) := fun n => by
    unfold ks
    rw [decide_eq_decide]
    repeat' split
    all_goals omega
  have ha : (x.l.all fun r => rok rg r 1) = x.l.all (inR rg) := by
    congr 1
    funext r
    exact r1 r
  have h0 : n = 0 → x.l.all (inR rg) = true := fun e => by
    have : x.l = [] := List.eq_nil_of_length_eq_zero (by omega)
    rw [this]
    rfl
  have hem : (⟨#[]⟩ : ByteArray).toList = ByteArray.empty.toList := rfl
  have hc : x.op = 1 ∨ x.op = 2 ∨ x.op = 3 ∨ x.op = 4 ∨ x.op = 5 ∨ x.op = 6 ∨ x.op = 7 ∨ x.op = 8 ∨ x.op = 9 ∨ x.op = 10 ∨ x.op = 11 ∨ x.op = 12 ∨ x.op = 13 ∨ x.op = 14 ∨ x.op = 15 ∨ x.op = 16 := by omega
  rw [Bool.eq_iff_iff]
  unfold shp lok
  simp only [Bool.and_eq_true, Bool.or_eq_true, decide_eq_true_eq, hem]
  unfold iok
  rw [ha, hl]
  rcases hc with e | e | e | e | e | e | e | e | e | e | e | e | e | e | e | e
  all_goals
    have hf := fld_tab x.op hop
    simp only [e, Int.reduceEq, if_true, if_false] at hf
    unfold nok okv arv
    simp only [e, hf, hw, hks, Int.reduceEq, Int.reduceMod, Int.reduceDiv, Int.reduceLT, Int.reduceLE, if_true, if_false, r0, r1, r2, or_true, or_false, true_or, false_or, not_true_eq_false, not_false_eq_true, and_true, true_and, Bool.and_eq_true, decide_eq_true_eq]
    by_cases h8 : n ≤ 8
    · by_cases hn : n = 0
      · have := h0 hn
        simp [*]
        try grind
      · simp [*]
        try grind
    · simp [*]
      try grind
set_option maxHeartbeats 4000000 in
theorem shape_c {h : Hp} {f : Fu} {x : Ii} (hg : GT h) (o : FuOk h f) (ox : IiOk h x) (hrg : 0 ≤ f.rg ∧ f.rg ≤ 2000) : HC Tryd.prog 63 [f.v, .agg x.cells.toArray] h fun v h' => v = .bool (shp f.rg f.sl.length x) ∧ Ext h h' := by
  obtain ⟨GA, gc, hG, rG⟩ := hg.t
  unfold gTests at hG
  have h6 : tests.length = 6 := rfl
  have hsl := o.sn
  have hsb := o.sb
  have hl := ox.l
  have hb := ox.b
  refine hc_of Tryd.func63 (rfl : Tryd.f63.body = some _) Tryd.ntmps63 Tryd.results63 Tryd.call63 rfl ?_; have HS := Sep.nil h; conv => whnf
  refine EvNew.sep HS ?_
  intro bf gbf HS1 xbf
  replace HS := HS1
  clear HS1
  conv => whnf
  refine EvNew.sep HS ?_
  intro bx gbx HS1 xbx
  replace HS := HS1
  clear HS1
  conv => whnf
  repeat' ((first | ((with_reducible refine EvNew.sep HS ?_); intro bN hN HS1 hX; replace HS := HS1; clear HS1) | ((with_reducible refine EvLd.q HS (by repeat first | exact .h | apply Spot.t) ?_); (conv => whnf); intro hC) | ((with_reducible refine EvSt.q HS (by repeat first | exact .h | apply Spot.t) ?_); (conv => whnf); intro hN HS1 hU; replace HS := HS1; clear HS1)) <;> conv => whnf)
  rename_i b5 z1 z2 z3 z4 z5
  have HS0 := HS
  clear HS
  refine EvSeq.keepcut ([4, 8, 9], 10) (α := Bool × Int × Ii) (fun (k, a, _) => [(8, .bool k), (9, .int .i64 a)])
    (fun (k, a, y) h' => (1 ≤ x.op ∧ x.op ≤ 16) ∧ k = okv f.rg f.sh.n x ∧ a = arv x.h.n x ∧ Yv x y ∧ Sep h h' [Bx bN (y.ycs x.op) 67, Bx b5 [.func (.func 80) #[] #[.pointer (some ⟨bf, 0, none⟩)]] 109, Bx bx x.cells 67, Bx bf (fcs f) 31]) ?_ ?_
  · have HS : Sep h hN [Bx bN [.int .i64 x.op, .int .i64 0, .int .i64 0, .int .i64 0, .int .i64 0, .string ByteArray.empty, .slice none 0 0] 67, Bx b5 [.func (.func 80) #[] #[.pointer (some ⟨bf, 0, none⟩)]] 109, Bx bx x.cells 67, Bx bf (fcs f) 31] := HS0
    clear HS0
    have hc : x.op = 1 ∨ x.op = 2 ∨ x.op = 3 ∨ x.op = 4 ∨ x.op = 5 ∨ x.op = 6 ∨ x.op = 7 ∨ x.op = 8 ∨ x.op = 9 ∨ x.op = 10 ∨ x.op = 11 ∨ x.op = 12 ∨ x.op = 13 ∨ x.op = 14 ∨ x.op = 15 ∨ x.op = 16 ∨ ¬(1 ≤ x.op ∧ x.op ≤ 16) := by omega
    have ew : IntKind.i64.wrap ((f.sh.n : Int) - 1) = (f.sh.n : Int) - 1 := i64w _ (by omega) (by omega)
    rcases hc with e | e | e | e | e | e | e | e | e | e | e | e | e | e | e | e | e
    all_goals as_aux_lemma =>
      conv => whnf
      repeat' ((first | ((with_reducible refine EvDraw.ord (id := 9) (.go 0 (.go 1 (.go 2 (.go 3 (.go 4 (.alt 5 (.go 6 (.alt 7 .done .stop)) .stop)))))) fol ?_ ?_ ?_); kernel_rfl; kernel_rfl) | ((with_reducible refine EvDraw.ord (id := 12) (.go 0 (.go 1 (.go 2 (.go 3 (.go 4 (.alt 5 (.go 6 (.alt 7 .done .stop)) .stop)))))) fol ?_ ?_ ?_); kernel_rfl; kernel_rfl) | ((with_reducible refine EvDraw.ord (id := 15) (.go 0 (.go 1 (.go 2 (.go 3 (.go 4 (.go 5 (.go 6 (.go 7 (.go 8 (.alt 9 (.go 10 (.alt 11 (.go 12 (.alt 13 (.go 14 (.alt 15 .done .stop)) .stop)) .stop)) .stop)))))))))) fol ?_ ?_ ?_); kernel_rfl; kernel_rfl) | ((with_reducible refine EvDraw.ord (id := 18) (.go 0 (.go 1 (.go 2 (.go 3 (.go 4 (.go 5 (.go 6 (.alt 7 (.go 8 (.alt 9 (.go 10 (.alt 11 .done .stop)) .stop)) .stop)))))))) fol ?_ ?_ ?_); kernel_rfl; kernel_rfl) | ((with_reducible refine EvDraw.ord (id := 21) (.go 0 (.go 1 (.go 2 (.go 3 (.go 4 (.go 5 (.go 6 (.alt 7 (.go 8 (.alt 9 (.go 10 (.alt 11 .done .stop)) .stop)) .stop)))))))) fol ?_ ?_ ?_); kernel_rfl; kernel_rfl) | ((with_reducible refine EvDraw.ord (id := 24) (.go 0 (.go 1 (.go 2 (.go 3 (.go 4 (.go 5 (.go 6 (.alt 7 (.go 8 (.alt 9 (.go 10 (.alt 11 .done .stop)) .stop)) .stop)))))))) fol ?_ ?_ ?_); kernel_rfl; kernel_rfl) | ((with_reducible refine EvDraw.ord (id := 27) (.go 0 (.go 1 (.go 2 (.go 3 (.go 4 (.go 5 (.go 6 (.alt 7 (.go 8 (.alt 9 (.go 10 (.alt 11 .done .stop)) .stop)) .stop)))))))) fol ?_ ?_ ?_); kernel_rfl; kernel_rfl) | ((with_reducible refine EvDraw.ord (id := 30) (.go 0 (.go 1 (.go 2 (.go 3 (.go 4 (.alt 5 (.go 6 (.alt 7 .done .stop)) .stop)))))) fol ?_ ?_ ?_); kernel_rfl; kernel_rfl) | ((with_reducible refine EvDraw.ord (id := 33) (.go 0 (.go 1 (.go 2 (.go 3 (.go 4 (.alt 5 (.go 6 (.alt 7 .done .stop)) .stop)))))) fol ?_ ?_ ?_); kernel_rfl; kernel_rfl) | ((with_reducible refine EvDraw.ord (id := 34) (.go 0 (.go 1 (.go 2 (.go 10 (.go 11 (.go 12 (.alt 3 (.go 4 (.go 5 (.go 6 (.go 7 (.alt 8 (.go 9 (.go 13 (.go 14 .done))) .stop))))) .stop))))))) fol ?_ ?_ ?_); kernel_rfl; kernel_rfl) | ((with_reducible refine EvDraw.ord (id := 36) (.go 0 (.go 1 (.go 2 (.go 3 (.go 4 (.alt 5 (.go 6 (.alt 7 .done .stop)) .stop)))))) fol ?_ ?_ ?_); kernel_rfl; kernel_rfl) | ((with_reducible refine EvDraw.ord (id := 37) (.go 0 (.go 1 (.go 2 (.go 17 (.go 18 (.go 19 (.alt 3 (.go 4 (.go 5 (.go 6 (.go 7 (.alt 8 (.alt 9 (.go 10 (.go 11 (.go 12 (.go 13 (.go 14 (.alt 15 (.go 16 (.go 20 (.go 21 .done))) .stop)))))) .stop) .stop))))) .stop))))))) fol ?_ ?_ ?_); kernel_rfl; kernel_rfl) | ((with_reducible refine EvDraw.ord (id := 43) (.go 0 (.go 1 (.go 2 (.go 3 (.go 4 (.go 5 (.go 6 (.go 7 (.go 8 (.alt 9 (.go 10 (.alt 11 (.go 12 (.alt 13 (.go 14 (.alt 15 .done .stop)) .stop)) .stop)) .stop)))))))))) fol ?_ ?_ ?_); kernel_rfl; kernel_rfl) | ((with_reducible refine EvDraw.ord (id := 49) (.go 0 (.go 1 (.go 2 (.go 3 (.go 4 (.go 5 (.go 6 (.alt 7 (.go 8 (.alt 9 (.go 10 (.alt 11 .done .stop)) .stop)) .stop)))))))) fol ?_ ?_ ?_); kernel_rfl; kernel_rfl) | ((with_reducible refine EvDraw.ord (id := 52) (.go 0 (.go 1 (.go 2 (.go 3 (.go 4 (.alt 5 (.go 6 (.alt 7 .done .stop)) .stop)))))) fol ?_ ?_ ?_); kernel_rfl; kernel_rfl) | ((with_reducible refine EvKeep.same ?_)) | ((with_reducible refine EvCall.fn 80 ?_); (with_reducible first | refine HC.mono (reg_1 (HS.sp (by with_reducible repeat first | exact .h | apply Spot.t)) _ _ (HS.pt_i 0 rfl) hrg) ?_ | refine HC.mono (reg_2 (HS.sp (by with_reducible repeat first | exact .h | apply Spot.t)) _ _ _ (HS.pt_i 0 rfl) hrg) ?_ | refine HC.mono (reg_3 (HS.sp (by with_reducible repeat first | exact .h | apply Spot.t)) _ _ _ _ (HS.pt_i 0 rfl) hrg) ?_ | refine HC.mono (reg_c (HS.sp (by with_reducible repeat first | exact .h | apply Spot.t)) (ox.r.ext HS.to_ext) hl hb hrg) ?_); (rintro _ _ ⟨rfl, rfl⟩)) | ((with_reducible refine EvCall.fn 82 ?_); (with_reducible refine HC.mono (word_1 _ _ (HS.pt_i 0 rfl)) ?_); (rintro _ _ ⟨rfl, rfl⟩)) | ((with_reducible refine EvCall.fn 61 ?_); (with_reducible refine HC.mono (inside_c _ _ _ _) ?_); (rintro _ _ ⟨rfl, rfl⟩)) | ((with_reducible refine EvCall.fn 81 ?_); (with_reducible refine HC.mono (maybe_c (HS.sp (by with_reducible repeat first | exact .h | apply Spot.t)) (HS.sp (by with_reducible repeat first | exact .h | apply Spot.t)) _ hrg) ?_); (rintro _ hN ⟨rfl, hX⟩); replace HS := HS.ext hX) | ((with_reducible refine EvLd.at_ (HS.to_ext.cell hG) ?_)) | ((with_reducible refine EvCall.fn 83 ?_); (with_reducible refine HC.mono (containsS_c (rG.ext HS.to_ext) h6 (by decide) _) ?_); (rintro _ _ ⟨rfl, rfl⟩)) | (with_reducible first | refine EvSeq.go ?_ | refine EvIf.tt ?_ | refine EvIf.ff ?_) | ((with_reducible refine Hole.mk (kK ?_)); clear kK) | ((with_reducible refine EvIf.mk (fun c => ?_) (fun c => ?_)) <;> (try simp only [cs_] at c) <;> (try (exfalso; first | omega | (revert c; decide)))) | ((with_reducible refine EvNew.sep HS ?_); intro bN hN HS1 hX; replace HS := HS1; clear HS1) | ((with_reducible refine EvLd.q HS (by repeat first | exact .h | apply Spot.t) ?_); (conv => whnf); intro hC) | ((with_reducible refine EvSt.q HS (by repeat first | exact .h | apply Spot.t) ?_); (conv => whnf); intro hN HS1 hU; replace HS := HS1; clear HS1) | ((with_reducible refine EvKeep.cq (A := keepK _ _ (Hole _) _) HS (by repeat first | exact .h | apply Spot.t) ?_); (conv => whnf); (refine ⟨?_, ?_⟩); assumption; intro hC) | ((fail_if_success with_reducible refine EvKeep.hole ?_); (with_reducible refine EvKeep.abs (fun X kK => ?_)))) <;> conv => whnf)
      all_goals first
        | (refine ⟨congrArg Value.bool ?_, HS.to_ext⟩
           unfold shp lok iok
           rw [if_pos (by omega)]
           rfl)
        | (have hf := fld_tab x.op (by omega)
           simp only [e, Int.reduceEq, if_true, if_false] at hf
           refine ⟨(_, _, ⟨x.op, _, _, _, _, _, ⟨none, 0, 0⟩, []⟩), ⟨rfl, rfl, (by (repeat' (first | exact trivial | refine ⟨rfl, ?_⟩)))⟩, by omega, ?_, ?_, ?_, HS.pk (by (repeat' (first | exact PK.nil | with_reducible refine PK.q (by repeat first | exact .h | apply Del.t) ?_)))⟩
           · unfold okv
             (simp only [e, Int.reduceEq, if_true, if_false, true_or, or_true]) <;> simp [*] <;> (intro h9; omega)
           · unfold arv
             rw [e, hf]
             rfl
           · constructor <;> (rw [e, hf]; rfl))
  · rintro ⟨k, a, y⟩ h1 ⟨hop, hk, ha, yv, HS⟩
    conv => whnf
    repeat' ((first | (with_reducible first | refine EvSeq.go ?_ | refine EvIf.tt ?_ | refine EvIf.ff ?_) | ((with_reducible refine EvIf.mk (fun c => ?_) (fun c => ?_)) <;> (try simp only [cs_] at c) <;> (try (exfalso; first | omega | (revert c; decide)))) | ((with_reducible refine EvLd.q HS (by repeat first | exact .h | apply Spot.t) ?_); (conv => whnf); intro hC)) <;> conv => whnf)
    all_goals
      refine ⟨congrArg Value.bool ?_, HS.to_ext⟩
      have es := shp_eq (m := f.sh.n) hrg.1 hop hl
      rw [← hk, ← ha, ← yv.d, ← yv.a, ← yv.b, ← yv.n, ← yv.s] at es
      rw [hsl, es]
      clear hk ha es hg hG rG
      first
        | (simp [*]; done)
        | (rw [Bool.eq_iff_iff]; simp [*]; done)
        | (simp [*]; intro h9; omega)
end Go.Proofs.YtjggmhpjlnmigaaDoor
