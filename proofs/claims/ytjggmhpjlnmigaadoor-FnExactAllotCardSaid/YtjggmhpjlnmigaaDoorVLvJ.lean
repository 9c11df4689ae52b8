/- Live registers: the program's search. -/
import Derived.Test.YtjggmhpjlnmigaaDoorVLvI
namespace Go.Proofs.YtjggmhpjlnmigaaDoor
open Go.RowKit
set_option maxRecDepth 20000
set_option linter.unusedSimpArgs false
set_option linter.unusedVariables false
abbrev fBk : FuncId := 84
theorem backM_c {h : Hp} (A : Option Addr) (n c : Nat) : HC Tryd.prog 64 [.slice A n c] h fun v h' => ∃ bq, v = .func (.func fBk) #[] #[.pointer (some ⟨bq, 0, none⟩)] ∧ Sep h h' [Bx bq [.slice A n c] 29] := by
  refine hc_of Tryd.func64 (rfl : Tryd.f64.body = some _) Tryd.ntmps64 Tryd.results64 Tryd.call64 rfl ?_; have HS := Sep.nil h; conv => whnf
  refine EvNew.sep HS ?_
  intro bq gbq HS1 xbq
  replace HS := HS1
  clear HS1
  conv => whnf
  repeat' (fail <;> conv => whnf)
  exact ⟨bq, rfl, HS⟩
theorem back_c {h0 : Hp} {b l n c : Nat} {A : Option Addr} {T : TypeId} {cl : List Ii} (J : Nat → Hp → Prop) (hq : ∀ k h1, J k h1 → h1[b]? = some (.cells [.slice A n c].toArray T (0, 0)) ∧ IsOk h1 A n cl)
    (hy : ∀ k i x h1, i + k + 1 = n → cl[i]? = some x → J k h1 → YC Tryd.prog l [.int .i64 i, .agg x.cells.toArray] h1 (J (k + 1))) (hJ : J 0 h0) (hn : n ≤ 1000000000) :
    HC Tryd.prog fBk [.func (.yield l) #[] #[], .pointer (some ⟨b, 0, none⟩)] h0 fun _ h' => J n h' := by
  unfold fBk
  refine hc_of Tryd.func84 (rfl : Tryd.f84.body = some _) Tryd.ntmps84 Tryd.results84 Tryd.call84 rfl ?_; conv => whnf
  have q0 := hq 0 h0 hJ
  have hl := q0.2.l
  repeat' (((refine EvLd.nth q0.1 ?_); (conv => whnf); intro hC) <;> conv => whnf)
  refine EvLoop.keep ([3, 7, 8, 9, 10, 11, 12, 13, 14, 15, 16, 17, 18], 4) (α := Int) (fun t => [(3, .int .i64 t)]) (fun t h' => ∃ k : Nat, k ≤ n ∧ t = (n : Int) - 1 - k ∧ J k h') (fun t => (t + 1).toNat) ((n : Int) - 1) ⟨congrArg (fun z => some (Value.int .i64 z)) (i64w _ (by omega) (by omega)), (by (repeat' (first | exact trivial | refine ⟨rfl, ?_⟩)))⟩ ⟨0, Nat.zero_le _, by omega, hJ⟩ ?_
  rintro t h1 ⟨k, hk, rfl, hJk⟩
  conv => whnf
  have q := hq k h1 hJk
  obtain hlt | hge := Nat.lt_or_ge k n
  · obtain ⟨i, hi⟩ : ∃ i : Nat, i + k + 1 = n := ⟨n - 1 - k, by omega⟩
    obtain ⟨x, hx⟩ : ∃ x, cl[i]? = some x := ⟨_, List.getElem?_eq_getElem (by omega)⟩
    have ei : (n : Int) - 1 - k = (i : Int) := by omega
    repeat' ((first | ((refine EvLd.nth q.1 ?_); (conv => whnf); intro hC) | ((refine EvIdx.el Ii.len (by decide) q.2.r hl (by omega) (by omega) ?_); intro bI oI z eI hz hI; have hzx : x = z := Option.some.inj (hx.symm.trans (by rw [← hz, ei]; rfl)); subst hzx) | ((with_reducible refine EvLdN.el hI (Ii.len _) ?_)) | (with_reducible first | refine EvSeq.go ?_ | refine EvIf.tt ?_ | refine EvIf.ff ?_) | ((with_reducible refine EvIf.mk (fun c => ?_) (fun c => ?_)) <;> (try simp only [cs_] at c) <;> (try (exfalso; first | omega | (revert c; decide))))) <;> conv => whnf)
    have y := hy k i x h1 hi hx hJk
    rw [← ei] at y
    refine EvYield.yc y (fun h2 hJ2 => ?_)
    conv => whnf
    repeat' (((with_reducible refine EvIf.mk (fun c => ?_) (fun c => ?_)) <;> (try simp only [cs_] at c) <;> (try (exfalso; first | omega | (revert c; decide)))) <;> conv => whnf)
    exact ⟨(i : Int) - 1, ⟨congrArg (fun z => some (Value.int .i64 z)) (by rw [ei]; exact i64w _ (by omega) (by omega)), (by (repeat' (first | exact trivial | refine ⟨rfl, ?_⟩)))⟩, ⟨k + 1, by omega, by omega, hJ2⟩, by omega⟩
  · repeat' ((first | (with_reducible first | refine EvSeq.go ?_ | refine EvIf.tt ?_ | refine EvIf.ff ?_) | ((with_reducible refine EvIf.mk (fun c => ?_) (fun c => ?_)) <;> (try simp only [cs_] at c) <;> (try (exfalso; first | omega | (revert c; decide))))) <;> conv => whnf)
    obtain rfl : k = n := by omega
    exact hJk
theorem set_perm {α : Type} {xs : List α} {k : Nat} (hk : k < xs.length) (x : α) : (xs.set k x).Perm (x :: xs.eraseIdx k) := by
  have h1 : (xs.set k x)[k]? = some x := by rw [List.getElem?_set_self hk]
  have h2 := perm_erase h1
  have h3 : (xs.set k x).eraseIdx k = xs.eraseIdx k := by rw [List.eraseIdx_set_eq]
  rw [h3] at h2
  exact h2
/-- a row's place given another row -/
theorem EvSt.rgh {α : Type} {enc : α → Value} {TT T : TypeId} {h0 h : Hp} {L : List Asn} {A : Option Addr} {n c b o k : Nat} {xs : List (Rg α)} {x : Rg α} {K : Hp → Prop} (s : Sep h0 h L) (i : Nat) (hi : L[i]? = some (RgP enc TT T A n c xs)) (j : Nat) (hj : (L.eraseIdx i)[j]? = some (x.P enc T))
    (e : A = some ⟨b, o, none⟩) (hk : k < n) (kk : ∀ h', Sep h0 h' (RgP enc TT T A n c (xs.set k x) :: (L.eraseIdx i).eraseIdx j) → K h') : EvSt h b (o + k * 1) [x.h.v] K := by
  have hxl := (s.rgl i hi).1
  have s1 := (s.front i hi).unfold
  rw [Nat.mul_one]
  refine EvSt.sl (T := TT) (vs := rhds xs) s1 e hk (fun h' q => kk h' ?_)
  refine Sep.fold (RgL enc TT T A n c (xs.set k x)) ?_
  have e2 : rhds (xs.set k x) = (rhds xs).set k x.h.v := by
    unfold rhds
    rw [List.map_set]
  unfold RgL
  rw [e2, List.cons_append]
  have hm : (Sl TT A n c ((rhds xs).set k x.h.v) :: (xs.map (Rg.P enc T) ++ L.eraseIdx i)).Perm (xs[k].P enc T :: (Sl TT A n c ((rhds xs).set k x.h.v) :: ((xs.set k x).map (Rg.P enc T) ++ (L.eraseIdx i).eraseIdx j))) := by
    refine List.Perm.trans (List.Perm.cons _ ?_) (List.Perm.swap _ _ _)
    have p1 : (xs.map (Rg.P enc T)).Perm (xs[k].P enc T :: (xs.eraseIdx k).map (Rg.P enc T)) := by
      have := (perm_erase (L := xs) (j := k) (A := xs[k]) (List.getElem?_eq_getElem (by omega))).map (Rg.P enc T)
      simpa using this
    have p2 : (L.eraseIdx i).Perm (x.P enc T :: (L.eraseIdx i).eraseIdx j) := perm_erase hj
    have p3 : ((xs.set k x).map (Rg.P enc T)).Perm (x.P enc T :: (xs.eraseIdx k).map (Rg.P enc T)) := by
      have := (set_perm (xs := xs) (k := k) (by omega) x).map (Rg.P enc T)
      simpa using this
    refine (List.Perm.append p1 p2).trans ?_
    rw [List.cons_append]
    refine List.Perm.cons _ ?_
    refine List.perm_middle.trans ?_
    rw [← List.cons_append]
    exact List.Perm.append_right _ p3.symm
  exact (q.perm hm).tail
/-- rows that are not there yet -/
theorem Sep.rgNil {α : Type} {enc : α → Value} {TT T : TypeId} {h0 h : Hp} {L : List Asn} {A : Option Addr} {n c : Nat} (s : Sep h0 h (Sl TT A n c (List.replicate n (.slice none 0 0)) :: L)) : Sep h0 h (RgP enc TT T A n c (List.replicate n ⟨⟨none, 0, 0⟩, []⟩) :: L) := by
  refine Sep.fold (RgL enc TT T A n c (List.replicate n ⟨⟨none, 0, 0⟩, []⟩)) ?_
  have e : rhds (List.replicate n (⟨⟨none, 0, 0⟩, []⟩ : Rg α)) = List.replicate n (.slice none 0 0) := by
    unfold rhds
    rw [List.map_replicate]
  unfold RgL
  rw [e, List.cons_append]
  have key : ∀ (m : Nat) {M : List Asn}, Sep h0 h M → Sep h0 h ((List.replicate m (⟨⟨none, 0, 0⟩, []⟩ : Rg α)).map (Rg.P enc T) ++ M) := by
    intro m
    induction m with
    | zero => exact fun s => s
    | succ m ih =>
      intro M s
      rw [List.replicate_succ, List.map_cons, List.cons_append]
      exact (ih s).triv T none
  exact (key n s).perm List.perm_middle
theorem RW.start {cl : List Ii} {N : Nat} {zs : List (Rg Nat)} (w : Wd N zs) (s : ∀ i r, bs zs i r → Lv cl i r) (p : ∀ i r, bs zs i r → fw cl zs i r) : RW cl N zs 0 false zs :=
  ⟨w, s, p, fun _ => ⟨rfl, fun i r hi h => by
    obtain ⟨x, hx, _⟩ := h
    rw [List.getElem?_eq_none (by omega)] at hx
    cases hx⟩, fun e => by cases e⟩
theorem Sep.defCons {h0 h : Hp} {L : List Asn} {D : Nat} {Ds : List Nat} (s : Sep h0 h (All (DefP Ds) :: Pt D (.deferred (some [])) :: L)) : Sep h0 h (All (DefP (D :: Ds)) :: L) :=
  Sep.fold (DefP (D :: Ds)) (s.unfold.perm List.perm_middle)
theorem add_i {h0 h : Hp} {bo bn : Nat} {A : Option Addr} {n ca : Nat} {xs : List (Rg Nat)} {Aw : Option Addr} {N cw : Nat} {W : List Nat} {M : List Asn} (HS : Sep h0 h (AddL bo bn A n ca xs Aw N cw W M)) {j : Nat} {ji : Int} (ej : ji = (j : Int)) {y : Rg Nat} (hy : xs[j]? = some y) (hyl : y.l.length = N) (hN : N ≤ 100) (b : B64 W) (b' : B64 y.l) :
    HC Tryd.prog 65 [.int .i64 ji, .pointer (some ⟨bo, 0, none⟩), .pointer (some ⟨bn, 0, none⟩)] h fun v h' => v = .tuple #[] ∧ Sep h0 h' (AddL bo bn A n ca xs Aw N cw (orW W y.l) M) := by
  subst ej
  exact add_c HS hy hyl hN b b'
theorem nx1 {ys : List (Rg Nat)} {j : Nat} {y : Rg Nat} (hy : ys[j]? = some y) (r : Nat) : bt y.l r = true ↔ ∃ q : Nat, (q : Int) ∈ [(j : Int)] ∧ bs ys q r := by
  constructor
  · exact fun h => ⟨j, by simp, y, hy, h⟩
  · rintro ⟨q, hq, z, hz, h⟩
    obtain rfl : q = j := by have := List.mem_singleton.mp hq; omega
    rw [hy] at hz
    cases hz
    exact h
theorem nx2 {ys : List (Rg Nat)} {j i : Nat} {y y2 : Rg Nat} (hy : ys[j]? = some y) (hy2 : ys[i + 1]? = some y2) (r : Nat) : (bt y.l r || bt y2.l r) = true ↔ ∃ q : Nat, (q : Int) ∈ [(i : Int) + 1, (j : Int)] ∧ bs ys q r := by
  rw [Bool.or_eq_true]
  constructor
  · rintro (h | h)
    · exact ⟨j, by simp, y, hy, h⟩
    · exact ⟨i + 1, by simp, y2, hy2, h⟩
  · rintro ⟨q, hq, z, hz, h⟩
    rcases List.mem_cons.mp hq with hq | hq
    · obtain rfl : q = i + 1 := by omega
      rw [hy2] at hz
      cases hz
      exact .inr h
    · obtain rfl : q = j := by have := List.mem_singleton.mp hq; omega
      rw [hy] at hz
      cases hz
      exact .inl h
theorem word_at {x : Int} {s : Nat} (e : x = s) (h : s < 2000) : IntKind.i64.wrap (x.tdiv 64) = ((s / 64 : Nat) : Int) ∧ x.tmod 64 = ((s % 64 : Nat) : Int) := by
  subst e
  rw [tdiv_pos (by omega), tmod_pos (by omega), i64w _ (by omega) (by omega)]
  exact ⟨by omega, by omega⟩
theorem shl_at {x : Int} {s : Nat} (e : x = s) (h : s < 2000) : IntKind.u64.wrap (1 * 2 ^ min (x.tmod 64).toNat IntKind.u64.bits) = ((2 ^ (s % 64) : Nat) : Int) := by
  rw [(word_at e h).2, Int.toNat_natCast, show IntKind.u64.bits = 64 from rfl, Nat.min_eq_left (by omega), Int.one_mul]
  have hp : 2 ^ (s % 64) < 2 ^ 64 := Nat.pow_lt_pow_right (by decide) (by omega)
  rw [show ((2 : Int) ^ (s % 64)) = ((2 ^ (s % 64) : Nat) : Int) by simp]
  obtain ⟨p, hpp⟩ : ∃ p : Nat, 2 ^ (s % 64) = p := ⟨_, rfl⟩
  rw [hpp] at hp ⊢
  rw [IntKind.wrap_u64]
  omega
theorem cut_cell (V : List Nat) {x : Int} {s w : Nat} (e : x = s) (h : s < 2000) (hw : w < 18446744073709551616) : (V.map eW).set (IntKind.i64.wrap (x.tdiv 64)).toNat (.int .u64 (Go.bits .andNot .u64 (w : Int) (IntKind.u64.wrap (1 * 2 ^ min (x.tmod 64).toNat IntKind.u64.bits)))) = (V.set (s / 64) (w &&& (18446744073709551615 - 2 ^ (s % 64)))).map eW := by
  have hp : 2 ^ (s % 64) < 2 ^ 64 := Nat.pow_lt_pow_right (by decide) (by omega)
  rw [shl_at e h, (word_at e h).1, Int.toNat_natCast, List.map_set, u64_andNot_nat w _ hw (by omega)]
theorem put_cell (V : List Nat) {x : Int} {s w : Nat} (e : x = s) (h : s < 2000) (hw : w < 18446744073709551616) : (V.map eW).set (IntKind.i64.wrap (x.tdiv 64)).toNat (.int .u64 (Go.bits .or .u64 (w : Int) (IntKind.u64.wrap (1 * 2 ^ min (x.tmod 64).toNat IntKind.u64.bits)))) = (V.set (s / 64) (w ||| 2 ^ (s % 64))).map eW := by
  have hp : 2 ^ (s % 64) < 2 ^ 64 := Nat.pow_lt_pow_right (by decide) (by omega)
  rw [shl_at e h, (word_at e h).1, Int.toNat_natCast, List.map_set, u64_or_nat w _ hw (by omega)]
theorem put_lt {w s : Nat} (hw : w < 18446744073709551616) : w ||| 2 ^ (s % 64) < 18446744073709551616 := by
  have hp : 2 ^ (s % 64) < 2 ^ 64 := Nat.pow_lt_pow_right (by decide) (by omega)
  exact Nat.or_lt_two_pow (n := 64) (by omega) (by omega)
set_option maxHeartbeats 4000000 in
theorem iLive_c {h : Hp} {f : Fu} (o : FuOk h f) (g : Good f) : HC Tryd.prog 33 [f.v] h fun v h' => ∃ A c xs, v = .slice A f.ch.n c ∧ Wd ((f.rg + 63) / 64).toNat xs ∧ (∀ i r, bs xs i r ↔ i < f.cl.length ∧ Lv f.cl i r) ∧ Sep h h' [RgP eW 58 96 A f.ch.n c xs] := by
  have hxl := o.c.l
  have hn := o.c.b
  have hlen := g.len
  have hrg := g.rg
  refine hc_of_d (h0 := h) Tryd.func33 (rfl : Tryd.f33.body = some _) Tryd.ntmps33 Tryd.results33 Tryd.call33 rfl ?_
  have HS := Sep.nil h
  refine SVD.seq (SVD.of ?_)
  conv => whnf
  refine EvNew.sep HS ?_
  intro bf gbf HS1 xbf
  replace HS := HS1
  clear HS1
  conv => whnf
  repeat' (fail <;> conv => whnf)
  refine SVD.seq (SVD.of ?_)
  conv => whnf
  repeat' ((with_reducible refine EvLdN.q HS (by repeat first | exact .h | apply Spot.t) (fun hC => ?_)) <;> conv => whnf)
  refine EvCall.mk ((labels_c (o.ext HS.to_ext) hlen.2).mono ?_)
  rintro _ h1 ⟨rm, rfl, HS1⟩
  replace HS := HS.join1 HS1
  clear HS1
  conv => whnf
  refine EvNew.sep HS ?_
  intro bm gbm HS1 xbm
  replace HS := HS1
  clear HS1
  conv => whnf
  repeat' (((with_reducible refine EvSt.q HS (by repeat first | exact .h | apply Spot.t) ?_); (conv => whnf); intro hN HS1 hU; replace HS := HS1; clear HS1) <;> conv => whnf)
  refine SVD.seq (SVD.of ?_)
  conv => whnf
  repeat' ((first | ((with_reducible first | refine EvNe.mk ?_ ?_ | refine EvGe.mk ?_ ?_); (first | decide | omega)) | ((with_reducible refine EvLd.q HS (by repeat first | exact .h | apply Spot.t) ?_); (conv => whnf); intro hC)) <;> conv => whnf)
  obtain ⟨N, hN⟩ : ∃ N : Nat, ((f.rg + 63) / 64).toNat = N := ⟨_, rfl⟩
  have eN : IntKind.i64.wrap ((IntKind.i64.wrap (f.rg + 63)).tdiv 64) = (N : Int) := by
    have e1 : IntKind.i64.wrap (f.rg + 63) = f.rg + 63 := i64w _ (by omega) (by omega)
    rw [e1, tdiv_pos (by omega), i64w _ (by omega) (by omega)]
    omega
  have hN100 : N ≤ 32 := by omega
  rw [hN, eN]
  refine SVD.seq (SVD.of ?_)
  conv => whnf
  repeat' (((with_reducible refine EvLd.q HS (by repeat first | exact .h | apply Spot.t) ?_); (conv => whnf); intro hC) <;> conv => whnf)
  refine EvMk.mk (by omega) (by omega) (by omega) (by omega) ?_
  conv => whnf
  refine EvNew.sep HS ?_
  intro ba gba HS1 xba
  replace HS := HS1
  clear HS1
  conv => whnf
  conv => whnf
  refine EvNew.sep HS ?_
  intro bo gbo HS1 xbo
  replace HS := HS1
  clear HS1
  conv => whnf
  repeat' (((with_reducible refine EvSt.q HS (by repeat first | exact .h | apply Spot.t) ?_); (conv => whnf); intro hN HS1 hU; replace HS := HS1; clear HS1) <;> conv => whnf)
  rw [Int.toNat_natCast] at HS
  have HS2 := HS.front 1 rfl
  dsimp only [List.eraseIdx] at HS2
  rw [mkCells_one, ← List.append_nil (List.replicate _ _)] at HS2
  have HS3 := (HS2.row (n := f.ch.n) (c := f.ch.n) (by simp) (by simp)).rgNil (enc := eW) (T := 96)
  clear HS HS2
  have HS := HS3
  clear HS3
  obtain ⟨A, hA⟩ : ∃ A : Option Addr, some ⟨ba, 0, none⟩ = A := ⟨_, rfl⟩
  rw [hA] at HS
  refine SVD.seq (SVD.of ?_)
  conv => whnf
  repeat' (((with_reducible refine EvLd.q HS (by repeat first | exact .h | apply Spot.t) ?_); (conv => whnf); intro hC) <;> conv => whnf)
  refine EvLoop.keep ([6, 28, 29, 30, 31, 32, 33, 34, 35, 36], 16) (α := Nat × List (Rg Nat)) (fun (k, _) => [(28, .int .i64 k), (27, .int .i64 f.ch.n)]) (fun (k, xs) h' => k ≤ f.ch.n ∧ (∀ (i : Nat) x, i < k → xs[i]? = some x → x.l = List.replicate N 0) ∧ Sep h h' [RgP eW 58 96 A f.ch.n f.ch.n xs, Bx bo [.slice A f.ch.n f.ch.n] 56, Bx bm [.map (some rm)] 76, MapP rm (labM f.cl), Bx bf (fcs f) 31]) (fun (k, _) => f.ch.n - k) (0, _) (by (repeat' (first | exact trivial | refine ⟨rfl, ?_⟩))) ⟨Nat.zero_le _, (fun i x hi => absurd hi (Nat.not_lt_zero _)), HS⟩ ?_
  clear HS
  rintro ⟨k, xs⟩ h5 ⟨hk, hxs, HS⟩
  conv => whnf
  obtain hlt | hge := Nat.lt_or_ge k f.ch.n
  · have hyl := (HS.rgl 0 rfl).1
    repeat' ((first | ((with_reducible refine EvDraw.ord (id := 7) (.go 0 (.go 1 (.go 2 (.alt 3 (.go 4 (.alt 5 .done .stop)) .stop)))) fol ?_ ?_ ?_); kernel_rfl; kernel_rfl) | (with_reducible first | refine EvSeq.go ?_ | refine EvIf.tt ?_ | refine EvIf.ff ?_) | ((with_reducible refine EvIf.mk (fun c => ?_) (fun c => ?_)) <;> (try simp only [cs_] at c) <;> (try (exfalso; first | omega | (revert c; decide)))) | ((with_reducible refine EvLd.q HS (by repeat first | exact .h | apply Spot.t) ?_); (conv => whnf); intro hC)) <;> conv => whnf)
    refine EvMk.mk (by omega) (by omega) (by omega) (by omega) ?_
    conv => whnf
    refine EvNew.sep HS ?_
    intro bw gbw HS1 xbw
    replace HS := HS1
    clear HS1
    conv => whnf
    have HS2 := Sep.mkrow (enc := eW) (z := 0) (n := N) HS
    clear HS
    have HS := HS2
    clear HS2
    conv => whnf
    repeat' ((first | ((with_reducible refine EvIdx.rd (HS.rgr 1 rfl) (by simpa [rhds] using hyl) (by omega) (by omega) ?_); intro bI oI eI hI) | ((with_reducible refine Hole.mk (kK ?_)); clear kK) | ((with_reducible refine EvKeep.cq (A := keepK _ _ (Hole _) _) HS (by repeat first | exact .h | apply Spot.t) ?_); (conv => whnf); (refine ⟨?_, ?_⟩); assumption; intro hC) | ((fail_if_success with_reducible refine EvKeep.hole ?_); (with_reducible refine EvKeep.abs (fun X kK => ?_)))) <;> conv => whnf)
    refine EvSt.rgh (x := ⟨⟨some ⟨bw, 0, none⟩, N, N⟩, List.replicate N 0⟩) HS 1 rfl 0 rfl eI (by omega) ?_
    intro h6 HS2
    clear HS
    have HS := HS2
    clear HS2
    dsimp only [List.eraseIdx] at HS
    conv => whnf
    repeat' (fail <;> conv => whnf)
    refine ⟨(k + 1, _), ⟨congrArg (fun z => some (Value.int .i64 z)) ((i64w _ (by omega) (by omega)).trans (by omega)), (by (repeat' (first | exact trivial | refine ⟨rfl, ?_⟩)))⟩, ⟨by omega, fun i x hi hx => ?_, HS⟩, by show _ - (k + 1) < _ - k; omega⟩
    rw [List.getElem?_set] at hx
    split at hx
    · rw [if_pos (by omega)] at hx
      cases hx
      rfl
    · rename_i hne
      exact hxs i x (by simp at hne; omega) hx
  · repeat' ((first | (with_reducible first | refine EvSeq.go ?_ | refine EvIf.tt ?_ | refine EvIf.ff ?_) | ((with_reducible refine EvIf.mk (fun c => ?_) (fun c => ?_)) <;> (try simp only [cs_] at c) <;> (try (exfalso; first | omega | (revert c; decide))))) <;> conv => whnf)
    obtain rfl : k = f.ch.n := by omega
    refine SVD.seq (SVD.of ?_)
    conv => whnf
    repeat' (fail <;> conv => whnf)
    refine EvMk.mk (by omega) (by omega) (by omega) (by omega) ?_
    conv => whnf
    refine EvNew.sep HS ?_
    intro bw gbw HS1 xbw
    replace HS := HS1
    clear HS1
    conv => whnf
    have HS2 := Sep.mkrow (enc := eW) (z := 0) (n := N) HS
    clear HS
    have HS := HS2
    clear HS2
    conv => whnf
    refine EvNew.sep HS ?_
    intro bn gbn HS1 xbn
    replace HS := HS1
    clear HS1
    conv => whnf
    repeat' (((with_reducible refine EvSt.q HS (by repeat first | exact .h | apply Spot.t) ?_); (conv => whnf); intro hN HS1 hU; replace HS := HS1; clear HS1) <;> conv => whnf)
    refine SVD.seq ?_
    refine SVD.seq (SVD.of ?_)
    conv => whnf
    refine EvNew.sep HS ?_
    intro b8 gb8 HS1 xb8
    replace HS := HS1
    clear HS1
    conv => whnf
    repeat' (((with_reducible refine EvSt.q HS (by repeat first | exact .h | apply Spot.t) ?_); (conv => whnf); intro hN HS1 hU; replace HS := HS1; clear HS1) <;> conv => whnf)
    obtain ⟨Aw, hAw⟩ : ∃ Aw : Option Addr, some ⟨bw, 0, none⟩ = Aw := ⟨_, rfl⟩
    rw [hAw] at HS
    have HS2 : Sep h _ (Bx b8 [.bool true] 4 :: Bx bn [.slice Aw N N] 58 :: Sl 96 Aw N N ((List.replicate N 0).map eW) :: RgP eW 58 96 A f.ch.n f.ch.n xs :: Bx bo [.slice A f.ch.n f.ch.n] 56 :: Bx bm [.map (some rm)] 76 :: MapP rm (labM f.cl) :: Bx bf (fcs f) 31 :: []) := HS
    clear HS
    have HS : Sep h _ (All (DefP []) :: _) := HS2.fold (DefP [])
    clear HS2
    have hxl0 := (HS.rgl 4 rfl).1
    have hx0 : ∀ (i : Nat) x, xs[i]? = some x → x.l = List.replicate N 0 := fun i x hx => hxs i x (by have := (List.getElem?_eq_some_iff.mp hx).1; omega) hx
    have hb0 : ∀ i r, ¬ bs xs i r := fun i r hb => by
      obtain ⟨x, hx, hb⟩ := hb
      rw [hx0 i x hx, bt_zero] at hb
      cases hb
    have hw0 : Wd N xs := ⟨fun x hx => by
      obtain ⟨i, hi⟩ := List.getElem?_of_mem hx
      rw [hx0 i x hi]
      exact ⟨by simp, fun w hw => by rw [List.eq_of_mem_replicate hw]; decide⟩⟩
    refine SVD.block ?_
    refine SVD.keep ([8, 9, 10, 11, 12, 13, 15, 39, 40, 41, 42, 45, 46, 47, 48, 49, 50, 51, 52, 53, 54, 55, 56, 57, 58, 59, 60, 61, 62, 63, 64, 65, 66, 67, 68, 69, 70, 71, 72, 73, 74, 75, 76, 77, 78, 79, 80, 81, 82, 83, 84, 85, 86, 87, 88, 89, 90, 91, 92, 93, 94, 95, 96, 97, 98, 99, 100, 101, 102, 103, 104, 105, 106, 107, 108, 109, 110, 111, 112, 113, 114, 115, 116, 117, 118, 119, 120, 121, 122], 16) (α := Nat × Bool × List (Rg Nat) × List Nat) (fun (b8, _) => [(8, .pointer (some ⟨b8, 0, none⟩))])
      (fun (b8, m, zs, V) h' Ds => Wd N zs ∧ (∀ i r, bs zs i r → Lv f.cl i r) ∧ (∀ i r, bs zs i r → fw f.cl zs i r) ∧ (m = false → ∀ i r, fw f.cl zs i r → bs zs i r) ∧ B64 V ∧
        Sep h h' (AddL bo bn A f.ch.n f.ch.n zs Aw N N V [Bx bm [.map (some rm)] 76, MapP rm (labM f.cl), Bx bf (fcs f) 31, Bx b8 [.bool m] 4, All (DefP Ds)]))
      (fun (_, m, zs, _) => 2 * tot N zs + m.toNat) (b8, true, xs, List.replicate N 0) (by (repeat' (first | exact trivial | refine ⟨rfl, ?_⟩))) ⟨hw0, (fun i r hb => absurd hb (hb0 i r)), (fun i r hb => absurd hb (hb0 i r)), (fun e => by cases e), (fun w hw => by rw [List.eq_of_mem_replicate hw]; decide), HS.pk (by (repeat' (first | exact PK.nil | with_reducible refine PK.q (by repeat first | exact .h | apply Del.t) ?_)))⟩ ?_
    clear HS hb0 hw0 hx0 hxs hxl0
    rintro ⟨d8, mo, zs, V0⟩ h7 Ds ⟨zw, zsnd, zpre, zcl, zb, HS⟩
    refine SVD.seq (SVD.of ?_)
    conv => whnf
    repeat' ((first | ((with_reducible refine EvIf.mk (fun c => ?_) (fun c => ?_)) <;> (try simp only [cs_] at c) <;> (try (exfalso; first | omega | (revert c; decide)))) | ((with_reducible refine EvLd.q HS (by repeat first | exact .h | apply Spot.t) ?_); (conv => whnf); intro hC)) <;> conv => whnf)
    · obtain rfl : mo = true := c
      refine SVD.seq (SVD.block (SVD.seq (SVD.of ?_)))
      conv => whnf
      repeat' (((with_reducible refine EvSt.q HS (by repeat first | exact .h | apply Spot.t) ?_); (conv => whnf); intro hN HS1 hU; replace HS := HS1; clear HS1) <;> conv => whnf)
      refine SVD.seq (SVD.of ?_)
      conv => whnf
      repeat' (((with_reducible refine EvLd.q HS (by repeat first | exact .h | apply Spot.t) ?_); (conv => whnf); intro hC) <;> conv => whnf)
      refine EvCall.mk ((backM_c _ _ _).mono ?_)
      rintro _ h8 ⟨bq, rfl, HS1⟩
      replace HS := HS.join1 HS1
      clear HS1
      conv => whnf
      repeat' (fail <;> conv => whnf)
      refine SVD.block (SVD.range (gf := fBk) (lb := #[.pointer (some ⟨bq, 0, none⟩)]) rfl HS ?_)
      intro l D r fnn at_ h9 hr hag HS9
      refine (back_c (T := 29) (cl := f.cl) (n := f.ch.n) (A := f.ch.a) (c := f.ch.c) (fun k h2 => ∃ m ys V, RW f.cl N zs k m ys ∧ B64 V ∧ Sep h h2 (Pt l (.loop r) :: Pt D (.deferred (some [])) :: Bx bq [f.ch.v] 29 :: AddL bo bn A f.ch.n f.ch.n ys Aw N N V [Bx bm [.map (some rm)] 76, MapP rm (labM f.cl), Bx bf (fcs f) 31, Bx d8 [.bool m] 4, All (DefP Ds)])) ?_ ?_ ⟨false, zs, V0, RW.start zw zsnd zpre, zb, HS9⟩ (by omega)).mono ?_
      · rintro k h1 ⟨m, ys, V, _, _, HS⟩
        exact ⟨HS.pt_i 2 rfl, o.c.ext HS.to_ext⟩
      · clear HS9 HS zb
        rintro k i x h1 hik hx ⟨m, ys, V, rw, vb, HS⟩
        refine round_ok (M := []) hr hag (by decide) rfl (by rw [List.append_nil]; exact HS) ?_
        conv => whnf
        refine EvNew.sep HS ?_
        intro bx gbx HS1 xbx
        replace HS := HS1
        clear HS1
        conv => whnf
        repeat' (((with_reducible refine EvSt.q HS (by repeat first | exact .h | apply Spot.t) ?_); (conv => whnf); intro hN HS1 hU; replace HS := HS1; clear HS1) <;> conv => whnf)
        have HS0 : Sep h _ (Bx bx x.cells 67 :: _) := HS
        clear HS
        refine ⟨AddL bo bn A f.ch.n f.ch.n ys Aw N N V [Bx bx x.cells 67, Bx bm [.map (some rm)] 76, MapP rm (labM f.cl), Bx bf (fcs f) 31, Bx d8 [.bool m] 4, Bx bq [f.ch.v] 29, Pt D (.deferred (some [])), All (DefP Ds)], (show Sep h _ (AddL bo bn A f.ch.n f.ch.n ys Aw N N V [Bx bx x.cells 67, Bx bm [.map (some rm)] 76, MapP rm (labM f.cl), Bx bf (fcs f) 31, Bx d8 [.bool m] 4, Bx bq [f.ch.v] 29, Pt D (.deferred (some [])), All (DefP Ds), Pt l (.loop r)]) from HS0.pk (by (repeat' (first | exact PK.nil | with_reducible refine PK.q (by repeat first | exact .h | apply Del.t) ?_)))), fun h2 HS2 => ?_⟩
        clear HS0
        have HS : Sep h h2 (AddL bo bn A f.ch.n f.ch.n ys Aw N N V [Bx bx x.cells 67, Bx bm [.map (some rm)] 76, MapP rm (labM f.cl), Bx bf (fcs f) 31, Bx d8 [.bool m] 4, Bx bq [f.ch.v] 29, Pt D (.deferred (some [])), All (DefP Ds), Pt l (.loop { r with state := .busy })]) := HS2
        clear HS2
        conv => whnf
        repeat' ((first | ((refine EvClr.slx HS 3 rfl ?_); intro hC HS2; clear HS; have HS := HS2; clear HS2; (dsimp only [List.set] at HS)) | ((with_reducible refine EvLd.q HS (by repeat first | exact .h | apply Spot.t) ?_); (conv => whnf); intro hC)) <;> conv => whnf)
        have ox := o.c.at_ hx
        have hyl := (HS.rgl 2 rfl).1
        have h00 : B64 (List.replicate N 0) := fun w hw => by rw [List.eq_of_mem_replicate hw]; decide
        refine EvSeq.keepcut ([], 16) (α := List Nat) (fun _ => []) (fun V h' => B64 V ∧ (∀ r, bt V r = true ↔ ∃ j : Nat, (j : Int) ∈ nx f.cl i x ∧ bs ys j r) ∧ Sep h h' (AddL bo bn A f.ch.n f.ch.n ys Aw N N V [Bx bx x.cells 67, Bx bm [.map (some rm)] 76, MapP rm (labM f.cl), Bx bf (fcs f) 31, Bx d8 [.bool m] 4, Bx bq [f.ch.v] 29, Pt D (.deferred (some [])), All (DefP Ds), Pt l (.loop { r with state := .busy })])) ?_ ?_
        · have hc : x.op = 14 ∨ (x.op ≠ 14 ∧ x.op = 12) ∨ (x.op ≠ 14 ∧ x.op ≠ 12 ∧ x.op = 13) ∨ (x.op ≠ 14 ∧ x.op ≠ 12 ∧ x.op ≠ 13) := by omega
          rcases hc with e | e | e | e
          · have en : nx f.cl i x = [] := by unfold nx; rw [if_pos e]
            conv => whnf
            repeat' ((first | ((with_reducible refine EvIf.mk (fun c => ?_) (fun c => ?_)) <;> (try simp only [cs_] at c) <;> (try (exfalso; first | omega | (revert c; decide)))) | ((with_reducible refine EvLd.q HS (by repeat first | exact .h | apply Spot.t) ?_); (conv => whnf); intro hC)) <;> conv => whnf)
            refine ⟨List.replicate N 0, (by (repeat' (first | exact trivial | refine ⟨rfl, ?_⟩))), h00, fun r => ?_, HS⟩
            rw [bt_zero, en]
            simp
          · have en : nx f.cl i x = [lab f.cl x.n] := by unfold nx; rw [if_neg e.1, if_pos e.2]
            have gb := g.next hx (j := lab f.cl x.n) (by rw [en]; simp)
            obtain ⟨j, ej⟩ : ∃ j : Nat, lab f.cl x.n = j := ⟨(lab f.cl x.n).toNat, by omega⟩
            obtain ⟨y, hy⟩ : ∃ y, ys[j]? = some y := ⟨_, List.getElem?_eq_getElem (by omega)⟩
            have wy := rw.w.at_ hy
            conv => whnf
            repeat' ((first | ((with_reducible refine EvLook.lb HS (by repeat first | exact .h | apply Spot.t) (fun hg => absurd gb.1 hg) (fun hg => ?_))) | ((with_reducible refine EvCall.fn 65 ?_); (with_reducible refine HC.mono (add_i HS ej hy wy.1 (by omega) h00 wy.2) ?_); rintro _ hN ⟨rfl, HS2⟩; clear HS; have HS := HS2; clear HS2) | ((with_reducible refine EvIf.mk (fun c => ?_) (fun c => ?_)) <;> (try simp only [cs_] at c) <;> (try (exfalso; first | omega | (revert c; decide)))) | ((with_reducible refine EvLd.q HS (by repeat first | exact .h | apply Spot.t) ?_); (conv => whnf); intro hC)) <;> conv => whnf)
            refine ⟨_, (by (repeat' (first | exact trivial | refine ⟨rfl, ?_⟩))), orW_64 h00 wy.2, fun r => ?_, HS⟩
            rw [bt_or (by simp [wy.1]), bt_zero, Bool.false_or, en, ej]
            exact nx1 hy r
          · have en : nx f.cl i x = [(i : Int) + 1, lab f.cl x.n] := by unfold nx; rw [if_neg e.1, if_neg e.2.1, if_pos e.2.2]
            have gb := g.next hx (j := lab f.cl x.n) (by rw [en]; simp)
            have gb2 := g.next hx (j := (i : Int) + 1) (by rw [en]; simp)
            obtain ⟨j, ej⟩ : ∃ j : Nat, lab f.cl x.n = j := ⟨(lab f.cl x.n).toNat, by omega⟩
            obtain ⟨y, hy⟩ : ∃ y, ys[j]? = some y := ⟨_, List.getElem?_eq_getElem (by omega)⟩
            have wy := rw.w.at_ hy
            have ej2 : IntKind.i64.wrap ((i : Int) + 1) = ((i + 1 : Nat) : Int) := i64w _ (by omega) (by omega)
            obtain ⟨y2, hy2⟩ : ∃ y, ys[i + 1]? = some y := ⟨_, List.getElem?_eq_getElem (by omega)⟩
            have wy2 := rw.w.at_ hy2
            conv => whnf
            repeat' ((first | ((with_reducible refine EvLook.lb HS (by repeat first | exact .h | apply Spot.t) (fun hg => absurd gb.1 hg) (fun hg => ?_))) | ((with_reducible refine EvCall.fn 65 ?_); (with_reducible first | refine HC.mono (add_i HS ej hy wy.1 (by omega) h00 wy.2) ?_ | refine HC.mono (add_i HS ej2 hy2 wy2.1 (by omega) (orW_64 h00 wy.2) wy2.2) ?_); rintro _ hN ⟨rfl, HS2⟩; clear HS; have HS := HS2; clear HS2) | ((with_reducible refine EvIf.mk (fun c => ?_) (fun c => ?_)) <;> (try simp only [cs_] at c) <;> (try (exfalso; first | omega | (revert c; decide)))) | ((with_reducible refine EvLd.q HS (by repeat first | exact .h | apply Spot.t) ?_); (conv => whnf); intro hC)) <;> conv => whnf)
            refine ⟨_, (by (repeat' (first | exact trivial | refine ⟨rfl, ?_⟩))), orW_64 (orW_64 h00 wy.2) wy2.2, fun r => ?_, HS⟩
            rw [bt_or (by rw [orW_len (by simp [wy.1])]; simp [wy2.1]), bt_or (by simp [wy.1]), bt_zero, Bool.false_or, en, ej]
            exact nx2 hy hy2 r
          · have en : nx f.cl i x = [(i : Int) + 1] := by unfold nx; rw [if_neg e.1, if_neg e.2.1, if_neg e.2.2]
            have gb2 := g.next hx (j := (i : Int) + 1) (by rw [en]; simp)
            have ej2 : IntKind.i64.wrap ((i : Int) + 1) = ((i + 1 : Nat) : Int) := i64w _ (by omega) (by omega)
            obtain ⟨y2, hy2⟩ : ∃ y, ys[i + 1]? = some y := ⟨_, List.getElem?_eq_getElem (by omega)⟩
            have wy2 := rw.w.at_ hy2
            conv => whnf
            repeat' ((first | ((with_reducible refine EvCall.fn 65 ?_); (with_reducible refine HC.mono (add_i HS ej2 hy2 wy2.1 (by omega) h00 wy2.2) ?_); rintro _ hN ⟨rfl, HS2⟩; clear HS; have HS := HS2; clear HS2) | ((with_reducible refine EvIf.mk (fun c => ?_) (fun c => ?_)) <;> (try simp only [cs_] at c) <;> (try (exfalso; first | omega | (revert c; decide)))) | ((with_reducible refine EvLd.q HS (by repeat first | exact .h | apply Spot.t) ?_); (conv => whnf); intro hC)) <;> conv => whnf)
            refine ⟨_, (by (repeat' (first | exact trivial | refine ⟨rfl, ?_⟩))), orW_64 h00 wy2.2, fun r => ?_, HS⟩
            rw [bt_or (by simp [wy2.1]), bt_zero, Bool.false_or, en]
            exact nx1 hy2 r
        · clear HS
          rintro V1 h3 ⟨vb1, hv1, HS⟩
          conv => whnf
          repeat' ((first | ((with_reducible refine EvCall.fn 42 ?_); (refine HC.mono (iUses_c (x := x) (ox.ext HS.to_ext) (g.iok hx)) ?_); rintro _ hN ⟨UA, un, uc, UL, UM, rfl, hul, hun, hur0, hum, HS2⟩; replace HS := HS.join1 HS2; clear HS2) | (with_reducible refine EvLdN.q HS (by repeat first | exact .h | apply Spot.t) (fun hC => ?_))) <;> conv => whnf)
          have hur : ∀ h2 M, Sep h h2 (All UM :: M) → Rd h2 UA (ints .i64 UL) := fun h2 M s => hur0 h h2 M ox s
          clear hur0
          have hst := g.set hx
          have HS3 := HS.pk (M := AddL bo bn A f.ch.n f.ch.n ys Aw N N V1 [Bx bx x.cells 67, Bx bm [.map (some rm)] 76, MapP rm (labM f.cl), Bx bf (fcs f) 31, Bx d8 [.bool m] 4, Bx bq [f.ch.v] 29, Pt D (.deferred (some [])), All (DefP Ds), Pt l (.loop { r with state := .busy }), All UM]) (by (repeat' (first | exact PK.nil | with_reducible refine PK.q (by repeat first | exact .h | apply Del.t) ?_)))
          clear HS
          have HS := HS3
          clear HS3
          refine EvSeq.keepcut ([], 16) (α := List Nat) (fun _ => []) (fun V h' => B64 V ∧ (∀ r : Nat, bt V r = true ↔ bt V1 r = true ∧ (r : Int) ≠ st x) ∧ Sep h h' (AddL bo bn A f.ch.n f.ch.n ys Aw N N V [Bx bx x.cells 67, Bx bm [.map (some rm)] 76, MapP rm (labM f.cl), Bx bf (fcs f) 31, Bx d8 [.bool m] 4, Bx bq [f.ch.v] 29, Pt D (.deferred (some [])), All (DefP Ds), Pt l (.loop { r with state := .busy }), All UM])) ?_ ?_
          · have hlv := HS.mem_rd 3 rfl
            conv => whnf
            repeat' ((first | ((with_reducible refine EvDraw.ord (id := 28) (.go 0 (.go 1 (.go 2 (.go 3 (.go 4 (.go 5 (.go 6 (.go 7 (.go 8 (.go 9 (.alt 10 .done .stop))))))))))) fol ?_ ?_ ?_); kernel_rfl; kernel_rfl) | ((with_reducible refine EvIf.mk (fun c => ?_) (fun c => ?_)) <;> (try simp only [cs_] at c) <;> (try (exfalso; first | omega | (revert c; decide)))) | ((with_reducible first | refine EvNe.mk ?_ ?_ | refine EvGe.mk ?_ ?_); (first | decide | omega)) | ((with_reducible refine EvLd.q HS (by repeat first | exact .h | apply Spot.t) ?_); (conv => whnf); intro hC)) <;> conv => whnf)
            · obtain ⟨s, hs⟩ : ∃ s : Nat, st x = s := ⟨(st x).toNat, by omega⟩
              have hq := word_at hs (by omega)
              obtain ⟨w, hw⟩ : ∃ w, V1[s / 64]? = some w := ⟨_, List.getElem?_eq_getElem (by omega)⟩
              have hq1 := hq.1
              have hq2 := hq.2
              have vw : (V1.map eW)[(IntKind.i64.wrap ((st x).tdiv 64)).toNat]? = some (eW w) := by rw [hq.1, Int.toNat_natCast, List.getElem?_map, hw]; rfl
              repeat' ((first | ((with_reducible refine EvIdx.rd (vs := V1.map eW) (HS.rd 3 rfl) (by simp; omega) (by omega) (by omega) ?_); intro bI oI eI hI) | ((with_reducible refine EvLd.rowv (by assumption) vw ?_)) | ((with_reducible first | refine EvNe.mk ?_ ?_ | refine EvGe.mk ?_ ?_); (first | decide | omega))) <;> conv => whnf)
              refine EvSt.slx HS 3 rfl eI (by omega) ?_
              intro h4 HS2
              clear HS
              have HS := HS2
              clear HS2
              dsimp only [List.set] at HS
              conv => whnf
              repeat' (fail <;> conv => whnf)
              rw [cut_cell V1 hs (by omega) (vb1.at_ hw)] at HS
              refine ⟨_, (by (repeat' (first | exact trivial | refine ⟨rfl, ?_⟩))), vb1.set (Nat.lt_of_le_of_lt Nat.and_le_left (vb1.at_ hw)), fun q => ?_, HS⟩
              rw [bt_cut hw (vb1.at_ hw), hs, Bool.and_eq_true, decide_eq_true_eq]
              exact ⟨fun e => ⟨e.1, by omega⟩, fun e => ⟨e.1, by omega⟩⟩
            · exact ⟨V1, (by (repeat' (first | exact trivial | refine ⟨rfl, ?_⟩))), vb1, fun r => ⟨fun e => ⟨e, by omega⟩, fun e => e.1⟩, HS⟩
          · clear HS
            rintro V2 h4 ⟨vb2, hv2, HS⟩
            conv => whnf
            repeat' ((with_reducible first | refine EvSeq.go ?_ | refine EvIf.tt ?_ | refine EvIf.ff ?_) <;> conv => whnf)
            refine EvLoop.keep ([15, 94, 95, 96, 97, 98, 99, 100, 101, 102, 103, 104, 105, 106, 107, 108], 16) (α := Nat × List Nat) (fun (k, _) => [(94, .int .i64 k), (93, .int .i64 un), (92, .slice UA un uc)]) (fun (k, V) h' => k ≤ un ∧ B64 V ∧ (∀ q : Nat, bt V q = true ↔ bt V2 q = true ∨ (q : Int) ∈ UL.take k) ∧ Sep h h' (AddL bo bn A f.ch.n f.ch.n ys Aw N N V [Bx bx x.cells 67, Bx bm [.map (some rm)] 76, MapP rm (labM f.cl), Bx bf (fcs f) 31, Bx d8 [.bool m] 4, Bx bq [f.ch.v] 29, Pt D (.deferred (some [])), All (DefP Ds), Pt l (.loop { r with state := .busy }), All UM])) (fun (k, _) => un - k) (0, V2) (by (repeat' (first | exact trivial | refine ⟨rfl, ?_⟩))) ⟨Nat.zero_le _, vb2, (fun q => by simp), HS⟩ ?_
            clear HS
            rintro ⟨j, V⟩ h5 ⟨hj, vb, hv, HS⟩
            have hlv := HS.mem_rd 3 rfl
            conv => whnf
            obtain hlt | hge := Nat.lt_or_ge j un
            · have ur := hur _ _ (HS.front 13 rfl)
              obtain ⟨u, hu⟩ : ∃ u, UL[j]? = some u := ⟨_, List.getElem?_eq_getElem (by omega)⟩
              have gu := g.use hx ((hum u).mp (List.mem_of_getElem? hu))
              obtain ⟨s, hs⟩ : ∃ s : Nat, u = s := ⟨u.toNat, by omega⟩
              have hq := word_at hs (by omega)
              have hq1 := hq.1
              have hq2 := hq.2
              obtain ⟨w, hw⟩ : ∃ w, V[s / 64]? = some w := ⟨_, List.getElem?_eq_getElem (by omega)⟩
              have vu : (ints .i64 UL)[((j : Int)).toNat]? = some (.int .i64 u) := by simp [hu]
              have vw : (V.map eW)[(IntKind.i64.wrap (u.tdiv 64)).toNat]? = some (eW w) := by rw [hq.1, Int.toNat_natCast, List.getElem?_map, hw]; rfl
              repeat' ((first | ((with_reducible refine EvDraw.ord (id := 32) (.go 0 (.go 1 (.go 2 (.go 3 (.go 4 (.go 5 (.go 6 (.go 7 (.go 8 (.go 9 (.alt 10 .done .stop))))))))))) fol ?_ ?_ ?_); kernel_rfl; kernel_rfl) | ((with_reducible refine EvIdx.rd (vs := ints .i64 UL) ur (by simp; omega) (by omega) (by omega) ?_); intro bI oI eI hI) | ((with_reducible refine EvLd.rowv (by assumption) vu ?_)) | ((with_reducible refine EvIdx.rd (vs := V.map eW) (HS.rd 3 rfl) (by simp; omega) (by omega) (by omega) ?_); intro bI oI eI hI) | ((with_reducible refine EvLd.rowv (by assumption) vw ?_)) | (with_reducible first | refine EvSeq.go ?_ | refine EvIf.tt ?_ | refine EvIf.ff ?_) | ((with_reducible refine EvIf.mk (fun c => ?_) (fun c => ?_)) <;> (try simp only [cs_] at c) <;> (try (exfalso; first | omega | (revert c; decide)))) | ((with_reducible first | refine EvNe.mk ?_ ?_ | refine EvGe.mk ?_ ?_); (first | decide | omega)) | ((with_reducible refine EvLd.q HS (by repeat first | exact .h | apply Spot.t) ?_); (conv => whnf); intro hC)) <;> conv => whnf)
              refine EvSt.slx HS 3 rfl eI (by omega) ?_
              intro h4 HS2
              clear HS
              have HS := HS2
              clear HS2
              dsimp only [List.set] at HS
              conv => whnf
              repeat' (fail <;> conv => whnf)
              rw [put_cell V hs (by omega) (vb.at_ hw)] at HS
              refine ⟨(j + 1, _), ⟨congrArg (fun z => some (Value.int .i64 z)) ((i64w _ (by omega) (by omega)).trans (by omega)), (by (repeat' (first | exact trivial | refine ⟨rfl, ?_⟩)))⟩, ⟨by omega, vb.set (put_lt (vb.at_ hw)), fun q => ?_, HS⟩, by show un - (j + 1) < un - j; omega⟩
              rw [bt_put hw, Bool.or_eq_true, decide_eq_true_eq, hv, List.take_add_one, hu, List.mem_append, or_assoc]
              simp only [Option.toList_some, List.mem_singleton, hs, Int.natCast_inj]
            · obtain rfl : j = un := by omega
              have hf : ∀ q, bt V q = true ↔ fw f.cl ys i q := fun q => by
                rw [hv, hv2, hv1, List.take_of_length_le (by omega), hum]
                exact ⟨fun e => ⟨x, hx, e.symm.imp id (fun e => ⟨e.2, e.1⟩)⟩, fun ⟨x', hx', e⟩ => by
                  rw [hx] at hx'
                  cases hx'
                  exact e.symm.imp (fun e => ⟨e.2, e.1⟩) id⟩
              obtain ⟨y, hy⟩ : ∃ y, ys[i]? = some y := ⟨_, List.getElem?_eq_getElem (by omega)⟩
              have wy := rw.w.at_ hy
              have hyr := HS.rgx 2 rfl hy
              have hyn := hyr.2
              have hyN : y.h.n = N := by omega
              have rs := rw.step (by omega) hy hlv vb hf
              by_cases hvy : V = y.l
              · repeat' ((first | ((with_reducible refine EvDraw.ord (id := 34) (.go 0 (.go 1 (.go 2 (.go 3 (.go 4 (.alt 5 (.go 6 .done) .stop)))))) fol ?_ ?_ ?_); kernel_rfl; kernel_rfl) | ((with_reducible refine EvIdx.rd (HS.rgr 2 rfl) (by simpa [rhds] using hyl) (by omega) (by omega) ?_); intro bI oI eI hI) | ((with_reducible refine EvLd.rowv (by assumption) (rhds_at hy) ?_)) | ((with_reducible refine EvCall.fn 66 ?_); (with_reducible refine HC.mono (eqW_c (HS.rd 3 rfl) hlv hyr.1 hyn (by omega) (by omega)) ?_); rintro _ _ ⟨rfl, rfl⟩; rw [decide_eq_true hvy]) | (with_reducible first | refine EvSeq.go ?_ | refine EvIf.tt ?_ | refine EvIf.ff ?_) | ((with_reducible refine Hole.mk (kK ?_)); clear kK) | ((with_reducible refine EvIf.mk (fun c => ?_) (fun c => ?_)) <;> (try simp only [cs_] at c) <;> (try (exfalso; first | omega | (revert c; decide)))) | ((with_reducible refine EvLd.q HS (by repeat first | exact .h | apply Spot.t) ?_); (conv => whnf); intro hC) | ((with_reducible refine EvKeep.cq (A := keepK _ _ (Hole _) _) HS (by repeat first | exact .h | apply Spot.t) ?_); (conv => whnf); (refine ⟨?_, ?_⟩); assumption; intro hC) | ((fail_if_success with_reducible refine EvKeep.hole ?_); (with_reducible refine EvKeep.abs (fun X kK => ?_)))) <;> conv => whnf)
                refine ⟨AddL bo bn A f.ch.n f.ch.n ys Aw N N V [Bx bx x.cells 67, Bx bm [.map (some rm)] 76, MapP rm (labM f.cl), Bx bf (fcs f) 31, Bx d8 [.bool m] 4, Bx bq [f.ch.v] 29, Pt D (.deferred (some [])), All (DefP Ds), All UM], (show Sep h _ (AddL bo bn A f.ch.n f.ch.n ys Aw N N V [Bx bx x.cells 67, Bx bm [.map (some rm)] 76, MapP rm (labM f.cl), Bx bf (fcs f) 31, Bx d8 [.bool m] 4, Bx bq [f.ch.v] 29, Pt D (.deferred (some [])), All (DefP Ds), All UM, Pt l (.loop { r with state := .busy })]) from HS.pk (by (repeat' (first | exact PK.nil | with_reducible refine PK.q (by repeat first | exact .h | apply Del.t) ?_)))), fun h8 HS2 => ⟨m, ys, V, rs.1 hvy, vb, (show Sep h h8 (Pt l (.loop r) :: AddL bo bn A f.ch.n f.ch.n ys Aw N N V [Bx bx x.cells 67, Bx bm [.map (some rm)] 76, MapP rm (labM f.cl), Bx bf (fcs f) 31, Bx d8 [.bool m] 4, Bx bq [f.ch.v] 29, Pt D (.deferred (some [])), All (DefP Ds), All UM]) from HS2).pk (by (repeat' (first | exact PK.nil | with_reducible refine PK.q (by repeat first | exact .h | apply Del.t) ?_)))⟩⟩
              · repeat' ((first | ((with_reducible refine EvDraw.ord (id := 34) (.go 0 (.go 1 (.go 2 (.go 3 (.go 4 (.alt 5 (.go 6 .done) .stop)))))) fol ?_ ?_ ?_); kernel_rfl; kernel_rfl) | ((with_reducible refine EvDraw.ord (id := 35) (.go 0 (.go 1 (.go 2 (.go 3 (.go 4 (.alt 5 .done .stop)))))) fol ?_ ?_ ?_); kernel_rfl; kernel_rfl) | ((with_reducible refine EvIdx.rd (HS.rgr 2 rfl) (by simpa [rhds] using hyl) (by omega) (by omega) ?_); intro bI oI eI hI) | ((with_reducible refine EvLd.rowv (by assumption) (rhds_at hy) ?_)) | ((with_reducible refine EvCall.fn 66 ?_); (with_reducible refine HC.mono (eqW_c (HS.rd 3 rfl) hlv hyr.1 hyn (by omega) (by omega)) ?_); rintro _ _ ⟨rfl, rfl⟩; rw [decide_eq_false hvy]) | ((refine EvCpy.rg HS 2 rfl hy 3 rfl hyN ?_); intro hC HS2; clear HS; have HS := HS2; clear HS2; (dsimp only [List.set] at HS)) | (with_reducible first | refine EvSeq.go ?_ | refine EvIf.tt ?_ | refine EvIf.ff ?_) | ((with_reducible refine Hole.mk (kK ?_)); clear kK) | ((with_reducible refine EvIf.mk (fun c => ?_) (fun c => ?_)) <;> (try simp only [cs_] at c) <;> (try (exfalso; first | omega | (revert c; decide)))) | ((with_reducible refine EvLd.q HS (by repeat first | exact .h | apply Spot.t) ?_); (conv => whnf); intro hC) | ((with_reducible refine EvSt.q HS (by repeat first | exact .h | apply Spot.t) ?_); (conv => whnf); intro hN HS1 hU; replace HS := HS1; clear HS1) | ((with_reducible refine EvKeep.cq (A := keepK _ _ (Hole _) _) HS (by repeat first | exact .h | apply Spot.t) ?_); (conv => whnf); (refine ⟨?_, ?_⟩); assumption; intro hC) | ((fail_if_success with_reducible refine EvKeep.hole ?_); (with_reducible refine EvKeep.abs (fun X kK => ?_)))) <;> conv => whnf)
                refine ⟨AddL bo bn A f.ch.n f.ch.n (ys.set i { y with l := V }) Aw N N V [Bx bx x.cells 67, Bx bm [.map (some rm)] 76, MapP rm (labM f.cl), Bx bf (fcs f) 31, Bx d8 [.bool true] 4, Bx bq [f.ch.v] 29, Pt D (.deferred (some [])), All (DefP Ds), All UM], (show Sep h _ (AddL bo bn A f.ch.n f.ch.n (ys.set i { y with l := V }) Aw N N V [Bx bx x.cells 67, Bx bm [.map (some rm)] 76, MapP rm (labM f.cl), Bx bf (fcs f) 31, Bx d8 [.bool true] 4, Bx bq [f.ch.v] 29, Pt D (.deferred (some [])), All (DefP Ds), All UM, Pt l (.loop { r with state := .busy })]) from HS.pk (by (repeat' (first | exact PK.nil | with_reducible refine PK.q (by repeat first | exact .h | apply Del.t) ?_)))), fun h8 HS2 => ⟨true, (ys.set i { y with l := V }), V, rs.2 hvy, vb, (show Sep h h8 (Pt l (.loop r) :: AddL bo bn A f.ch.n f.ch.n (ys.set i { y with l := V }) Aw N N V [Bx bx x.cells 67, Bx bm [.map (some rm)] 76, MapP rm (labM f.cl), Bx bf (fcs f) 31, Bx d8 [.bool true] 4, Bx bq [f.ch.v] 29, Pt D (.deferred (some [])), All (DefP Ds), All UM]) from HS2).pk (by (repeat' (first | exact PK.nil | with_reducible refine PK.q (by repeat first | exact .h | apply Del.t) ?_)))⟩⟩
      · rintro _ h2 ⟨m, ys, V, rw, vb, HS2⟩
        refine ⟨_, HS2, fun h3 HS3 => ?_⟩
        clear HS HS9 HS2
        have HS := HS3
        clear HS3
        conv => whnf
        refine SVD.of ?_
        conv => whnf
        repeat' ((first | ((with_reducible refine EvNew.sep HS ?_); intro bN hN HS1 hX; replace HS := HS1; clear HS1) | ((with_reducible refine EvLd.q HS (by repeat first | exact .h | apply Spot.t) ?_); (conv => whnf); intro hC) | ((with_reducible refine EvSt.q HS (by repeat first | exact .h | apply Spot.t) ?_); (conv => whnf); intro hN HS1 hU; replace HS := HS1; clear HS1)) <;> conv => whnf)
        have HS4 := (HS.pk (M := [All (DefP Ds), Pt D (.deferred (some [])), Bx bN [.bool m] 4, Bx bo [.slice A f.ch.n f.ch.n] 56, Bx bn [.slice Aw N N] 58, RgP eW 58 96 A f.ch.n f.ch.n ys, Sl 96 Aw N N (V.map eW), Bx bm [.map (some rm)] 76, MapP rm (labM f.cl), Bx bf (fcs f) 31]) (by (repeat' (first | exact PK.nil | with_reducible refine PK.q (by repeat first | exact .h | apply Del.t) ?_)))).defCons
        have hc2 : m = false → ∀ i r, fw f.cl ys i r → bs ys i r := fun e i r h => by
          obtain ⟨e1, e2⟩ := rw.same e
          rw [e1] at h ⊢
          exact e2 i r (by omega) h
        refine ⟨(bN, m, ys, V), (by (repeat' (first | exact trivial | refine ⟨rfl, ?_⟩))), ⟨rw.w, rw.snd, rw.pre, hc2, vb, HS4.pk (by (repeat' (first | exact PK.nil | with_reducible refine PK.q (by repeat first | exact .h | apply Del.t) ?_)))⟩, ?_⟩
        show 2 * tot N ys + m.toNat < 2 * tot N zs + 1
        cases m with
        | false =>
          rw [(rw.same rfl).1]
          exact Nat.lt_succ_self _
        | true =>
          have := rw.less rfl
          show 2 * tot N ys + 1 < _
          omega
    · refine SVD.of ?_
      conv => whnf
      repeat' (((with_reducible refine EvLd.q HS (by repeat first | exact .h | apply Spot.t) ?_); (conv => whnf); intro hC) <;> conv => whnf)
      refine ⟨[RgP eW 58 96 A f.ch.n f.ch.n zs], (HS.pk (M := [All (DefP Ds), RgP eW 58 96 A f.ch.n f.ch.n zs]) (by (repeat' (first | exact PK.nil | with_reducible refine PK.q (by repeat first | exact .h | apply Del.t) ?_)))).unfold, fun h' s => ?_⟩
      conv => whnf
      have hzl := (HS.rgl 2 rfl).1
      refine ⟨A, f.ch.n, zs, rfl, zw, fun i r => ⟨fun hb => ?_, fun hb => ?_⟩, s⟩
      · refine ⟨?_, zsnd i r hb⟩
        obtain ⟨y, hy, _⟩ := hb
        have := (List.getElem?_eq_some_iff.mp hy).1
        omega
      · have key : ∀ (i : Nat) (ri : Int), Lv f.cl i ri → ∀ r : Nat, ri = r → bs zs i r := by
          intro i ri h
          induction h with
          | @use i x r h u =>
            intro r' e
            subst e
            exact zcl c i r' ⟨x, h, .inl u⟩
          | @flow i j x r h n l st ih =>
            intro r' e
            subst e
            exact zcl c i r' ⟨x, h, .inr ⟨st, j, n, ih r' rfl⟩⟩
        exact key i r hb.2 r rfl
end Go.Proofs.YtjggmhpjlnmigaaDoor
