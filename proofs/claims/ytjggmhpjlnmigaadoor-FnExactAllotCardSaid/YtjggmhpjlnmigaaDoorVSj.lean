/- Spans: the program's. -/
import Derived.Test.YtjggmhpjlnmigaaDoorVSi
import Derived.Test.YtjggmhpjlnmigaaDoorVLvK
namespace Go.Proofs.YtjggmhpjlnmigaaDoor
open Go.RowKit
set_option maxRecDepth 20000
set_option linter.unusedSimpArgs false
set_option linter.unusedVariables false
theorem EvKeep.rowx {h h' : Hp} {b o : Nat} {i : Int} {vs : List Value} {v : Value} {A : Prop} (x : Ext h h') (hI : hcell h b (o + i.toNat) = vs[i.toNat]?) (e : vs[i.toNat]? = some v) (a : A) : EvKeep h h' b (o + i.toNat * 1) 1 A :=
  EvKeep.one (by rw [Nat.mul_one, hI, e]) (by rw [Nat.mul_one]; exact x.cell (hI.trans e)) a
/-- an append to a row of the call's own -/
theorem EvApp.szk {P : Program} {h0 h : Hp} {L : List Asn} {T : TypeId} {z bytes n c m cx : Nat} {base A : Option Addr} {vs news : List Value} {K : Value → Hp → Prop}
    (s : Sep h0 h (Sz T z base n c vs :: L)) (r : Rd h A news) (hl : news.length = m * z) (hone : ∀ v ∈ news, v.oneCell' = true) (hb : (n + m) * bytes ≤ 140737488355328) (hn : n + m ≤ 1000000000)
    (k : ∀ A' c' h', Rd h' base vs → Sep h0 h' (Sz T z A' (n + m) c' (vs ++ news) :: L) → K (.slice A' (n + m) c') h') : EvApp P T z bytes base n c (.slice A m cx) h K := by
  have q : Rd h base vs := s.rdz 0 rfl
  have ql := (s.lenz 0 rfl).1
  have kk : ∀ h', Sep h0 h' (Sz T z base (n + m) c (vs ++ news) :: L) → K (.slice base (n + m) c) h' := fun h' s' => k base c h' (fun j v e => (s'.rdz 0 rfl) j v (by rw [List.getElem?_append_left (List.getElem?_eq_some_iff.mp e).1]; exact e)) s'
  refine ⟨vs, news, m, fun w _ => rfl, fun w hw => first_run_z r hl w hw, fun w hw => first_run_z q ql w hw, hone, hb, by omega, fun h1 => ?_, fun h1 c' rest h2 h3 => ?_⟩
  · cases hnews : news with
    | nil =>
      refine .inl ⟨rfl, k base c h q ?_⟩
      subst hnews
      refine s.weaken fun S a => ?_
      obtain ⟨a1, a2, a3⟩ := a
      refine ⟨by rw [List.append_nil, a1]; simp at hl; rw [Nat.add_mul]; omega, h1, ?_⟩
      rcases a3 with a3 | ⟨b, pre, rest, e1, e2, e3, e4⟩
      · exact .inl a3
      · exact .inr ⟨b, pre, rest, e1, e2, by rw [List.append_nil]; exact e3, by rw [List.append_nil]; exact e4⟩
    | cons v0 nr =>
      refine .inr ?_
      rw [← hnews]
      have hpos : 0 < news.length := by rw [hnews]; simp
      obtain ⟨S0, a, _⟩ := s.get (List.mem_cons_self)
      obtain ⟨a1, a2, a3⟩ := a
      rcases a3 with a3 | ⟨b, pre, rest, e, hS, hblk, hc⟩
      · subst a3
        obtain rfl : m = 0 := by omega
        rw [Nat.zero_mul] at hl
        omega
      · have hrest : news.length ≤ rest.length := by
          have : (n + m) * z ≤ c * z := Nat.mul_le_mul_right z h1
          rw [Nat.add_mul] at this
          omega
        refine ⟨b, pre.length, _, T, e, hblk, by simp; omega, fun h' u => kk h' ?_⟩
        rw [show (pre ++ (vs ++ rest)).toArray.toList = pre ++ (vs ++ rest) from rfl, ← ql, ovr_mid pre vs rest news hrest] at u
        have hnb : ∀ S', (Sz T z base n c vs).at_ h S' → S' b := by
          rintro S' ⟨_, _, h4 | ⟨b'', pre'', rest'', e'', hS'', _⟩⟩
          · subst h4
            obtain rfl : m = 0 := by omega
            rw [Nat.zero_mul] at hl
            omega
          · rw [e] at e''
            simp only [Option.some.injEq, Addr.mk.injEq] at e''
            exact e''.1 ▸ hS''
        refine s.turn (fun S' a' => ⟨S', ⟨by rw [List.length_append, a1, hl, Nat.add_mul], h1, .inr ⟨b, pre, rest.drop news.length, e, hnb S' a', u.at_, by simp; omega⟩⟩, fun _ hb => .inl hb, fun k _ hk => u.else_ k (fun e => hk (e ▸ hnb S' a'))⟩) (by rw [u.size]; exact Nat.le_refl _)
  · refine k _ c' _ (q.ext (Ext.push _ _)) ((s.tail.push _).rowz (vs := vs ++ news) (rest := rest) (by rw [List.length_append, ql, hl, Nat.add_mul]) h2 ?_)
    rw [List.length_append, ql, hl, h3]
    have : (n + m) * z ≤ c' * z := Nat.mul_le_mul_right z h2
    rw [Nat.add_mul] at this
    rw [Nat.sub_mul, Nat.add_mul]
    omega
theorem EvApp.slik {P : Program} {h0 h : Hp} {L : List Asn} {T : TypeId} {bytes n c m cx : Nat} {base A : Option Addr} {vs news : List Value} {K : Value → Hp → Prop}
    (s : Sep h0 h L) (i : Nat) (hi : L[i]? = some (Sl T base n c vs)) (r : Rd h A news) (hl : news.length = m) (hone : ∀ v ∈ news, v.oneCell' = true) (hb : (n + m) * bytes ≤ 140737488355328) (hn : n + m ≤ 1000000000)
    (k : ∀ A' c' h', Rd h' base vs → Sep h0 h' (Sl T A' (n + m) c' (vs ++ news) :: L.eraseIdx i) → K (.slice A' (n + m) c') h') : EvApp P T 1 bytes base n c (.slice A m cx) h K := by
  have s' := s.front i hi
  rw [Sl_eq] at s'
  refine EvApp.szk s' r (by omega) hone hb hn (fun A' c' h' hq q => k A' c' h' hq ?_)
  rw [Sl_eq]
  exact q
theorem EvKeep.rowy {h0 h h' : Hp} {b o : Nat} {i : Int} {B : Option Addr} {vs : List Value} {v : Value} {A : Prop} (x : Ext h0 h) (hI : hcell h0 b (o + i.toNat) = vs[i.toNat]?) (e : vs[i.toNat]? = some v) (eI : B = some ⟨b, o, none⟩) (hold : Rd h' B vs) (a : A) : EvKeep h h' b (o + i.toNat * 1) 1 A := by
  refine EvKeep.one (by rw [Nat.mul_one]; exact x.cell (hI.trans e)) ?_ a
  obtain ⟨b', o', e1, hc⟩ := hold i.toNat v e
  rw [eI] at e1
  cases e1
  rw [Nat.mul_one]
  exact hc
noncomputable def ccl (cl : List Ii) (k : Nat) : List Int := (List.range (k + 1)).map fun j => (cct cl j : Int)
theorem ccl_len (cl : List Ii) (k : Nat) : (ccl cl k).length = k + 1 := by simp [ccl]
theorem ccl_at (cl : List Ii) {k j : Nat} (h : j ≤ k) : (ccl cl k)[j]? = some (cct cl j : Int) := by
  unfold ccl
  rw [List.getElem?_map, List.getElem?_range (by omega)]
  rfl
theorem ccl_succ (cl : List Ii) (k : Nat) : ccl cl (k + 1) = ccl cl k ++ [(cct cl (k + 1) : Int)] := by
  unfold ccl
  rw [List.range_succ, List.map_append]
  rfl
theorem stand_i {h0 h : Hp} {b3 R ca : Nat} {A : Option Addr} {F : Nat → Sp} {M : List Asn} (HS : Sep h0 h (Bx b3 [.slice A R ca] 38 :: SpP A R ca (spl F R) :: M)) {r i : Nat} {ri : Int} (er : ri = r) (hr : r < R) (hi : i ≤ 100000) (hR : R ≤ 100000) :
    HC Tryd.prog 41 [.int .i64 ri, .int .i64 i, .pointer (some ⟨b3, 0, none⟩)] h fun v h' => v = .tuple #[] ∧ Sep h0 h' (Bx b3 [.slice A R ca] 38 :: SpP A R ca (spl (fun q => if q = r then std (F r) i else F q) R) :: M) := by
  subst er
  exact stand_c HS hr hi hR
theorem bas_fin {f : Fu} {i r : Nat} {x : Ii} {G : Sp} (hx : f.cl[i]? = some x) (h : (Lv f.cl i r → G = stl f.pa r i (bas f i r)) ∧ (¬ Lv f.cl i r → G = bas f i r)) : (st x = r → std G i = bas f (i + 1) r) ∧ (¬ st x = r → G = bas f (i + 1) r) := by
  have hs := bas_step (r := r) hx
  by_cases hl : Lv f.cl i r
  · rw [h.1 hl]
    rw [if_pos hl] at hs
    exact ⟨fun e => by rw [if_pos e] at hs; exact hs, fun e => by rw [if_neg e] at hs; exact hs⟩
  · rw [h.2 hl]
    rw [if_neg hl] at hs
    exact ⟨fun e => by rw [if_pos e] at hs; exact hs, fun e => by rw [if_neg e] at hs; exact hs⟩
theorem cct_val {cl : List Ii} {i : Nat} {x : Ii} (hx : cl[i]? = some x) (b : Bool) (hb : b = true ↔ x.op = 9 ∨ x.op = 10) (hi : i ≤ 100000) : IntKind.i64.wrap ((cct cl i : Nat) + (if b = true then 1 else 0)) = ((cct cl (i + 1) : Nat) : Int) := by
  have h1 := cct_le cl i
  by_cases h : callAt cl i
  · have e : cct cl (i + 1) = cct cl i + 1 := by simp only [cct, if_pos h]
    obtain ⟨y, hy, h2⟩ := h
    rw [hx] at hy
    cases hy
    rw [e, if_pos (hb.mpr h2), i64w _ (by omega) (by omega)]
    omega
  · have e : cct cl (i + 1) = cct cl i := by simp only [cct, if_neg h, Nat.add_zero]
    rw [e, if_neg (fun hh => h ⟨x, hx, hb.mp hh⟩), i64w _ (by omega) (by omega)]
    omega
set_option maxHeartbeats 4000000 in
theorem iSp_c {h : Hp} {f : Fu} (q : GQ h) (o : FuOk h f) : HC Tryd.prog 16 [f.v] h fun v h' => ∃ A n c, v = .slice A n c ∧ n ≤ 2000 ∧ Sep h h' [SpP A n c (spans f)] := by
  refine hc_of Tryd.func16 (rfl : Tryd.f16.body = some _) Tryd.ntmps16 Tryd.results16 Tryd.call16 rfl ?_; have HS := Sep.nil h; conv => whnf
  refine EvNew.sep HS ?_
  intro bf gbf HS1 xbf
  replace HS := HS1
  clear HS1
  conv => whnf
  repeat' ((first | ((with_reducible refine EvCall.fn 32 ?_); (with_reducible refine HC.mono (plain_c (q.t.ext HS.to_ext) (o.ext HS.to_ext)) ?_); rintro _ hN ⟨rfl, hX⟩; replace HS := HS.ext hX) | (with_reducible first | refine EvSeq.go ?_ | refine EvIf.tt ?_ | refine EvIf.ff ?_) | ((with_reducible refine EvIf.mk (fun c => ?_) (fun c => ?_)) <;> (try simp only [cs_] at c) <;> (try (exfalso; first | omega | (revert c; decide)))) | ((with_reducible refine EvLd.q HS (by repeat first | exact .h | apply Spot.t) ?_); (conv => whnf); intro hC) | (with_reducible refine EvLdN.q HS (by repeat first | exact .h | apply Spot.t) (fun hC => ?_))) <;> conv => whnf)
  · have e : spans f = [] := by
      unfold spans
      rw [c]
      rfl
    refine ⟨none, 0, 0, rfl, by omega, ?_⟩
    rw [e]
    exact (HS.sp0 _).take [_]
  · have g := good_of c
    have hlen := g.len
    have hrg := g.rg
    have hpa := g.pa
    have hxl := o.c.l
    obtain ⟨R, hR⟩ : ∃ R : Nat, f.rg.toNat = R := ⟨_, rfl⟩
    have hR2 : f.rg = R := by omega
    have e0 : spans f = spl (span f) R := by
      unfold spans
      rw [c, hR]
      rfl
    rw [e0]
    clear e0 c
    refine EvMk.mk (by omega) (by omega) (by omega) (by omega) ?_
    rw [hR]
    conv => whnf
    refine EvNew.sep HS ?_
    intro ba gba HS1 xba
    replace HS := HS1
    clear HS1
    conv => whnf
    conv => whnf
    refine EvNew.sep HS ?_
    intro b3 gb3 HS1 xb3
    replace HS := HS1
    clear HS1
    conv => whnf
    repeat' ((first | (with_reducible first | refine EvSeq.go ?_ | refine EvIf.tt ?_ | refine EvIf.ff ?_) | ((with_reducible refine EvLd.q HS (by repeat first | exact .h | apply Spot.t) ?_); (conv => whnf); intro hC) | ((with_reducible refine EvSt.q HS (by repeat first | exact .h | apply Spot.t) ?_); (conv => whnf); intro hN HS1 hU; replace HS := HS1; clear HS1)) <;> conv => whnf)
    have HS2 := HS.front 1 rfl
    dsimp only [List.eraseIdx] at HS2
    have ez : mkCells (#[Value.int .i64 0, Value.int .i64 0, Value.bool false] : Array Value).toList R = (spl (fun _ => (⟨0, 0, false⟩ : Sp)) R).flatMap Sp.cells ++ [] := by
      rw [List.append_nil, spl_rep]
      rfl
    rw [ez] at HS2
    have HS3 : Sep h _ (SpP (some ⟨ba, 0, none⟩) R R (spl (fun _ => ⟨0, 0, false⟩) R) :: _) := HS2.rowz (z := 3) (n := R) (c := R) (by rw [rec_len Sp.len, spl_len]) (Nat.le_refl _) (by rw [rec_len Sp.len, spl_len]; rfl)
    clear HS HS2 ez
    have HS := HS3
    clear HS3
    obtain ⟨A, hA⟩ : ∃ A : Option Addr, some ⟨ba, 0, none⟩ = A := ⟨_, rfl⟩
    rw [hA] at HS
    refine EvLoop.keep ([4, 24, 25, 26, 27, 28, 29, 30, 31], 16) (α := Nat × (Nat → Sp)) (fun (k, _) => [(24, .int .i64 k), (23, .int .i64 R)])
      (fun (k, F) h' => k ≤ R ∧ (∀ q, q < k → F q = ⟨0, -1, false⟩) ∧ Sep h h' [Bx b3 [.slice A R R] 38, SpP A R R (spl F R), Bx bf (fcs f) 31])
      (fun (k, _) => R - k) (0, _) (by (repeat' (first | exact trivial | refine ⟨rfl, ?_⟩))) ⟨Nat.zero_le _, (fun q hq => absurd hq (Nat.not_lt_zero _)), HS.pk (by (repeat' (first | exact PK.nil | with_reducible refine PK.q (by repeat first | exact .h | apply Del.t) ?_)))⟩ ?_
    clear HS
    rintro ⟨k, F⟩ h1 ⟨hk, hF, HS⟩
    conv => whnf
    obtain hlt | hge := Nat.lt_or_ge k R
    · have hxk := spl_at F hlt
      repeat' ((first | ((with_reducible refine EvIdx.el Sp.len (by decide) (HS.spr 1 rfl) (spl_len _ _) (by omega) (by omega) ?_); intro bI oI z eI hz hI) | (with_reducible first | refine EvSeq.go ?_ | refine EvIf.tt ?_ | refine EvIf.ff ?_) | ((with_reducible refine EvIf.mk (fun c => ?_) (fun c => ?_)) <;> (try simp only [cs_] at c) <;> (try (exfalso; first | omega | (revert c; decide)))) | ((with_reducible refine EvLd.q HS (by repeat first | exact .h | apply Spot.t) ?_); (conv => whnf); intro hC)) <;> conv => whnf)
      refine EvSt.sp HS 1 rfl eI hxk ⟨0, -1, false⟩ 0 (by first | rfl | (rw [Int.toNat_natCast]; rfl)) (by simp) rfl ?_
      intro h2 HS2
      clear HS
      have HS := HS2
      clear HS2
      dsimp only [List.set] at HS
      rw [spl_set] at HS
      conv => whnf
      repeat' (fail <;> conv => whnf)
      refine ⟨(k + 1, _), ⟨congrArg (fun z => some (Value.int .i64 z)) ((i64w _ (by omega) (by omega)).trans (by omega)), (by (repeat' (first | exact trivial | refine ⟨rfl, ?_⟩)))⟩, ⟨by omega, fun q hq => ?_, HS⟩, by show R - (k + 1) < R - k; omega⟩
      show (if q = k then _ else F q) = _
      split
      · rfl
      · exact hF q (by omega)
    · repeat' ((first | ((with_reducible refine EvCall.fn 33 ?_); (with_reducible refine HC.mono (iLive_c (o.ext HS.to_ext) g) ?_); rintro _ hN ⟨AL, ca, ws, rfl, wr, wi, HS2⟩; replace HS := HS.join1 HS2; clear HS2) | (with_reducible first | refine EvSeq.go ?_ | refine EvIf.tt ?_ | refine EvIf.ff ?_) | ((with_reducible refine EvIf.mk (fun c => ?_) (fun c => ?_)) <;> (try simp only [cs_] at c) <;> (try (exfalso; first | omega | (revert c; decide)))) | ((with_reducible refine EvNew.sep HS ?_); intro bN hN HS1 hX; replace HS := HS1; clear HS1) | (with_reducible refine EvLdN.q HS (by repeat first | exact .h | apply Spot.t) (fun hC => ?_))) <;> conv => whnf)
      obtain ⟨N, eN⟩ : ∃ N : Nat, ((f.rg + 63) / 64).toNat = N := ⟨_, rfl⟩
      rw [eN] at wr
      obtain rfl : R = k := by omega
      have HS2 : Sep h _ (Sl 3 (some ⟨bN, 0, none⟩) 1 1 (ints .i64 (ccl f.cl 0)) :: _) := (HS.front 1 rfl).row (vs := [.int .i64 0]) (rest := []) (n := 1) (c := 1) rfl rfl
      clear HS
      have HS := HS2
      clear HS2
      dsimp only [List.eraseIdx] at HS
      refine EvLoop.keep ([6, 7, 8, 9, 11, 12, 13, 37, 38, 39, 40, 41, 42, 43, 44, 45, 46, 47, 48, 49, 50, 51, 52, 53, 54, 55, 56, 57, 58, 59, 60, 61, 62, 63, 64, 65, 66, 67, 68, 69, 70, 71, 72, 73, 74, 75, 76, 77, 78, 79, 80, 81, 82, 83, 84, 85, 86, 87, 88, 89, 90, 91, 92, 93, 94, 95, 96, 97, 98, 99], 16) (α := Nat × (Nat → Sp) × Option Addr × Nat) (fun (i, _, C, cc) => [(37, .int .i64 i), (36, .int .i64 f.ch.n), (35, .slice AL f.ch.n ca), (6, .slice C (i + 1) cc)])
        (fun (i, F, C, cc) h' => i ≤ f.ch.n ∧ (∀ q, q < R → F q = bas f i q) ∧ Sep h h' [Bx b3 [.slice A R R] 38, SpP A R R (spl F R), Sl 3 C (i + 1) cc (ints .i64 (ccl f.cl i)), RgP eW 58 96 AL f.ch.n ca ws, Bx bf (fcs f) 31])
        (fun (i, _) => f.ch.n - i) (0, F, _, _) (by (repeat' (first | exact trivial | refine ⟨rfl, ?_⟩))) ⟨Nat.zero_le _, (fun q hq => (hF q hq).trans (bas_zero f q).symm), HS.pk (by (repeat' (first | exact PK.nil | with_reducible refine PK.q (by repeat first | exact .h | apply Del.t) ?_)))⟩ ?_
      clear HS hF
      rintro ⟨i, F, C, cc⟩ h1 ⟨hi, hF, HS⟩
      have hwl := (HS.rgl 3 rfl).1
      conv => whnf
      obtain hlt | hge := Nat.lt_or_ge i f.ch.n
      · obtain ⟨x, hxi⟩ : ∃ x, f.cl[i]? = some x := ⟨_, List.getElem?_eq_getElem (by omega)⟩
        obtain ⟨y, hwi⟩ : ∃ y, ws[i]? = some y := ⟨_, List.getElem?_eq_getElem (by omega)⟩
        have ox := o.c.at_ hxi
        have hst := g.set hxi
        have wy := wr.at_ hwi
        have hyr := HS.rgx 3 rfl hwi
        have hyn := hyr.2
        repeat' ((first | ((with_reducible refine EvIdx.el Ii.len (by decide) (o.c.r.ext HS.to_ext) hxl (by omega) (by omega) ?_); intro bI oI z eI hz hI; have hzx : x = z := Option.some.inj (hxi.symm.trans hz); subst hzx) | ((with_reducible refine EvLdN.el hI (Ii.len _) ?_)) | ((with_reducible refine EvIdx.rd (HS.rgr 3 rfl) (by simpa [rhds] using hwl) (by omega) (by omega) ?_); intro bI oI eI hI) | ((with_reducible refine EvLd.rowv (by assumption) (rhds_at hwi) ?_)) | (with_reducible first | refine EvSeq.go ?_ | refine EvIf.tt ?_ | refine EvIf.ff ?_) | ((with_reducible refine EvIf.mk (fun c => ?_) (fun c => ?_)) <;> (try simp only [cs_] at c) <;> (try (exfalso; first | omega | (revert c; decide)))) | ((with_reducible refine EvNew.sep HS ?_); intro bN hN HS1 hX; replace HS := HS1; clear HS1) | ((with_reducible refine EvLd.q HS (by repeat first | exact .h | apply Spot.t) ?_); (conv => whnf); intro hC) | ((with_reducible refine EvSt.q HS (by repeat first | exact .h | apply Spot.t) ?_); (conv => whnf); intro hN HS1 hU; replace HS := HS1; clear HS1)) <;> conv => whnf)
        obtain ⟨b9, e9⟩ : ∃ b9, bN = b9 := ⟨_, rfl⟩
        rw [e9] at HS ⊢
        have HS0 : Sep h _ (Bx b9 x.cells 67 :: _) := HS
        clear HS hyr
        have HS := HS0.pk (M := [Bx b3 [.slice A R R] 38, SpP A R R (spl F R), Sl 3 C (i + 1) cc (ints .i64 (ccl f.cl i)), RgP eW 58 96 AL f.ch.n ca ws, Bx bf (fcs f) 31, Bx b9 x.cells 67]) (by (repeat' (first | exact PK.nil | with_reducible refine PK.q (by repeat first | exact .h | apply Del.t) ?_)))
        clear HS0
        have hyr := HS.rgx 3 rfl hwi
        refine EvCall.mk ((members_c (q.b.ext HS.to_ext) hyr.1 hyr.2 wy.2 (by omega)).mono ?_)
        rintro _ h2 ⟨M, m, cm, rfl, hm, HS1⟩
        replace HS := HS.join1 HS1
        clear HS1 hyr
        obtain ⟨ml, eml⟩ : ∃ ml, marked (Lv f.cl i) f.rg.toNat = ml := ⟨_, rfl⟩
        have em : mkd (bt y.l) (64 * y.h.n) = ml := by
          rw [← eml]
          refine mkd_bt (by omega) (fun r => ?_) (fun r hr => by have := hr.bd g; omega)
          constructor
          · exact fun e => ((wi i r).mp ⟨y, hwi, e⟩).2
          · intro e
            obtain ⟨y', hy', hyr⟩ := (wi i r).mpr ⟨by omega, e⟩
            rw [hwi] at hy'
            cases hy'
            exact hyr
        rw [em] at HS
        have hmm : ∀ r : Int, r ∈ ml ↔ (0 ≤ r ∧ r < R) ∧ Lv f.cl i r := fun r => by
          rw [← eml, hR]
          exact marked_mem
        have hml : ml.length = m := by simpa using (HS.len 0 rfl).1
        have HS2 := HS.pk (M := [Bx b3 [.slice A R R] 38, SpP A R R (spl F R), Sl 3 C (i + 1) cc (ints .i64 (ccl f.cl i)), RgP eW 58 96 AL f.ch.n ca ws, Bx bf (fcs f) 31, Bx b9 x.cells 67, Sl 3 M m cm (ints .i64 ml)]) (by (repeat' (first | exact PK.nil | with_reducible refine PK.q (by repeat first | exact .h | apply Del.t) ?_)))
        clear HS
        have HS := HS2
        clear HS2
        conv => whnf
        repeat' (fail <;> conv => whnf)
        refine EvLoop.keep ([11, 50, 51, 52, 53, 54, 55, 56, 57, 58, 59, 60, 61, 62, 63, 64, 65, 66, 67, 68, 69, 70], 16) (α := Nat × (Nat → Sp)) (fun (j, _) => [(50, .int .i64 j), (49, .int .i64 m), (48, .slice M m cm), (37, .int .i64 i), (36, .int .i64 f.ch.n), (35, .slice AL f.ch.n ca)])
          (fun (j, G) h' => j ≤ m ∧ (∀ r : Nat, r < R → G r = if (r : Int) ∈ ml.take j then stl f.pa r i (bas f i r) else bas f i r) ∧ Sep h h' [Bx b3 [.slice A R R] 38, SpP A R R (spl G R), Sl 3 C (i + 1) cc (ints .i64 (ccl f.cl i)), RgP eW 58 96 AL f.ch.n ca ws, Bx bf (fcs f) 31, Bx b9 x.cells 67, Sl 3 M m cm (ints .i64 ml)])
          (fun (j, _) => m - j) (0, F) (by (repeat' (first | exact trivial | refine ⟨rfl, ?_⟩))) ⟨Nat.zero_le _, (fun r hr => by rw [hF r hr]; simp), HS⟩ ?_
        clear HS
        rintro ⟨j, G⟩ h3 ⟨hj, hG, HS⟩
        have hwl := (HS.rgl 3 rfl).1
        conv => whnf
        obtain hlt2 | hge2 := Nat.lt_or_ge j m
        · obtain ⟨rv, hrv⟩ : ∃ rv, ml[j]? = some rv := ⟨_, List.getElem?_eq_getElem (by omega)⟩
          have hrm := (hmm rv).mp (List.mem_of_getElem? hrv)
          obtain ⟨r, rfl⟩ : ∃ r : Nat, rv = r := ⟨rv.toNat, by omega⟩
          have hrR : r < R := by omega
          have hvr : (ints .i64 ml)[((j : Int)).toNat]? = some (.int .i64 (r : Int)) := by simp [hrv]
          have hstep : ∀ r' : Nat, r' < R → (if r' = r then stl f.pa r i (G r) else G r') = if (r' : Int) ∈ ml.take (j + 1) then stl f.pa r' i (bas f i r') else bas f i r' := by
            intro r' hr'
            have hmem : (r' : Int) ∈ ml.take (j + 1) ↔ (r' : Int) ∈ ml.take j ∨ r' = r := by
              rw [List.take_add_one, hrv, List.mem_append]
              simp only [Option.toList_some, List.mem_singleton, Int.natCast_inj]
            by_cases e : r' = r
            · subst e
              rw [if_pos rfl, if_pos (hmem.mpr (.inr rfl)), hG _ hr']
              split
              · exact stl_stl _ _ _ _
              · rfl
            · rw [if_neg e, hG r' hr']
              by_cases e2 : (r' : Int) ∈ ml.take j
              · rw [if_pos e2, if_pos (hmem.mpr (.inl e2))]
              · rw [if_neg e2, if_neg (fun hh => (hmem.mp hh).elim e2 e)]
          repeat' ((first | ((with_reducible refine EvIdx.rd (vs := ints .i64 ml) (HS.rd 6 rfl) (by simpa using hml) (by omega) (by omega) ?_); intro bI oI eI hI) | ((with_reducible refine EvLd.rowv (by assumption) hvr ?_)) | ((with_reducible refine EvCall.fn 41 ?_); (with_reducible refine HC.mono (stand_c HS hrR (by omega) (by omega)) ?_); rintro _ hN ⟨rfl, HS2⟩; clear HS; have HS := HS2; clear HS2) | ((with_reducible refine EvIdx.el Sp.len (by decide) (HS.spr 1 rfl) (HS.spl 1 rfl).1 (by omega) (by omega) ?_); intro bI oI z eI hz hI) | (with_reducible first | refine EvSeq.go ?_ | refine EvIf.tt ?_ | refine EvIf.ff ?_) | ((with_reducible refine EvIf.mk (fun c => ?_) (fun c => ?_)) <;> (try simp only [cs_] at c) <;> (try (exfalso; first | omega | (revert c; decide)))) | ((with_reducible refine EvLd.q HS (by repeat first | exact .h | apply Spot.t) ?_); (conv => whnf); intro hC)) <;> conv => whnf)
          · have hx1 : (spl (fun q => if q = r then std (G r) i else G q) R)[r]? = some (std (G r) i) := (spl_at _ hrR).trans (by rw [if_pos rfl])
            refine EvSt.sp HS 1 rfl eI hx1 ⟨-1, i, (G r).x⟩ 0 (by first | rfl | (rw [Int.toNat_natCast]; rfl)) (by simp) rfl ?_
            intro h4 HS2
            clear HS
            have HS := HS2
            clear HS2
            dsimp only [List.set] at HS
            rw [spl_set] at HS
            conv => whnf
            repeat' (fail <;> conv => whnf)
            refine ⟨(j + 1, _), ⟨congrArg (fun z => some (Value.int .i64 z)) ((i64w _ (by omega) (by omega)).trans (by omega)), (by (repeat' (first | exact trivial | refine ⟨rfl, ?_⟩)))⟩, ⟨by omega, fun r' hr' => ?_, HS⟩, by show m - (j + 1) < m - j; omega⟩
            rw [← hstep r' hr']
            have e : stl f.pa r i (G r) = ⟨-1, i, (G r).x⟩ := if_pos ⟨by omega, by omega⟩
            rw [e]
            by_cases e2 : r' = r
            · simp only [if_pos e2]
            · simp only [if_neg e2]
          · refine ⟨(j + 1, _), ⟨congrArg (fun z => some (Value.int .i64 z)) ((i64w _ (by omega) (by omega)).trans (by omega)), (by (repeat' (first | exact trivial | refine ⟨rfl, ?_⟩)))⟩, ⟨by omega, fun r' hr' => ?_, HS⟩, by show m - (j + 1) < m - j; omega⟩
            rw [← hstep r' hr']
            have e : stl f.pa r i (G r) = std (G r) i := if_neg (fun hh => by omega)
            rw [e]
          · refine ⟨(j + 1, _), ⟨congrArg (fun z => some (Value.int .i64 z)) ((i64w _ (by omega) (by omega)).trans (by omega)), (by (repeat' (first | exact trivial | refine ⟨rfl, ?_⟩)))⟩, ⟨by omega, fun r' hr' => ?_, HS⟩, by show m - (j + 1) < m - j; omega⟩
            rw [← hstep r' hr']
            have e : stl f.pa r i (G r) = std (G r) i := if_neg (fun hh => by omega)
            rw [e]
        · obtain rfl : j = m := by omega
          have hG2 : ∀ r : Nat, r < R → (Lv f.cl i r → G r = stl f.pa r i (bas f i r)) ∧ (¬ Lv f.cl i r → G r = bas f i r) := by
            intro r hr
            have := hG r hr
            rw [List.take_of_length_le (by omega)] at this
            exact ⟨fun hl => by rw [this, if_pos ((hmm r).mpr ⟨by omega, hl⟩)], fun hl => by rw [this, if_neg (fun hh => hl ((hmm r).mp hh).2)]⟩
          clear hG
          repeat' (fail <;> conv => whnf)
          refine EvSeq.go ?_
          conv => whnf
          repeat' (((with_reducible refine EvIf.mk (fun c => ?_) (fun c => ?_)) <;> (try simp only [cs_] at c) <;> (try (exfalso; first | omega | (revert c; decide)))) <;> conv => whnf)
          have HS2 := HS.pk (M := [Bx b3 [.slice A R R] 38, SpP A R R (spl G R), Sl 3 C (i + 1) cc (ints .i64 (ccl f.cl i)), RgP eW 58 96 AL f.ch.n ca ws, Bx bf (fcs f) 31, Bx b9 x.cells 67]) (by (repeat' (first | exact PK.nil | with_reducible refine PK.q (by repeat first | exact .h | apply Del.t) ?_)))
          clear HS
          have HS := HS2
          clear HS2
          refine EvSeq.keepcut ([], 16) (α := Nat → Sp) (fun _ => [(37, .int .i64 i), (36, .int .i64 f.ch.n), (35, .slice AL f.ch.n ca)]) (fun G' h' => (∀ r : Nat, r < R → G' r = bas f (i + 1) r) ∧ Sep h h' [Bx b3 [.slice A R R] 38, SpP A R R (spl G' R), Sl 3 C (i + 1) cc (ints .i64 (ccl f.cl i)), RgP eW 58 96 AL f.ch.n ca ws, Bx bf (fcs f) 31, Bx b9 x.cells 67]) ?_ ?_
          · conv => whnf
            repeat' ((first | ((with_reducible refine EvCall.fn 42 ?_); (refine HC.mono (iUses_c (x := x) (ox.ext HS.to_ext) (g.iok hxi)) ?_); rintro _ hN ⟨UA, un, uc, UL, UM, rfl, _, _, _, _, HS2⟩; (have HS3 := (HS.join1 HS2).tail); clear HS2 HS; have HS := HS3; clear HS3) | ((with_reducible refine EvIf.mk (fun c => ?_) (fun c => ?_)) <;> (try simp only [cs_] at c) <;> (try (exfalso; first | omega | (revert c; decide)))) | (with_reducible refine EvLdN.q HS (by repeat first | exact .h | apply Spot.t) (fun hC => ?_))) <;> conv => whnf)
            · obtain ⟨s, hs⟩ : ∃ s : Nat, st x = s := ⟨(st x).toNat, by omega⟩
              repeat' (((with_reducible refine EvCall.fn 41 ?_); (with_reducible refine HC.mono (stand_i HS hs (by omega) (by omega) (by omega)) ?_); rintro _ hN ⟨rfl, HS2⟩; clear HS; have HS := HS2; clear HS2) <;> conv => whnf)
              refine ⟨_, (by (repeat' (first | exact trivial | refine ⟨rfl, ?_⟩))), (fun r hr => ?_), HS⟩
              show (if r = s then std (G s) i else G r) = _
              by_cases e : r = s
              · subst e
                rw [if_pos rfl]
                exact (bas_fin hxi (hG2 r hr)).1 hs
              · rw [if_neg e]
                exact (bas_fin hxi (hG2 r hr)).2 (by omega)
            · exact ⟨G, (by (repeat' (first | exact trivial | refine ⟨rfl, ?_⟩))), (fun r hr => (bas_fin hxi (hG2 r hr)).2 (by omega)), HS⟩
          · clear HS hG2
            rintro G2 h4 ⟨hG2, HS⟩
            have hcl := ccl_len f.cl i
            have hce := cct_le f.cl i
            have hcv : (ints .i64 (ccl f.cl i))[((i : Int)).toNat]? = some (.int .i64 (cct f.cl i : Nat)) := by
              have := ccl_at f.cl (Nat.le_refl i)
              simp [this]
            conv => whnf
            repeat' ((first | ((with_reducible refine EvDraw.ord (id := 25) (.go 0 (.go 1 (.go 2 (.go 3 (.go 4 (.go 5 (.go 6 (.go 7 (.go 8 (.go 9 (.go 10 (.go 11 (.go 12 (.alt 13 (.go 14 (.alt 15 (.alt 16 (.alt 17 .done .stop) .stop) .stop)) .stop)))))))))))))) fol ?_ ?_ ?_); kernel_rfl; kernel_rfl) | ((with_reducible refine EvIdx.rd (vs := ints .i64 (ccl f.cl i)) (HS.rd 2 rfl) (by simpa using hcl) (by omega) (by omega) ?_); intro bI oI eI hI) | ((with_reducible refine EvLd.rowv (by assumption) hcv ?_)) | ((with_reducible refine EvKeep.same ?_)) | ((with_reducible refine EvKeep.rowx (by assumption) hI hcv ?_)) | ((with_reducible refine EvCall.mk (HC.mono (truth_c _ _) ?_)); (rintro _ _ ⟨rfl, rfl⟩)) | (with_reducible first | refine EvSeq.go ?_ | refine EvIf.tt ?_ | refine EvIf.ff ?_) | ((with_reducible refine Hole.mk (kK ?_)); clear kK) | ((with_reducible refine EvIf.mk (fun c => ?_) (fun c => ?_)) <;> (try simp only [cs_] at c) <;> (try (exfalso; first | omega | (revert c; decide)))) | ((with_reducible refine EvNew.sep HS ?_); intro bN hN HS1 hX; replace HS := HS1; clear HS1) | ((with_reducible refine EvLd.q HS (by repeat first | exact .h | apply Spot.t) ?_); (conv => whnf); intro hC) | ((with_reducible refine EvKeep.cq (A := keepK _ _ (Hole _) _) HS (by repeat first | exact .h | apply Spot.t) ?_); (conv => whnf); (refine ⟨?_, ?_⟩); assumption; intro hC) | ((fail_if_success with_reducible refine EvKeep.hole ?_); (with_reducible refine EvKeep.abs (fun X kK => ?_)))) <;> conv => whnf)
            all_goals
              refine EvApp.slik HS 3 rfl (Rd.of_blk (HS.pt_i 0 rfl)) rfl (by simp [Value.oneCell']) (by omega) (by omega) ?_
              intro A2 c2 h6 hold HS2
              clear HS
              have HS := HS2
              clear HS2
              dsimp only [List.eraseIdx] at HS
              conv => whnf
              repeat' ((first | ((with_reducible refine EvKeep.rowy (by assumption) hI hcv eI hold ?_)) | ((with_reducible refine Hole.mk (kK ?_)); clear kK) | ((with_reducible refine EvKeep.cq (A := keepK _ _ (Hole _) _) HS (by repeat first | exact .h | apply Spot.t) ?_); (conv => whnf); (refine ⟨?_, ?_⟩); assumption; intro hC) | ((fail_if_success with_reducible refine EvKeep.hole ?_); (with_reducible refine EvKeep.abs (fun X kK => ?_)))) <;> conv => whnf)
            · rw [cct_val hxi true ⟨fun _ => .inl c, fun _ => rfl⟩ (by omega)] at HS
              have e : ints .i64 (ccl f.cl (i + 1)) = ints .i64 (ccl f.cl i) ++ [.int .i64 (cct f.cl (i + 1) : Nat)] := by
                rw [ccl_succ]
                simp
              rw [← e] at HS
              exact ⟨(i + 1, G2, A2, c2), ⟨congrArg (fun z => some (Value.int .i64 z)) ((i64w _ (by omega) (by omega)).trans (by omega)), rfl, rfl, rfl, (by (repeat' (first | exact trivial | refine ⟨rfl, ?_⟩)))⟩, ⟨by omega, hG2, HS.pk (by (repeat' (first | exact PK.nil | with_reducible refine PK.q (by repeat first | exact .h | apply Del.t) ?_)))⟩, by show f.ch.n - (i + 1) < f.ch.n - i; omega⟩
            · rw [cct_val hxi (x.op == 10) (by simp [c]) (by omega)] at HS
              have e : ints .i64 (ccl f.cl (i + 1)) = ints .i64 (ccl f.cl i) ++ [.int .i64 (cct f.cl (i + 1) : Nat)] := by
                rw [ccl_succ]
                simp
              rw [← e] at HS
              exact ⟨(i + 1, G2, A2, c2), ⟨congrArg (fun z => some (Value.int .i64 z)) ((i64w _ (by omega) (by omega)).trans (by omega)), rfl, rfl, rfl, (by (repeat' (first | exact trivial | refine ⟨rfl, ?_⟩)))⟩, ⟨by omega, hG2, HS.pk (by (repeat' (first | exact PK.nil | with_reducible refine PK.q (by repeat first | exact .h | apply Del.t) ?_)))⟩, by show f.ch.n - (i + 1) < f.ch.n - i; omega⟩
      · repeat' ((first | (with_reducible first | refine EvSeq.go ?_ | refine EvIf.tt ?_ | refine EvIf.ff ?_) | ((with_reducible refine EvIf.mk (fun c => ?_) (fun c => ?_)) <;> (try simp only [cs_] at c) <;> (try (exfalso; first | omega | (revert c; decide)))) | ((with_reducible refine EvLd.q HS (by repeat first | exact .h | apply Spot.t) ?_); (conv => whnf); intro hC)) <;> conv => whnf)
        obtain rfl : i = f.ch.n := by omega
        rw [← hxl] at hF
        have hcl := ccl_len f.cl f.ch.n
        refine EvLoop.keep ([14, 15, 102, 103, 104, 105, 106, 107, 108, 109, 110, 111, 112, 113, 114, 115, 116, 117, 118, 119, 120, 121, 122, 123, 124, 125, 126, 127, 128, 129, 130, 131], 16) (α := Nat × (Nat → Sp)) (fun (r, _) => [(102, .int .i64 r), (101, .int .i64 R), (100, .slice A R R)])
          (fun (r, F) h' => r ≤ R ∧ (∀ q, q < R → F q = if q < r then span f q else bas f f.cl.length q) ∧ Sep h h' [Bx b3 [.slice A R R] 38, SpP A R R (spl F R), Sl 3 C (f.ch.n + 1) cc (ints .i64 (ccl f.cl f.ch.n)), RgP eW 58 96 AL f.ch.n ca ws, Bx bf (fcs f) 31])
          (fun (r, _) => R - r) (0, F) (by (repeat' (first | exact trivial | refine ⟨rfl, ?_⟩))) ⟨Nat.zero_le _, (fun q hq => (hF q hq).trans (if_neg (Nat.not_lt_zero _)).symm), HS⟩ ?_
        clear HS hF
        rintro ⟨r, F⟩ h2 ⟨hr, hF, HS⟩
        conv => whnf
        obtain hlt3 | hge3 := Nat.lt_or_ge r R
        · have hFr := hF r hlt3
          rw [if_neg (Nat.lt_irrefl _), bas_last (by omega)] at hFr
          have hsb := spg_bd f.cl r f.cl.length
          obtain ⟨fr, hfr⟩ : ∃ fr, frm f r = fr := ⟨_, rfl⟩
          have hfb : -1 ≤ fr ∧ fr < f.cl.length := by
            rw [← hfr]
            unfold frm
            split <;> omega
          have hsp : span f r = ⟨fr, (spg f.cl r f.cl.length).2, (span f r).x⟩ := by
            unfold span
            rw [hfr]
          have hsx : (span f r).x = true ↔ crs f.cl (fr + 1) (spg f.cl r f.cl.length).2 := by
            unfold span
            rw [hfr]
            simp only [decide_eq_true_eq]
          rw [hfr] at hFr
          obtain ⟨b, hb⟩ : ∃ b, (spg f.cl r f.cl.length).2 = b := ⟨_, rfl⟩
          rw [hb] at hFr hsp hsx hsb
          have hxr : (spl F R)[r]? = some ⟨fr, b, false⟩ := (spl_at F hlt3).trans (congrArg some hFr)
          have hw1 : IntKind.i64.wrap (fr + 1) = fr + 1 := i64w _ (by omega) (by omega)
          obtain ⟨an, han⟩ : ∃ an : Nat, fr + 1 = an := ⟨(fr + 1).toNat, by omega⟩
          have hva : (ints .i64 (ccl f.cl f.ch.n))[(IntKind.i64.wrap (fr + 1)).toNat]? = some (.int .i64 (cct f.cl an : Nat)) := by
            have := ccl_at f.cl (k := f.ch.n) (j := an) (by omega)
            rw [hw1, han, Int.toNat_natCast]
            simp [this]
          have hvb : (ints .i64 (ccl f.cl f.ch.n))[b.toNat]? = some (.int .i64 (cct f.cl b.toNat : Nat)) := by
            have := ccl_at f.cl (k := f.ch.n) (j := b.toNat) (by omega)
            simp [this]
          repeat' ((first | ((with_reducible refine EvDraw.ord (id := 30) (.go 0 (.go 1 (.go 2 (.go 3 (.go 4 (.go 5 (.go 6 (.go 7 (.go 8 (.go 9 (.go 10 (.go 11 (.go 12 (.go 13 (.go 14 (.go 15 (.go 16 (.go 17 (.go 18 (.go 19 (.go 20 (.go 21 (.go 22 (.go 23 (.alt 24 .done .stop))))))))))))))))))))))))) fol ?_ ?_ ?_); kernel_rfl; kernel_rfl) | ((with_reducible refine EvIdx.el Sp.len (by decide) (HS.spr 1 rfl) (HS.spl 1 rfl).1 (by omega) (by omega) ?_); intro bI oI z eI hz hI; have hzx : (⟨fr, b, false⟩ : Sp) = z := Option.some.inj (hxr.symm.trans hz); subst hzx) | ((with_reducible refine EvIdx.el Sp.len (by decide) (HS.spr 2 rfl) (HS.spl 2 rfl).1 (by omega) (by omega) ?_); intro bI oI z eI hz hI) | ((with_reducible refine EvLdN.el hI (Sp.len _) ?_)) | ((with_reducible refine EvIdx.rd (vs := ints .i64 (ccl f.cl f.ch.n)) (HS.rd 3 rfl) (by simpa using hcl) (by first | omega | (dsimp only; omega)) (by first | omega | (dsimp only; omega)) ?_); intro bJ oJ eJ hJ) | ((with_reducible refine EvLd.rowv (by assumption) hva ?_)) | ((with_reducible refine EvLd.rowv (by assumption) hvb ?_)) | (with_reducible first | refine EvSeq.go ?_ | refine EvIf.tt ?_ | refine EvIf.ff ?_) | ((with_reducible refine EvIf.mk (fun c => ?_) (fun c => ?_)) <;> (try simp only [cs_] at c) <;> (try (exfalso; first | omega | (revert c; decide)))) | ((with_reducible refine EvNew.sep HS ?_); intro bN hN HS1 hX; replace HS := HS1; clear HS1) | ((with_reducible refine EvLd.q HS (by repeat first | exact .h | apply Spot.t) ?_); (conv => whnf); intro hC) | ((with_reducible refine EvSt.q HS (by repeat first | exact .h | apply Spot.t) ?_); (conv => whnf); intro hN HS1 hU; replace HS := HS1; clear HS1)) <;> conv => whnf)
          · have hV : decide ((cct f.cl b.toNat : Int) > (cct f.cl an : Nat)) = (span f r).x := by
              have h1 := (cct_lt f.cl an b.toNat (by omega)).2
              rw [← han, Int.toNat_of_nonneg (by omega)] at h1
              refine Bool.eq_iff_iff.mpr (Iff.trans ?_ hsx.symm)
              rw [decide_eq_true_eq, ← h1]
              omega
            refine EvSt.sp HS 2 rfl eI hxr ⟨fr, b, decide ((cct f.cl b.toNat : Int) > (cct f.cl an : Nat))⟩ 2 (by first | rfl | (rw [Int.toNat_natCast]; rfl)) (by simp) rfl ?_
            intro h4 HS2
            clear HS
            have HS := HS2
            clear HS2
            dsimp only [List.set] at HS
            rw [hV, ← hsp, spl_set] at HS
            conv => whnf
            repeat' (fail <;> conv => whnf)
            refine ⟨(r + 1, _), ⟨congrArg (fun z => some (Value.int .i64 z)) ((i64w _ (by omega) (by omega)).trans (by omega)), (by (repeat' (first | exact trivial | refine ⟨rfl, ?_⟩)))⟩, ⟨by omega, (fun q hq => ?_), HS.tail⟩, by show R - (r + 1) < R - r; omega⟩
            show (if q = r then span f r else F q) = _
            by_cases e : q = r
            · subst e
              rw [if_pos rfl, if_pos (by omega)]
            · rw [if_neg e, hF q hq]
              by_cases e2 : q < r
              · rw [if_pos e2, if_pos (by omega)]
              · rw [if_neg e2, if_neg (by omega)]
          · have hV : false = (span f r).x := by
              refine (Bool.eq_false_iff.mpr (fun hh => crs_none (by omega) (hsx.mp hh))).symm
            refine EvSt.sp HS 2 rfl eI hxr ⟨fr, b, false⟩ 2 (by first | rfl | (rw [Int.toNat_natCast]; rfl)) (by simp) rfl ?_
            intro h4 HS2
            clear HS
            have HS := HS2
            clear HS2
            dsimp only [List.set] at HS
            rw [hV, ← hsp, spl_set] at HS
            conv => whnf
            repeat' (fail <;> conv => whnf)
            refine ⟨(r + 1, _), ⟨congrArg (fun z => some (Value.int .i64 z)) ((i64w _ (by omega) (by omega)).trans (by omega)), (by (repeat' (first | exact trivial | refine ⟨rfl, ?_⟩)))⟩, ⟨by omega, (fun q hq => ?_), HS.tail⟩, by show R - (r + 1) < R - r; omega⟩
            show (if q = r then span f r else F q) = _
            by_cases e : q = r
            · subst e
              rw [if_pos rfl, if_pos (by omega)]
            · rw [if_neg e, hF q hq]
              by_cases e2 : q < r
              · rw [if_pos e2, if_pos (by omega)]
              · rw [if_neg e2, if_neg (by omega)]
        · repeat' ((first | (with_reducible first | refine EvSeq.go ?_ | refine EvIf.tt ?_ | refine EvIf.ff ?_) | ((with_reducible refine EvIf.mk (fun c => ?_) (fun c => ?_)) <;> (try simp only [cs_] at c) <;> (try (exfalso; first | omega | (revert c; decide)))) | ((with_reducible refine EvLd.q HS (by repeat first | exact .h | apply Spot.t) ?_); (conv => whnf); intro hC)) <;> conv => whnf)
          obtain rfl : r = R := by omega
          refine ⟨A, _, _, rfl, by omega, ?_⟩
          rw [spl_ext (G := F) (fun q hq => ((hF q hq).trans (if_pos hq)).symm)]
          exact (HS.front 1 rfl).take [_]
end Go.Proofs.YtjggmhpjlnmigaaDoor
