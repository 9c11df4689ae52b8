/- Places: a step of the giving, and the reference's. -/
import Derived.Test.YtjggmhpjlnmigaaDoorVAo
import Derived.Test.YtjggmhpjlnmigaaDoorVSv
namespace Go.Proofs.YtjggmhpjlnmigaaDoor
open Go.RowKit
set_option maxRecDepth 20000
set_option linter.unusedSimpArgs false
set_option linter.unusedVariables false
def rgI (ps : List Pl) (q : Int) : Int := (ps[q.toNat]?.map Pl.rg).getD 0
def crI (xs : List Sp) (r : Nat) : Bool := (xs[r]?.map Sp.x).getD false
/-- what holds a machine register when r comes -/
def hdR (xs : List Sp) (ps : List Pl) (r : Nat) : List Int := mkd (hld xs ps (keyOf xs r)) xs.length
def farS (xs : List Sp) (ps : List Pl) (us : List Int) (w q : Int) : Int := if rgI ps q ∈ us ∧ (w < 0 ∨ toI xs w.toNat ≤ toI xs q.toNat) then q else w
def farF (xs : List Sp) (ps : List Pl) (us hd : List Int) : Int := hd.foldl (farS xs ps us) (-1)
def fre (xs : List Sp) (ps : List Pl) (r : Nat) : Option Int := (usb (crI xs r)).find? (fun m => decide (m ∉ (hdR xs ps r).map (rgI ps)))
def stepA (xs : List Sp) (s : List Pl × Nat) (q : Int) : List Pl × Nat :=
  match fre xs s.1 q.toNat with
  | some m => (s.1.set q.toNat ⟨m, -1⟩, s.2)
  | none => if 0 ≤ farF xs s.1 (usb (crI xs q.toNat)) (hdR xs s.1 q.toNat) ∧ toI xs q.toNat < toI xs (farF xs s.1 (usb (crI xs q.toNat)) (hdR xs s.1 q.toNat)).toNat
    then ((s.1.set q.toNat ⟨rgI s.1 (farF xs s.1 (usb (crI xs q.toNat)) (hdR xs s.1 q.toNat)), -1⟩).set (farF xs s.1 (usb (crI xs q.toNat)) (hdR xs s.1 q.toNat)).toNat ⟨0, s.2⟩, s.2 + 1)
    else (s.1.set q.toNat ⟨0, s.2⟩, s.2 + 1)
def stA (xs : List Sp) (od : List Int) (k : Nat) : List Pl × Nat := (od.take k).foldl (stepA xs) (List.replicate xs.length ⟨0, -1⟩, 0)
theorem stA_succ {xs : List Sp} {od : List Int} {k : Nat} {q : Int} (h : od[k]? = some q) : stA xs od (k + 1) = stepA xs (stA xs od k) q := by
  unfold stA
  rw [List.take_add_one, h, List.foldl_append]
  rfl
theorem far_mem {xs : List Sp} {ps : List Pl} {us : List Int} : ∀ (hd : List Int) (w : Int), hd.foldl (farS xs ps us) w = w ∨ (hd.foldl (farS xs ps us) w ∈ hd ∧ rgI ps (hd.foldl (farS xs ps us) w) ∈ us)
  | [], w => .inl rfl
  | q :: hd, w => by
    rw [List.foldl_cons]
    rcases far_mem hd (farS xs ps us w q) with h | h
    · rw [h]
      unfold farS
      split
      · rename_i hc
        exact .inr ⟨List.mem_cons_self, hc.1⟩
      · exact .inl rfl
    · exact .inr ⟨List.mem_cons_of_mem _ h.1, h.2⟩
theorem hdR_mem {xs : List Sp} {ps : List Pl} {r : Nat} {q : Int} (h : q ∈ hdR xs ps r) : ∃ j : Nat, q = j ∧ j < xs.length ∧ 0 < rgI ps j ∧ keyOf xs r ≤ toI xs j := by
  obtain ⟨j, e, h1, h2⟩ := mem_mkd.mp h
  unfold hld at h2
  rw [decide_eq_true_eq] at h2
  exact ⟨j, e, h1, h2.1, h2.2⟩
/-- what is true ahead of step k -/
structure SA (xs : List Sp) (od : List Int) (k : Nat) (s : List Pl × Nat) : Prop where
  len : s.1.length = xs.length
  fresh : ∀ j q, k ≤ j → od[j]? = some q → s.1[q.toNat]? = some ⟨0, -1⟩
  sp : s.2 ≤ k
theorem SA.step {xs : List Sp} {od : List Int} {k : Nat} {s : List Pl × Nat} {q : Int} (a : SA xs od k s) (o : IsOrd xs od) (h : od[k]? = some q) : SA xs od (k + 1) (stepA xs s q) := by
  have hne : ∀ j p, k + 1 ≤ j → od[j]? = some p → p.toNat ≠ q.toNat := fun j p hj hp e => by
    obtain ⟨a1, e1, _⟩ := (o.mem p).mp (List.mem_of_getElem? hp)
    obtain ⟨a2, e2, _⟩ := (o.mem q).mp (List.mem_of_getElem? h)
    obtain ⟨g1, g2⟩ := List.getElem?_eq_some_iff.mp h
    obtain ⟨g3, g4⟩ := List.getElem?_eq_some_iff.mp hp
    have := List.pairwise_iff_getElem.mp (srt_nodup o.srt) k j g1 g3 (by omega)
    omega
  have hs : ∀ (x : Pl) j p, k + 1 ≤ j → od[j]? = some p → (s.1.set q.toNat x)[p.toNat]? = some ⟨0, -1⟩ := fun x j p hj hp => by
    rw [List.getElem?_set_ne (Ne.symm (hne j p hj hp))]
    exact a.fresh j p (by omega) hp
  unfold stepA
  split
  · exact ⟨by rw [List.length_set]; exact a.len, hs _, Nat.le_succ_of_le a.sp⟩
  · split
    · rename_i hc
      refine ⟨by rw [List.length_set, List.length_set]; exact a.len, fun j p hj hp => ?_, Nat.succ_le_succ a.sp⟩
      rw [List.getElem?_set_ne]
      · exact hs _ j p hj hp
      · intro e
        rcases far_mem (xs := xs) (ps := s.1) (us := usb (crI xs q.toNat)) (hdR xs s.1 q.toNat) (-1) with hm | ⟨hm, _⟩
        · have : farF xs s.1 (usb (crI xs q.toNat)) (hdR xs s.1 q.toNat) = -1 := hm
          omega
        · obtain ⟨i, e1, _, h3, _⟩ := hdR_mem hm
          have h4 : farF xs s.1 (usb (crI xs q.toNat)) (hdR xs s.1 q.toNat) = i := e1
          rw [h4, Int.toNat_natCast] at e
          unfold rgI at h3
          rw [Int.toNat_natCast, e, a.fresh j p (by omega) hp] at h3
          exact absurd h3 (by decide)
    · exact ⟨by rw [List.length_set]; exact a.len, hs _, Nat.succ_le_succ a.sp⟩
theorem SA.zero (xs : List Sp) {od : List Int} (o : IsOrd xs od) : SA xs od 0 (stA xs od 0) := ⟨by simp [stA], fun j q _ h => by
    obtain ⟨r, e, hr, _⟩ := (o.mem q).mp (List.mem_of_getElem? h)
    subst e
    show (List.replicate xs.length (⟨0, -1⟩ : Pl))[((r : Int)).toNat]? = _
    rw [Int.toNat_natCast, List.getElem?_replicate, if_pos hr], Nat.le_refl _⟩
theorem SA.at_ {xs : List Sp} {od : List Int} (o : IsOrd xs od) : ∀ k, k ≤ od.length → SA xs od k (stA xs od k)
  | 0, _ => SA.zero xs o
  | k + 1, hk => by
    obtain ⟨q, hq⟩ : ∃ q, od[k]? = some q := ⟨_, List.getElem?_eq_getElem (by omega)⟩
    rw [stA_succ hq]
    exact (SA.at_ o k (by omega)).step o hq
theorem usb_len (x : Bool) : (usb x).length ≤ 16 := by cases x <;> decide
theorem usb_pos {x : Bool} {m : Int} (h : m ∈ usb x) : 0 < m ∧ m < 32 := by
  cases x <;> simp [usb, kept] at h <;> omega
theorem IsOrd.le {xs : List Sp} {l : List Int} (o : IsOrd xs l) : l.length ≤ xs.length := by
  have hp : l.Perm (mkd (stn xs) xs.length) := by
    refine (List.perm_ext_iff_of_nodup (srt_nodup o.srt) ((mkd_asc _ _).imp fun {a b} h e => by omega)).mpr fun q => ?_
    rw [o.mem, mem_mkd]
  rw [hp.length_eq]
  exact (mkd_len _ _).1
theorem find_at {l : List Int} {p : Int → Bool} {j : Nat} {m : Int} (h0 : ∀ x ∈ l.take j, p x = false) (hj : l[j]? = some m) (hm : p m = true) : l.find? p = some m := by
  obtain ⟨g1, g2⟩ := List.getElem?_eq_some_iff.mp hj
  have e : l = l.take j ++ m :: l.drop (j + 1) := by
    conv => lhs; rw [← List.take_append_drop j l]
    rw [List.drop_eq_getElem_cons g1, g2]
  rw [e, List.find?_append, List.find?_eq_none.mpr (fun x hx => by rw [h0 x hx]; decide), List.find?_cons, hm]
  rfl
set_option maxHeartbeats 4000000 in
theorem sAl_c {h : Hp} {f : Fu} (o : FuOk h f) (g : Good f) {xs : List Sp} (hxs : (List.range f.rg.toNat).map (span f) = xs) (ok : OkS xs) :
    HC Tryd.prog 45 [f.v] h fun v h' => ∃ A c od, v = .slice A f.rg.toNat c ∧ IsOrd xs od ∧ Sep h h' [PlP A f.rg.toNat c (stA xs od od.length).1] := by
  have hrg := g.rg
  obtain ⟨R, hR⟩ : ∃ R : Nat, f.rg.toNat = R := ⟨_, rfl⟩
  have hR2 : f.rg = R := by omega
  have hxl : xs.length = R := by rw [← hxs, List.length_map, List.length_range, hR]
  rw [hR]
  refine hc_of Tryd.func45 (rfl : Tryd.f45.body = some _) Tryd.ntmps45 Tryd.results45 Tryd.call45 rfl ?_; have HS := Sep.nil h; conv => whnf
  refine EvNew.sep HS ?_
  intro bf gbf HS1 xbf
  replace HS := HS1
  clear HS1
  conv => whnf
  repeat' ((with_reducible refine EvLdN.q HS (by repeat first | exact .h | apply Spot.t) (fun hC => ?_)) <;> conv => whnf)
  refine EvCall.mk ((sSpans_c (o.ext HS.to_ext) g).mono ?_)
  rintro _ hN ⟨A, ca, rfl, HS1⟩
  rw [hR] at HS1
  rw [hR] at hxs
  rw [hxs] at HS1
  replace HS := HS.join1 HS1
  clear HS1
  rw [hR]
  conv => whnf
  repeat' ((first | (with_reducible first | refine EvSeq.go ?_ | refine EvIf.tt ?_ | refine EvIf.ff ?_) | ((with_reducible refine EvNew.sep HS ?_); intro bN hN HS1 hX; replace HS := HS1; clear HS1)) <;> conv => whnf)
  refine EvLoop.keepH ([4, 5, 20, 21, 22, 23, 24, 25, 26, 27, 28, 29], 17) (α := Nat × Option Addr × Nat) (fun (k, B, d) => [(5, .int .i64 k), (4, .slice B k d)])
    (fun (k, B, d) h' => k ≤ R ∧ Sep h h' [PlP B k d (List.replicate k ⟨0, -1⟩), SpP A R ca xs, Bx bf (fcs f) 31])
    (fun (k, _) => R - k) (0, _, 0) (by (repeat' (first | exact trivial | refine ⟨rfl, ?_⟩))) ⟨Nat.zero_le _, (HS.pp0 _).pk (PK.q .h (PK.q (.t .h) (PK.q (.t .h) .nil)))⟩ ?_
  clear HS
  intro KK hKK
  rintro ⟨k, B, d⟩ h1 ⟨hk, HS⟩
  conv => whnf
  obtain hlt | hge := Nat.lt_or_ge k R
  · repeat' ((first | (with_reducible first | refine EvSeq.go ?_ | refine EvIf.tt ?_ | refine EvIf.ff ?_) | ((with_reducible refine EvIf.mk (fun c => ?_) (fun c => ?_)) <;> (try simp only [cs_] at c) <;> (try (exfalso; first | omega | (revert c; decide)))) | ((with_reducible refine EvNew.sep HS ?_); intro bN hN HS1 hX; replace HS := HS1; clear HS1) | ((with_reducible refine EvLd.q HS (by repeat first | exact .h | apply Spot.t) ?_); (conv => whnf); intro hC)) <;> conv => whnf)
    refine EvApp.pp (x := ⟨0, -1⟩) HS 1 rfl (Rd.of_blk (HS.pt_i 0 rfl)) (by omega) (by omega) ?_
    intro B2 d2 h6 zs hz HS2
    clear HS
    have HS := HS2
    clear HS2
    dsimp only [List.eraseIdx] at HS
    conv => whnf
    repeat' (fail <;> conv => whnf)
    refine ⟨(k + 1, B2, d2), ⟨congrArg (fun z => some (Value.int .i64 z)) ((i64w _ (by omega) (by omega)).trans (by omega)), rfl, (by (repeat' (first | exact trivial | refine ⟨rfl, ?_⟩)))⟩, ⟨by omega, ?_⟩, by show R - (k + 1) < R - k; omega⟩
    have e : List.replicate (k + 1) (⟨0, -1⟩ : Pl) = zs := by rw [← hz, List.replicate_succ']
    rw [e]
    exact HS.pk (PK.q .h (PK.q (.t .h) (PK.q (.t .h) .nil)))
  · obtain rfl : R = k := by omega
    repeat' ((first | (with_reducible first | refine EvSeq.go ?_ | refine EvIf.tt ?_ | refine EvIf.ff ?_) | ((with_reducible refine EvIf.mk (fun c => ?_) (fun c => ?_)) <;> (try simp only [cs_] at c) <;> (try (exfalso; first | omega | (revert c; decide)))) | ((with_reducible refine EvLd.q HS (by repeat first | exact .h | apply Spot.t) ?_); (conv => whnf); intro hC)) <;> conv => whnf)
    refine hKK _ _ _ ?_
    conv => whnf
    repeat' (fail <;> conv => whnf)
    refine EvCall.mk ((order_c (HS.spr 1 rfl) hxl (by omega) ok).mono ?_)
    rintro _ hN ⟨O, m, cO, od, rfl, io, HS1⟩
    replace HS := HS.join1 HS1
    clear HS1
    have hod : od.length = m := by simpa using (HS.len 0 rfl).1
    have hom := io.le
    conv => whnf
    repeat' ((with_reducible first | refine EvSeq.go ?_ | refine EvIf.tt ?_ | refine EvIf.ff ?_) <;> conv => whnf)
    refine EvLoop.keepH ([6, 8, 9, 10, 11, 12, 13, 14, 15, 16, 32, 33, 34, 35, 36, 37, 38, 39, 40, 41, 42, 43, 44, 45, 46, 47, 48, 49, 50, 51, 52, 53, 54, 55, 56, 57, 58, 59, 60, 61, 62, 63, 64, 65, 66, 67, 68, 69, 70, 71, 72, 73, 74, 75, 76, 77, 78, 79, 80, 81, 82, 83, 84, 85, 86, 87, 88, 89, 90, 91, 92, 93, 94, 95, 96, 97, 98, 99, 100, 101, 102, 103, 104, 105, 106, 107, 108, 109, 110, 111, 112, 113, 114, 115, 116, 117, 118, 119, 120, 121, 122, 123, 124, 125, 126, 127, 128, 129, 130, 131, 132, 133, 134, 135, 136, 137, 138, 139, 140, 141, 142, 143, 144, 145, 146, 147, 148, 149, 150, 151, 152, 153, 154, 155, 156, 157, 158, 159, 160, 161, 162, 163, 164, 165, 166, 167, 168, 169, 170, 171, 172, 173, 174, 175, 176, 177, 178, 179, 180, 181, 182, 183, 184, 185, 186, 187, 188], 17) (α := Nat × List Pl × Nat) (fun (k, _, s) => [(8, .int .i64 k), (6, .int .i64 s)])
      (fun (k, ps, s) h' => k ≤ m ∧ stA xs od k = (ps, s) ∧ Sep h h' [PlP B R d ps, Sl 3 O m cO (ints .i64 od), SpP A R ca xs, Bx bf (fcs f) 31])
      (fun (k, _, _) => m - k) (0, List.replicate R ⟨0, -1⟩, 0) (by (repeat' (first | exact trivial | refine ⟨rfl, ?_⟩))) ⟨Nat.zero_le _, (by show (List.replicate xs.length (⟨0, -1⟩ : Pl), 0) = _; rw [hxl]), HS.pk (PK.q (.t .h) (PK.q .h (PK.q .h (PK.q .h .nil))))⟩ ?_
    clear HS
    intro KK2 hKK2
    rintro ⟨k, ps, s⟩ h2 ⟨hk, hst, HS⟩
    have sa := SA.at_ io k (by omega)
    rw [hst] at sa
    have pl := (HS.ppl 0 rfl).1
    conv => whnf
    obtain hlt | hge := Nat.lt_or_ge k m
    · obtain ⟨q, hq⟩ : ∃ q, od[k]? = some q := ⟨_, List.getElem?_eq_getElem (by omega)⟩
      obtain ⟨r, rfl, hr, hsr⟩ := (io.mem q).mp (List.mem_of_getElem? hq)
      rw [hxl] at hr
      obtain ⟨x, hx⟩ : ∃ x, xs[r]? = some x := ⟨_, List.getElem?_eq_getElem (by omega)⟩
      have kx : keyOf xs r = x.fr := by unfold keyOf; rw [hx]; rfl
      have tx : toI xs r = x.to := by unfold toI; rw [hx]; rfl
      have cx : crI xs r = x.x := by unfold crI; rw [hx]; rfl
      have hp := sa.fresh k r (Nat.le_refl _) hq
      rw [Int.toNat_natCast] at hp
      have hnx := stA_succ (xs := xs) hq
      rw [hst] at hnx
      have vq : (ints .i64 od)[((k : Int)).toNat]? = some (.int .i64 r) := by rw [Int.toNat_natCast]; simp [hq]
      have ok1 : s ≤ 1000000 := by have := sa.sp; show s ≤ 1000000; simp only at this; omega
      repeat' ((first | ((with_reducible refine EvIdx.rd (vs := ints .i64 od) (HS.rd 1 rfl) (by simpa using hod) (by omega) (by omega) ?_); intro bI oI eI hI) | ((with_reducible refine EvLd.rowv (by assumption) vq ?_)) | ((with_reducible refine EvIdx.el Sp.len (by decide) (by first | exact HS.spr 0 rfl | exact HS.spr 1 rfl | exact HS.spr 2 rfl | exact HS.spr 3 rfl | exact HS.spr 4 rfl | exact HS.spr 5 rfl | exact HS.spr 6 rfl | exact HS.spr 7 rfl | exact HS.spr 8 rfl | exact HS.spr 9 rfl | exact HS.spr 10 rfl | exact HS.spr 11 rfl | exact HS.spr 12 rfl | exact HS.spr 13 rfl | exact HS.spr 14 rfl | exact HS.spr 15 rfl | exact HS.spr 16 rfl | exact HS.spr 17 rfl | exact HS.spr 18 rfl | exact HS.spr 19 rfl) hxl (by omega) (by omega) ?_); intro bI oI z eI hz hI; have hzx : x = z := Option.some.inj (hx.symm.trans hz); subst hzx) | ((with_reducible refine EvLd.el0 hI rfl ?_)) | (with_reducible first | refine EvSeq.go ?_ | refine EvIf.tt ?_ | refine EvIf.ff ?_) | ((with_reducible refine EvIf.mk (fun c => ?_) (fun c => ?_)) <;> (try simp only [cs_] at c) <;> (try (exfalso; first | omega | (revert c; decide))))) <;> conv => whnf)
      refine EvCall.mk ((held_c (HS.spr 2 rfl) (HS.ppr 0 rfl) hxl pl (by omega) _).mono ?_)
      rintro _ hN ⟨A', m', c', rfl, hm', HS1⟩
      replace HS := HS.join1 HS1
      clear HS1
      obtain ⟨hd, hhd⟩ : ∃ hd, mkd (hld xs ps x.fr) R = hd := ⟨_, rfl⟩
      have hdR' : hdR xs ps r = hd := by unfold hdR; rw [kx, hxl, hhd]
      rw [hhd] at HS
      have hhl : hd.length = m' := by simpa using (HS.len 0 rfl).1
      have hin : ∀ q ∈ hd, ∃ i : Nat, q = i ∧ i < R ∧ 0 < rgI ps i := fun q hq => by
        rw [← hdR'] at hq
        obtain ⟨i, e1, e2, e3, _⟩ := hdR_mem hq
        exact ⟨i, e1, by omega, e3⟩
      conv => whnf
      repeat' ((first | (with_reducible first | refine EvSeq.go ?_ | refine EvIf.tt ?_ | refine EvIf.ff ?_) | ((with_reducible refine EvNew.sep HS ?_); intro bN hN HS1 hX; replace HS := HS1; clear HS1)) <;> conv => whnf)
      have HS0 := HS.row (vs := []) (rest := []) (n := 0) (c := 0) rfl rfl
      clear HS
      refine EvLoop.keepH ([11, 12, 51, 52, 53, 54, 55, 56, 57, 58, 59, 60, 61, 62, 63, 64, 65, 66, 67], 17) (α := Nat × Option Addr × Nat) (fun (j, T, cT) => [(12, .int .i64 j), (11, .slice T j cT)])
        (fun (j, T, cT) h' => j ≤ m' ∧ Sep h h' [Sl 3 T j cT (ints .i64 ((hd.take j).map (rgI ps))), Sl 3 A' m' c' (ints .i64 hd), PlP B R d ps, Sl 3 O m cO (ints .i64 od), SpP A R ca xs, Bx bf (fcs f) 31])
        (fun (j, _) => m' - j) (0, _, 0) (by (repeat' (first | exact trivial | refine ⟨rfl, ?_⟩))) ⟨Nat.zero_le _, HS0⟩ ?_
      clear HS0
      intro KK3 hKK3
      rintro ⟨j, T, cT⟩ h3 ⟨hj, HS⟩
      conv => whnf
      obtain hjl | hjg := Nat.lt_or_ge j m'
      · obtain ⟨q, hqj⟩ : ∃ q, hd[j]? = some q := ⟨_, List.getElem?_eq_getElem (by omega)⟩
        obtain ⟨i, rfl, hi, _⟩ := hin q (List.mem_of_getElem? hqj)
        obtain ⟨y, hy⟩ : ∃ y, ps[i]? = some y := ⟨_, List.getElem?_eq_getElem (by omega)⟩
        have ry : rgI ps i = y.rg := by unfold rgI; rw [Int.toNat_natCast, hy]; rfl
        have vi : (ints .i64 hd)[((j : Int)).toNat]? = some (.int .i64 i) := by rw [Int.toNat_natCast]; simp [hqj]
        repeat' ((first | ((with_reducible refine EvIdx.rd (vs := ints .i64 hd) (HS.rd 1 rfl) (by simpa using hhl) (by omega) (by omega) ?_); intro bI oI eI hI) | ((with_reducible refine EvLd.rowv (by assumption) vi ?_)) | ((with_reducible refine EvIdx.el Pl.len (by decide) (by first | exact HS.ppr 0 rfl | exact HS.ppr 1 rfl | exact HS.ppr 2 rfl | exact HS.ppr 3 rfl | exact HS.ppr 4 rfl | exact HS.ppr 5 rfl | exact HS.ppr 6 rfl | exact HS.ppr 7 rfl | exact HS.ppr 8 rfl | exact HS.ppr 9 rfl | exact HS.ppr 10 rfl | exact HS.ppr 11 rfl | exact HS.ppr 12 rfl | exact HS.ppr 13 rfl | exact HS.ppr 14 rfl | exact HS.ppr 15 rfl | exact HS.ppr 16 rfl | exact HS.ppr 17 rfl | exact HS.ppr 18 rfl | exact HS.ppr 19 rfl) pl (by omega) (by omega) ?_); intro bI oI z eI hz hI; have hzx : y = z := Option.some.inj (hy.symm.trans hz); subst hzx) | ((with_reducible refine EvLd.el0 hI rfl ?_)) | ((first | refine EvApp.sli HS 1 rfl (Rd.of_blk (HS.pt_i 0 rfl)) rfl (by simp [Value.oneCell']) (by omega) (by omega) ?_ | refine EvApp.sli HS 2 rfl (Rd.of_blk (HS.pt_i 0 rfl)) rfl (by simp [Value.oneCell']) (by omega) (by omega) ?_ | refine EvApp.sli HS 3 rfl (Rd.of_blk (HS.pt_i 0 rfl)) rfl (by simp [Value.oneCell']) (by omega) (by omega) ?_ | refine EvApp.sli HS 4 rfl (Rd.of_blk (HS.pt_i 0 rfl)) rfl (by simp [Value.oneCell']) (by omega) (by omega) ?_ | refine EvApp.sli HS 5 rfl (Rd.of_blk (HS.pt_i 0 rfl)) rfl (by simp [Value.oneCell']) (by omega) (by omega) ?_ | refine EvApp.sli HS 6 rfl (Rd.of_blk (HS.pt_i 0 rfl)) rfl (by simp [Value.oneCell']) (by omega) (by omega) ?_ | refine EvApp.sli HS 7 rfl (Rd.of_blk (HS.pt_i 0 rfl)) rfl (by simp [Value.oneCell']) (by omega) (by omega) ?_ | refine EvApp.sli HS 8 rfl (Rd.of_blk (HS.pt_i 0 rfl)) rfl (by simp [Value.oneCell']) (by omega) (by omega) ?_); intro AP cP hP HSP; replace HS := HSP; clear HSP; dsimp only [List.eraseIdx] at HS) | (with_reducible first | refine EvSeq.go ?_ | refine EvIf.tt ?_ | refine EvIf.ff ?_) | ((with_reducible refine EvIf.mk (fun c => ?_) (fun c => ?_)) <;> (try simp only [cs_] at c) <;> (try (exfalso; first | omega | (revert c; decide)))) | ((with_reducible refine EvNew.sep HS ?_); intro bN hN HS1 hX; replace HS := HS1; clear HS1)) <;> conv => whnf)
        refine ⟨(j + 1, _, _), ⟨congrArg (fun z => some (Value.int .i64 z)) ((i64w _ (by omega) (by omega)).trans (by omega)), rfl, (by (repeat' (first | exact trivial | refine ⟨rfl, ?_⟩)))⟩, ⟨by omega, ?_⟩, by show m' - (j + 1) < m' - j; omega⟩
        rw [List.take_add_one, hqj, List.map_append]
        have e2 : ints .i64 ((hd.take j).map (rgI ps) ++ ((some (i : Int)).toList).map (rgI ps)) = ints .i64 ((hd.take j).map (rgI ps)) ++ [.int .i64 y.rg] := by simp [ry]
        rw [e2]
        exact HS.pk (PK.q .h (PK.q (.t .h) (PK.q (.t .h) (PK.q (.t .h) (PK.q (.t .h) (PK.q (.t .h) .nil))))))
      obtain rfl : j = m' := by omega
      rw [List.take_of_length_le (by omega)] at HS
      obtain ⟨tk, htk⟩ : ∃ tk, hd.map (rgI ps) = tk := ⟨_, rfl⟩
      rw [htk] at HS
      have htl : tk.length = j := by rw [← htk, List.length_map, hhl]
      have hfr : fre xs ps r = (usb x.x).find? (fun m => decide (m ∉ tk)) := by unfold fre; rw [cx, hdR', htk]
      repeat' ((first | (with_reducible first | refine EvSeq.go ?_ | refine EvIf.tt ?_ | refine EvIf.ff ?_) | ((with_reducible refine EvIf.mk (fun c => ?_) (fun c => ?_)) <;> (try simp only [cs_] at c) <;> (try (exfalso; first | omega | (revert c; decide))))) <;> conv => whnf)
      refine hKK3 _ _ _ ?_
      conv => whnf
      repeat' ((first | ((with_reducible refine EvIdx.el Sp.len (by decide) (by first | exact HS.spr 0 rfl | exact HS.spr 1 rfl | exact HS.spr 2 rfl | exact HS.spr 3 rfl | exact HS.spr 4 rfl | exact HS.spr 5 rfl | exact HS.spr 6 rfl | exact HS.spr 7 rfl | exact HS.spr 8 rfl | exact HS.spr 9 rfl | exact HS.spr 10 rfl | exact HS.spr 11 rfl | exact HS.spr 12 rfl | exact HS.spr 13 rfl | exact HS.spr 14 rfl | exact HS.spr 15 rfl | exact HS.spr 16 rfl | exact HS.spr 17 rfl | exact HS.spr 18 rfl | exact HS.spr 19 rfl) hxl (by omega) (by omega) ?_); intro bI oI z eI hz hI; have hzx : x = z := Option.some.inj (hx.symm.trans hz); subst hzx) | ((with_reducible refine EvLd.el 2 hI rfl ?_))) <;> conv => whnf)
      refine EvCall.mk ((usable_c x.x _).mono ?_)
      rintro _ hN ⟨U, cU, rfl, HS1⟩
      replace HS := HS.join1 HS1
      clear HS1
      obtain ⟨us, hus⟩ : ∃ us, usb x.x = us := ⟨_, rfl⟩
      have hul : us.length ≤ 16 := by rw [← hus]; exact usb_len _
      have hup : ∀ m ∈ us, 0 < m ∧ m < 32 := fun m hm => usb_pos (by rw [hus]; exact hm)
      rw [hus] at HS hfr
      obtain ⟨un, hun⟩ : ∃ un, us.length = un := ⟨_, rfl⟩
      rw [hus, hun]
      rw [hun] at HS hul
      conv => whnf
      repeat' ((with_reducible first | refine EvSeq.go ?_ | refine EvIf.tt ?_ | refine EvIf.ff ?_) <;> conv => whnf)
      refine EvLoop.keepH ([14, 74, 75, 76, 77, 78, 79, 80, 81, 82, 83, 84, 85, 86, 87, 88, 89, 90, 91, 92, 93, 94, 95, 96, 97, 98, 99, 100, 101, 102], 17) (α := Nat × List Pl) (fun (j, _) => [(14, .int .i64 j)])
        (fun (i, ps') h' => i ≤ un ∧ (ps' = ps ∧ (∀ m ∈ us.take i, m ∈ tk) ∨ ∃ m, fre xs ps r = some m ∧ 0 < m ∧ ps' = ps.set r ⟨m, -1⟩) ∧ Sep h h' [Sl 3 U un cU (ints .i64 us), Sl 3 T j cT (ints .i64 tk), Sl 3 A' j c' (ints .i64 hd), PlP B R d ps', Sl 3 O m cO (ints .i64 od), SpP A R ca xs, Bx bf (fcs f) 31])
        (fun (i, _) => un - i) (0, ps) (by (repeat' (first | exact trivial | refine ⟨rfl, ?_⟩))) ⟨Nat.zero_le _, .inl ⟨rfl, fun m hm => by simp at hm⟩, HS⟩ ?_
      clear HS
      intro KK4 hKK4
      rintro ⟨i, ps'⟩ h4 ⟨hi, hps, HS⟩
      have pl' := (HS.ppl 3 rfl).1
      conv => whnf
      rcases hps with ⟨rfl, hall⟩ | ⟨mm, hf, hm0, rfl⟩
      · obtain hil | hig := Nat.lt_or_ge i un
        · obtain ⟨u, hu⟩ : ∃ u, us[i]? = some u := ⟨_, List.getElem?_eq_getElem (by omega)⟩
          have vu : (ints .i64 us)[((i : Int)).toNat]? = some (.int .i64 u) := by rw [Int.toNat_natCast]; simp [hu]
          repeat' ((first | ((with_reducible refine EvIdx.el Pl.len (by decide) (by first | exact HS.ppr 0 rfl | exact HS.ppr 1 rfl | exact HS.ppr 2 rfl | exact HS.ppr 3 rfl | exact HS.ppr 4 rfl | exact HS.ppr 5 rfl | exact HS.ppr 6 rfl | exact HS.ppr 7 rfl | exact HS.ppr 8 rfl | exact HS.ppr 9 rfl | exact HS.ppr 10 rfl | exact HS.ppr 11 rfl | exact HS.ppr 12 rfl | exact HS.ppr 13 rfl | exact HS.ppr 14 rfl | exact HS.ppr 15 rfl | exact HS.ppr 16 rfl | exact HS.ppr 17 rfl | exact HS.ppr 18 rfl | exact HS.ppr 19 rfl) pl (by omega) (by omega) ?_); intro bI oI z eI hz hI; have hzx : (⟨0, -1⟩ : Pl) = z := Option.some.inj (hp.symm.trans hz); subst hzx) | ((with_reducible refine EvLd.el0 hI rfl ?_)) | ((with_reducible refine EvIdx.rd (vs := ints .i64 us) (HS.rd 0 rfl) (by simpa using hun) (by omega) (by omega) ?_); intro bU oU eU hU2) | ((with_reducible refine EvLd.rowv (by assumption) vu ?_)) | ((with_reducible refine EvCall.fn 73 ?_); (with_reducible refine HC.mono (has_c (HS.rd 1 rfl) htl (by omega) u) ?_); rintro _ _ ⟨rfl, rfl⟩) | (with_reducible first | refine EvSeq.go ?_ | refine EvIf.tt ?_ | refine EvIf.ff ?_) | ((with_reducible refine EvIf.mk (fun c => ?_) (fun c => ?_)) <;> (try simp only [cs_] at c) <;> (try (exfalso; first | omega | (revert c; decide))))) <;> conv => whnf)
          · have hnu : u ∉ tk := by simpa using c
            refine EvSt.pp HS 3 rfl eI hp ⟨u, -1⟩ 0 (by first | rfl | (rw [Int.toNat_natCast]; rfl)) (by simp) rfl ?_
            intro h5 HS2
            clear HS
            have HS := HS2
            clear HS2
            dsimp only [List.set] at HS
            conv => whnf
            repeat' (fail <;> conv => whnf)
            refine ⟨(i + 1, _), ⟨congrArg (fun z => some (Value.int .i64 z)) ((i64w _ (by omega) (by omega)).trans (by omega)), (by (repeat' (first | exact trivial | refine ⟨rfl, ?_⟩)))⟩, ⟨by omega, .inr ⟨u, ?_, (hup u (List.mem_of_getElem? hu)).1, rfl⟩, HS⟩, by show un - (i + 1) < un - i; omega⟩
            rw [hfr]
            exact find_at (fun m hm => by simpa using hall m hm) hu (by simpa using hnu)
          · have hnu : u ∈ tk := by simpa using c
            refine ⟨(i + 1, _), ⟨congrArg (fun z => some (Value.int .i64 z)) ((i64w _ (by omega) (by omega)).trans (by omega)), (by (repeat' (first | exact trivial | refine ⟨rfl, ?_⟩)))⟩, ⟨by omega, .inl ⟨rfl, fun m hm => ?_⟩, HS⟩, by show un - (i + 1) < un - i; omega⟩
            rw [List.take_add_one, hu, List.mem_append] at hm
            rcases hm with hm | hm
            · exact hall m hm
            · simp only [Option.toList_some, List.mem_singleton] at hm
              rw [hm]
              exact hnu
        rw [List.take_of_length_le (by omega)] at hall
        have hfn : fre xs ps' r = none := by
          rw [hfr, List.find?_eq_none]
          exact fun m hm => by simpa using hall m hm
        repeat' ((first | (with_reducible first | refine EvSeq.go ?_ | refine EvIf.tt ?_ | refine EvIf.ff ?_) | ((with_reducible refine EvIf.mk (fun c => ?_) (fun c => ?_)) <;> (try simp only [cs_] at c) <;> (try (exfalso; first | omega | (revert c; decide))))) <;> conv => whnf)
        refine hKK4 _ _ _ ?_
        conv => whnf
        repeat' ((first | ((with_reducible refine EvIdx.el Pl.len (by decide) (by first | exact HS.ppr 0 rfl | exact HS.ppr 1 rfl | exact HS.ppr 2 rfl | exact HS.ppr 3 rfl | exact HS.ppr 4 rfl | exact HS.ppr 5 rfl | exact HS.ppr 6 rfl | exact HS.ppr 7 rfl | exact HS.ppr 8 rfl | exact HS.ppr 9 rfl | exact HS.ppr 10 rfl | exact HS.ppr 11 rfl | exact HS.ppr 12 rfl | exact HS.ppr 13 rfl | exact HS.ppr 14 rfl | exact HS.ppr 15 rfl | exact HS.ppr 16 rfl | exact HS.ppr 17 rfl | exact HS.ppr 18 rfl | exact HS.ppr 19 rfl) pl (by omega) (by omega) ?_); intro bI oI z eI hz hI; have hzx : (⟨0, -1⟩ : Pl) = z := Option.some.inj (hp.symm.trans hz); subst hzx) | ((with_reducible refine EvLd.el0 hI rfl ?_)) | (with_reducible first | refine EvSeq.go ?_ | refine EvIf.tt ?_ | refine EvIf.ff ?_) | ((with_reducible refine EvIf.mk (fun c => ?_) (fun c => ?_)) <;> (try simp only [cs_] at c) <;> (try (exfalso; first | omega | (revert c; decide))))) <;> conv => whnf)
        refine EvLoop.keepH ([15, 16, 109, 110, 111, 112, 113, 114, 115, 116, 117, 118, 119, 120, 121, 122, 123, 124, 125, 126, 127, 128, 129, 130, 131, 132, 133, 134, 135, 136, 137, 138, 139, 140, 141, 142, 143, 144, 145, 146, 147, 148], 17) (α := Nat × Int) (fun (j2, w) => [(16, .int .i64 j2), (15, .int .i64 w)])
          (fun (j2, w) h' => j2 ≤ j ∧ (hd.take j2).foldl (farS xs ps' us) (-1) = w ∧ Sep h h' [Sl 3 U un cU (ints .i64 us), Sl 3 T j cT (ints .i64 tk), Sl 3 A' j c' (ints .i64 hd), PlP B R d ps', Sl 3 O m cO (ints .i64 od), SpP A R ca xs, Bx bf (fcs f) 31])
          (fun (j2, _) => j - j2) (0, -1) (by (repeat' (first | exact trivial | refine ⟨rfl, ?_⟩))) ⟨Nat.zero_le _, rfl, HS⟩ ?_
        clear HS
        intro KK5 hKK5
        rintro ⟨j2, w⟩ h5 ⟨hj2, hw, HS⟩
        have hwc : w = -1 ∨ ∃ i2 : Nat, w = i2 ∧ i2 < R ∧ 0 < rgI ps' i2 := by
          rcases far_mem (xs := xs) (ps := ps') (us := us) (hd.take j2) (-1) with hm | ⟨hm, _⟩
          · exact .inl (hw.symm.trans hm)
          · rw [hw] at hm
            exact .inr (hin w (List.mem_of_mem_take hm))
        conv => whnf
        obtain hjl | hjg := Nat.lt_or_ge j2 j
        · obtain ⟨q, hqj⟩ : ∃ q, hd[j2]? = some q := ⟨_, List.getElem?_eq_getElem (by omega)⟩
          obtain ⟨i1, rfl, hi1, _⟩ := hin q (List.mem_of_getElem? hqj)
          obtain ⟨y, hy⟩ : ∃ y, ps'[i1]? = some y := ⟨_, List.getElem?_eq_getElem (by omega)⟩
          obtain ⟨v, hv⟩ : ∃ v, xs[i1]? = some v := ⟨_, List.getElem?_eq_getElem (by omega)⟩
          have ry : rgI ps' i1 = y.rg := by unfold rgI; rw [Int.toNat_natCast, hy]; rfl
          have tv : toI xs i1 = v.to := by unfold toI; rw [hv]; rfl
          have vi : (ints .i64 hd)[((j2 : Int)).toNat]? = some (.int .i64 i1) := by rw [Int.toNat_natCast]; simp [hqj]
          have hfs : (hd.take (j2 + 1)).foldl (farS xs ps' us) (-1) = farS xs ps' us w i1 := by rw [List.take_add_one, hqj, List.foldl_append, hw]; rfl
          cases hbm : decide (y.rg ∈ us)
          · have hm : ¬ y.rg ∈ us := of_decide_eq_false hbm
            repeat' ((first | ((with_reducible refine EvDraw.ord (id := 30) (.go 0 (.go 1 (.go 2 (.go 3 (.go 4 (.go 5 (.go 6 (.go 7 (.go 8 (.alt 9 (.go 10 (.go 11 (.go 12 (.go 13 (.go 14 (.go 15 (.go 16 (.go 17 (.go 18 (.go 19 (.go 20 (.go 21 (.go 22 (.go 23 (.go 24 (.go 25 (.go 26 (.go 27 (.go 28 (.go 29 .done)))))))))))))))))))) .stop)))))))))) fol ?_ ?_ ?_); kernel_rfl; kernel_rfl) | ((with_reducible refine EvIdx.rd (vs := ints .i64 hd) (HS.rd 2 rfl) (by simpa using hhl) (by omega) (by omega) ?_); intro bI oI eI hI) | ((with_reducible refine EvLd.rowv (by assumption) vi ?_)) | ((with_reducible refine EvIdx.el Pl.len (by decide) (by first | exact HS.ppr 0 rfl | exact HS.ppr 1 rfl | exact HS.ppr 2 rfl | exact HS.ppr 3 rfl | exact HS.ppr 4 rfl | exact HS.ppr 5 rfl | exact HS.ppr 6 rfl | exact HS.ppr 7 rfl | exact HS.ppr 8 rfl | exact HS.ppr 9 rfl | exact HS.ppr 10 rfl | exact HS.ppr 11 rfl | exact HS.ppr 12 rfl | exact HS.ppr 13 rfl | exact HS.ppr 14 rfl | exact HS.ppr 15 rfl | exact HS.ppr 16 rfl | exact HS.ppr 17 rfl | exact HS.ppr 18 rfl | exact HS.ppr 19 rfl) pl (by omega) (by omega) ?_); intro bI oI z eI hz hI; have hzx : y = z := Option.some.inj (hy.symm.trans hz); subst hzx) | ((with_reducible refine EvLd.el0 hI rfl ?_)) | ((with_reducible refine EvCall.fn 73 ?_); (with_reducible refine HC.mono (has_c (HS.rd 0 rfl) hun (by omega) _) ?_); rintro _ _ ⟨hv0, rfl⟩; rw [hbm] at hv0; subst hv0) | ((with_reducible refine EvKeep.same ?_)) | (with_reducible first | refine EvSeq.go ?_ | refine EvIf.tt ?_ | refine EvIf.ff ?_) | ((with_reducible refine EvIf.mk (fun c => ?_) (fun c => ?_)) <;> (try simp only [cs_] at c) <;> (try (exfalso; first | omega | (revert c; decide))))) <;> conv => whnf)
            refine ⟨(j2 + 1, _), ⟨congrArg (fun z => some (Value.int .i64 z)) ((i64w _ (by omega) (by omega)).trans (by omega)), rfl, (by (repeat' (first | exact trivial | refine ⟨rfl, ?_⟩)))⟩, ⟨by omega, ?_, HS⟩, by show j - (j2 + 1) < j - j2; omega⟩
            rw [hfs]
            unfold farS
            rw [if_neg (fun hc => hm (by rw [← ry]; exact hc.1))]
          · have hm : y.rg ∈ us := of_decide_eq_true hbm
            rcases hwc with rfl | ⟨i2, rfl, hi2, _⟩
            · repeat' ((first | ((with_reducible refine EvDraw.ord (id := 30) (.go 0 (.go 1 (.go 2 (.go 3 (.go 4 (.go 5 (.go 6 (.go 7 (.go 8 (.alt 9 (.go 10 (.go 11 (.go 12 (.go 13 (.go 14 (.go 15 (.go 16 (.go 17 (.go 18 (.go 19 (.go 20 (.go 21 (.go 22 (.go 23 (.go 24 (.go 25 (.go 26 (.go 27 (.go 28 (.go 29 .done)))))))))))))))))))) .stop)))))))))) fol ?_ ?_ ?_); kernel_rfl; kernel_rfl) | ((with_reducible refine EvIdx.rd (vs := ints .i64 hd) (HS.rd 2 rfl) (by simpa using hhl) (by omega) (by omega) ?_); intro bI oI eI hI) | ((with_reducible refine EvLd.rowv (by assumption) vi ?_)) | ((with_reducible refine EvIdx.el Pl.len (by decide) (by first | exact HS.ppr 0 rfl | exact HS.ppr 1 rfl | exact HS.ppr 2 rfl | exact HS.ppr 3 rfl | exact HS.ppr 4 rfl | exact HS.ppr 5 rfl | exact HS.ppr 6 rfl | exact HS.ppr 7 rfl | exact HS.ppr 8 rfl | exact HS.ppr 9 rfl | exact HS.ppr 10 rfl | exact HS.ppr 11 rfl | exact HS.ppr 12 rfl | exact HS.ppr 13 rfl | exact HS.ppr 14 rfl | exact HS.ppr 15 rfl | exact HS.ppr 16 rfl | exact HS.ppr 17 rfl | exact HS.ppr 18 rfl | exact HS.ppr 19 rfl) pl (by omega) (by omega) ?_); intro bI oI z eI hz hI; have hzx : y = z := Option.some.inj (hy.symm.trans hz); subst hzx) | ((with_reducible refine EvLd.el0 hI rfl ?_)) | ((with_reducible refine EvCall.fn 73 ?_); (with_reducible refine HC.mono (has_c (HS.rd 0 rfl) hun (by omega) _) ?_); rintro _ _ ⟨hv0, rfl⟩; rw [hbm] at hv0; subst hv0) | ((with_reducible refine EvKeep.same ?_)) | (with_reducible first | refine EvSeq.go ?_ | refine EvIf.tt ?_ | refine EvIf.ff ?_) | ((with_reducible refine EvIf.mk (fun c => ?_) (fun c => ?_)) <;> (try simp only [cs_] at c) <;> (try (exfalso; first | omega | (revert c; decide))))) <;> conv => whnf)
              refine ⟨(j2 + 1, _), ⟨congrArg (fun z => some (Value.int .i64 z)) ((i64w _ (by omega) (by omega)).trans (by omega)), rfl, (by (repeat' (first | exact trivial | refine ⟨rfl, ?_⟩)))⟩, ⟨by omega, ?_, HS⟩, by show j - (j2 + 1) < j - j2; omega⟩
              rw [hfs]
              unfold farS
              rw [if_pos ⟨by rw [ry]; exact hm, .inl (by omega)⟩]
            · obtain ⟨v2, hv2⟩ : ∃ v, xs[i2]? = some v := ⟨_, List.getElem?_eq_getElem (by omega)⟩
              have tv2 : toI xs i2 = v2.to := by unfold toI; rw [hv2]; rfl
              repeat' ((first | ((with_reducible refine EvDraw.ord (id := 30) (.go 0 (.go 1 (.go 2 (.go 3 (.go 4 (.go 5 (.go 6 (.go 7 (.go 8 (.alt 9 (.go 10 (.go 11 (.go 12 (.go 13 (.go 14 (.go 15 (.go 16 (.go 17 (.go 18 (.go 19 (.go 20 (.go 21 (.go 22 (.go 23 (.go 24 (.go 25 (.go 26 (.go 27 (.go 28 (.go 29 .done)))))))))))))))))))) .stop)))))))))) fol ?_ ?_ ?_); kernel_rfl; kernel_rfl) | ((with_reducible refine EvIdx.rd (vs := ints .i64 hd) (HS.rd 2 rfl) (by simpa using hhl) (by omega) (by omega) ?_); intro bI oI eI hI) | ((with_reducible refine EvLd.rowv (by assumption) vi ?_)) | ((with_reducible refine EvIdx.el Pl.len (by decide) (by first | exact HS.ppr 0 rfl | exact HS.ppr 1 rfl | exact HS.ppr 2 rfl | exact HS.ppr 3 rfl | exact HS.ppr 4 rfl | exact HS.ppr 5 rfl | exact HS.ppr 6 rfl | exact HS.ppr 7 rfl | exact HS.ppr 8 rfl | exact HS.ppr 9 rfl | exact HS.ppr 10 rfl | exact HS.ppr 11 rfl | exact HS.ppr 12 rfl | exact HS.ppr 13 rfl | exact HS.ppr 14 rfl | exact HS.ppr 15 rfl | exact HS.ppr 16 rfl | exact HS.ppr 17 rfl | exact HS.ppr 18 rfl | exact HS.ppr 19 rfl) pl (by omega) (by omega) ?_); intro bI oI z eI hz hI; have hzx : y = z := Option.some.inj (hy.symm.trans hz); subst hzx) | ((with_reducible refine EvLd.el0 hI rfl ?_)) | ((with_reducible refine EvCall.fn 73 ?_); (with_reducible refine HC.mono (has_c (HS.rd 0 rfl) hun (by omega) _) ?_); rintro _ _ ⟨hv0, rfl⟩; rw [hbm] at hv0; subst hv0) | ((with_reducible refine EvKeep.same ?_)) | ((with_reducible refine EvIdx.el Sp.len (by decide) (by first | exact HS.spr 0 rfl | exact HS.spr 1 rfl | exact HS.spr 2 rfl | exact HS.spr 3 rfl | exact HS.spr 4 rfl | exact HS.spr 5 rfl | exact HS.spr 6 rfl | exact HS.spr 7 rfl | exact HS.spr 8 rfl | exact HS.spr 9 rfl | exact HS.spr 10 rfl | exact HS.spr 11 rfl | exact HS.spr 12 rfl | exact HS.spr 13 rfl | exact HS.spr 14 rfl | exact HS.spr 15 rfl | exact HS.spr 16 rfl | exact HS.spr 17 rfl | exact HS.spr 18 rfl | exact HS.spr 19 rfl) hxl (by omega) (by omega) ?_); intro bI oI z eI hz hI; (first | (have hzx : v = z := Option.some.inj (hv.symm.trans hz); subst hzx) | (have hzx : v2 = z := Option.some.inj (hv2.symm.trans hz); subst hzx))) | ((with_reducible refine EvLd.el 1 hI rfl ?_)) | (with_reducible first | refine EvSeq.go ?_ | refine EvIf.tt ?_ | refine EvIf.ff ?_) | ((with_reducible refine EvIf.mk (fun c => ?_) (fun c => ?_)) <;> (try simp only [cs_] at c) <;> (try (exfalso; first | omega | (revert c; decide))))) <;> conv => whnf)
              · refine ⟨(j2 + 1, _), ⟨congrArg (fun z => some (Value.int .i64 z)) ((i64w _ (by omega) (by omega)).trans (by omega)), rfl, (by (repeat' (first | exact trivial | refine ⟨rfl, ?_⟩)))⟩, ⟨by omega, ?_, HS⟩, by show j - (j2 + 1) < j - j2; omega⟩
                rw [hfs]
                unfold farS
                rw [if_pos ⟨by rw [ry]; exact hm, .inr (by rw [Int.toNat_natCast, Int.toNat_natCast, tv, tv2]; omega)⟩]
              · refine ⟨(j2 + 1, _), ⟨congrArg (fun z => some (Value.int .i64 z)) ((i64w _ (by omega) (by omega)).trans (by omega)), rfl, (by (repeat' (first | exact trivial | refine ⟨rfl, ?_⟩)))⟩, ⟨by omega, ?_, HS⟩, by show j - (j2 + 1) < j - j2; omega⟩
                rw [hfs]
                unfold farS
                rw [if_neg (fun hc => by have := hc.2; rw [Int.toNat_natCast, Int.toNat_natCast, tv, tv2] at this; omega)]
        · obtain rfl : j2 = j := by omega
          rw [List.take_of_length_le (by omega)] at hw
          have hfw : farF xs ps' us hd = w := hw
          have hst1 : stepA xs (ps', s) (r : Int) = if 0 ≤ w ∧ toI xs r < toI xs w.toNat then ((ps'.set r ⟨rgI ps' w, -1⟩).set w.toNat ⟨0, s⟩, s + 1) else (ps'.set r ⟨0, s⟩, s + 1) := by
            unfold stepA
            dsimp only
            rw [Int.toNat_natCast, hfn]
            dsimp only
            rw [cx, hus, hdR', hfw]
          repeat' ((first | (with_reducible first | refine EvSeq.go ?_ | refine EvIf.tt ?_ | refine EvIf.ff ?_) | ((with_reducible refine EvIf.mk (fun c => ?_) (fun c => ?_)) <;> (try simp only [cs_] at c) <;> (try (exfalso; first | omega | (revert c; decide))))) <;> conv => whnf)
          refine hKK5 _ _ _ ?_
          conv => whnf
          rcases hwc with rfl | ⟨i2, rfl, hi2, hg2⟩
          · repeat' ((first | ((with_reducible refine EvDraw.ord (id := 32) (.go 0 (.go 1 (.go 2 (.go 3 (.go 4 (.go 5 (.go 6 (.go 7 (.go 8 (.go 9 (.go 10 (.go 11 (.go 12 (.go 13 (.go 14 .done))))))))))))))) fol ?_ ?_ ?_); kernel_rfl; kernel_rfl) | ((with_reducible refine EvIdx.el Pl.len (by decide) (by first | exact HS.ppr 0 rfl | exact HS.ppr 1 rfl | exact HS.ppr 2 rfl | exact HS.ppr 3 rfl | exact HS.ppr 4 rfl | exact HS.ppr 5 rfl | exact HS.ppr 6 rfl | exact HS.ppr 7 rfl | exact HS.ppr 8 rfl | exact HS.ppr 9 rfl | exact HS.ppr 10 rfl | exact HS.ppr 11 rfl | exact HS.ppr 12 rfl | exact HS.ppr 13 rfl | exact HS.ppr 14 rfl | exact HS.ppr 15 rfl | exact HS.ppr 16 rfl | exact HS.ppr 17 rfl | exact HS.ppr 18 rfl | exact HS.ppr 19 rfl) pl (by omega) (by omega) ?_); intro bI oI z eI hz hI) | (with_reducible first | refine EvSeq.go ?_ | refine EvIf.tt ?_ | refine EvIf.ff ?_) | ((with_reducible refine EvIf.mk (fun c => ?_) (fun c => ?_)) <;> (try simp only [cs_] at c) <;> (try (exfalso; first | omega | (revert c; decide))))) <;> conv => whnf)
            refine EvSt.pp HS 3 rfl eI hp ⟨0, s⟩ 1 (by first | rfl | (rw [Int.toNat_natCast]; rfl)) (by simp) rfl ?_
            intro h6 HS2
            clear HS
            have HS := HS2
            clear HS2
            dsimp only [List.set] at HS
            conv => whnf
            repeat' (fail <;> conv => whnf)
            refine ⟨(k + 1, _, s + 1), ⟨congrArg (fun z => some (Value.int .i64 z)) ((i64w _ (by omega) (by omega)).trans (by omega)), congrArg (fun z => some (Value.int .i64 z)) ((i64w _ (by omega) (by omega)).trans (by omega)), (by (repeat' (first | exact trivial | refine ⟨rfl, ?_⟩)))⟩, ⟨by omega, ?_, HS.tail.tail.tail⟩, by show m - (k + 1) < m - k; omega⟩
            rw [hnx, hst1, if_neg (fun hc => absurd hc.1 (by decide))]
          · obtain ⟨v2, hv2⟩ : ∃ v, xs[i2]? = some v := ⟨_, List.getElem?_eq_getElem (by omega)⟩
            have tv2 : toI xs i2 = v2.to := by unfold toI; rw [hv2]; rfl
            obtain ⟨y2, hy2⟩ : ∃ y, ps'[i2]? = some y := ⟨_, List.getElem?_eq_getElem (by omega)⟩
            have ry2 : rgI ps' i2 = y2.rg := by unfold rgI; rw [Int.toNat_natCast, hy2]; rfl
            have hne : r ≠ i2 := fun e => by
              subst e
              rw [hp] at hy2
              cases hy2
              rw [ry2] at hg2
              exact absurd hg2 (by decide)
            repeat' ((first | ((with_reducible refine EvDraw.ord (id := 32) (.go 0 (.go 1 (.go 2 (.go 3 (.go 4 (.go 5 (.go 6 (.go 7 (.go 8 (.go 9 (.go 10 (.go 11 (.go 12 (.go 13 (.go 14 .done))))))))))))))) fol ?_ ?_ ?_); kernel_rfl; kernel_rfl) | ((with_reducible refine EvIdx.el Sp.len (by decide) (by first | exact HS.spr 0 rfl | exact HS.spr 1 rfl | exact HS.spr 2 rfl | exact HS.spr 3 rfl | exact HS.spr 4 rfl | exact HS.spr 5 rfl | exact HS.spr 6 rfl | exact HS.spr 7 rfl | exact HS.spr 8 rfl | exact HS.spr 9 rfl | exact HS.spr 10 rfl | exact HS.spr 11 rfl | exact HS.spr 12 rfl | exact HS.spr 13 rfl | exact HS.spr 14 rfl | exact HS.spr 15 rfl | exact HS.spr 16 rfl | exact HS.spr 17 rfl | exact HS.spr 18 rfl | exact HS.spr 19 rfl) hxl (by omega) (by omega) ?_); intro bI oI z eI hz hI; (first | (have hzx : x = z := Option.some.inj (hx.symm.trans hz); subst hzx) | (have hzx : v2 = z := Option.some.inj (hv2.symm.trans hz); subst hzx))) | ((with_reducible refine EvLd.el 1 hI rfl ?_)) | ((with_reducible refine EvIdx.el Pl.len (by decide) (by first | exact HS.ppr 0 rfl | exact HS.ppr 1 rfl | exact HS.ppr 2 rfl | exact HS.ppr 3 rfl | exact HS.ppr 4 rfl | exact HS.ppr 5 rfl | exact HS.ppr 6 rfl | exact HS.ppr 7 rfl | exact HS.ppr 8 rfl | exact HS.ppr 9 rfl | exact HS.ppr 10 rfl | exact HS.ppr 11 rfl | exact HS.ppr 12 rfl | exact HS.ppr 13 rfl | exact HS.ppr 14 rfl | exact HS.ppr 15 rfl | exact HS.ppr 16 rfl | exact HS.ppr 17 rfl | exact HS.ppr 18 rfl | exact HS.ppr 19 rfl) pl (by omega) (by omega) ?_); intro bI oI z eI hz hI; (try (have hzx : y2 = z := Option.some.inj (hy2.symm.trans hz); subst hzx))) | ((with_reducible refine EvLd.el0 hI rfl ?_)) | (with_reducible first | refine EvSeq.go ?_ | refine EvIf.tt ?_ | refine EvIf.ff ?_) | ((with_reducible refine EvIf.mk (fun c => ?_) (fun c => ?_)) <;> (try simp only [cs_] at c) <;> (try (exfalso; first | omega | (revert c; decide))))) <;> conv => whnf)
            · refine EvSt.pp HS 3 rfl eI hp ⟨y2.rg, -1⟩ 0 (by first | rfl | (rw [Int.toNat_natCast]; rfl)) (by simp) rfl ?_
              intro h6 HS2
              clear HS
              have HS := HS2
              clear HS2
              dsimp only [List.set] at HS
              conv => whnf
              have pl2 := (HS.ppl 3 rfl).1
              have hy3 : (ps'.set r ⟨y2.rg, -1⟩)[i2]? = some y2 := by rw [List.getElem?_set_ne hne]; exact hy2
              repeat' (((with_reducible refine EvIdx.el Pl.len (by decide) (by first | exact HS.ppr 0 rfl | exact HS.ppr 1 rfl | exact HS.ppr 2 rfl | exact HS.ppr 3 rfl | exact HS.ppr 4 rfl | exact HS.ppr 5 rfl | exact HS.ppr 6 rfl | exact HS.ppr 7 rfl | exact HS.ppr 8 rfl | exact HS.ppr 9 rfl | exact HS.ppr 10 rfl | exact HS.ppr 11 rfl | exact HS.ppr 12 rfl | exact HS.ppr 13 rfl | exact HS.ppr 14 rfl | exact HS.ppr 15 rfl | exact HS.ppr 16 rfl | exact HS.ppr 17 rfl | exact HS.ppr 18 rfl | exact HS.ppr 19 rfl) pl2 (by omega) (by omega) ?_); intro bI oI z eI hz hI) <;> conv => whnf)
              refine EvSt.pp HS 3 rfl eI hy3 ⟨0, y2.sp⟩ 0 (by first | rfl | (rw [Int.toNat_natCast]; rfl)) (by simp) rfl ?_
              intro h7 HS2
              clear HS
              have HS := HS2
              clear HS2
              dsimp only [List.set] at HS
              conv => whnf
              have pl3 := (HS.ppl 3 rfl).1
              have hy4 : ((ps'.set r ⟨y2.rg, -1⟩).set i2 ⟨0, y2.sp⟩)[i2]? = some ⟨0, y2.sp⟩ := List.getElem?_set_self (List.getElem?_eq_some_iff.mp hy3).1
              repeat' (((with_reducible refine EvIdx.el Pl.len (by decide) (by first | exact HS.ppr 0 rfl | exact HS.ppr 1 rfl | exact HS.ppr 2 rfl | exact HS.ppr 3 rfl | exact HS.ppr 4 rfl | exact HS.ppr 5 rfl | exact HS.ppr 6 rfl | exact HS.ppr 7 rfl | exact HS.ppr 8 rfl | exact HS.ppr 9 rfl | exact HS.ppr 10 rfl | exact HS.ppr 11 rfl | exact HS.ppr 12 rfl | exact HS.ppr 13 rfl | exact HS.ppr 14 rfl | exact HS.ppr 15 rfl | exact HS.ppr 16 rfl | exact HS.ppr 17 rfl | exact HS.ppr 18 rfl | exact HS.ppr 19 rfl) pl3 (by omega) (by omega) ?_); intro bI oI z eI hz hI) <;> conv => whnf)
              refine EvSt.pp HS 3 rfl eI hy4 ⟨0, s⟩ 1 (by first | rfl | (rw [Int.toNat_natCast]; rfl)) (by simp) rfl ?_
              intro h8 HS2
              clear HS
              have HS := HS2
              clear HS2
              dsimp only [List.set] at HS
              conv => whnf
              repeat' (fail <;> conv => whnf)
              refine ⟨(k + 1, _, s + 1), ⟨congrArg (fun z => some (Value.int .i64 z)) ((i64w _ (by omega) (by omega)).trans (by omega)), congrArg (fun z => some (Value.int .i64 z)) ((i64w _ (by omega) (by omega)).trans (by omega)), (by (repeat' (first | exact trivial | refine ⟨rfl, ?_⟩)))⟩, ⟨by omega, ?_, HS.tail.tail.tail⟩, by show m - (k + 1) < m - k; omega⟩
              rw [hnx, hst1, if_pos ⟨by omega, by rw [tx, Int.toNat_natCast, tv2]; omega⟩, Int.toNat_natCast, List.set_set, ry2]
            · refine EvSt.pp HS 3 rfl eI hp ⟨0, s⟩ 1 (by first | rfl | (rw [Int.toNat_natCast]; rfl)) (by simp) rfl ?_
              intro h6 HS2
              clear HS
              have HS := HS2
              clear HS2
              dsimp only [List.set] at HS
              conv => whnf
              repeat' (fail <;> conv => whnf)
              refine ⟨(k + 1, _, s + 1), ⟨congrArg (fun z => some (Value.int .i64 z)) ((i64w _ (by omega) (by omega)).trans (by omega)), congrArg (fun z => some (Value.int .i64 z)) ((i64w _ (by omega) (by omega)).trans (by omega)), (by (repeat' (first | exact trivial | refine ⟨rfl, ?_⟩)))⟩, ⟨by omega, ?_, HS.tail.tail.tail⟩, by show m - (k + 1) < m - k; omega⟩
              rw [hnx, hst1, if_neg (fun hc => by have := hc.2; rw [tx, Int.toNat_natCast, tv2] at this; omega)]
      · have hp2 : (ps.set r (⟨mm, -1⟩ : Pl))[r]? = some ⟨mm, -1⟩ := List.getElem?_set_self (by omega)
        obtain hil | hig := Nat.lt_or_ge i un
        all_goals
          repeat' ((first | ((with_reducible refine EvIdx.el Pl.len (by decide) (by first | exact HS.ppr 0 rfl | exact HS.ppr 1 rfl | exact HS.ppr 2 rfl | exact HS.ppr 3 rfl | exact HS.ppr 4 rfl | exact HS.ppr 5 rfl | exact HS.ppr 6 rfl | exact HS.ppr 7 rfl | exact HS.ppr 8 rfl | exact HS.ppr 9 rfl | exact HS.ppr 10 rfl | exact HS.ppr 11 rfl | exact HS.ppr 12 rfl | exact HS.ppr 13 rfl | exact HS.ppr 14 rfl | exact HS.ppr 15 rfl | exact HS.ppr 16 rfl | exact HS.ppr 17 rfl | exact HS.ppr 18 rfl | exact HS.ppr 19 rfl) pl' (by omega) (by omega) ?_); intro bI oI z eI hz hI; have hzx : (⟨mm, -1⟩ : Pl) = z := Option.some.inj (hp2.symm.trans hz); subst hzx) | ((with_reducible refine EvLd.el0 hI rfl ?_)) | (with_reducible first | refine EvSeq.go ?_ | refine EvIf.tt ?_ | refine EvIf.ff ?_) | ((with_reducible refine EvIf.mk (fun c => ?_) (fun c => ?_)) <;> (try simp only [cs_] at c) <;> (try (exfalso; first | omega | (revert c; decide))))) <;> conv => whnf)
          refine hKK4 _ _ _ ?_
          conv => whnf
          repeat' ((first | ((with_reducible refine EvIdx.el Pl.len (by decide) (by first | exact HS.ppr 0 rfl | exact HS.ppr 1 rfl | exact HS.ppr 2 rfl | exact HS.ppr 3 rfl | exact HS.ppr 4 rfl | exact HS.ppr 5 rfl | exact HS.ppr 6 rfl | exact HS.ppr 7 rfl | exact HS.ppr 8 rfl | exact HS.ppr 9 rfl | exact HS.ppr 10 rfl | exact HS.ppr 11 rfl | exact HS.ppr 12 rfl | exact HS.ppr 13 rfl | exact HS.ppr 14 rfl | exact HS.ppr 15 rfl | exact HS.ppr 16 rfl | exact HS.ppr 17 rfl | exact HS.ppr 18 rfl | exact HS.ppr 19 rfl) pl' (by omega) (by omega) ?_); intro bI oI z eI hz hI; have hzx : (⟨mm, -1⟩ : Pl) = z := Option.some.inj (hp2.symm.trans hz); subst hzx) | ((with_reducible refine EvLd.el0 hI rfl ?_)) | (with_reducible first | refine EvSeq.go ?_ | refine EvIf.tt ?_ | refine EvIf.ff ?_) | ((with_reducible refine EvIf.mk (fun c => ?_) (fun c => ?_)) <;> (try simp only [cs_] at c) <;> (try (exfalso; first | omega | (revert c; decide))))) <;> conv => whnf)
          refine ⟨(k + 1, _, s), ⟨congrArg (fun z => some (Value.int .i64 z)) ((i64w _ (by omega) (by omega)).trans (by omega)), rfl, (by (repeat' (first | exact trivial | refine ⟨rfl, ?_⟩)))⟩, ⟨by omega, ?_, HS.tail.tail.tail⟩, by show m - (k + 1) < m - k; omega⟩
          rw [hnx]
          unfold stepA
          dsimp only
          rw [Int.toNat_natCast, hf]
    · obtain rfl : k = m := by omega
      repeat' ((first | (with_reducible first | refine EvSeq.go ?_ | refine EvIf.tt ?_ | refine EvIf.ff ?_) | ((with_reducible refine EvIf.mk (fun c => ?_) (fun c => ?_)) <;> (try simp only [cs_] at c) <;> (try (exfalso; first | omega | (revert c; decide))))) <;> conv => whnf)
      refine hKK2 _ _ _ ?_
      conv => whnf
      repeat' (fail <;> conv => whnf)
      refine ⟨_, _, od, rfl, io, ?_⟩
      rw [hod, hst]
      exact HS.take [_]
end Go.Proofs.YtjggmhpjlnmigaaDoor
