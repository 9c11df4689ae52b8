/- Live registers: the program's search; one round. -/
import Derived.Test.YtjggmhpjlnmigaaDoorVAd
import Derived.Test.YtjggmhpjlnmigaaDoorVRg
import Derived.Test.YtjggmhpjlnmigaaDoorVLvM
namespace Go.Proofs.YtjggmhpjlnmigaaDoor
open Go.RowKit
set_option maxRecDepth 20000
set_option linter.unusedSimpArgs false
set_option linter.unusedVariables false
/-- a whole row stored -/
theorem Sep.slAll {h0 h : Hp} {L : List Asn} {T : TypeId} {A : Option Addr} {n c : Nat} {vs : List Value} (s : Sep h0 h (Sl T A n c vs :: L)) (hn : n ≠ 0) :
    ∃ b o cs, A = some ⟨b, o, none⟩ ∧ h[b]? = some (.cells cs T (0, 0)) ∧ o + n ≤ cs.size ∧ ∀ ws h', ws.length = n → Upd h b (.cells (ovr cs.toList o ws).toArray T (0, 0)) h' → Sep h0 h' (Sl T A n c ws :: L) := by
  obtain ⟨S, a, _⟩ := s.get (List.mem_cons_self)
  obtain ⟨h1, h2, h3⟩ := a
  rcases h3 with h3 | ⟨b, pre, rest, e, hS, hb, hc⟩
  · omega
  refine ⟨b, pre.length, _, e, hb, by simp; omega, fun ws h' hw u => ?_⟩
  have hov : ovr (pre ++ (vs ++ rest)) pre.length ws = pre ++ (ws ++ rest) := by
    unfold ovr
    rw [List.take_left' rfl, show pre.length + ws.length = pre.length + vs.length by omega, ← List.append_assoc pre vs rest, List.drop_left' (by simp), List.append_assoc]
  rw [show (pre ++ (vs ++ rest)).toArray.toList = pre ++ (vs ++ rest) from rfl, hov] at u
  refine s.turn (fun S' a' => ⟨S', ?_, fun _ hb => .inl hb, fun k _ hk => u.else_ k (fun e' => hk ?_)⟩) (by rw [u.size]; exact Nat.le_refl _)
  · obtain ⟨_, _, h4⟩ := a'
    rcases h4 with h4 | ⟨b', pre', rest', e', hS', hb', hc'⟩
    · omega
    · rw [e] at e'
      simp only [Option.some.injEq, Addr.mk.injEq] at e'
      obtain ⟨eb, ep, _⟩ := e'
      subst eb
      exact ⟨hw, h2, .inr ⟨b, pre, rest, e, hS', u.at_, by omega⟩⟩
  · obtain ⟨_, _, h4⟩ := a'
    rcases h4 with h4 | ⟨b', pre', rest', e', hS', hb', hc'⟩
    · omega
    · rw [e] at e'
      simp only [Option.some.injEq, Addr.mk.injEq] at e'
      obtain ⟨eb, ep, _⟩ := e'
      subst eb
      rw [e']
      exact hS'
theorem EvClr.slx {h0 h : Hp} {L : List Asn} {T : TypeId} {A : Option Addr} {n c : Nat} {W : List Nat} {K : Hp → Prop} (s : Sep h0 h L) (i : Nat) (hi : L[i]? = some (Sl T A n c (W.map eW)))
    (k : ∀ h', Sep h0 h' (L.set i (Sl T A n c ((List.replicate n 0).map eW))) → K h') : EvClr A n [.int .u64 0] h K := by
  by_cases hn : n = 0
  · subst hn
    refine ⟨.inl ⟨rfl, k h ?_⟩⟩
    have hl : W = [] := List.eq_nil_of_length_eq_zero (s.mem_rd i hi)
    subst hl
    rw [set_self (X := Sl T A 0 c ((List.replicate 0 0).map eW)) hi]
    exact s
  · obtain ⟨b, o, cs, e, hb, hle, turn⟩ := (s.front i hi).slAll hn
    refine ⟨.inr ⟨b, o, cs, T, e, hn, hb, by simpa using hle, fun h' u => k h' ?_⟩⟩
    have e1 : mkCells [.int .u64 0] n = (List.replicate n 0).map eW := by rw [mkCells_one, List.map_replicate]; rfl
    rw [e1] at u
    exact (turn _ h' (by simp) u).unfront (List.getElem?_eq_some_iff.mp hi).1
theorem EvCpy.rg {h0 h : Hp} {L : List Asn} {TT T T' : TypeId} {A Aw : Option Addr} {n c N cw : Nat} {xs : List (Rg Nat)} {W : List Nat} {K : Nat → Hp → Prop} (s : Sep h0 h L) (i : Nat) (hi : L[i]? = some (RgP eW TT T A n c xs)) {k : Nat} {y : Rg Nat} (hy : xs[k]? = some y)
    (j : Nat) (hj : L[j]? = some (Sl T' Aw N cw (W.map eW))) (hN : y.h.n = N) (kk : ∀ h', Sep h0 h' (L.set i (RgP eW TT T A n c (xs.set k { y with l := W }))) → K N h') : EvCpy y.h.a y.h.n Aw N 1 h K := by
  have hW : W.length = N := s.mem_rd j hj
  have hyl := (s.rgx i hi hy).2
  refine ⟨W.map eW, by rw [List.length_map, hN, Nat.min_self, Nat.mul_one, hW], s.rd j hj, fun v hv => ?_, ?_⟩
  · obtain ⟨w, _, rfl⟩ := List.mem_map.mp hv
    rfl
  · rw [hN, Nat.min_self]
    obtain ⟨M, s1, back⟩ := s.rgo i hi hy
    by_cases h0n : N = 0
    · left
      have hl : W = [] := List.eq_nil_of_length_eq_zero (by omega)
      have hl2 : y.l = [] := List.eq_nil_of_length_eq_zero (by omega)
      refine ⟨by rw [hl]; rfl, kk h (back h W ?_)⟩
      have : ({ y with l := W } : Rg Nat) = y := by rw [hl, ← hl2]
      rw [this]
      exact s1
    · right
      obtain ⟨b, o, cs, e, hb, hle, turn⟩ := Sep.slAll (T := T) (vs := y.l.map eW) s1 (by omega)
      refine ⟨b, o, cs, T, e, hb, by rw [List.length_map]; omega, fun h' u => kk h' (back h' W ?_)⟩
      exact turn _ h' (by rw [List.length_map]; show W.length = _; omega) u
/-! ### marks, by words -/
def bs (xs : List (Rg Nat)) (i r : Nat) : Prop := ∃ x, xs[i]? = some x ∧ bt x.l r = true
def fw (cl : List Ii) (xs : List (Rg Nat)) (i r : Nat) : Prop := ∃ x, cl[i]? = some x ∧ ((r : Int) ∈ us x ∨ ((r : Int) ≠ st x ∧ ∃ j : Nat, (j : Int) ∈ nx cl i x ∧ bs xs j r))
def cz (N : Nat) (W : List Nat) : Nat := (List.range (64 * N)).countP fun r => !bt W r
def tot (N : Nat) : List (Rg Nat) → Nat
  | [] => 0
  | x :: r => cz N x.l + tot N r
theorem countP_lt {l : List Nat} {p q : Nat → Bool} (h : ∀ a ∈ l, q a = true → p a = true) {a : Nat} (ha : a ∈ l) (hp : p a = true) (hq : q a = false) : l.countP q < l.countP p := by
  induction l with
  | nil => cases ha
  | cons b l ih =>
    have hb := h b (by simp)
    rw [List.countP_cons, List.countP_cons]
    have hle : l.countP q ≤ l.countP p := List.countP_mono_left (fun a ha => h a (by simp [ha]))
    rcases List.mem_cons.mp ha with rfl | ha
    · rw [hp, hq]
      simp
      omega
    · have := ih (fun a ha => h a (by simp [ha])) ha
      cases e : q b with
      | true => rw [hb e]; simp; omega
      | false => cases p b <;> simp <;> omega
theorem cz_lt {N : Nat} {W V : List Nat} (hW : W.length = N) (hV : V.length = N) (b : B64 W) (b' : B64 V) (h : ∀ r, bt W r = true → bt V r = true) (hne : W ≠ V) : cz N V < cz N W := by
  have : ∃ r, bt W r ≠ bt V r := Classical.byContradiction fun e => hne (bt_ext (by omega) b b' (fun r => Classical.byContradiction fun e2 => e ⟨r, e2⟩))
  obtain ⟨r, hr⟩ := this
  have hw : bt W r = false := by
    cases e : bt W r with
    | false => rfl
    | true => rw [e, h r e] at hr; exact absurd rfl hr
  have hv : bt V r = true := by
    cases e : bt V r with
    | true => rfl
    | false => rw [e, hw] at hr; exact absurd rfl hr
  have hlt : r < 64 * N := by
    apply Classical.byContradiction
    intro e
    rw [bt_out (by omega)] at hv
    cases hv
  refine countP_lt (fun a _ hq => ?_) (List.mem_range.mpr hlt) (by simp [hw]) (by simp [hv])
  cases e : bt W a with
  | false => rfl
  | true => rw [h a e] at hq; cases hq
theorem tot_set {N : Nat} : ∀ {xs : List (Rg Nat)} {i : Nat} {y : Rg Nat} (V : List Nat), xs[i]? = some y → cz N V < cz N y.l → tot N (xs.set i { y with l := V }) < tot N xs
  | x :: xs, 0, y, V, h, hc => by
    cases h
    simp only [List.set_cons_zero, tot]
    omega
  | x :: xs, i + 1, y, V, h, hc => by
    have := tot_set (xs := xs) (i := i) V (by simpa using h) hc
    simp only [List.set_cons_succ, tot]
    omega
theorem bs_set {xs : List (Rg Nat)} {i : Nat} {y : Rg Nat} (h : xs[i]? = some y) (V : List Nat) (j r : Nat) : bs (xs.set i { y with l := V }) j r ↔ if j = i then bt V r = true else bs xs j r := by
  have hlt := (List.getElem?_eq_some_iff.mp h).1
  unfold bs
  rw [List.getElem?_set]
  by_cases e : i = j
  · subst e
    rw [if_pos rfl, if_pos hlt, if_pos rfl]
    simp
  · rw [if_neg e, if_neg (Ne.symm e)]
theorem fw_mono {cl : List Ii} {xs ys : List (Rg Nat)} (h : ∀ j r, bs xs j r → bs ys j r) {i r : Nat} (f : fw cl xs i r) : fw cl ys i r := by
  obtain ⟨x, hx, f⟩ := f
  refine ⟨x, hx, f.imp id fun ⟨a, j, b, c⟩ => ⟨a, j, b, h j r c⟩⟩
structure Wd (N : Nat) (xs : List (Rg Nat)) : Prop where
  l : ∀ x ∈ xs, x.l.length = N ∧ B64 x.l
theorem Wd.at_ {N : Nat} {xs : List (Rg Nat)} (w : Wd N xs) {i : Nat} {x : Rg Nat} (h : xs[i]? = some x) : x.l.length = N ∧ B64 x.l := w.l x (List.mem_of_getElem? h)
theorem Wd.set {N : Nat} {xs : List (Rg Nat)} (w : Wd N xs) {i : Nat} {y : Rg Nat} {V : List Nat} (h : V.length = N) (b : B64 V) : Wd N (xs.set i { y with l := V }) := ⟨fun x hx => by
  rcases List.mem_or_eq_of_mem_set hx with hx | rfl
  · exact w.l x hx
  · exact ⟨h, b⟩⟩
/-- in the midst of a round that began with zs; k steps are done, from the last on -/
structure RW (cl : List Ii) (N : Nat) (zs : List (Rg Nat)) (k : Nat) (m : Bool) (xs : List (Rg Nat)) : Prop where
  w : Wd N xs
  snd : ∀ i r, bs xs i r → Lv cl i r
  pre : ∀ i r, bs xs i r → fw cl xs i r
  same : m = false → xs = zs ∧ ∀ i r, cl.length - k ≤ i → fw cl zs i r → bs zs i r
  less : m = true → tot N xs < tot N zs
theorem RW.le {cl : List Ii} {N : Nat} {zs : List (Rg Nat)} {k : Nat} {m : Bool} {xs : List (Rg Nat)} (o : RW cl N zs k m xs) : tot N xs ≤ tot N zs := by
  cases m with
  | false => rw [(o.same rfl).1]; exact Nat.le_refl _
  | true => exact Nat.le_of_lt (o.less rfl)
theorem RW.step {cl : List Ii} {N : Nat} {zs : List (Rg Nat)} {k : Nat} {m : Bool} {xs : List (Rg Nat)} (o : RW cl N zs k m xs) {i : Nat} (hi : i + k + 1 = cl.length) {y : Rg Nat} (hy : xs[i]? = some y) {V : List Nat} (hV : V.length = N) (b : B64 V) (hf : ∀ r, bt V r = true ↔ fw cl xs i r) :
    (V = y.l → RW cl N zs (k + 1) m xs) ∧ (V ≠ y.l → RW cl N zs (k + 1) true (xs.set i { y with l := V })) := by
  have wy := o.w.at_ hy
  have up : ∀ j r, bs xs j r → bs (xs.set i { y with l := V }) j r := fun j r h => by
    rw [bs_set hy]
    split
    · rename_i e
      subst e
      exact (hf r).mpr (o.pre j r h)
    · exact h
  constructor
  · intro e
    refine ⟨o.w, o.snd, o.pre, fun em => ?_, o.less⟩
    obtain ⟨e1, e2⟩ := o.same em
    refine ⟨e1, fun i' r hi' h => ?_⟩
    by_cases hii : i' = i
    · subst hii
      rw [← e1] at h ⊢
      exact ⟨y, hy, by rw [← e]; exact (hf r).mpr h⟩
    · exact e2 i' r (by omega) h
  · intro hne
    refine ⟨o.w.set hV b, fun j r h => ?_, fun j r h => ?_, (fun e => by cases e), fun _ => ?_⟩
    · rw [bs_set hy] at h
      split at h
      · rename_i e
        subst e
        obtain ⟨x, hx, h⟩ := (hf r).mp h
        rcases h with h | ⟨h1, j', h2, h3⟩
        · exact .use hx h
        · exact .flow hx h2 (o.snd j' r h3) h1
      · exact o.snd j r h
    · rw [bs_set hy] at h
      split at h
      · rename_i e
        subst e
        exact fw_mono up ((hf r).mp h)
      · exact fw_mono up (o.pre j r h)
    · refine Nat.lt_of_lt_of_le (tot_set V hy (cz_lt wy.1 hV wy.2 b (fun r h => (hf r).mpr (o.pre i r ⟨y, hy, h⟩)) (Ne.symm hne))) o.le
end Go.Proofs.YtjggmhpjlnmigaaDoor
