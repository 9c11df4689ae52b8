/- Rows of rows: read, stored into, appended to. -/
import Derived.Test.YtjggmhpjlnmigaaDoorVRr
import Derived.Test.YtjggmhpjlnmigaaDoorVApp
namespace Go.Proofs.YtjggmhpjlnmigaaDoor
open Go.RowKit
set_option linter.unusedSimpArgs false
set_option linter.unusedVariables false
theorem sepL_perm {L M : List Asn} (p : L.Perm M) : ∀ {h : Hp} {S : Foot}, sepL L h S → sepL M h S := by
  induction p with
  | nil => exact fun r => r
  | cons A _ ih => exact fun ⟨S1, S2, a, r, d, s1, s2⟩ => ⟨S1, S2, a, ih r, d, s1, s2⟩
  | swap A B L => exact fun r => sepL_swap r
  | trans _ _ i1 i2 => exact fun r => i2 (i1 r)
theorem Sep.perm {h0 h : Hp} {L M : List Asn} (s : Sep h0 h L) (p : L.Perm M) : Sep h0 h M := by
  obtain ⟨e, S, hS, r⟩ := s
  exact ⟨e, S, hS, sepL_perm p r⟩
theorem perm_erase {α : Type _} : ∀ {L : List α} {j : Nat} {A : α}, L[j]? = some A → L.Perm (A :: L.eraseIdx j)
  | B :: L, 0, A, h => by
    cases h
    exact List.Perm.refl _
  | B :: L, j + 1, A, h => ((perm_erase (L := L) (j := j) (by simpa using h)).cons B).trans (List.Perm.swap _ _ _)
structure Rg (α : Type) where
  h : Hdr
  l : List α
section
variable {α : Type} (enc : α → Value) (TT T : TypeId)
def Rg.P (x : Rg α) : Asn := Sl T x.h.a x.h.n x.h.c (x.l.map enc)
def rhds (xs : List (Rg α)) : List Value := xs.map fun x => x.h.v
def RgL (A : Option Addr) (n c : Nat) (xs : List (Rg α)) : List Asn := Sl TT A n c (rhds xs) :: xs.map (Rg.P enc T)
def RgP (A : Option Addr) (n c : Nat) (xs : List (Rg α)) : Asn := All (RgL enc TT T A n c xs)
end
section
variable {α : Type} {enc : α → Value} {TT T : TypeId}
theorem Sep.rgl {h0 h : Hp} {L : List Asn} (s : Sep h0 h L) (i : Nat) {A : Option Addr} {n c : Nat} {xs : List (Rg α)} (hi : L[i]? = some (RgP enc TT T A n c xs)) : xs.length = n ∧ n ≤ c := by
  have s := (s.front i hi).unfold
  have := s.len 0 rfl
  exact ⟨by simpa [rhds] using this.1, this.2⟩
theorem Sep.rgr {h0 h : Hp} {L : List Asn} (s : Sep h0 h L) (i : Nat) {A : Option Addr} {n c : Nat} {xs : List (Rg α)} (hi : L[i]? = some (RgP enc TT T A n c xs)) : Rd h A (rhds xs) := by
  have s := (s.front i hi).unfold
  exact s.rd 0 rfl
theorem Sep.rgx {h0 h : Hp} {L : List Asn} (s : Sep h0 h L) (i : Nat) {A : Option Addr} {n c : Nat} {xs : List (Rg α)} (hi : L[i]? = some (RgP enc TT T A n c xs)) {k : Nat} {x : Rg α} (hk : xs[k]? = some x) : Rd h x.h.a (x.l.map enc) ∧ x.l.length = x.h.n := by
  have s := (s.front i hi).unfold
  have hm : (RgL enc TT T A n c xs ++ L.eraseIdx i)[k + 1]? = some (x.P enc T) := by
    have hlt := (List.getElem?_eq_some_iff.mp hk).1
    unfold RgL
    rw [List.cons_append, List.getElem?_cons_succ, List.getElem?_append_left (by simpa using hlt), List.getElem?_map, hk]
    rfl
  have := (s.len (k + 1) hm).1
  exact ⟨s.rd (k + 1) hm, by simpa using this⟩
theorem rhds_at {xs : List (Rg α)} {k : Nat} {x : Rg α} (e : xs[k]? = some x) : (rhds xs)[((k : Int)).toNat]? = some x.h.v := by
  simp [rhds, e]
theorem rhds_get {xs : List (Rg α)} {k : Nat} {x : Rg α} (e : xs[k]? = some x) : (rhds xs)[k]? = some x.h.v := by
  simp [rhds, e]
theorem rhds_set (xs : List (Rg α)) (k : Nat) {x : Rg α} (hk : xs[k]? = some x) (l : List α) : rhds (xs.set k { x with l := l }) = rhds xs := by
  unfold rhds
  rw [List.map_set]
  obtain ⟨h1, h2⟩ := List.getElem?_eq_some_iff.mp hk
  apply List.ext_getElem?
  intro j
  rw [List.getElem?_set]
  split
  · rename_i e
    subst e
    rw [if_pos (by simpa using h1), List.getElem?_map, hk]
    rfl
  · rfl
/-- a row of the rows taken out, worked on, put back -/
theorem Sep.rgo {h0 h : Hp} {L : List Asn} (s : Sep h0 h L) (i : Nat) {A : Option Addr} {n c : Nat} {xs : List (Rg α)} (hi : L[i]? = some (RgP enc TT T A n c xs)) {k : Nat} {x : Rg α} (hk : xs[k]? = some x) :
    ∃ M, Sep h0 h (x.P enc T :: M) ∧ ∀ (h' : Hp) (l : List α), Sep h0 h' ({ x with l := l }.P enc T :: M) → Sep h0 h' (L.set i (RgP enc TT T A n c (xs.set k { x with l := l }))) := by
  have s1 := (s.front i hi).unfold
  have hlt := (List.getElem?_eq_some_iff.mp hk).1
  have hm : (RgL enc TT T A n c xs ++ L.eraseIdx i)[k + 1]? = some (x.P enc T) := by
    unfold RgL
    rw [List.cons_append, List.getElem?_cons_succ, List.getElem?_append_left (by simpa using hlt), List.getElem?_map, hk]
    rfl
  refine ⟨_, s1.front (k + 1) hm, fun h' l q => ?_⟩
  have q1 := q.unfront (by unfold RgL; simp; omega)
  have e : (RgL enc TT T A n c xs ++ L.eraseIdx i).set (k + 1) ({ x with l := l }.P enc T) = RgL enc TT T A n c (xs.set k { x with l := l }) ++ L.eraseIdx i := by
    unfold RgL
    rw [List.cons_append, List.set_cons_succ, List.set_append_left _ _ (by simpa using hlt), rhds_set xs k hk, List.map_set]
    rfl
  rw [e] at q1
  exact (q1.fold _).unfront (List.getElem?_eq_some_iff.mp hi).1
theorem EvSt.rg {h0 h : Hp} {L : List Asn} {A : Option Addr} {n c b o j : Nat} {xs : List (Rg α)} {K : Hp → Prop} (s : Sep h0 h L) (i : Nat) (hi : L[i]? = some (RgP enc TT T A n c xs)) {k : Nat} {x : Rg α} (hk : xs[k]? = some x)
    (e : x.h.a = some ⟨b, o, none⟩) (hj : j < x.h.n) (v : α) (kk : ∀ h', Sep h0 h' (L.set i (RgP enc TT T A n c (xs.set k { x with l := x.l.set j v }))) → K h') : EvSt h b (o + j * 1) [enc v] K := by
  obtain ⟨M, s1, back⟩ := s.rgo i hi hk
  rw [Nat.mul_one]
  refine EvSt.sl s1 e hj (fun h' q => kk h' (back h' _ ?_))
  have : { x with l := x.l.set j v }.P enc T = Sl T x.h.a x.h.n x.h.c ((x.l.map enc).set j (enc v)) := by
    unfold Rg.P
    rw [List.map_set]
  rw [this]
  exact q
/-- a row more -/
theorem EvApp.rg {P : Program} {h0 h : Hp} {L : List Asn} {bytes n c cx : Nat} {base A : Option Addr} {xs : List (Rg α)} {x : Rg α} {K : Value → Hp → Prop} (s : Sep h0 h L) (i : Nat) (hi : L[i]? = some (RgP enc TT T base n c xs)) (j : Nat)
    (hj : (L.eraseIdx i)[j]? = some (x.P enc T)) (r : Rd h A [x.h.v]) (hb : (n + 1) * bytes ≤ 140737488355328) (hn : n + 1 ≤ 1000000000)
    (k : ∀ A' c' h' zs, xs ++ [x] = zs → Sep h0 h' (RgP enc TT T A' (n + 1) c' zs :: (L.eraseIdx i).eraseIdx j) → K (.slice A' (n + 1) c') h') : EvApp P TT 1 bytes base n c (.slice A 1 cx) h K := by
  have s1 := (s.front i hi).unfold
  refine EvApp.sli (m := 1) s1 0 rfl r rfl (by simp [Value.oneCell']) hb hn (fun A' c' h' q => k A' c' h' _ rfl ?_)
  refine Sep.fold (RgL enc TT T A' (n + 1) c' (xs ++ [x])) (q.perm ?_)
  have e1 : (RgL enc TT T base n c xs ++ L.eraseIdx i).eraseIdx 0 = xs.map (Rg.P enc T) ++ L.eraseIdx i := rfl
  rw [e1]
  unfold RgL
  have e2 : rhds (xs ++ [x]) = rhds xs ++ [x.h.v] := by simp [rhds]
  rw [e2, List.cons_append, List.map_append, List.append_assoc]
  refine List.Perm.cons _ (List.Perm.append_left _ ?_)
  exact perm_erase hj
theorem Sep.mkrow {h0 h : Hp} {L : List Asn} {b n : Nat} {z : α} (s : Sep h0 h (Pt b (.cells (mkCells [enc z] n).toArray T (0, 0)) :: L)) : Sep h0 h (Rg.P enc T ⟨⟨some ⟨b, 0, none⟩, n, n⟩, List.replicate n z⟩ :: L) := by
  rw [mkCells_one, ← List.map_replicate, ← List.append_nil (List.map enc _)] at s
  exact s.row (rest := []) (by simp) (by simp)
theorem Sep.mkrw {h0 h : Hp} {L : List Asn} {b : Nat} {l : List α} (s : Sep h0 h (Pt b (.cells (l.map enc).toArray T (0, 0)) :: L)) : Sep h0 h (Rg.P enc T ⟨⟨some ⟨b, 0, none⟩, l.length, l.length⟩, l⟩ :: L) := by
  rw [← List.append_nil (List.map enc _)] at s
  exact s.row (rest := []) (by simp) (by simp)
theorem Sep.rg0 {h0 h : Hp} {L : List Asn} {A : Option Addr} {c : Nat} (s : Sep h0 h (Sl TT A 0 c [] :: L)) : Sep h0 h (RgP enc TT T A 0 c [] :: L) := Sep.fold (RgL enc TT T A 0 c []) s
end
end Go.Proofs.YtjggmhpjlnmigaaDoor
