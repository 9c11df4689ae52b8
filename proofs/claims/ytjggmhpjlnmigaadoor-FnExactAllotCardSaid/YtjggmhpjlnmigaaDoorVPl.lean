/- Functions that are right: the program's test of a step. -/
import Derived.Test.YtjggmhpjlnmigaaDoorVOkM
import Derived.Test.YtjggmhpjlnmigaaDoorVMok
import Derived.Test.YtjggmhpjlnmigaaDoorVRr
namespace Go.Proofs.YtjggmhpjlnmigaaDoor
open Go.RowKit
set_option maxRecDepth 20000
set_option linter.unusedSimpArgs false
set_option linter.unusedVariables false
/-- the package's list of tests, as it is laid -/
def gTests : Nat := 1
structure GT (h : Hp) : Prop where
  t : ∃ A c, hcell h gTests 0 = some (.slice A 6 c) ∧ Rd h A (tests.map Value.string)
theorem GT.ext {h h' : Hp} (e : Ext h h') (g : GT h) : GT h' := by
  obtain ⟨A, c, h1, h2⟩ := g.t
  exact ⟨A, c, e.cell h1, h2.ext e⟩
def inR (rg r : Int) : Bool := decide (0 ≤ r ∧ r ≤ rg - 1)
theorem inR_iff (rg r : Int) : inR rg r = true ↔ 0 ≤ r ∧ r < rg := by unfold inR; simp; omega
abbrev fcs (f : Fu) : List Value := [.string f.nm, .int .i64 f.pa, .int .i64 f.rg, f.sh.v, f.ch.v]
theorem reg_c {h : Hp} {b : Nat} {f : Fu} {T : TypeId} (hb : h[b]? = some (.cells (fcs f).toArray T (0, 0))) {A : Option Addr} {n c : Nat} {l : List Int} (r : Rd h A (ints .i64 l)) (hl : l.length = n) (hn : n ≤ 1000000000) (hrg : 0 ≤ f.rg ∧ f.rg ≤ 2000) :
    HC Tryd.prog 80 [.slice A n c, .pointer (some ⟨b, 0, none⟩)] h fun v h' => v = .bool (l.all (inR f.rg)) ∧ h' = h := by
  have e1 : IntKind.i64.wrap (f.rg - 1) = f.rg - 1 := i64w _ (by omega) (by omega)
  refine hc_of Tryd.func80 (rfl : Tryd.f80.body = some _) Tryd.ntmps80 Tryd.results80 Tryd.call80 rfl ?_; have HS := Sep.nil h; conv => whnf
  repeat' ((with_reducible first | refine EvSeq.go ?_ | refine EvIf.tt ?_ | refine EvIf.ff ?_) <;> conv => whnf)
  refine EvLoop.keep ([3, 5, 8, 9, 10, 11, 12, 13, 14, 15, 16, 17, 18], 6) (α := Nat) (fun k => [(8, .int .i64 k), (7, .int .i64 n), (6, .slice A n c)]) (fun k h' => h' = h ∧ k ≤ n ∧ ((l.take k).all (inR f.rg)) = true) (fun k => n - k) 0 (by (repeat' (first | exact trivial | refine ⟨rfl, ?_⟩))) ⟨rfl, Nat.zero_le _, by simp⟩ ?_
  rintro k _ ⟨rfl, hk, ht⟩
  conv => whnf
  obtain hlt | hge := Nat.lt_or_ge k n
  · obtain ⟨t, htk⟩ : ∃ t, l[k]? = some t := ⟨_, List.getElem?_eq_getElem (by omega)⟩
    have hv : (ints .i64 l)[((k : Int)).toNat]? = some (.int .i64 t) := by simp [htk]
    repeat' ((first | ((with_reducible refine EvIdx.rd r (by simpa using hl) (by omega) (by omega) ?_); intro bI oI eI hI) | ((with_reducible refine EvLd.rowv (by assumption) hv ?_)) | ((refine EvLd.nth hb ?_); (conv => whnf); intro hC) | ((with_reducible refine EvCall.mk (HC.mono (inside_c _ _ _ _) ?_)); (rintro _ _ ⟨rfl, rfl⟩)) | (with_reducible first | refine EvSeq.go ?_ | refine EvIf.tt ?_ | refine EvIf.ff ?_) | ((with_reducible refine EvIf.mk (fun c => ?_) (fun c => ?_)) <;> (try simp only [cs_] at c) <;> (try (exfalso; first | omega | (revert c; decide))))) <;> conv => whnf)
    · refine ⟨congrArg Value.bool ?_, rfl⟩
      rw [eq_comm, List.all_eq_false]
      refine ⟨t, List.mem_of_getElem? htk, ?_⟩
      rw [e1] at c
      unfold inR
      simp [c]
    · refine ⟨k + 1, ⟨congrArg (fun z => some (Value.int .i64 z)) ((i64w _ (by omega) (by omega)).trans (by omega)), (by (repeat' (first | exact trivial | refine ⟨rfl, ?_⟩)))⟩, ⟨rfl, by omega, ?_⟩, by omega⟩
      rw [List.take_add_one, htk, List.all_append, ht]
      rw [e1] at c
      have : inR f.rg t = true := by unfold inR; simp [c]
      simp [this]
  · repeat' ((first | (with_reducible first | refine EvSeq.go ?_ | refine EvIf.tt ?_ | refine EvIf.ff ?_) | ((with_reducible refine EvIf.mk (fun c => ?_) (fun c => ?_)) <;> (try simp only [cs_] at c) <;> (try (exfalso; first | omega | (revert c; decide))))) <;> conv => whnf)
    rw [List.take_of_length_le (by omega)] at ht
    exact ⟨congrArg Value.bool ht.symm, rfl⟩
theorem reg_1 {h : Hp} {b : Nat} {f : Fu} {T : TypeId} (hb : h[b]? = some (.cells (fcs f).toArray T (0, 0))) (d : Nat) (x : Int) (e : h[d]? = some (.cells [Value.int .i64 x].toArray 3 (0, 0))) (hrg : 0 ≤ f.rg ∧ f.rg ≤ 2000) :
    HC Tryd.prog 80 [.slice (some ⟨d, 0, none⟩) 1 1, .pointer (some ⟨b, 0, none⟩)] h fun v h' => v = .bool (inR f.rg x) ∧ h' = h :=
  (reg_c (l := [x]) hb (Rd.of_blk e) rfl (by simp) hrg).mono fun v h' ⟨a, b⟩ => ⟨by rw [a]; simp, b⟩
theorem reg_2 {h : Hp} {b : Nat} {f : Fu} {T : TypeId} (hb : h[b]? = some (.cells (fcs f).toArray T (0, 0))) (d : Nat) (x y : Int) (e : h[d]? = some (.cells [Value.int .i64 x, Value.int .i64 y].toArray 3 (0, 0))) (hrg : 0 ≤ f.rg ∧ f.rg ≤ 2000) :
    HC Tryd.prog 80 [.slice (some ⟨d, 0, none⟩) 2 2, .pointer (some ⟨b, 0, none⟩)] h fun v h' => v = .bool (inR f.rg x && inR f.rg y) ∧ h' = h :=
  (reg_c (l := [x, y]) hb (Rd.of_blk e) rfl (by simp) hrg).mono fun v h' ⟨a, b⟩ => ⟨by rw [a]; simp, b⟩
theorem reg_3 {h : Hp} {b : Nat} {f : Fu} {T : TypeId} (hb : h[b]? = some (.cells (fcs f).toArray T (0, 0))) (d : Nat) (x y z : Int) (e : h[d]? = some (.cells [Value.int .i64 x, Value.int .i64 y, Value.int .i64 z].toArray 3 (0, 0))) (hrg : 0 ≤ f.rg ∧ f.rg ≤ 2000) :
    HC Tryd.prog 80 [.slice (some ⟨d, 0, none⟩) 3 3, .pointer (some ⟨b, 0, none⟩)] h fun v h' => v = .bool (inR f.rg x && (inR f.rg y && inR f.rg z)) ∧ h' = h :=
  (reg_c (l := [x, y, z]) hb (Rd.of_blk e) rfl (by simp) hrg).mono fun v h' ⟨a, b⟩ => ⟨by rw [a]; simp, b⟩
theorem word_1 (b : Nat) (x : Int) {h : Hp} (e : h[b]? = some (.cells [Value.int .i64 x].toArray 3 (0, 0))) : HC Tryd.prog 82 [.slice (some ⟨b, 0, none⟩) 1 1] h fun v h' => v = .bool (isW x) ∧ h' = h :=
  (isWord_c (l := [x]) (Rd.of_blk e) rfl (by simp)).mono fun v h' ⟨a, b⟩ => ⟨by rw [a]; simp, b⟩
def mayR (rg r : Int) : Bool := decide (r = -1) || inR rg r
theorem maybe_c {h : Hp} {b d : Nat} {f : Fu} {T U : TypeId} (hb : h[b]? = some (.cells (fcs f).toArray T (0, 0))) (hd : h[d]? = some (.cells [.func (.func 80) #[] #[.pointer (some ⟨b, 0, none⟩)]].toArray U (0, 0))) (x : Int) (hrg : 0 ≤ f.rg ∧ f.rg ≤ 2000) :
    HC Tryd.prog 81 [.int .i64 x, .pointer (some ⟨d, 0, none⟩)] h fun v h' => v = .bool (mayR f.rg x) ∧ Ext h h' := by
  refine hc_of Tryd.func81 (rfl : Tryd.f81.body = some _) Tryd.ntmps81 Tryd.results81 Tryd.call81 rfl ?_; have HS := Sep.nil h; conv => whnf
  repeat' ((first | ((refine EvLd.nth (HS.to_ext.blk hd) ?_); (conv => whnf); intro hC) | ((with_reducible refine EvCall.mk (HC.mono (reg_1 (HS.to_ext.blk hb) _ _ (HS.pt_i 0 rfl) hrg) ?_)); (rintro _ _ ⟨rfl, rfl⟩)) | (with_reducible first | refine EvSeq.go ?_ | refine EvIf.tt ?_ | refine EvIf.ff ?_) | ((with_reducible refine EvIf.mk (fun c => ?_) (fun c => ?_)) <;> (try simp only [cs_] at c) <;> (try (exfalso; first | omega | (revert c; decide)))) | ((with_reducible refine EvNew.sep HS ?_); intro bN hN HS1 hX; replace HS := HS1; clear HS1)) <;> conv => whnf)
  all_goals
    refine ⟨congrArg Value.bool ?_, HS.to_ext⟩
    unfold mayR
    simp [*]
theorem indexS_c {h : Hp} {A : Option Addr} {n c : Nat} {ls : List ByteArray} (r : Rd h A (ls.map Value.string)) (hl : ls.length = n) (hn : n ≤ 1000000000) (s : ByteArray) : HC Tryd.prog 92 [.slice A n c, .string s] h fun v h' => (∃ k : Int, v = .int .i64 k ∧ (0 ≤ k ↔ strIn ls s = true)) ∧ h' = h := by
  refine hc_of Tryd.func92 (rfl : Tryd.f92.body = some _) Tryd.ntmps92 Tryd.results92 Tryd.call92 rfl ?_; have HS := Sep.nil h; conv => whnf
  repeat' ((with_reducible first | refine EvSeq.go ?_ | refine EvIf.tt ?_ | refine EvIf.ff ?_) <;> conv => whnf)
  refine EvLoop.keep ([4, 5, 8, 9, 10, 11, 12, 13, 14, 15, 16, 17, 18], 6) (α := Nat) (fun k => [(8, .int .i64 k), (7, .int .i64 n)]) (fun k h' => h' = h ∧ k ≤ n ∧ ((ls.take k).any fun t => decide (t.toList = s.toList)) = false) (fun k => n - k) 0 (by (repeat' (first | exact trivial | refine ⟨rfl, ?_⟩))) ⟨rfl, Nat.zero_le _, by simp⟩ ?_
  rintro k _ ⟨rfl, hk, ht⟩
  conv => whnf
  obtain hlt | hge := Nat.lt_or_ge k n
  · obtain ⟨t, htk⟩ : ∃ t, ls[k]? = some t := ⟨_, List.getElem?_eq_getElem (by omega)⟩
    have hv : (ls.map Value.string)[((k : Int)).toNat]? = some (.string t) := by simp [htk]
    repeat' ((first | ((with_reducible refine EvIdx.rd r (by simpa using hl) (by omega) (by omega) ?_); intro bI oI eI hI) | ((with_reducible refine EvLd.rowv (by assumption) hv ?_)) | (with_reducible first | refine EvSeq.go ?_ | refine EvIf.tt ?_ | refine EvIf.ff ?_) | ((with_reducible refine EvIf.mk (fun c => ?_) (fun c => ?_)) <;> (try simp only [cs_] at c) <;> (try (exfalso; first | omega | (revert c; decide))))) <;> conv => whnf)
    · refine ⟨⟨_, rfl, ?_⟩, rfl⟩
      constructor
      · intro _
        unfold strIn
        rw [List.any_eq_true]
        exact ⟨t, List.mem_of_getElem? htk, by simpa using c.symm⟩
      · intro _
        omega
    · refine ⟨k + 1, ⟨congrArg (fun z => some (Value.int .i64 z)) ((i64w _ (by omega) (by omega)).trans (by omega)), (by (repeat' (first | exact trivial | refine ⟨rfl, ?_⟩)))⟩, ⟨rfl, by omega, ?_⟩, by omega⟩
      rw [List.take_add_one, htk, List.any_append, ht]
      simpa using fun e => c e.symm
  · repeat' ((first | (with_reducible first | refine EvSeq.go ?_ | refine EvIf.tt ?_ | refine EvIf.ff ?_) | ((with_reducible refine EvIf.mk (fun c => ?_) (fun c => ?_)) <;> (try simp only [cs_] at c) <;> (try (exfalso; first | omega | (revert c; decide))))) <;> conv => whnf)
    rw [List.take_of_length_le (by omega)] at ht
    refine ⟨⟨_, rfl, ?_⟩, rfl⟩
    constructor
    · intro e
      omega
    · intro e
      unfold strIn at e
      rw [ht] at e
      cases e
theorem containsS_c {h : Hp} {A : Option Addr} {n c : Nat} {ls : List ByteArray} (r : Rd h A (ls.map Value.string)) (hl : ls.length = n) (hn : n ≤ 1000000000) (s : ByteArray) : HC Tryd.prog 83 [.slice A n c, .string s] h fun v h' => v = .bool (strIn ls s) ∧ h' = h := by
  refine hc_of Tryd.func83 (rfl : Tryd.f83.body = some _) Tryd.ntmps83 Tryd.results83 Tryd.call83 rfl ?_; have HS := Sep.nil h; conv => whnf
  repeat' (fail <;> conv => whnf)
  refine EvCall.mk ((indexS_c r hl hn s).mono ?_)
  rintro _ _ ⟨⟨k, rfl, hk⟩, rfl⟩
  conv => whnf
  repeat' (fail <;> conv => whnf)
  refine ⟨congrArg Value.bool ?_, rfl⟩
  cases ha : strIn ls s
  · exact decide_eq_false (fun e => by rw [hk.mp e] at ha; cases ha)
  · exact decide_eq_true (hk.mpr ha)
end Go.Proofs.YtjggmhpjlnmigaaDoor
