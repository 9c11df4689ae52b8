/- Walks: the program's step of the machine. -/
import Derived.Test.YthndggachjdkfaaDoorVPst
import Derived.Test.YthndggachjdkfaaDoorVApp
namespace Go.Proofs.YthndggachjdkfaaDoor
open Go.RowKit
set_option maxRecDepth 20000
set_option linter.unusedSimpArgs false
set_option linter.unusedVariables false
/-- The tables of the program. -/
def Glob (h : Hp) : Prop := ∃ A B C ca cb cc, (hcell h 0 0 = some (.slice A 9 ca) ∧ Rd h A (ints .i64 [1, 4, 5, 6, 9, 10, 3, 7, 8])) ∧ (hcell h 1 0 = some (.slice B 5 cb) ∧ Rd h B (ints .i64 [1, 3, 5, 2, 4])) ∧ (hcell h 2 0 = some (.slice C 3 cc) ∧ Rd h C (ints .i64 [2, 4, 5]))
theorem Glob.ext {h h' : Hp} (g : Glob h) (e : Ext h h') : Glob h' := by
  obtain ⟨A, B, C, ca, cb, cc, ⟨g1, g2⟩, ⟨g3, g4⟩, ⟨g5, g6⟩⟩ := g
  exact ⟨A, B, C, ca, cb, cc, ⟨e.cell g1, g2.ext e⟩, ⟨e.cell g3, g4.ext e⟩, ⟨e.cell g5, g6.ext e⟩⟩
theorem andNot_1 (x : Int) (h0 : -4611686018427387904 ≤ x) (h1 : x ≤ 4611686018427387904) : Go.bits .andNot .i64 x 1 = x - x % 2 := by
  have hn : ∀ n : Nat, n < 18446744073709551616 → n &&& 18446744073709551614 = 2 * (n / 2) := by
    intro n hn
    have a := Nat.and_div_two (a := n) (b := 18446744073709551614)
    have b := Nat.and_mod_two_pow (a := n) (b := 18446744073709551614) (n := 1)
    have c := Nat.and_two_pow_sub_one_eq_mod (n / 2) 63
    simp only [Nat.pow_one, Nat.reduceMod, Nat.and_zero, Nat.reduceDiv] at a b
    simp only [Nat.reducePow, Nat.reduceSub] at c
    omega
  have hX : (BitVec.ofInt 64 x &&& ~~~ BitVec.ofInt 64 1).toNat = 2 * ((x % 18446744073709551616).toNat / 2) := by
    rw [BitVec.toNat_and, toNat_ofInt, show (~~~ BitVec.ofInt 64 1).toNat = 18446744073709551614 by decide]
    exact hn _ (by simp; omega)
  show IntKind.wrap .i64 _ = _
  rw [wrap_i64]
  show wrap64 (((BitVec.ofInt 64 x &&& ~~~ BitVec.ofInt 64 1).toNat : Nat) : Int) = _
  rw [hX]
  unfold wrap64
  omega
theorem ints_set (k : IntKind) (l : List Int) (i : Nat) (v : Int) : (ints k l).set i (.int k v) = ints k (l.set i v) := by simp only [ints, List.map_set]
set_option maxHeartbeats 4000000 in
theorem set_c {h0 h : Hp} {L : List Asn} {x : MH} {m : Mac} {b b1 b3 : Nat} {T3 T1 T : TypeId} {op d s t n : Int} (i3 i1 im ir : Nat) (HS : Sep h0 h L) (e3 : L[i3]? = some (Bx b3 [.int .i64 op, .int .i64 d, .int .i64 s, .int .i64 t, .int .i64 n] T3))
    (e1 : L[i1]? = some (Bx b1 [.pointer (some ⟨b, 0, none⟩)] T1)) (em : L[im]? = some (Bx b (x.cs m) T)) (er : L[ir]? = some (SlI x.r m.regs)) (hd : 0 ≤ d ∧ d ≤ 31) (hl : m.regs.length = 32) (w : Int) :
    HC Tryd.prog 76 [.int .i64 w, .pointer (some ⟨b3, 0, none⟩), .pointer (some ⟨b1, 0, none⟩)] h fun v h' => Sep h0 h' (L.set ir (SlI x.r (rset m.regs d w))) := by
  have hrl := (HS.len ir er).1
  rw [List.length_map, hl] at hrl
  have hlt := (List.getElem?_eq_some_iff.mp er).1
  refine hc_of Tryd.func76 (rfl : Tryd.f76.body = some _) Tryd.ntmps76 Tryd.results76 Tryd.call76 rfl ?_; conv => whnf
  repeat' ((first | ((with_reducible refine EvDraw.ord (id := 1) (.go 0 (.go 1 (.go 2 (.go 3 (.go 4 (.go 5 (.go 6 (.alt 7 (.go 8 (.alt 9 .done .stop)) .stop)))))))) fol ?_ ?_ ?_); kernel_rfl; kernel_rfl) | ((with_reducible refine EvKeep.same ?_)) | ((with_reducible refine EvCall.mk (HC.mono (iWord_c _ _) ?_)); (rintro _ _ ⟨rfl, rfl⟩)) | ((refine EvLd.bi HS i3 e3 ?_); (conv => whnf); intro hC) | ((refine EvLd.bi HS i1 e1 ?_); (conv => whnf); intro hC) | ((refine EvLd.bi HS im em ?_); (conv => whnf); intro hC) | (with_reducible first | refine EvSeq.go ?_ | refine EvIf.tt ?_ | refine EvIf.ff ?_) | ((with_reducible refine Hole.mk (kK ?_)); clear kK) | ((with_reducible refine EvIf.mk (fun c => ?_) (fun c => ?_)) <;> (try simp only [cs_] at c) <;> (try (exfalso; first | omega | (revert c; decide)))) | ((with_reducible refine EvNew.sep HS ?_); intro bN hN HS1 hX; replace HS := HS1; clear HS1) | ((with_reducible refine EvIdx.lit ?_ ?_ ?_); (first | omega | decide); (first | omega | decide)) | ((with_reducible first | refine EvNe.mk ?_ ?_ | refine EvGe.mk ?_ ?_); (first | decide | omega)) | ((with_reducible refine EvLd.q HS (by repeat first | exact .h | apply Spot.t) ?_); (conv => whnf); intro hC) | (with_reducible refine EvLdN.q HS (by repeat first | exact .h | apply Spot.t) (fun hC => ?_)) | ((with_reducible refine EvSt.q HS (by repeat first | exact .h | apply Spot.t) ?_); (conv => whnf); intro hN HS1 hU; replace HS := HS1; clear HS1) | ((with_reducible refine EvKeep.cq (A := keepK _ _ (Hole _) _) HS (by repeat first | exact .h | apply Spot.t) ?_); (conv => whnf); (refine ⟨?_, ?_⟩); assumption; intro hC) | ((with_reducible refine EvKeep.nq (A := keepK _ _ (Hole _) _) HS (by repeat first | exact .h | apply Spot.t) ?_ ?_); assumption; intro hC) | ((fail_if_success with_reducible refine EvKeep.hole ?_); (with_reducible refine EvKeep.abs (fun X kK => ?_)))) <;> conv => whnf)
  · refine EvIdx.rd (HS.rd ir er) (HS.len ir er).1 (by omega) (by omega) ?_
    intro bI oI eI hI
    conv => whnf
    refine EvSt.sli HS ir er eI (by omega) ?_
    intro h' HS
    conv => whnf
    have e : rset m.regs d w = m.regs.set (d.toNat * 1) (w % 4294967296) := by unfold rset; rw [if_neg c, Nat.mul_one]
    have HS2 : Sep h0 h' (L.set ir (SlI x.r (rset m.regs d w))) := by
      rw [e]
      show Sep h0 h' (L.set ir (Sl _ x.r.a x.r.n x.r.c (ints .i64 (m.regs.set (d.toNat * 1) (w % 4294967296)))))
      rw [← ints_set]
      exact HS
    exact HS2
  · have e : L.set ir (SlI x.r (rset m.regs d w)) = L := by
      unfold rset
      rw [if_pos c]
      refine List.ext_getElem? fun j => ?_
      rw [List.getElem?_set]
      split
      · rename_i e
        subst e
        exact er.symm
      · rfl
    rw [e]
    exact HS
theorem jump_c {h0 h : Hp} {L : List Asn} {x : MH} {m : Mac} {b b1 b3 b7 : Nat} {T3 T1 T T7 : TypeId} {op d s t n q : Int} (i3 i1 im i7 : Nat) (HS : Sep h0 h L) (e3 : L[i3]? = some (Bx b3 [.int .i64 op, .int .i64 d, .int .i64 s, .int .i64 t, .int .i64 n] T3))
    (e1 : L[i1]? = some (Bx b1 [.pointer (some ⟨b, 0, none⟩)] T1)) (em : L[im]? = some (Bx b (x.cs m) T)) (e7 : L[i7]? = some (Bx b7 [.int .i64 q] T7)) (y : Bool) (hp : 0 ≤ m.pc ∧ m.pc ≤ 4294967295) (hn : -1048576 ≤ n ∧ n ≤ 1048575) :
    HC Tryd.prog 77 [.bool y, .pointer (some ⟨b1, 0, none⟩), .pointer (some ⟨b3, 0, none⟩), .pointer (some ⟨b7, 0, none⟩)] h fun v h' => Sep h0 h' (L.set i7 (Bx b7 [.int .i64 (if y = true then m.pc + n else q)] T7)) := by
  have hlt := (List.getElem?_eq_some_iff.mp e7).1
  refine hc_of Tryd.func77 (rfl : Tryd.f77.body = some _) Tryd.ntmps77 Tryd.results77 Tryd.call77 rfl ?_; conv => whnf
  repeat' ((first | ((with_reducible refine EvDraw.ord (id := 1) (.go 0 (.go 1 (.go 2 (.go 3 (.go 4 (.go 5 (.go 6 (.alt 7 .done .stop)))))))) fol ?_ ?_ ?_); kernel_rfl; kernel_rfl) | ((refine EvLd.bi HS i3 e3 ?_); (conv => whnf); intro hC) | ((refine EvLd.bi HS i1 e1 ?_); (conv => whnf); intro hC) | ((refine EvLd.bi HS im em ?_); (conv => whnf); intro hC) | ((refine EvSt.bi HS i7 e7 ?_); (conv => whnf); intro hN HS1 hU) | (with_reducible first | refine EvSeq.go ?_ | refine EvIf.tt ?_ | refine EvIf.ff ?_) | ((with_reducible refine Hole.mk (kK ?_)); clear kK) | ((with_reducible refine EvIf.mk (fun c => ?_) (fun c => ?_)) <;> (try simp only [cs_] at c) <;> (try (exfalso; first | omega | (revert c; decide)))) | ((with_reducible refine EvNew.sep HS ?_); intro bN hN HS1 hX; replace HS := HS1; clear HS1) | ((with_reducible refine EvIdx.lit ?_ ?_ ?_); (first | omega | decide); (first | omega | decide)) | ((with_reducible first | refine EvNe.mk ?_ ?_ | refine EvGe.mk ?_ ?_); (first | decide | omega)) | ((with_reducible refine EvLd.q HS (by repeat first | exact .h | apply Spot.t) ?_); (conv => whnf); intro hC) | (with_reducible refine EvLdN.q HS (by repeat first | exact .h | apply Spot.t) (fun hC => ?_)) | ((with_reducible refine EvSt.q HS (by repeat first | exact .h | apply Spot.t) ?_); (conv => whnf); intro hN HS1 hU; replace HS := HS1; clear HS1) | ((with_reducible refine EvKeep.cq (A := keepK _ _ (Hole _) _) HS (by repeat first | exact .h | apply Spot.t) ?_); (conv => whnf); (refine ⟨?_, ?_⟩); assumption; intro hC) | ((with_reducible refine EvKeep.nq (A := keepK _ _ (Hole _) _) HS (by repeat first | exact .h | apply Spot.t) ?_ ?_); assumption; intro hC) | ((fail_if_success with_reducible refine EvKeep.hole ?_); (with_reducible refine EvKeep.abs (fun X kK => ?_)))) <;> conv => whnf)
  · have e : IntKind.i64.wrap (m.pc + n) = m.pc + n := i64w _ (by omega) (by omega)
    rw [e] at HS1
    rw [if_pos c]
    exact HS1
  · have e : L.set i7 (Bx b7 [.int .i64 (if y = true then m.pc + n else q)] T7) = L := by
      rw [if_neg (by simp [c])]
      refine List.ext_getElem? fun j => ?_
      rw [List.getElem?_set]
      split
      · rename_i e
        subst e
        exact e7.symm
      · rfl
    rw [e]
    exact HS
theorem isPc_v (p : Int) (A : Option Addr) (n c : Nat) (t : Bool) (ht : isPc n p = t) (h : Hp) (hn : n ≤ 1000000000) (p0 : -9223372036854775808 ≤ p) (p1 : p ≤ 9223372036854775807) : HC Tryd.prog 74 [.int .i64 p, .slice A n c] h fun v h' => v = .bool t ∧ h' = h := ht ▸ isPc_c p A n c h hn p0 p1
abbrev Ins.v (i : Ins) : Value := inst i.op i.d i.s i.t i.n
theorem iDec_some {w : Int} {i : Ins} (e : ins w = some i) (h : Hp) : HC Tryd.prog 75 [.int .i64 w] h fun v h' => v = .tuple #[i.v, .bool true] ∧ Ext h h' := (iDec_c w h).mono fun v h' ⟨a, b⟩ => ⟨a.trans (decp_some e), b⟩
theorem iDec_none {w : Int} (e : ins w = none) (h : Hp) : HC Tryd.prog 75 [.int .i64 w] h fun v h' => v = .tuple #[inst 0 0 0 0 0, .bool false] ∧ Ext h h' := (iDec_c w h).mono fun v h' ⟨a, b⟩ => ⟨a.trans (decp_none e), b⟩
theorem isPc_at {n : Nat} {p : Int} (h : isPc n p = true) (hp : p ≤ 4294967295) : IntKind.i64.wrap (Int.tdiv (IntKind.i64.wrap (p - 65536)) 4) = (p - 65536) / 4 ∧ 0 ≤ (p - 65536) / 4 ∧ (p - 65536) / 4 < n ∧ 65536 ≤ p := by
  unfold isPc at h
  rw [decide_eq_true_eq] at h
  rw [i64w (p - 65536) (by omega) (by omega), tdiv_pos (by omega), i64w _ (by omega) (by omega)]
  omega
theorem EvIdx.intj {h : Hp} {A : Option Addr} {kd : IntKind} {l : List Int} {i : Int} {n : Nat} {K : Nat → Nat → Prop} (j : Int) (hj : i = j) (r : Rd h A (ints kd l)) (hl : (ints kd l).length = n) (h0 : 0 ≤ j) (h1 : j < n) (k : ∀ b o, A = some ⟨b, o, none⟩ → hcell h b (o + i.toNat * 1) = some (.int kd (l.getD j.toNat 0)) → K b o) : EvIdx A i n K := by
  subst hj
  have hl' : l.length = n := by simpa using hl
  refine EvIdx.rd r hl h0 h1 (fun b o e hI => k b o e ?_)
  rw [Nat.mul_one, hI, getD_lt (by omega)]
  have hlt : i.toNat < l.length := by omega
  simp [hlt]
theorem Sep.rot3 {h0 h : Hp} {A B C M o i s d r c : Asn} {L : List Asn} (t : Sep h0 h (A :: B :: C :: M :: o :: i :: s :: d :: r :: c :: L)) : Sep h0 h (M :: o :: i :: s :: d :: r :: c :: A :: B :: C :: L) :=
  ((((((t.front 9 rfl).front 9 rfl).front 9 rfl).front 9 rfl).front 9 rfl).front 9 rfl).front 9 rfl
theorem Sep.unrot3 {h0 h : Hp} {A B C M o i s d r c : Asn} {L : List Asn} (t : Sep h0 h (M :: o :: i :: s :: d :: r :: c :: A :: B :: C :: L)) : Sep h0 h (A :: B :: C :: M :: o :: i :: s :: d :: r :: c :: L) :=
  ((t.front 9 rfl).front 9 rfl).front 9 rfl
end Go.Proofs.YthndggachjdkfaaDoor
