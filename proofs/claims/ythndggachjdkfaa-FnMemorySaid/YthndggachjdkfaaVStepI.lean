/- Walks: the program's step of the machine. -/
import Derived.Test.YthndggachjdkfaaVPst
import Derived.Test.YthndggachjdkfaaVApp
namespace Go.Proofs.Ythndggachjdkfaa
open Go.RowKit
set_option maxRecDepth 20000
set_option linter.unusedSimpArgs false
set_option linter.unusedVariables false
/-- The tables of the program. -/
def Glob (h : Hp) : Prop := ∃ A B C ca cb cc, (hcell h 0 0 = some (.slice A 9 ca) ∧ Rd h A (ints .i64 [1, 4, 5, 6, 9, 10, 3, 7, 8])) ∧ (hcell h 1 0 = some (.slice B 5 cb) ∧ Rd h B (ints .i64 [1, 3, 5, 2, 4])) ∧ (hcell h 2 0 = some (.slice C 3 cc) ∧ Rd h C (ints .i64 [2, 4, 5]))
theorem Glob.ext {h h' : Hp} (g : Glob h) (e : Ext h h') : Glob h' := by
  obtain ⟨A, B, C, ca, cb, cc, ⟨g1, g2⟩, ⟨g3, g4⟩, ⟨g5, g6⟩⟩ := g
  exact ⟨A, B, C, ca, cb, cc, ⟨e.cell g1, g2.ext e⟩, ⟨e.cell g3, g4.ext e⟩, ⟨e.cell g5, g6.ext e⟩⟩
theorem andNot_1 (x : Int) (h0 : -4611686018427387904 ≤ x) (h1 : x ≤ 4611686018427387904) : Go.bits .andNot .i64 x 1 = x - x % 2 := by
  have hn : ∀ n : Nat, n < 18446744073709551616 → n &&& 18446744073709551614 = 2 * (n / 2) := by
    intro n hn
    have a := Nat.and_div_two (a := n) (b := 18446744073709551614)
    have b := Nat.and_mod_two_pow (a := n) (b := 18446744073709551614) (n := 1)
    have c := Nat.and_two_pow_sub_one_eq_mod (n / 2) 63
    simp only [Nat.pow_one, Nat.reduceMod, Nat.and_zero, Nat.reduceDiv] at a b
    simp only [Nat.reducePow, Nat.reduceSub] at c
    omega
  have hX : (BitVec.ofInt 64 x &&& ~~~ BitVec.ofInt 64 1).toNat = 2 * ((x % 18446744073709551616).toNat / 2) := by
    rw [BitVec.toNat_and, toNat_ofInt, show (~~~ BitVec.ofInt 64 1).toNat = 18446744073709551614 by decide]
    exact hn _ (by simp; omega)
  show IntKind.wrap .i64 _ = _
  rw [wrap_i64]
  show wrap64 (((BitVec.ofInt 64 x &&& ~~~ BitVec.ofInt 64 1).toNat : Nat) : Int) = _
  rw [hX]
  unfold wrap64
  omega
theorem ints_set (k : IntKind) (l : List Int) (i : Nat) (v : Int) : (ints k l).set i (.int k v) = ints k (l.set i v) := by simp only [ints, List.map_set]
theorem isPc_v (p : Int) (A : Option Addr) (n c : Nat) (t : Bool) (ht : isPc n p = t) (h : Hp) (hn : n ≤ 1000000000) (p0 : -9223372036854775808 ≤ p) (p1 : p ≤ 9223372036854775807) : HC Try.prog 52 [.int .i64 p, .slice A n c] h fun v h' => v = .bool t ∧ h' = h := ht ▸ isPc_c p A n c h hn p0 p1
abbrev Ins.v (i : Ins) : Value := inst i.op i.d i.s i.t i.n
theorem iDec_some {w : Int} {i : Ins} (e : ins w = some i) (h : Hp) : HC Try.prog 44 [.int .i64 w] h fun v h' => v = .tuple #[i.v, .bool true] ∧ Ext h h' := (iDec_c w h).mono fun v h' ⟨a, b⟩ => ⟨a.trans (decp_some e), b⟩
theorem iDec_none {w : Int} (e : ins w = none) (h : Hp) : HC Try.prog 44 [.int .i64 w] h fun v h' => v = .tuple #[inst 0 0 0 0 0, .bool false] ∧ Ext h h' := (iDec_c w h).mono fun v h' ⟨a, b⟩ => ⟨a.trans (decp_none e), b⟩
theorem isPc_at {n : Nat} {p : Int} (h : isPc n p = true) (hp : p ≤ 4294967295) : IntKind.i64.wrap (Int.tdiv (IntKind.i64.wrap (p - 65536)) 4) = (p - 65536) / 4 ∧ 0 ≤ (p - 65536) / 4 ∧ (p - 65536) / 4 < n ∧ 65536 ≤ p := by
  unfold isPc at h
  rw [decide_eq_true_eq] at h
  rw [i64w (p - 65536) (by omega) (by omega), tdiv_pos (by omega), i64w _ (by omega) (by omega)]
  omega
theorem EvIdx.intj {h : Hp} {A : Option Addr} {kd : IntKind} {l : List Int} {i : Int} {n : Nat} {K : Nat → Nat → Prop} (j : Int) (hj : i = j) (r : Rd h A (ints kd l)) (hl : (ints kd l).length = n) (h0 : 0 ≤ j) (h1 : j < n) (k : ∀ b o, A = some ⟨b, o, none⟩ → hcell h b (o + i.toNat * 1) = some (.int kd (l.getD j.toNat 0)) → K b o) : EvIdx A i n K := by
  subst hj
  have hl' : l.length = n := by simpa using hl
  refine EvIdx.rd r hl h0 h1 (fun b o e hI => k b o e ?_)
  rw [Nat.mul_one, hI, getD_lt (by omega)]
  have hlt : i.toNat < l.length := by omega
  simp [hlt]
theorem Sep.rot3 {h0 h : Hp} {A B C M o i s d r c : Asn} {L : List Asn} (t : Sep h0 h (A :: B :: C :: M :: o :: i :: s :: d :: r :: c :: L)) : Sep h0 h (M :: o :: i :: s :: d :: r :: c :: A :: B :: C :: L) :=
  ((((((t.front 9 rfl).front 9 rfl).front 9 rfl).front 9 rfl).front 9 rfl).front 9 rfl).front 9 rfl
theorem Sep.unrot3 {h0 h : Hp} {A B C M o i s d r c : Asn} {L : List Asn} (t : Sep h0 h (M :: o :: i :: s :: d :: r :: c :: A :: B :: C :: L)) : Sep h0 h (A :: B :: C :: M :: o :: i :: s :: d :: r :: c :: L) :=
  ((t.front 9 rfl).front 9 rfl).front 9 rfl
end Go.Proofs.Ythndggachjdkfaa
