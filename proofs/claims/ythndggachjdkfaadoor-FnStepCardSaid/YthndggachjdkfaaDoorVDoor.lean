/- What a door's law is given: rows of bytes, and the program's three tables as they are laid. -/
import Derived.Test.YthndggachjdkfaaDoorVRun
import Derived.Test.YthndggachjdkfaaDoorVArg
import Derived.Test.YthndggachjdkfaaDoorRows
import Derived.LaidMore
import Derived.MakeChecks
import Derived.FnData
namespace Go.Proofs.YthndggachjdkfaaDoor
open Go.RowKit
set_option maxRecDepth 100000
set_option linter.unusedVariables false
set_option linter.unusedSimpArgs false
theorem byt_of_row {w : World} {A : Option Addr} {n c : Nat} {zs : List Int} (hr : (A = none ∧ n = 0 ∧ c = 0 ∧ zs = []) ∨
    ∃ x, A = some x ∧ n ≤ c ∧ c ≤ maxLen ∧ zs.length = c ∧ (∀ i, i < zs.length → w.cell? (x.add i) = some (.int .u8 (zs.getD i 0))) ∧ ∀ n ∈ zs, (Lit.int .u8 n).wf = true) :
    Byt (zs.take n) := by
  intro y hy
  have hy := List.mem_of_mem_take hy
  rcases hr with ⟨_, _, _, rfl⟩ | ⟨_, _, _, _, _, _, hw⟩
  · cases hy
  · have := hw y hy
    simp [Lit.wf, IntKind.min, IntKind.max, IntKind.signed, IntKind.bits] at this
    omega
theorem nc_of_row {k : IntKind} {w : World} {A : Option Addr} {n c : Nat} {zs : List Int} (hr : (A = none ∧ n = 0 ∧ c = 0 ∧ zs = []) ∨
    ∃ x, A = some x ∧ n ≤ c ∧ c ≤ maxLen ∧ zs.length = c ∧ (∀ i, i < zs.length → w.cell? (x.add i) = some (.int k (zs.getD i 0))) ∧ ∀ n ∈ zs, (Lit.int k n).wf = true) : n ≤ c := by
  rcases hr with ⟨_, rfl, rfl, _⟩ | ⟨_, _, h, _⟩
  · exact Nat.le_refl _
  · exact h
theorem gImm : Tryd.prog.globalNamed "loop.example/s01681/impl.immOps" = some 0 := by kernel_rfl
theorem gLd : Tryd.prog.globalNamed "loop.example/s01681/impl.loadKinds" = some 1 := by kernel_rfl
theorem gSt : Tryd.prog.globalNamed "loop.example/s01681/impl.storeKinds" = some 2 := by kernel_rfl
theorem tImm : (Tryd.prog.globals[0]?).map (·.type) = some 22 := by kernel_rfl
theorem tLd : (Tryd.prog.globals[1]?).map (·.type) = some 22 := by kernel_rfl
theorem tSt : (Tryd.prog.globals[2]?).map (·.type) = some 22 := by kernel_rfl
theorem one_int : Tryd.prog.cellsOf 3 = 1 := by kernel_rfl
theorem glob_one {W : World} {g : Nat} {cs : Array Value} {fuel : Nat} {p : List MemPlace} {l : List Int} {name : String} (hn : Tryd.prog.globalNamed name = some g) (hv : W.var? Tryd.prog name = some cs) (hl : 0 < l.length) (hm : l.length ≤ maxLen) (hw : ∀ n ∈ l, (Lit.int .i64 n).wf = true)
    (hd : DataW.trod (fun _ => ()) Tryd.prog W 0 (fun _ => true) false fuel 22 cs.toList = some (.slice (l.map fun n => .lit (.int .i64 n)) [], p)) :
    ∃ A c, hcell W.heap g 0 = some (.slice A l.length c) ∧ Rd W.heap A (ints .i64 l) := by
  obtain ⟨a, cap, e, hc, hel⟩ := open_row Tryd.underlying22 one_int hd
  rw [List.length_map] at e hc
  have hcell := World.var?_cell hn hv 0
  have e0 : cs[0]? = some (.slice (some a) l.length cap) := by rw [← Array.getElem?_toList, e]; rfl
  rw [e0, cell_h] at hcell
  have hcs : ∀ i, i < l.length → W.cell? (a.add i) = some (.int .i64 (l.getD i 0)) := by
    intro i hi
    obtain ⟨v, n, q, h1, h2⟩ := hel i (.lit (.int .i64 (l.getD i 0))) (by rw [List.getElem?_map, List.getElem?_eq_getElem hi]; simp [List.getD, List.getElem?_eq_getElem hi])
    obtain ⟨k, e1, e2, _⟩ := DataW.trod_int Tryd.underlying3 h2
    simp at e1 e2
    rw [h1, e1, ← e2.1, List.getD_eq_getElem?_getD]
  have r := (rd_of_row (k := .i64) (w := W) (A := some a) (n := l.length) (c := l.length) (zs := l) (.inr ⟨a, rfl, Nat.le_refl _, hm, rfl, hcs, hw⟩)).1
  rw [List.take_length] at r
  exact ⟨some a, cap, hcell, r⟩
def laidL : List (String × DataW Unit) := [("loop.example/s01681/impl.loadKinds", Rows.laid_loop_example_s01681_impl_loadKinds), ("loop.example/s01681/impl.storeKinds", Rows.laid_loop_example_s01681_impl_storeKinds), ("loop.example/s01681/impl.immOps", Rows.laid_loop_example_s01681_impl_immOps)]
theorem glob_of_laid {W : World} (h : laidMetH Tryd.prog laidL W) : Glob W.heap := by
  rw [MakeChecks.laidMetH_plain _ _ _ (by kernel_rfl)] at h
  obtain ⟨ps, ⟨g0, t0, cs0, f0, p0, q0, hg0, ht0, hv0, hd0, ⟨g1, t1, cs1, f1, p1, q1, hg1, ht1, hv1, hd1, ⟨g2, t2, cs2, f2, p2, q2, hg2, ht2, hv2, hd2, _, _⟩, _⟩, _⟩, _, _⟩ := h
  obtain rfl := Option.some.inj (gLd.symm.trans hg0)
  obtain rfl := Option.some.inj (gSt.symm.trans hg1)
  obtain rfl := Option.some.inj (gImm.symm.trans hg2)
  obtain rfl := Option.some.inj (tLd.symm.trans ht0)
  obtain rfl := Option.some.inj (tSt.symm.trans ht1)
  obtain rfl := Option.some.inj (tImm.symm.trans ht2)
  obtain ⟨B, cb, b1, b2⟩ := glob_one (l := [1, 3, 5, 2, 4]) hg0 hv0 (by decide) (by decide) (by decide) hd0
  obtain ⟨C, cc, c1, c2⟩ := glob_one (l := [2, 4, 5]) hg1 hv1 (by decide) (by decide) (by decide) hd1
  obtain ⟨A, ca, a1, a2⟩ := glob_one (l := [1, 4, 5, 6, 9, 10, 3, 7, 8]) hg2 hv2 (by decide) (by decide) (by decide) hd2
  exact ⟨A, B, C, ca, cb, cc, ⟨a1, a2⟩, ⟨b1, b2⟩, ⟨c1, c2⟩⟩
/-- The door's own heap meets the condition. -/
theorem door_met (os : Os) (args : Array Value) : laidMetH Tryd.prog laidL ((World.doorLaid Tryd.prog 400 os).forCall (fun _ _ => 0) ⟨#[], args, []⟩).memory :=
  laidMetH_of_parts3 (fuel := 8) (laidMet_of_run' 8 (by kernel_rfl) (by kernel_rfl)) (by kernel_rfl) (by kernel_rfl)
theorem vars3 {H : Type} {enc : TypeId × Value → H} {P : Program} {w : World} {sp : Nat → Bool} {n1 n2 n3 : String} {gs : List (DataW H)} {q : List MemPlace} (h : DataW.TrodVars enc P w sp [n1, n2, n3] gs q) : ∃ a b c, gs = [a, b, c] := by
  match gs, h with
  | [a, b, c], _ => exact ⟨a, b, c, rfl⟩
  | [], h => exact h.elim
  | [_], ⟨_, _, _, _, _, _, _, _, _, _, h, _⟩ => exact h.elim
  | [_, _], ⟨_, _, _, _, _, _, _, _, _, _, ⟨_, _, _, _, _, _, _, _, _, _, h, _⟩, _⟩ => exact h.elim
  | _ :: _ :: _ :: _ :: _, ⟨_, _, _, _, _, _, _, _, _, _, ⟨_, _, _, _, _, _, _, _, _, _, ⟨_, _, _, _, _, _, _, _, _, _, h, _⟩, _⟩, _⟩ => exact h.elim
end Go.Proofs.YthndggachjdkfaaDoor
