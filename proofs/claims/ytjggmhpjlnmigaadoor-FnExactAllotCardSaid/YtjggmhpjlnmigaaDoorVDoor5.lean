/- What the door of Allot is given: the tables of tests, of bits and of machine registers, as they are laid. -/
import Derived.Test.YtjggmhpjlnmigaaDoorVDoor4
import Derived.Test.YtjggmhpjlnmigaaDoorVAs
namespace Go.Proofs.YtjggmhpjlnmigaaDoor
open Go.RowKit
set_option maxRecDepth 100000
set_option linter.unusedVariables false
set_option linter.unusedSimpArgs false
theorem gAl : Tryd.prog.globalNamed "loop.example/s01681/impl.allotted" = some 0 := by kernel_rfl
theorem tAl : (Tryd.prog.globals[0]?).map (·.type) = some 22 := by kernel_rfl
theorem one_int : Tryd.prog.cellsOf 3 = 1 := by kernel_rfl
theorem glob_one {W : World} {g : Nat} {cs : Array Value} {fuel : Nat} {p : List MemPlace} {l : List Int} {name : String} (hn : Tryd.prog.globalNamed name = some g) (hv : W.var? Tryd.prog name = some cs) (hl : 0 < l.length) (hm : l.length ≤ maxLen) (hw : ∀ n ∈ l, (Lit.int .i64 n).wf = true)
    (hd : DataW.trod (fun _ => ()) Tryd.prog W 0 (fun _ => true) false fuel 22 cs.toList = some (.slice (l.map fun n => .lit (.int .i64 n)) [], p)) :
    ∃ A c, hcell W.heap g 0 = some (.slice A l.length c) ∧ l.length ≤ c ∧ Rd W.heap A (ints .i64 l) := by
  obtain ⟨a, cap, e, hc, hel⟩ := open_row Tryd.underlying22 one_int hd
  rw [List.length_map] at e hc
  have hcell := World.var?_cell hn hv 0
  have e0 : cs[0]? = some (.slice (some a) l.length cap) := by rw [← Array.getElem?_toList, e]; rfl
  rw [e0, cell_h] at hcell
  have hcs : ∀ i, i < l.length → W.cell? (a.add i) = some (.int .i64 (l.getD i 0)) := by
    intro i hi
    obtain ⟨v, n, q, h1, h2⟩ := hel i (.lit (.int .i64 (l.getD i 0))) (by rw [List.getElem?_map, List.getElem?_eq_getElem hi]; simp [List.getD, List.getElem?_eq_getElem hi])
    obtain ⟨k, e1, e2, _⟩ := DataW.trod_int Tryd.underlying3 h2
    simp at e1 e2
    rw [h1, e1, ← e2.1, List.getD_eq_getElem?_getD]
  have r := (rd_of_row (k := .i64) (w := W) (A := some a) (n := l.length) (c := l.length) (zs := l) (.inr ⟨a, rfl, Nat.le_refl _, hm, rfl, hcs, hw⟩)).1
  rw [List.take_length] at r
  exact ⟨some a, cap, hcell, by omega, r⟩
def laidL3 : List (String × DataW Unit) := [("math/bits.deBruijn64tab", Rows.laid_math_bits_deBruijn64tab), ("loop.example/s01681/impl.irTests", Rows.laid_loop_example_s01681_impl_irTests), ("loop.example/s01681/impl.allotted", Rows.laid_loop_example_s01681_impl_allotted)]
theorem al_eq : (Rows.laid_loop_example_s01681_impl_allotted : DataW Unit) = .slice ((usb false).map fun n : Int => .lit (.int .i64 n)) [] := by rfl
theorem glob_of_laid3 {W : World} (h : laidMetH Tryd.prog laidL3 W) : GR W.heap := by
  rw [MakeChecks.laidMetH_plain _ _ _ (by kernel_rfl)] at h
  obtain ⟨ps, ⟨g0, t0, cs0, f0, p0, q0, hg0, ht0, hv0, hd0, ⟨g1, t1, cs1, f1, p1, q1, hg1, ht1, hv1, hd1, ⟨g2, t2, cs2, f2, p2, q2, hg2, ht2, hv2, hd2, _, _⟩, _⟩, _⟩, _, _⟩ := h
  obtain rfl := Option.some.inj (gTab.symm.trans hg0)
  obtain rfl := Option.some.inj (gIr.symm.trans hg1)
  obtain rfl := Option.some.inj (gAl.symm.trans hg2)
  obtain rfl := Option.some.inj (tTab.symm.trans ht0)
  obtain rfl := Option.some.inj (tIr.symm.trans ht1)
  obtain rfl := Option.some.inj (tAl.symm.trans ht2)
  rw [tab_eq] at hd0
  rw [tests_eq] at hd1
  rw [al_eq] at hd2
  refine ⟨⟨⟨glob_str (l := tests) hg1 hv1 (by decide) hd1⟩, ⟨glob_tab (by decide) hg0 hv0 hd0⟩⟩, ⟨?_⟩⟩
  obtain ⟨A, c, h1, hc, h2⟩ := glob_one (l := usb false) hg2 hv2 (by decide) (by decide) (by decide) hd2
  exact ⟨A, c, h1, hc, h2⟩
/-- The door's own heap meets the condition. -/
theorem door_met3 (os : Os) (args : Array Value) : laidMetH Tryd.prog laidL3 ((World.doorLaid Tryd.prog 400 os).forCall (fun _ _ => 0) ⟨#[], args, []⟩).memory :=
  laidMetH_of_parts3 (fuel := 8) (laidMet_of_run' 8 (by kernel_rfl) (by kernel_rfl)) (by kernel_rfl) (by kernel_rfl)
theorem vars2 {H : Type} {enc : TypeId × Value → H} {P : Program} {w : World} {sp : Nat → Bool} {n1 n2 : String} {gs : List (DataW H)} {q : List MemPlace} (h : DataW.TrodVars enc P w sp [n1, n2] gs q) : ∃ a b, gs = [a, b] := by
  match gs, h with
  | [a, b], _ => exact ⟨a, b, rfl⟩
  | [], h => exact h.elim
  | [_], ⟨_, _, _, _, _, _, _, _, _, _, h, _⟩ => exact h.elim
  | _ :: _ :: _ :: _, ⟨_, _, _, _, _, _, _, _, _, _, ⟨_, _, _, _, _, _, _, _, _, _, h, _⟩, _⟩ => exact h.elim
end Go.Proofs.YtjggmhpjlnmigaaDoor
