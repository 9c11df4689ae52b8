/- What a door's law is given: the tables of tests and of bits, as they are laid. -/
import Derived.Test.YtjggmhpjlnmigaaDoorVLvK
import Derived.Test.YtjggmhpjlnmigaaDoorVArg
import Derived.Test.YtjggmhpjlnmigaaDoorRows
import Derived.LaidMore
import Derived.MakeChecks
import Derived.FnData
import Derived.OpenShut
import Derived.SliceStrings
namespace Go.Proofs.YtjggmhpjlnmigaaDoor
open Go.RowKit
set_option maxRecDepth 100000
set_option linter.unusedVariables false
set_option linter.unusedSimpArgs false
theorem gIr : Tryd.prog.globalNamed "loop.example/s01681/impl.irTests" = some 1 := by kernel_rfl
theorem gTab : Tryd.prog.globalNamed "math/bits.deBruijn64tab" = some 2 := by kernel_rfl
theorem tIr : (Tryd.prog.globals[1]?).map (·.type) = some 84 := by kernel_rfl
theorem tTab : (Tryd.prog.globals[2]?).map (·.type) = some 111 := by kernel_rfl
theorem one_str : Tryd.prog.cellsOf 9 = 1 := by kernel_rfl
theorem one_u8 : Tryd.prog.cellsOf 5 = 1 := by kernel_rfl
theorem strs_inj : ∀ {xs ys : List ByteArray}, Go.ChangeShapes.strs (H := Unit) xs = Go.ChangeShapes.strs ys → xs = ys
  | [], [], _ => rfl
  | [], _ :: _, e => by cases e
  | _ :: _, [], e => by cases e
  | ⟨⟨x⟩⟩ :: xs, ⟨⟨y⟩⟩ :: ys, e => by
    simp only [Go.ChangeShapes.strs, List.map_cons, List.cons.injEq, DataW.lit.injEq, Lit.string.injEq] at e
    obtain ⟨e1, e2⟩ := e
    have := strs_inj (xs := xs) (ys := ys) e2
    subst this
    subst e1
    rfl
theorem rd_of_strs {w : World} {a : Addr} {ss : List ByteArray} (h0 : 0 < ss.length) (h4 : ∀ i, i < ss.length → w.cell? (a.add i) = some (.string (ss.getD i ByteArray.empty))) : Rd w.heap (some a) (ss.map Value.string) := by
  intro j v hj
  have hlt := (List.getElem?_eq_some_iff.mp hj).1
  rw [List.length_map] at hlt
  have hc := h4 j hlt
  obtain ⟨b, o, sp⟩ := a
  cases sp with
  | some t =>
    exfalso
    have hc := h4 0 h0
    unfold World.cell? Addr.add at hc
    simp at hc
    split at hc <;> simp at hc
  | none =>
    refine ⟨b, o, rfl, ?_⟩
    rw [cell_add] at hc
    rw [hc, ← hj]
    simp [List.getD, hlt]
theorem glob_str {W : World} {g : Nat} {cs : Array Value} {fuel : Nat} {p : List MemPlace} {l : List ByteArray} {name : String} (hn : Tryd.prog.globalNamed name = some g) (hv : W.var? Tryd.prog name = some cs) (hl : 0 < l.length)
    (hd : DataW.trod (fun _ => ()) Tryd.prog W 0 (fun _ => true) false fuel 84 cs.toList = some (.slice (Go.ChangeShapes.strs l) [], p)) :
    ∃ A c, hcell W.heap g 0 = some (.slice A l.length c) ∧ Rd W.heap A (l.map Value.string) := by
  rcases Go.ChangeShapes.open_strings Tryd.underlying84 Tryd.underlying9 one_str hd with ⟨_, hx⟩ | ⟨a, len, cap, ss, e, _, h1, _, h3, hx, hc, _⟩
  · simp at hx
  · simp only [Prod.mk.injEq, DataW.slice.injEq] at hx
    obtain ⟨⟨e1, e2⟩, _⟩ := hx
    have e3 : ss.drop len = [] := List.map_eq_nil_iff.mp e2.symm
    have e4 : ss.length ≤ len := List.drop_eq_nil_iff.mp e3
    have e5 : len ≤ ss.length := by rw [h3]; split <;> omega
    rw [List.take_of_length_le e4] at e1
    obtain rfl := strs_inj e1
    have hcell := World.var?_cell hn hv 0
    have e0 : cs[0]? = some (.slice (some a) len cap) := by rw [← Array.getElem?_toList, e]; rfl
    rw [e0, cell_h] at hcell
    have e6 : len = l.length := by omega
    rw [e6] at hcell
    exact ⟨some a, cap, hcell, rd_of_strs hl hc⟩
theorem glob_tab {W : World} {g : Nat} {cs : Array Value} {fuel : Nat} {p : List MemPlace} {name : String} {l : List Nat} (hl : l.length = 64) (hn : Tryd.prog.globalNamed name = some g) (hv : W.var? Tryd.prog name = some cs)
    (hd : DataW.trod (fun _ => ()) Tryd.prog W 0 (fun _ => true) false fuel 111 cs.toList = some (.agg (l.map fun n : Nat => .lit (.int .u8 n)), p)) :
    ∀ j, j < 64 → hcell W.heap g j = some (.int .u8 (l.getD j 0 : Nat)) := by
  intro j hj
  obtain ⟨xs, m, _, hx, _, hxl, hel⟩ := DataW.trod_array Tryd.underlying111 hd
  simp only [Prod.mk.injEq, DataW.agg.injEq] at hx
  have h := hel j hj
  rw [one_u8, Nat.mul_one] at h
  obtain ⟨y, hy⟩ : ∃ y, xs[j]? = some y := ⟨_, List.getElem?_eq_getElem (by omega)⟩
  rw [hy] at h
  obtain ⟨n, e1, e2, _⟩ := DataW.trod_int Tryd.underlying5 h
  have e3 : (l.map fun n : Nat => (DataW.lit (.int .u8 n) : DataW Unit))[j]? = some y.1 := by rw [hx.1, List.getElem?_map, hy]; rfl
  rw [List.getElem?_map, List.getElem?_eq_getElem (by omega), e2] at e3
  simp at e3
  have e4 : cs.toList[j]? = some (.int .u8 n) := by
    have := congrArg (fun z : List Value => z[0]?) e1
    simpa using this
  have hcell := World.var?_cell hn hv j
  rw [Array.getElem?_toList] at e4
  rw [e4, cell_h] at hcell
  rw [hcell, ← e3]
  simp [List.getD, hl, hj]
def laidL : List (String × DataW Unit) := [("math/bits.deBruijn64tab", Rows.laid_math_bits_deBruijn64tab), ("loop.example/s01681/impl.irTests", Rows.laid_loop_example_s01681_impl_irTests)]
theorem tab_eq : (Rows.laid_math_bits_deBruijn64tab : DataW Unit) = .agg (Lib.deBruijn64tab.map fun n : Nat => .lit (.int .u8 n)) := by rfl
theorem tests_eq : (Rows.laid_loop_example_s01681_impl_irTests : DataW Unit) = .slice (Go.ChangeShapes.strs tests) [] := by rfl
theorem glob_of_laid {W : World} (h : laidMetH Tryd.prog laidL W) : GQ W.heap := by
  rw [MakeChecks.laidMetH_plain _ _ _ (by kernel_rfl)] at h
  obtain ⟨ps, ⟨g0, t0, cs0, f0, p0, q0, hg0, ht0, hv0, hd0, ⟨g1, t1, cs1, f1, p1, q1, hg1, ht1, hv1, hd1, _, _⟩, _⟩, _, _⟩ := h
  obtain rfl := Option.some.inj (gTab.symm.trans hg0)
  obtain rfl := Option.some.inj (gIr.symm.trans hg1)
  obtain rfl := Option.some.inj (tTab.symm.trans ht0)
  obtain rfl := Option.some.inj (tIr.symm.trans ht1)
  rw [tab_eq] at hd0
  rw [tests_eq] at hd1
  exact ⟨⟨glob_str (l := tests) hg1 hv1 (by decide) hd1⟩, ⟨glob_tab (by decide) hg0 hv0 hd0⟩⟩
/-- The door's own heap meets the condition. -/
theorem door_met (os : Os) (args : Array Value) : laidMetH Tryd.prog laidL ((World.doorLaid Tryd.prog 400 os).forCall (fun _ _ => 0) ⟨#[], args, []⟩).memory :=
  laidMetH_of_parts3 (fuel := 8) (laidMet_of_run' 8 (by kernel_rfl) (by kernel_rfl)) (by kernel_rfl) (by kernel_rfl)
theorem vars1 {H : Type} {enc : TypeId × Value → H} {P : Program} {w : World} {sp : Nat → Bool} {n1 : String} {gs : List (DataW H)} {q : List MemPlace} (h : DataW.TrodVars enc P w sp [n1] gs q) : ∃ a, gs = [a] := by
  match gs, h with
  | [a], _ => exact ⟨a, rfl⟩
  | [], h => exact h.elim
  | _ :: _ :: _, ⟨_, _, _, _, _, _, _, _, _, _, h, _⟩ => exact h.elim
end Go.Proofs.YtjggmhpjlnmigaaDoor
