/- The row of FnExactStepMachine out of its contract: for every argument the law answers true, and each argument reads as before; and the card that ties the three tables. Condition: the tables read as the program's text lays them. -/
import Derived.Test.YthndggachjdkfaaDoorRows
import Derived.Test.YthndggachjdkfaaDoorVDoor
import Derived.Test.YthndggachjdkfaaDoorCards
import Derived.Test.YthndggachjdkfaaDoorTie
import Derived.SevenTiedAt
import Derived.OpenVars
import Derived.LaidMore
import Derived.Stop.Joined
import Derived.WalkKit
import Derived.ProofKit
import Derived.OpenShut
import Derived.ShutString
import Derived.ChangeOld
import Derived.Below
import Derived.SizedLaws
import Derived.Lib.SmallJoins
namespace Go.Proofs.YthndggachjdkfaaDoor.fnExactStepMachine
open Go.ChangeShapes Go.WideShapes Go.ChangeAt Go.RowKit Go.Joins Go.Deep
open Go.ChangeMaps (open_string shut_string)
set_option linter.unusedVariables false
section
variable {H : Type} {enc : TypeId × Value → H} {P : Program} {w : World} {base : Nat} {spare : Nat → Bool} {held : Bool}
theorem open_agg10 {r : Reach} {b0 : Nat} {t : TypeId} {f0 f1 f2 f3 f4 f5 f6 f7 f8 f9 : Field} {v : Value} {d : DataW H} {p : List MemPlace} (hs : P.underlying t = some (.struct #[f0, f1, f2, f3, f4, f5, f6, f7, f8, f9])) (hone : oneCellFields P #[f0, f1, f2, f3, f4, f5, f6, f7, f8, f9] = true) (hC : P.cellsOf t = 10)
    (hv : Value.okWide P w r b0 t v) (h : DataW.Trod enc P w base spare held t v d p) :
    ∃ (v0 v1 v2 v3 v4 v5 v6 v7 v8 v9 : Value) (y0 y1 y2 y3 y4 y5 y6 y7 y8 y9 : DataW H × List MemPlace) (n : Nat), v = .agg #[v0, v1, v2, v3, v4, v5, v6, v7, v8, v9] ∧ DataW.trod enc P w base spare held n f0.type [v0] = some y0 ∧ DataW.trod enc P w base spare held n f1.type [v1] = some y1 ∧ DataW.trod enc P w base spare held n f2.type [v2] = some y2 ∧ DataW.trod enc P w base spare held n f3.type [v3] = some y3 ∧ DataW.trod enc P w base spare held n f4.type [v4] = some y4 ∧ DataW.trod enc P w base spare held n f5.type [v5] = some y5 ∧ DataW.trod enc P w base spare held n f6.type [v6] = some y6 ∧ DataW.trod enc P w base spare held n f7.type [v7] = some y7 ∧ DataW.trod enc P w base spare held n f8.type [v8] = some y8 ∧ DataW.trod enc P w base spare held n f9.type [v9] = some y9 := by
  obtain ⟨cs, rfl, hsz⟩ := okWide_struct hs hv
  obtain ⟨l⟩ := cs
  match l, hsz.trans hC with
  | [c0, c1, c2, c3, c4, c5, c6, c7, c8, c9], _ =>
    obtain ⟨fuel, hf⟩ := h
    obtain ⟨xs, n, _, hx, _, hlen, hg⟩ := DataW.trod_struct hs hf
    obtain ⟨o0, k0⟩ := hone_of hone 0 f0 rfl
    obtain ⟨o1, k1⟩ := hone_of hone 1 f1 rfl
    obtain ⟨o2, k2⟩ := hone_of hone 2 f2 rfl
    obtain ⟨o3, k3⟩ := hone_of hone 3 f3 rfl
    obtain ⟨o4, k4⟩ := hone_of hone 4 f4 rfl
    obtain ⟨o5, k5⟩ := hone_of hone 5 f5 rfl
    obtain ⟨o6, k6⟩ := hone_of hone 6 f6 rfl
    obtain ⟨o7, k7⟩ := hone_of hone 7 f7 rfl
    obtain ⟨o8, k8⟩ := hone_of hone 8 f8 rfl
    obtain ⟨o9, k9⟩ := hone_of hone 9 f9 rfl
    match xs, hlen with
    | [y0, y1, y2, y3, y4, y5, y6, y7, y8, y9], _ =>
      exact ⟨c0, c1, c2, c3, c4, c5, c6, c7, c8, c9, y0, y1, y2, y3, y4, y5, y6, y7, y8, y9, n, rfl, by simpa [Value.cells, o0, k0] using hg 0 f0 rfl, by simpa [Value.cells, o1, k1] using hg 1 f1 rfl, by simpa [Value.cells, o2, k2] using hg 2 f2 rfl, by simpa [Value.cells, o3, k3] using hg 3 f3 rfl, by simpa [Value.cells, o4, k4] using hg 4 f4 rfl, by simpa [Value.cells, o5, k5] using hg 5 f5 rfl, by simpa [Value.cells, o6, k6] using hg 6 f6 rfl, by simpa [Value.cells, o7, k7] using hg 7 f7 rfl, by simpa [Value.cells, o8, k8] using hg 8 f8 rfl, by simpa [Value.cells, o9, k9] using hg 9 f9 rfl⟩
end
theorem own : ownKnob Tryd.prog.godebug = none := by kernel_rfl
theorem laidOut : laidOutB Tryd.prog = true := by kernel_rfl
def IsRow (k : IntKind) (w : World) (a : Option Addr) (len cap : Nat) (zs : List Int) : Prop :=
  (a = none ∧ len = 0 ∧ cap = 0 ∧ zs = []) ∨
  ∃ x, a = some x ∧ len ≤ cap ∧ cap ≤ maxLen ∧ zs.length = cap ∧ (∀ i, i < zs.length → w.cell? (x.add i) = some (.int k (zs.getD i 0))) ∧ ∀ n ∈ zs, (Lit.int k n).wf = true
set_option maxRecDepth 100000 in
theorem lifted (os : Os) (started : os.Started) (H : Type) (enc : TypeId × Value → H) :
    ReturnsInHanded {} Tryd.checked os 3 .any (fun w args => (Rows.fnExactStepMachineSpec.pre enc Tryd.prog Tryd.f3 [] false w args ∧ laidMetH Tryd.prog laidL w) ∧ sizedMet enc Tryd.prog Tryd.f3 (OpenSpec.ofChange Rows.fnExactStepMachineSpec) false w args) (Rows.fnExactStepMachineSpec.post enc Tryd.prog Tryd.f3 false true false false) := by
  refine returnsInHanded_of_change_and (C := Tryd.checked) (X := fun w _ => laidMetH Tryd.prog laidL w) (fun _ _ _ hh h => h.of_heap hh) own started (by kernel_rfl) Tryd.func3
    (ChangeSpec.witness_shaped (enc := enc) (C := Tryd.checked) (os := os) (X := fun w _ => laidMetH Tryd.prog laidL w) false (World.doorLaid Tryd.prog 400 os) #[.agg #[.slice none 0 0, .int .i64 0, .slice none 0 0, .slice none 0 0, .slice none 0 0, .slice none 0 0, .slice none 0 0, .int .i64 0, .int .i64 0, .int .i64 0]] 8 rfl (World.shaped_of_RefB (by kernel_rfl) (by kernel_rfl)) (by kernel_rfl) (by kernel_rfl) (by kernel_rfl) (door_met os _)) ?_
  intro W base args ds gs before hval0 hW hcnd hsz0 hL _
  have hval : ∀ (j : Nat) t v, Tryd.f3.params[j]? = some t → args[j]? = some v → Value.okWide Tryd.prog W .any base t v := hval0
  have hW' := hW
  obtain ⟨p, q, hA0, hV, rfl, hfz, hnd⟩ := hW
  have hA : DataW.TrodAll enc Tryd.prog W 0 (fun _ => true) true Tryd.f3.params.toList args.toList ds p := hA0
  rw [Tryd.params3] at hA hval
  obtain ⟨v0, vs0, d0, ds0, p0, q0, hargs, rfl, rfl, h0, rr0⟩ := trodAll_cons hA
  obtain ⟨rfl, rfl, rfl⟩ := trodAll_nil rr0
  obtain rfl : args = #[v0] := by cases args; simp_all
  obtain ⟨g1, g2, g3, rfl⟩ := vars3 hV
  have hG := glob_of_laid hL
  have k0 := h0
  have lt0 : ∀ x ∈ p0, x.block < W.heap.size := by obtain ⟨m, hm⟩ := k0; exact DataW.trod_lt m _ _ _ hm
  obtain ⟨c_0_0, c_0_1, c_0_2, c_0_3, c_0_4, c_0_5, c_0_6, c_0_7, c_0_8, c_0_9, y_0_0, y_0_1, y_0_2, y_0_3, y_0_4, y_0_5, y_0_6, y_0_7, y_0_8, y_0_9, n_0, rfl, g_0_0, g_0_1, g_0_2, g_0_3, g_0_4, g_0_5, g_0_6, g_0_7, g_0_8, g_0_9⟩ := open_agg10 Tryd.underlying25 (by kernel_rfl) (by kernel_rfl) (hval 0 25 _ rfl rfl) h0
  obtain ⟨A0_0, n0_0, c0_0, z0_0, e0_0, r0_0⟩ : ∃ A n c z, c_0_0 = .slice A n c ∧ IsRow .i64 W A n c z := by
    rcases open_ints Tryd.underlying22 Tryd.underlying3 (by kernel_rfl) g_0_0 with ⟨hcs, _⟩ | ⟨x, l, c, zs, hcs, _, hl, hm, hz, _, hcell, hwz⟩
    · simp at hcs
      exact ⟨none, 0, 0, [], hcs, .inl ⟨rfl, rfl, rfl, rfl⟩⟩
    · simp at hcs
      exact ⟨_, _, _, zs, hcs, .inr ⟨_, rfl, hl, hm, by simpa using hz, hcell, hwz⟩⟩
  subst e0_0
  obtain ⟨rd0_0, ln0_0, mx0_0⟩ := Go.Proofs.YthndggachjdkfaaDoor.rd_of_row r0_0
  obtain ⟨a0_1, e0_1, _, w0_1⟩ := DataW.trod_int Tryd.underlying3 g_0_1
  simp at e0_1
  subst e0_1
  obtain ⟨A0_2, n0_2, c0_2, z0_2, e0_2, r0_2⟩ : ∃ A n c z, c_0_2 = .slice A n c ∧ IsRow .i64 W A n c z := by
    rcases open_ints Tryd.underlying22 Tryd.underlying3 (by kernel_rfl) g_0_2 with ⟨hcs, _⟩ | ⟨x, l, c, zs, hcs, _, hl, hm, hz, _, hcell, hwz⟩
    · simp at hcs
      exact ⟨none, 0, 0, [], hcs, .inl ⟨rfl, rfl, rfl, rfl⟩⟩
    · simp at hcs
      exact ⟨_, _, _, zs, hcs, .inr ⟨_, rfl, hl, hm, by simpa using hz, hcell, hwz⟩⟩
  subst e0_2
  obtain ⟨rd0_2, ln0_2, mx0_2⟩ := Go.Proofs.YthndggachjdkfaaDoor.rd_of_row r0_2
  obtain ⟨A0_3, n0_3, c0_3, z0_3, e0_3, r0_3⟩ : ∃ A n c z, c_0_3 = .slice A n c ∧ IsRow .u8 W A n c z := by
    rcases open_ints Tryd.underlying23 Tryd.underlying5 (by kernel_rfl) g_0_3 with ⟨hcs, _⟩ | ⟨x, l, c, zs, hcs, _, hl, hm, hz, _, hcell, hwz⟩
    · simp at hcs
      exact ⟨none, 0, 0, [], hcs, .inl ⟨rfl, rfl, rfl, rfl⟩⟩
    · simp at hcs
      exact ⟨_, _, _, zs, hcs, .inr ⟨_, rfl, hl, hm, by simpa using hz, hcell, hwz⟩⟩
  subst e0_3
  obtain ⟨rd0_3, ln0_3, mx0_3⟩ := Go.Proofs.YthndggachjdkfaaDoor.rd_of_row r0_3
  obtain ⟨A0_4, n0_4, c0_4, z0_4, e0_4, r0_4⟩ : ∃ A n c z, c_0_4 = .slice A n c ∧ IsRow .u8 W A n c z := by
    rcases open_ints Tryd.underlying23 Tryd.underlying5 (by kernel_rfl) g_0_4 with ⟨hcs, _⟩ | ⟨x, l, c, zs, hcs, _, hl, hm, hz, _, hcell, hwz⟩
    · simp at hcs
      exact ⟨none, 0, 0, [], hcs, .inl ⟨rfl, rfl, rfl, rfl⟩⟩
    · simp at hcs
      exact ⟨_, _, _, zs, hcs, .inr ⟨_, rfl, hl, hm, by simpa using hz, hcell, hwz⟩⟩
  subst e0_4
  obtain ⟨rd0_4, ln0_4, mx0_4⟩ := Go.Proofs.YthndggachjdkfaaDoor.rd_of_row r0_4
  obtain ⟨A0_5, n0_5, c0_5, z0_5, e0_5, r0_5⟩ : ∃ A n c z, c_0_5 = .slice A n c ∧ IsRow .u8 W A n c z := by
    rcases open_ints Tryd.underlying23 Tryd.underlying5 (by kernel_rfl) g_0_5 with ⟨hcs, _⟩ | ⟨x, l, c, zs, hcs, _, hl, hm, hz, _, hcell, hwz⟩
    · simp at hcs
      exact ⟨none, 0, 0, [], hcs, .inl ⟨rfl, rfl, rfl, rfl⟩⟩
    · simp at hcs
      exact ⟨_, _, _, zs, hcs, .inr ⟨_, rfl, hl, hm, by simpa using hz, hcell, hwz⟩⟩
  subst e0_5
  obtain ⟨rd0_5, ln0_5, mx0_5⟩ := Go.Proofs.YthndggachjdkfaaDoor.rd_of_row r0_5
  obtain ⟨A0_6, n0_6, c0_6, z0_6, e0_6, r0_6⟩ : ∃ A n c z, c_0_6 = .slice A n c ∧ IsRow .u8 W A n c z := by
    rcases open_ints Tryd.underlying23 Tryd.underlying5 (by kernel_rfl) g_0_6 with ⟨hcs, _⟩ | ⟨x, l, c, zs, hcs, _, hl, hm, hz, _, hcell, hwz⟩
    · simp at hcs
      exact ⟨none, 0, 0, [], hcs, .inl ⟨rfl, rfl, rfl, rfl⟩⟩
    · simp at hcs
      exact ⟨_, _, _, zs, hcs, .inr ⟨_, rfl, hl, hm, by simpa using hz, hcell, hwz⟩⟩
  subst e0_6
  obtain ⟨rd0_6, ln0_6, mx0_6⟩ := Go.Proofs.YthndggachjdkfaaDoor.rd_of_row r0_6
  obtain ⟨a0_7, e0_7, _, w0_7⟩ := DataW.trod_int Tryd.underlying3 g_0_7
  simp at e0_7
  subst e0_7
  obtain ⟨a0_8, e0_8, _, w0_8⟩ := DataW.trod_int Tryd.underlying3 g_0_8
  simp at e0_8
  subst e0_8
  obtain ⟨a0_9, e0_9, _, w0_9⟩ := DataW.trod_int Tryd.underlying3 g_0_9
  simp at e0_9
  subst e0_9
  clear hA0 hval0 hsz0
  refine ((Go.Proofs.YthndggachjdkfaaDoor.lawStep_c (h := W.heap) (x := ⟨⟨A0_0, n0_0, c0_0⟩, ⟨A0_2, n0_2, c0_2⟩, ⟨A0_3, n0_3, c0_3⟩, ⟨A0_4, n0_4, c0_4⟩, ⟨A0_5, n0_5, c0_5⟩, ⟨A0_6, n0_6, c0_6⟩⟩) (m := ⟨z0_0.take n0_0, a0_1, z0_2.take n0_2, z0_3.take n0_3, z0_4.take n0_4, z0_5.take n0_5, z0_6.take n0_6, a0_7, a0_8, a0_9⟩) hG ⟨rd0_0, rd0_2, rd0_3, rd0_4, rd0_5, rd0_6, ln0_0, ln0_2, ln0_3, ln0_4, ln0_5, ln0_6⟩ ⟨mx0_0, mx0_2, mx0_3, mx0_4, mx0_5, mx0_6⟩ ⟨byt_of_row r0_3, byt_of_row r0_4, byt_of_row r0_5, byt_of_row r0_6⟩).2 W rfl).mono fun e W' ⟨v, he, sm, hv, bx⟩ => ?_
  have bel : Below W.heap.size W W' := ⟨sm.os, sm.tape, sm.output, bx.size, bx.old⟩
  subst hv
  subst he
  exact ⟨_, rfl, _, _, _, [], _, _, hW', trodAll_mk1 (shut_bool Tryd.underlying4 _), (trodAll_cons_mk (Below.trod laidOut (by kernel_rfl) (of_decide_eq_true (by kernel_rfl)) k0 bel lt0) trodAll_mk0), Below.trodVars laidOut bel (by kernel_rfl) hV, bel.frame _, fun h => by cases h⟩
theorem over : Rows.fnExactStepMachineRow.holds Tryd.pinned (OpenSpec.ofChange Rows.fnExactStepMachineSpec) :=
  OpenClaim.holds_of_wide 3 Tryd.f3 rfl rfl rfl rfl rfl rfl rfl ⟨rfl, rfl, rfl, rfl, rfl⟩ rfl rfl rfl rfl rfl (by kernel_rfl) Tryd.func3 (by kernel_rfl)
    (of_decide_eq_true (by kernel_rfl)) (by unfold Func.isWrapper; first | (rw [if_pos (by decide +kernel)]; kernel_rfl) | (rw [if_neg (by decide +kernel)]; exact ⟨rfl, rfl⟩))
    (fun os started H enc _ => lifted os started H enc)
theorem proved : Rows.FnExactStepMachineSaid := over
#print axioms proved
set_option maxRecDepth 100000 in
theorem card : Rows.FnExactStepMachineCardSaid :=
  Claim7.holds_tied_plain_at .later [] [.data, .data, .data] true (true, "a056b6b26d403013230ad58bc346443de02172d9d74b0193ea9caad9a297e987") false
    proved (fun _ h => by cases h) (by kernel_rfl) (fun _ h => by cases h) fnExactStepMachine_row_tie rfl ⟨rfl, rfl⟩ (by kernel_rfl) rfl
    (fun f fn hf hfn => by
      obtain rfl : f = 3 := Option.some.inj ((show Tryd.prog.funcNamed "loop.example/s01681/laws.FnExactStepMachine" = some 3 by kernel_rfl).symm.trans hf) |>.symm
      obtain rfl : fn = Tryd.f3 := (Option.some.inj (Tryd.func3.symm.trans hfn)).symm
      exact ⟨by kernel_rfl, fun j t ht => by
        rw [Tryd.params3] at ht
        have hm : t ∈ [25] := by simpa using Array.mem_of_getElem? ht
        have hall : ([25].all fun u => !Tryd.prog.wantsStandIn u) = true := by kernel_rfl
        exact (show Tryd.prog.wantsStandIn t = false by simpa using List.all_eq_true.1 hall t hm)⟩)
    (by kernel_rfl)
#print axioms card
end Go.Proofs.YthndggachjdkfaaDoor.fnExactStepMachine
namespace Go.Proofs.YthndggachjdkfaaDoor
/-- The card, under a short name, for the claim. -/
theorem fnExactStepMachineCard_holds : Rows.FnExactStepMachineCardSaid := fnExactStepMachine.card
end Go.Proofs.YthndggachjdkfaaDoor
