/- The row of FnExactSameTree out of its contract: for every argument the law answers true, and each argument reads as before. No condition. -/
import Derived.Test.YtjggmhpjlnmigaaRows
import Derived.Test.YtjggmhpjlnmigaaVTree3
import Derived.WalkKit
import Derived.ProofKit
import Derived.OpenShut
import Derived.ShutString
import Derived.ChangeOld
import Derived.Below
import Derived.SizedLaws
import Derived.Lib.SmallJoins
namespace Go.Proofs.Ytjggmhpjlnmigaa.fnExactSameTree
open Go.ChangeShapes Go.WideShapes Go.ChangeAt Go.RowKit Go.Joins Go.Deep
open Go.ChangeMaps (open_string shut_string)
set_option linter.unusedVariables false
theorem own : ownKnob Try.prog.godebug = none := by kernel_rfl
theorem laidOut : laidOutB Try.prog = true := by kernel_rfl
set_option maxRecDepth 100000 in
theorem lifted (os : Os) (started : os.Started) (H : Type) (enc : TypeId × Value → H) :
    ReturnsInHanded {} Try.checked os 4 .any (Rows.fnExactSameTreeSpec.pre6 enc Try.prog Try.f4 Rows.fnExactSameTreeRow.domain false) (Rows.fnExactSameTreeSpec.post enc Try.prog Try.f4 false true false false) := by
  refine returnsInHanded_of_change_sized (C := Try.checked) own started (by kernel_rfl) Try.func4
    (ChangeSpec.witness6 (enc := enc) (C := Try.checked) false ⟨#[], #[.agg #[.slice none 0 0], .agg #[.slice none 0 0]], []⟩ 8 (by kernel_rfl) (by kernel_rfl) (by kernel_rfl) (by kernel_rfl)) ?_
  intro W base args ds gs before hval0 hW hcnd hsz0 _
  have hval : ∀ (j : Nat) t v, Try.f4.params[j]? = some t → args[j]? = some v → Value.okWide Try.prog W .any base t v := hval0
  have hW' := hW
  obtain ⟨p, q, hA0, hV, rfl, hfz, hnd⟩ := hW
  have hA : DataW.TrodAll enc Try.prog W 0 (fun _ => true) true Try.f4.params.toList args.toList ds p := hA0
  rw [Try.params4] at hA hval
  obtain ⟨v0, vs0, d0, ds0, p0, q0, hargs, rfl, rfl, h0, rr0⟩ := trodAll_cons hA
  obtain ⟨v1, vs1, d1, ds1, p1, q1, rfl, rfl, rfl, h1, rr1⟩ := trodAll_cons rr0
  obtain ⟨rfl, rfl, rfl⟩ := trodAll_nil rr1
  obtain rfl : args = #[v0, v1] := by cases args; simp_all
  obtain ⟨rfl, rfl⟩ := trodVars_none hV
  have k0 := h0
  have lt0 : ∀ x ∈ p0, x.block < W.heap.size := by obtain ⟨m, hm⟩ := k0; exact DataW.trod_lt m _ _ _ hm
  have k1 := h1
  have lt1 : ∀ x ∈ p1, x.block < W.heap.size := by obtain ⟨m, hm⟩ := k1; exact DataW.trod_lt m _ _ _ hm
  have R0 := Go.Proofs.Ytjggmhpjlnmigaa.rda_of (s := (.cons (.sl (.cons (.int .i64) (.cons (.int .i64) (.cons (.int .i64) (.cons .str (.cons (.sl (.int .i64)) (.cons (.int .i64) (.cons (.int .i64) .nil)))))))) .nil)) (by kernel_rfl) (hval 0 35 v0 rfl rfl) h0
  have R1 := Go.Proofs.Ytjggmhpjlnmigaa.rda_of (s := (.cons (.sl (.cons (.int .i64) (.cons (.int .i64) (.cons (.int .i64) (.cons .str (.cons (.sl (.int .i64)) (.cons (.int .i64) (.cons (.int .i64) .nil)))))))) .nil)) (by kernel_rfl) (hval 1 35 v1 rfl rfl) h1
  clear hA0 hval0 hsz0
  refine ((Go.Proofs.Ytjggmhpjlnmigaa.lawTree_r R0 R1).2 W rfl).mono fun e W' ⟨v, he, sm, hv, bx⟩ => ?_
  have bel : Below W.heap.size W W' := ⟨sm.os, sm.tape, sm.output, bx.size, bx.old⟩
  subst hv
  subst he
  exact ⟨_, rfl, _, _, _, [], _, [], hW', trodAll_mk1 (shut_bool Try.underlying4 _), (trodAll_cons_mk (Below.trod laidOut (by kernel_rfl) (of_decide_eq_true (by kernel_rfl)) k0 bel lt0) (trodAll_cons_mk (Below.trod laidOut (by kernel_rfl) (of_decide_eq_true (by kernel_rfl)) k1 bel lt1) trodAll_mk0)), rfl, bel.frame _, fun h => by cases h⟩
theorem over : Rows.fnExactSameTreeRow.holds Try.pinned (OpenSpec.ofChange Rows.fnExactSameTreeSpec) :=
  OpenClaim.holds_of_wide 4 Try.f4 rfl rfl rfl rfl rfl rfl rfl ⟨rfl, rfl, rfl, rfl, rfl⟩ rfl rfl rfl rfl rfl (by kernel_rfl) Try.func4 (by kernel_rfl)
    (of_decide_eq_true (by kernel_rfl)) (by unfold Func.isWrapper; first | (rw [if_pos (by decide +kernel)]; kernel_rfl) | (rw [if_neg (by decide +kernel)]; exact ⟨rfl, rfl⟩))
    (fun os started H enc _ => lifted os started H enc)
theorem proved : Rows.FnExactSameTreeSaid := over
#print axioms proved
end Go.Proofs.Ytjggmhpjlnmigaa.fnExactSameTree
namespace Go.Proofs.Ytjggmhpjlnmigaa
/-- The row, under a short name, for the claim. -/
theorem fnExactSameTree_holds : Rows.FnExactSameTreeSaid := fnExactSameTree.proved
end Go.Proofs.Ytjggmhpjlnmigaa
