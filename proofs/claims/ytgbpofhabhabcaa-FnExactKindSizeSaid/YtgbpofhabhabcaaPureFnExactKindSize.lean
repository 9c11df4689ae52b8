/- The program's KindSize answers as the reference's KindSize does, at every whole number (64 bits). No condition. -/
import Derived.Test.YtgbpofhabhabcaaPFnExactKindSizex1
import Derived.Test.YtgbpofhabhabcaaBase
namespace Go.Proofs.Ytgbpofhabhabcaa.Pure
open Go.RowKit Go.Proofs.Ytgbpofhabhabcaa.PFnExactKindSize Go.Proofs.YtgbpofhabhabcaaW.PrintWords Go.Proofs.YtgbpofhabhabcaaW.PrintLast Go.Proofs.YtgbpofhabhabcaaW.PrintMore Go.Proofs.Ytgbpofhabhabcaa.Base
set_option linter.unusedVariables false
set_option linter.unusedSimpArgs false
/-- The bytes of a kind. -/
def ksz (a : Int) : Int := if a = 1 then 1 else if a = 2 then 1 else if a = 3 then 2 else if a = 4 then 2 else if a = 5 then 4 else 0
theorem impl_ks (a : Int) : impl_KindSize.f a = some (ksz a) := by
  unfold impl_KindSize.f ksz
  by_cases h1 : a = 1
  · subst h1; rfl
  by_cases h2 : a = 2
  · subst h2; rfl
  by_cases h3 : a = 3
  · subst h3; rfl
  by_cases h4 : a = 4
  · subst h4; rfl
  by_cases h5 : a = 5
  · subst h5; rfl
  rw [if_neg h1, if_neg h2, if_neg h3, if_neg h4, if_neg h5]
  by_cases h : a < 1
  · rw [if_pos h]
  · rw [if_neg h, if_pos (by omega)]
theorem spec_ks (k : Nat) (a : Int) : spec_KindSize.f (k + 2) a = some (ksz a) := by
  unfold spec_KindSize.f ksz
  by_cases h1 : a = 1
  · subst h1; rfl
  by_cases h2 : a = 2
  · subst h2; rfl
  by_cases h3 : a = 3
  · subst h3; rfl
  by_cases h4 : a = 4
  · subst h4; rfl
  have e2 : (a == 2) = false := beq_eq_false_iff_ne.mpr h2
  have e4 : (a == 4) = false := beq_eq_false_iff_ne.mpr h4
  rw [if_neg h1, if_neg h1, if_neg h2, if_neg h3, if_neg h4, e2]
  simp only [spec_KindSize.j0, Bool.false_eq_true, if_false]
  rw [if_neg h3, e4]
  simp only [spec_KindSize.j1, Bool.false_eq_true, if_false]
  by_cases h5 : a = 5
  · rw [if_pos h5, if_pos h5]
  · rw [if_neg h5, if_neg h5]
theorem FnExactKindSize : laws_FnExactKindSize.Pure := by
  intro a _
  refine ⟨2, ?_⟩
  unfold laws_FnExactKindSize.f
  rw [spec_ks, impl_ks]
  simp only [Option.bind_some, if_true]
end Go.Proofs.Ytgbpofhabhabcaa.Pure
