/- The program's Signed answers as the reference's Signed does, at every whole number (64 bits). No condition. -/
import Derived.Test.YtgbpofhabhabcaaPFnExactSignedx1
import Derived.Test.YtgbpofhabhabcaaBase
namespace Go.Proofs.Ytgbpofhabhabcaa.Pure
open Go.RowKit Go.Proofs.Ytgbpofhabhabcaa.PFnExactSigned Go.Proofs.YtgbpofhabhabcaaW.PrintWords Go.Proofs.YtgbpofhabhabcaaW.PrintLast Go.Proofs.YtgbpofhabhabcaaW.PrintMore Go.Proofs.Ytgbpofhabhabcaa.Base
set_option linter.unusedVariables false
set_option linter.unusedSimpArgs false
theorem spec_word (a : Int) : spec_Word.f a = some (a % 4294967296) := congrArg some (word_of a)
theorem spec_signed (a : Int) : spec_Signed.f a = some (sg a) := by
  unfold spec_Signed.f
  rw [spec_word]
  simp only [Option.bind_some]
  have := sg_cases a
  split
  · rw [w64 (by omega) (by omega)]; congr 1; omega
  · congr 1; omega
theorem impl_signed (a : Int) : impl_Signed.f a = some (sg a) := congrArg some (sg_of a)
theorem FnExactSigned : laws_FnExactSigned.Pure := by
  intro a _
  unfold laws_FnExactSigned.f
  rw [spec_signed, impl_signed]
  simp only [Option.bind_some, if_true]
end Go.Proofs.Ytgbpofhabhabcaa.Pure
