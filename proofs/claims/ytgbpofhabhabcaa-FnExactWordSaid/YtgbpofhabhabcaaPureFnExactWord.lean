/- The program's Word answers as the reference's Word does, at every whole number (64 bits). No condition. -/
import Derived.Test.YtgbpofhabhabcaaPFnExactWordx1
import Derived.Test.YtgbpofhabhabcaaBase
namespace Go.Proofs.Ytgbpofhabhabcaa.Pure
open Go.RowKit Go.Proofs.Ytgbpofhabhabcaa.PFnExactWord Go.Proofs.YtgbpofhabhabcaaW.PrintWords Go.Proofs.YtgbpofhabhabcaaW.PrintLast Go.Proofs.YtgbpofhabhabcaaW.PrintMore Go.Proofs.Ytgbpofhabhabcaa.Base
set_option linter.unusedVariables false
set_option linter.unusedSimpArgs false
theorem spec_word (a : Int) : spec_Word.f a = some (a % 4294967296) := congrArg some (word_of a)
theorem impl_word (a : Int) : impl_Word.f a = some (a % 4294967296) := congrArg some (and_w a)
theorem FnExactWord : laws_FnExactWord.Pure := by
  intro a _
  unfold laws_FnExactWord.f
  rw [spec_word, impl_word]
  simp only [Option.bind_some, if_true]
end Go.Proofs.Ytgbpofhabhabcaa.Pure
