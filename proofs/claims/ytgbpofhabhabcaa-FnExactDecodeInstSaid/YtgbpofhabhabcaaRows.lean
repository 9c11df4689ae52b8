/-
  No cell of these rows narrows 'for every input' (looked for: loops, veiled, ifaces, maps, wideKeys, modest, calm, conditions, laid).
  DERIVED. THE GIVEN ROWS OF THIS SEAT. 12 by the template 'for every input the law returns true; each argument reads behind the call as it read before'; 0 by the template 'total and deterministic' (their statements: YtgbpofhabhabcaaTotals.lean).
  GIVEN WITH THE SEED: the statements are not yours to turn. If you find one false, say at which input.
  Laid BY PROGRAM, IN A SANDBOX (cutbox-rows.mjs): the forced cells as the released guide's own fill.sh prints them over the translation ad8959fbe55b7f22… (all of the seat's roots in one cut). By AI agents, Wed Nov 11 2026. No macro, syntax, notation, axiom, sorry.
-/
import Derived.Test.YtgbpofhabhabcaaChecked
import GoSem.Claim
import GoSem.ClaimJoined
import GoSem.ClaimMapViews
import Derived.JoinedTies
import Derived.KernelRfl
namespace Go.Proofs.Ytgbpofhabhabcaa
/- THE CELL 'sum', in the pinned program and in every row, IS THE sha256 OF THE DUMP (.gsa) THAT YtgbpofhabhabcaaProg.lean LOADS. Nothing in Lean hashes anything: it is a label: what it is worth is what the hold of that sum in a sandbox is worth. -/
noncomputable def Try.pinned : Pinned := { name := "ytgbpofhabhabcaa", sum := "ad8959fbe55b7f22077ec5d5dd25111aa45ffe593c01c44c67339c2eec7e1851", checked := Try.checked }
namespace Rows
def none {H : Type} : Left H := { results := [], args := [] }

/-- 'laws.FnExactConstants': WHATEVER THE INPUT: true; the input reads as it did. -/
def fnExactConstantsSpec : ChangeSpec := { name := "fnExactConstants", fn := fun _ => fun
  | [] => { results := [.lit (.bool true)], args := [] }
  | _ => none }
def fnExactConstantsRow : OpenClaim := { program := "ytgbpofhabhabcaa", sum := "ad8959fbe55b7f22077ec5d5dd25111aa45ffe593c01c44c67339c2eec7e1851", func := "loop.example/s01681/laws.FnExactConstants", spec := "fnExactConstants", apart := false }
def FnExactConstantsSaid : Prop := fnExactConstantsRow.holds Try.pinned (OpenSpec.ofChange fnExactConstantsSpec)

/-- ITS FALSE NEIGHBOUR: 'it returns false'. Refute it at one input. -/
def fnExactConstantsWrong : ChangeSpec := { name := "fnExactConstants", fn := fun _ => fun
  | [] => { results := [.lit (.bool false)], args := [] }
  | _ => none }
def FnExactConstantsWrongFalsely : Prop := fnExactConstantsRow.holds Try.pinned (OpenSpec.ofChange fnExactConstantsWrong)

/-- 'laws.FnExactWord': WHATEVER THE INPUT: true; the input reads as it did. -/
def fnExactWordSpec : ChangeSpec := { name := "fnExactWord", fn := fun _ => fun
  | [d] => { results := [.lit (.bool true)], args := [d] }
  | _ => none }
def fnExactWordRow : OpenClaim := { program := "ytgbpofhabhabcaa", sum := "ad8959fbe55b7f22077ec5d5dd25111aa45ffe593c01c44c67339c2eec7e1851", func := "loop.example/s01681/laws.FnExactWord", spec := "fnExactWord", apart := false }
def FnExactWordSaid : Prop := fnExactWordRow.holds Try.pinned (OpenSpec.ofChange fnExactWordSpec)

/-- ITS FALSE NEIGHBOUR: 'it returns false'. Refute it at one input. -/
def fnExactWordWrong : ChangeSpec := { name := "fnExactWord", fn := fun _ => fun
  | [d] => { results := [.lit (.bool false)], args := [d] }
  | _ => none }
def FnExactWordWrongFalsely : Prop := fnExactWordRow.holds Try.pinned (OpenSpec.ofChange fnExactWordWrong)

/-- 'laws.FnExactSigned': WHATEVER THE INPUT: true; the input reads as it did. -/
def fnExactSignedSpec : ChangeSpec := { name := "fnExactSigned", fn := fun _ => fun
  | [d] => { results := [.lit (.bool true)], args := [d] }
  | _ => none }
def fnExactSignedRow : OpenClaim := { program := "ytgbpofhabhabcaa", sum := "ad8959fbe55b7f22077ec5d5dd25111aa45ffe593c01c44c67339c2eec7e1851", func := "loop.example/s01681/laws.FnExactSigned", spec := "fnExactSigned", apart := false }
def FnExactSignedSaid : Prop := fnExactSignedRow.holds Try.pinned (OpenSpec.ofChange fnExactSignedSpec)

/-- ITS FALSE NEIGHBOUR: 'it returns false'. Refute it at one input. -/
def fnExactSignedWrong : ChangeSpec := { name := "fnExactSigned", fn := fun _ => fun
  | [d] => { results := [.lit (.bool false)], args := [d] }
  | _ => none }
def FnExactSignedWrongFalsely : Prop := fnExactSignedRow.holds Try.pinned (OpenSpec.ofChange fnExactSignedWrong)

/-- 'laws.FnExactKindSize': WHATEVER THE INPUT: true; the input reads as it did. -/
def fnExactKindSizeSpec : ChangeSpec := { name := "fnExactKindSize", fn := fun _ => fun
  | [d] => { results := [.lit (.bool true)], args := [d] }
  | _ => none }
def fnExactKindSizeRow : OpenClaim := { program := "ytgbpofhabhabcaa", sum := "ad8959fbe55b7f22077ec5d5dd25111aa45ffe593c01c44c67339c2eec7e1851", func := "loop.example/s01681/laws.FnExactKindSize", spec := "fnExactKindSize", apart := false }
def FnExactKindSizeSaid : Prop := fnExactKindSizeRow.holds Try.pinned (OpenSpec.ofChange fnExactKindSizeSpec)

/-- ITS FALSE NEIGHBOUR: 'it returns false'. Refute it at one input. -/
def fnExactKindSizeWrong : ChangeSpec := { name := "fnExactKindSize", fn := fun _ => fun
  | [d] => { results := [.lit (.bool false)], args := [d] }
  | _ => none }
def FnExactKindSizeWrongFalsely : Prop := fnExactKindSizeRow.holds Try.pinned (OpenSpec.ofChange fnExactKindSizeWrong)

/-- 'laws.FnExactNarrow': WHATEVER THE INPUT: true; the input reads as it did. -/
def fnExactNarrowSpec : ChangeSpec := { name := "fnExactNarrow", fn := fun _ => fun
  | [d1, d2] => { results := [.lit (.bool true)], args := [d1, d2] }
  | _ => none }
def fnExactNarrowRow : OpenClaim := { program := "ytgbpofhabhabcaa", sum := "ad8959fbe55b7f22077ec5d5dd25111aa45ffe593c01c44c67339c2eec7e1851", func := "loop.example/s01681/laws.FnExactNarrow", spec := "fnExactNarrow", apart := false }
def FnExactNarrowSaid : Prop := fnExactNarrowRow.holds Try.pinned (OpenSpec.ofChange fnExactNarrowSpec)

/-- ITS FALSE NEIGHBOUR: 'it returns false'. Refute it at one input. -/
def fnExactNarrowWrong : ChangeSpec := { name := "fnExactNarrow", fn := fun _ => fun
  | [d1, d2] => { results := [.lit (.bool false)], args := [d1, d2] }
  | _ => none }
def FnExactNarrowWrongFalsely : Prop := fnExactNarrowRow.holds Try.pinned (OpenSpec.ofChange fnExactNarrowWrong)

/-- 'laws.FnNarrow': WHATEVER THE INPUT: true; the input reads as it did. -/
def fnNarrowSpec : ChangeSpec := { name := "fnNarrow", fn := fun _ => fun
  | [d] => { results := [.lit (.bool true)], args := [d] }
  | _ => none }
def fnNarrowRow : OpenClaim := { program := "ytgbpofhabhabcaa", sum := "ad8959fbe55b7f22077ec5d5dd25111aa45ffe593c01c44c67339c2eec7e1851", func := "loop.example/s01681/laws.FnNarrow", spec := "fnNarrow", apart := false }
def FnNarrowSaid : Prop := fnNarrowRow.holds Try.pinned (OpenSpec.ofChange fnNarrowSpec)

/-- ITS FALSE NEIGHBOUR: 'it returns false'. Refute it at one input. -/
def fnNarrowWrong : ChangeSpec := { name := "fnNarrow", fn := fun _ => fun
  | [d] => { results := [.lit (.bool false)], args := [d] }
  | _ => none }
def FnNarrowWrongFalsely : Prop := fnNarrowRow.holds Try.pinned (OpenSpec.ofChange fnNarrowWrong)

/-- 'laws.FnExactInstOk': WHATEVER THE INPUT: true; the input reads as it did. -/
def fnExactInstOkSpec : ChangeSpec := { name := "fnExactInstOk", fn := fun _ => fun
  | [d] => { results := [.lit (.bool true)], args := [d] }
  | _ => none }
def fnExactInstOkRow : OpenClaim := { program := "ytgbpofhabhabcaa", sum := "ad8959fbe55b7f22077ec5d5dd25111aa45ffe593c01c44c67339c2eec7e1851", func := "loop.example/s01681/laws.FnExactInstOk", spec := "fnExactInstOk", apart := false }
def FnExactInstOkSaid : Prop := fnExactInstOkRow.holds Try.pinned (OpenSpec.ofChange fnExactInstOkSpec)

/-- ITS FALSE NEIGHBOUR: 'it returns false'. Refute it at one input. -/
def fnExactInstOkWrong : ChangeSpec := { name := "fnExactInstOk", fn := fun _ => fun
  | [d] => { results := [.lit (.bool false)], args := [d] }
  | _ => none }
def FnExactInstOkWrongFalsely : Prop := fnExactInstOkRow.holds Try.pinned (OpenSpec.ofChange fnExactInstOkWrong)

/-- 'laws.FnExactAlu': WHATEVER THE INPUT: true; the input reads as it did. -/
def fnExactAluSpec : ChangeSpec := { name := "fnExactAlu", fn := fun _ => fun
  | [d1, d2, d3] => { results := [.lit (.bool true)], args := [d1, d2, d3] }
  | _ => none }
def fnExactAluRow : OpenClaim := { program := "ytgbpofhabhabcaa", sum := "ad8959fbe55b7f22077ec5d5dd25111aa45ffe593c01c44c67339c2eec7e1851", func := "loop.example/s01681/laws.FnExactAlu", spec := "fnExactAlu", apart := false }
def FnExactAluSaid : Prop := fnExactAluRow.holds Try.pinned (OpenSpec.ofChange fnExactAluSpec)

/-- ITS FALSE NEIGHBOUR: 'it returns false'. Refute it at one input. -/
def fnExactAluWrong : ChangeSpec := { name := "fnExactAlu", fn := fun _ => fun
  | [d1, d2, d3] => { results := [.lit (.bool false)], args := [d1, d2, d3] }
  | _ => none }
def FnExactAluWrongFalsely : Prop := fnExactAluRow.holds Try.pinned (OpenSpec.ofChange fnExactAluWrong)

/-- 'laws.FnAlu': WHATEVER THE INPUT: true; the input reads as it did. -/
def fnAluSpec : ChangeSpec := { name := "fnAlu", fn := fun _ => fun
  | [d] => { results := [.lit (.bool true)], args := [d] }
  | _ => none }
def fnAluRow : OpenClaim := { program := "ytgbpofhabhabcaa", sum := "ad8959fbe55b7f22077ec5d5dd25111aa45ffe593c01c44c67339c2eec7e1851", func := "loop.example/s01681/laws.FnAlu", spec := "fnAlu", apart := false }
def FnAluSaid : Prop := fnAluRow.holds Try.pinned (OpenSpec.ofChange fnAluSpec)

/-- ITS FALSE NEIGHBOUR: 'it returns false'. Refute it at one input. -/
def fnAluWrong : ChangeSpec := { name := "fnAlu", fn := fun _ => fun
  | [d] => { results := [.lit (.bool false)], args := [d] }
  | _ => none }
def FnAluWrongFalsely : Prop := fnAluRow.holds Try.pinned (OpenSpec.ofChange fnAluWrong)

/-- 'laws.FnExactEncodeInst': WHATEVER THE INPUT: true; the input reads as it did. -/
def fnExactEncodeInstSpec : ChangeSpec := { name := "fnExactEncodeInst", fn := fun _ => fun
  | [d] => { results := [.lit (.bool true)], args := [d] }
  | _ => none }
def fnExactEncodeInstRow : OpenClaim := { program := "ytgbpofhabhabcaa", sum := "ad8959fbe55b7f22077ec5d5dd25111aa45ffe593c01c44c67339c2eec7e1851", func := "loop.example/s01681/laws.FnExactEncodeInst", spec := "fnExactEncodeInst", unfollowed := true, recurses := true, apart := false }
def FnExactEncodeInstSaid : Prop := fnExactEncodeInstRow.holds Try.pinned (OpenSpec.ofChange fnExactEncodeInstSpec)

/-- ITS FALSE NEIGHBOUR: 'it returns false'. Refute it at one input. -/
def fnExactEncodeInstWrong : ChangeSpec := { name := "fnExactEncodeInst", fn := fun _ => fun
  | [d] => { results := [.lit (.bool false)], args := [d] }
  | _ => none }
def FnExactEncodeInstWrongFalsely : Prop := fnExactEncodeInstRow.holds Try.pinned (OpenSpec.ofChange fnExactEncodeInstWrong)

/-- 'laws.FnExactDecodeInst': WHATEVER THE INPUT: true; the input reads as it did. -/
def fnExactDecodeInstSpec : ChangeSpec := { name := "fnExactDecodeInst", fn := fun _ => fun
  | [d] => { results := [.lit (.bool true)], args := [d] }
  | _ => none }
def fnExactDecodeInstRow : OpenClaim := { program := "ytgbpofhabhabcaa", sum := "ad8959fbe55b7f22077ec5d5dd25111aa45ffe593c01c44c67339c2eec7e1851", func := "loop.example/s01681/laws.FnExactDecodeInst", spec := "fnExactDecodeInst", unfollowed := true, recurses := true, apart := false }
def FnExactDecodeInstSaid : Prop := fnExactDecodeInstRow.holds Try.pinned (OpenSpec.ofChange fnExactDecodeInstSpec)

/-- ITS FALSE NEIGHBOUR: 'it returns false'. Refute it at one input. -/
def fnExactDecodeInstWrong : ChangeSpec := { name := "fnExactDecodeInst", fn := fun _ => fun
  | [d] => { results := [.lit (.bool false)], args := [d] }
  | _ => none }
def FnExactDecodeInstWrongFalsely : Prop := fnExactDecodeInstRow.holds Try.pinned (OpenSpec.ofChange fnExactDecodeInstWrong)

/-- 'laws.FnExactLineOk': WHATEVER THE INPUT: true; the input reads as it did. -/
def fnExactLineOkSpec : ChangeSpec := { name := "fnExactLineOk", fn := fun _ => fun
  | [d] => { results := [.lit (.bool true)], args := [d] }
  | _ => none }
def fnExactLineOkRow : OpenClaim := { program := "ytgbpofhabhabcaa", sum := "ad8959fbe55b7f22077ec5d5dd25111aa45ffe593c01c44c67339c2eec7e1851", func := "loop.example/s01681/laws.FnExactLineOk", spec := "fnExactLineOk", unfollowed := true, recurses := true, apart := false }
def FnExactLineOkSaid : Prop := fnExactLineOkRow.holds Try.pinned (OpenSpec.ofChange fnExactLineOkSpec)

/-- ITS FALSE NEIGHBOUR: 'it returns false'. Refute it at one input. -/
def fnExactLineOkWrong : ChangeSpec := { name := "fnExactLineOk", fn := fun _ => fun
  | [d] => { results := [.lit (.bool false)], args := [d] }
  | _ => none }
def FnExactLineOkWrongFalsely : Prop := fnExactLineOkRow.holds Try.pinned (OpenSpec.ofChange fnExactLineOkWrong)

/- THE SECOND FORM. 'bulk': how many values and letters a reading holds, each counted each time it is reached (what is shared counts as often as it is met; a slice's spare places count too). A statement '..UptoSaid' is the law's where the arguments, and the package variables that the reading takes, are together of bulk at most 1048576: NARROWER than '..Said'. Prove '..Said' where nothing that the law and all that it calls make is longer than what came in: it says more and counts as full. Else prove '..UptoSaid'. A law counts once. -/
mutual
def uptoBulk {H : Type} : DataW H → Nat
  | .lit (.string bytes) => bytes.length + 1
  | .lit _ => 1
  | .nil => 1
  | .ptr d => uptoBulk d + 1
  | .slice elems spare => uptoBulkAll elems + uptoBulkAll spare + 1
  | .agg parts => uptoBulkAll parts + 1
  | .iface _ d => uptoBulk d + 1
  | .map entries => uptoBulkEntries entries + 1
  | .held _ => 1
def uptoBulkAll {H : Type} : List (DataW H) → Nat
  | [] => 0
  | d :: r => uptoBulk d + uptoBulkAll r
def uptoBulkEntries {H : Type} : List (Lit × DataW H) → Nat
  | [] => 0
  | x :: r => uptoBulkEntry x + uptoBulkEntries r
def uptoBulkEntry {H : Type} : Lit × DataW H → Nat
  | (.string bytes, d) => bytes.length + uptoBulk d + 1
  | (_, d) => uptoBulk d + 1
 end
def uptoSmall : (H : Type) → List (DataW H) → Bool := fun _ ds => decide (uptoBulkAll ds ≤ 1048576)
def OpenSpec.upto (s : _root_.Go.ChangeSpec) : _root_.Go.OpenSpec := { _root_.Go.OpenSpec.ofChange s with cond := some uptoSmall }

/-- 'laws.FnExactConstants', WHERE WHAT IT READS IS OF BULK AT MOST 1048576: true; the input reads as it did. -/
def fnExactConstantsUptoRow : OpenClaim := { program := "ytgbpofhabhabcaa", sum := "ad8959fbe55b7f22077ec5d5dd25111aa45ffe593c01c44c67339c2eec7e1851", func := "loop.example/s01681/laws.FnExactConstants", spec := "fnExactConstants", apart := false, narrowed := true }
def FnExactConstantsUptoSaid : Prop := fnExactConstantsUptoRow.holds Try.pinned (OpenSpec.upto fnExactConstantsSpec)

/-- 'laws.FnExactWord', WHERE WHAT IT READS IS OF BULK AT MOST 1048576: true; the input reads as it did. -/
def fnExactWordUptoRow : OpenClaim := { program := "ytgbpofhabhabcaa", sum := "ad8959fbe55b7f22077ec5d5dd25111aa45ffe593c01c44c67339c2eec7e1851", func := "loop.example/s01681/laws.FnExactWord", spec := "fnExactWord", apart := false, narrowed := true }
def FnExactWordUptoSaid : Prop := fnExactWordUptoRow.holds Try.pinned (OpenSpec.upto fnExactWordSpec)

/-- 'laws.FnExactSigned', WHERE WHAT IT READS IS OF BULK AT MOST 1048576: true; the input reads as it did. -/
def fnExactSignedUptoRow : OpenClaim := { program := "ytgbpofhabhabcaa", sum := "ad8959fbe55b7f22077ec5d5dd25111aa45ffe593c01c44c67339c2eec7e1851", func := "loop.example/s01681/laws.FnExactSigned", spec := "fnExactSigned", apart := false, narrowed := true }
def FnExactSignedUptoSaid : Prop := fnExactSignedUptoRow.holds Try.pinned (OpenSpec.upto fnExactSignedSpec)

/-- 'laws.FnExactKindSize', WHERE WHAT IT READS IS OF BULK AT MOST 1048576: true; the input reads as it did. -/
def fnExactKindSizeUptoRow : OpenClaim := { program := "ytgbpofhabhabcaa", sum := "ad8959fbe55b7f22077ec5d5dd25111aa45ffe593c01c44c67339c2eec7e1851", func := "loop.example/s01681/laws.FnExactKindSize", spec := "fnExactKindSize", apart := false, narrowed := true }
def FnExactKindSizeUptoSaid : Prop := fnExactKindSizeUptoRow.holds Try.pinned (OpenSpec.upto fnExactKindSizeSpec)

/-- 'laws.FnExactNarrow', WHERE WHAT IT READS IS OF BULK AT MOST 1048576: true; the input reads as it did. -/
def fnExactNarrowUptoRow : OpenClaim := { program := "ytgbpofhabhabcaa", sum := "ad8959fbe55b7f22077ec5d5dd25111aa45ffe593c01c44c67339c2eec7e1851", func := "loop.example/s01681/laws.FnExactNarrow", spec := "fnExactNarrow", apart := false, narrowed := true }
def FnExactNarrowUptoSaid : Prop := fnExactNarrowUptoRow.holds Try.pinned (OpenSpec.upto fnExactNarrowSpec)

/-- 'laws.FnNarrow', WHERE WHAT IT READS IS OF BULK AT MOST 1048576: true; the input reads as it did. -/
def fnNarrowUptoRow : OpenClaim := { program := "ytgbpofhabhabcaa", sum := "ad8959fbe55b7f22077ec5d5dd25111aa45ffe593c01c44c67339c2eec7e1851", func := "loop.example/s01681/laws.FnNarrow", spec := "fnNarrow", apart := false, narrowed := true }
def FnNarrowUptoSaid : Prop := fnNarrowUptoRow.holds Try.pinned (OpenSpec.upto fnNarrowSpec)

/-- 'laws.FnExactInstOk', WHERE WHAT IT READS IS OF BULK AT MOST 1048576: true; the input reads as it did. -/
def fnExactInstOkUptoRow : OpenClaim := { program := "ytgbpofhabhabcaa", sum := "ad8959fbe55b7f22077ec5d5dd25111aa45ffe593c01c44c67339c2eec7e1851", func := "loop.example/s01681/laws.FnExactInstOk", spec := "fnExactInstOk", apart := false, narrowed := true }
def FnExactInstOkUptoSaid : Prop := fnExactInstOkUptoRow.holds Try.pinned (OpenSpec.upto fnExactInstOkSpec)

/-- 'laws.FnExactAlu', WHERE WHAT IT READS IS OF BULK AT MOST 1048576: true; the input reads as it did. -/
def fnExactAluUptoRow : OpenClaim := { program := "ytgbpofhabhabcaa", sum := "ad8959fbe55b7f22077ec5d5dd25111aa45ffe593c01c44c67339c2eec7e1851", func := "loop.example/s01681/laws.FnExactAlu", spec := "fnExactAlu", apart := false, narrowed := true }
def FnExactAluUptoSaid : Prop := fnExactAluUptoRow.holds Try.pinned (OpenSpec.upto fnExactAluSpec)

/-- 'laws.FnAlu', WHERE WHAT IT READS IS OF BULK AT MOST 1048576: true; the input reads as it did. -/
def fnAluUptoRow : OpenClaim := { program := "ytgbpofhabhabcaa", sum := "ad8959fbe55b7f22077ec5d5dd25111aa45ffe593c01c44c67339c2eec7e1851", func := "loop.example/s01681/laws.FnAlu", spec := "fnAlu", apart := false, narrowed := true }
def FnAluUptoSaid : Prop := fnAluUptoRow.holds Try.pinned (OpenSpec.upto fnAluSpec)

/-- 'laws.FnExactEncodeInst', WHERE WHAT IT READS IS OF BULK AT MOST 1048576: true; the input reads as it did. -/
def fnExactEncodeInstUptoRow : OpenClaim := { program := "ytgbpofhabhabcaa", sum := "ad8959fbe55b7f22077ec5d5dd25111aa45ffe593c01c44c67339c2eec7e1851", func := "loop.example/s01681/laws.FnExactEncodeInst", spec := "fnExactEncodeInst", unfollowed := true, recurses := true, apart := false, narrowed := true }
def FnExactEncodeInstUptoSaid : Prop := fnExactEncodeInstUptoRow.holds Try.pinned (OpenSpec.upto fnExactEncodeInstSpec)

/-- 'laws.FnExactDecodeInst', WHERE WHAT IT READS IS OF BULK AT MOST 1048576: true; the input reads as it did. -/
def fnExactDecodeInstUptoRow : OpenClaim := { program := "ytgbpofhabhabcaa", sum := "ad8959fbe55b7f22077ec5d5dd25111aa45ffe593c01c44c67339c2eec7e1851", func := "loop.example/s01681/laws.FnExactDecodeInst", spec := "fnExactDecodeInst", unfollowed := true, recurses := true, apart := false, narrowed := true }
def FnExactDecodeInstUptoSaid : Prop := fnExactDecodeInstUptoRow.holds Try.pinned (OpenSpec.upto fnExactDecodeInstSpec)

/-- 'laws.FnExactLineOk', WHERE WHAT IT READS IS OF BULK AT MOST 1048576: true; the input reads as it did. -/
def fnExactLineOkUptoRow : OpenClaim := { program := "ytgbpofhabhabcaa", sum := "ad8959fbe55b7f22077ec5d5dd25111aa45ffe593c01c44c67339c2eec7e1851", func := "loop.example/s01681/laws.FnExactLineOk", spec := "fnExactLineOk", unfollowed := true, recurses := true, apart := false, narrowed := true }
def FnExactLineOkUptoSaid : Prop := fnExactLineOkUptoRow.holds Try.pinned (OpenSpec.upto fnExactLineOkSpec)

end Rows
end Go.Proofs.Ytgbpofhabhabcaa
