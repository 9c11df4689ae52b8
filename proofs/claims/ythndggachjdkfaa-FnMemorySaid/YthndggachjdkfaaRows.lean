/-
  No cell of these rows narrows 'for every input' (looked for: loops, veiled, ifaces, maps, wideKeys, modest, calm, conditions, laid).
  DERIVED. THE GIVEN ROWS OF THIS SEAT. 8 by the template 'for every input the law returns true; each argument reads behind the call as it read before'; 0 by the template 'total and deterministic' (their statements: YthndggachjdkfaaTotals.lean).
  GIVEN WITH THE SEED: the statements are not yours to turn. If you find one false, say at which input.
  Laid BY PROGRAM, IN A SANDBOX (cutbox-rows.mjs): the forced cells as the released guide's own fill.sh prints them over the translation d80578b6b0a369f8… (all of the seat's roots in one cut). By AI agents, Wed Nov 11 2026. No macro, syntax, notation, axiom, sorry.
-/
import Derived.Test.YthndggachjdkfaaChecked
import GoSem.Claim
import GoSem.ClaimJoined
import GoSem.ClaimMapViews
import Derived.JoinedTies
import Derived.KernelRfl
namespace Go.Proofs.Ythndggachjdkfaa
/- THE CELL 'sum', in the pinned program and in every row, IS THE sha256 OF THE DUMP (.gsa) THAT YthndggachjdkfaaProg.lean LOADS. Nothing in Lean hashes anything: it is a label: what it is worth is what the hold of that sum in a sandbox is worth. -/
noncomputable def Try.pinned : Pinned := { name := "ythndggachjdkfaa", sum := "d80578b6b0a369f8c84bbf0f4e3ef4fc60488bb56a00ed739094f82f1dabd2a4", checked := Try.checked }
namespace Rows
def none {H : Type} : Left H := { results := [], args := [] }

/-- 'laws.FnExactImageOk': WHATEVER THE INPUT: true; the input reads as it did. -/
def fnExactImageOkSpec : ChangeSpec := { name := "fnExactImageOk", fn := fun _ => fun
  | [d] => { results := [.lit (.bool true)], args := [d] }
  | _ => none }
def fnExactImageOkRow : OpenClaim := { program := "ythndggachjdkfaa", sum := "d80578b6b0a369f8c84bbf0f4e3ef4fc60488bb56a00ed739094f82f1dabd2a4", func := "loop.example/s01681/laws.FnExactImageOk", spec := "fnExactImageOk", unfollowed := true, recurses := true, apart := false }
def FnExactImageOkSaid : Prop := fnExactImageOkRow.holds Try.pinned (OpenSpec.ofChange fnExactImageOkSpec)

/-- ITS FALSE NEIGHBOUR: 'it returns false'. Refute it at one input. -/
def fnExactImageOkWrong : ChangeSpec := { name := "fnExactImageOk", fn := fun _ => fun
  | [d] => { results := [.lit (.bool false)], args := [d] }
  | _ => none }
def FnExactImageOkWrongFalsely : Prop := fnExactImageOkRow.holds Try.pinned (OpenSpec.ofChange fnExactImageOkWrong)

/-- 'laws.FnExactMachineOk': WHATEVER THE INPUT: true; the input reads as it did. -/
def fnExactMachineOkSpec : ChangeSpec := { name := "fnExactMachineOk", fn := fun _ => fun
  | [d] => { results := [.lit (.bool true)], args := [d] }
  | _ => none }
def fnExactMachineOkRow : OpenClaim := { program := "ythndggachjdkfaa", sum := "d80578b6b0a369f8c84bbf0f4e3ef4fc60488bb56a00ed739094f82f1dabd2a4", func := "loop.example/s01681/laws.FnExactMachineOk", spec := "fnExactMachineOk", unfollowed := true, recurses := true, apart := false }
def FnExactMachineOkSaid : Prop := fnExactMachineOkRow.holds Try.pinned (OpenSpec.ofChange fnExactMachineOkSpec)

/-- ITS FALSE NEIGHBOUR: 'it returns false'. Refute it at one input. -/
def fnExactMachineOkWrong : ChangeSpec := { name := "fnExactMachineOk", fn := fun _ => fun
  | [d] => { results := [.lit (.bool false)], args := [d] }
  | _ => none }
def FnExactMachineOkWrongFalsely : Prop := fnExactMachineOkRow.holds Try.pinned (OpenSpec.ofChange fnExactMachineOkWrong)

/-- 'laws.FnExactStartMachine': WHATEVER THE INPUT: true; the input reads as it did. -/
def fnExactStartMachineSpec : ChangeSpec := { name := "fnExactStartMachine", fn := fun _ => fun
  | [d1, d2] => { results := [.lit (.bool true)], args := [d1, d2] }
  | _ => none }
def fnExactStartMachineRow : OpenClaim := { program := "ythndggachjdkfaa", sum := "d80578b6b0a369f8c84bbf0f4e3ef4fc60488bb56a00ed739094f82f1dabd2a4", func := "loop.example/s01681/laws.FnExactStartMachine", spec := "fnExactStartMachine", unfollowed := true, recurses := true, apart := false }
def FnExactStartMachineSaid : Prop := fnExactStartMachineRow.holds Try.pinned (OpenSpec.ofChange fnExactStartMachineSpec)

/-- ITS FALSE NEIGHBOUR: 'it returns false'. Refute it at one input. -/
def fnExactStartMachineWrong : ChangeSpec := { name := "fnExactStartMachine", fn := fun _ => fun
  | [d1, d2] => { results := [.lit (.bool false)], args := [d1, d2] }
  | _ => none }
def FnExactStartMachineWrongFalsely : Prop := fnExactStartMachineRow.holds Try.pinned (OpenSpec.ofChange fnExactStartMachineWrong)

/-- 'laws.FnExactLoadWord': WHATEVER THE INPUT: true; the input reads as it did. -/
def fnExactLoadWordSpec : ChangeSpec := { name := "fnExactLoadWord", fn := fun _ => fun
  | [d1, d2, d3] => { results := [.lit (.bool true)], args := [d1, d2, d3] }
  | _ => none }
def fnExactLoadWordRow : OpenClaim := { program := "ythndggachjdkfaa", sum := "d80578b6b0a369f8c84bbf0f4e3ef4fc60488bb56a00ed739094f82f1dabd2a4", func := "loop.example/s01681/laws.FnExactLoadWord", spec := "fnExactLoadWord", unfollowed := true, recurses := true, apart := false }
def FnExactLoadWordSaid : Prop := fnExactLoadWordRow.holds Try.pinned (OpenSpec.ofChange fnExactLoadWordSpec)

/-- ITS FALSE NEIGHBOUR: 'it returns false'. Refute it at one input. -/
def fnExactLoadWordWrong : ChangeSpec := { name := "fnExactLoadWord", fn := fun _ => fun
  | [d1, d2, d3] => { results := [.lit (.bool false)], args := [d1, d2, d3] }
  | _ => none }
def FnExactLoadWordWrongFalsely : Prop := fnExactLoadWordRow.holds Try.pinned (OpenSpec.ofChange fnExactLoadWordWrong)

/-- 'laws.FnExactStoreWord': WHATEVER THE INPUT: true; the input reads as it did. -/
def fnExactStoreWordSpec : ChangeSpec := { name := "fnExactStoreWord", fn := fun _ => fun
  | [d1, d2, d3, d4] => { results := [.lit (.bool true)], args := [d1, d2, d3, d4] }
  | _ => none }
def fnExactStoreWordRow : OpenClaim := { program := "ythndggachjdkfaa", sum := "d80578b6b0a369f8c84bbf0f4e3ef4fc60488bb56a00ed739094f82f1dabd2a4", func := "loop.example/s01681/laws.FnExactStoreWord", spec := "fnExactStoreWord", unfollowed := true, recurses := true, apart := false }
def FnExactStoreWordSaid : Prop := fnExactStoreWordRow.holds Try.pinned (OpenSpec.ofChange fnExactStoreWordSpec)

/-- ITS FALSE NEIGHBOUR: 'it returns false'. Refute it at one input. -/
def fnExactStoreWordWrong : ChangeSpec := { name := "fnExactStoreWord", fn := fun _ => fun
  | [d1, d2, d3, d4] => { results := [.lit (.bool false)], args := [d1, d2, d3, d4] }
  | _ => none }
def FnExactStoreWordWrongFalsely : Prop := fnExactStoreWordRow.holds Try.pinned (OpenSpec.ofChange fnExactStoreWordWrong)

/-- 'laws.FnMemory': WHATEVER THE INPUT: true; the input reads as it did. -/
def fnMemorySpec : ChangeSpec := { name := "fnMemory", fn := fun _ => fun
  | [d] => { results := [.lit (.bool true)], args := [d] }
  | _ => none }
def fnMemoryRow : OpenClaim := { program := "ythndggachjdkfaa", sum := "d80578b6b0a369f8c84bbf0f4e3ef4fc60488bb56a00ed739094f82f1dabd2a4", func := "loop.example/s01681/laws.FnMemory", spec := "fnMemory", unfollowed := true, recurses := true, apart := false }
def FnMemorySaid : Prop := fnMemoryRow.holds Try.pinned (OpenSpec.ofChange fnMemorySpec)

/-- ITS FALSE NEIGHBOUR: 'it returns false'. Refute it at one input. -/
def fnMemoryWrong : ChangeSpec := { name := "fnMemory", fn := fun _ => fun
  | [d] => { results := [.lit (.bool false)], args := [d] }
  | _ => none }
def FnMemoryWrongFalsely : Prop := fnMemoryRow.holds Try.pinned (OpenSpec.ofChange fnMemoryWrong)

/-- 'laws.FnExactAssemble': WHATEVER THE INPUT: true; the input reads as it did. -/
def fnExactAssembleSpec : ChangeSpec := { name := "fnExactAssemble", fn := fun _ => fun
  | [d1, d2] => { results := [.lit (.bool true)], args := [d1, d2] }
  | _ => none }
def fnExactAssembleRow : OpenClaim := { program := "ythndggachjdkfaa", sum := "d80578b6b0a369f8c84bbf0f4e3ef4fc60488bb56a00ed739094f82f1dabd2a4", func := "loop.example/s01681/laws.FnExactAssemble", spec := "fnExactAssemble", unfollowed := true, recurses := true, apart := false }
def FnExactAssembleSaid : Prop := fnExactAssembleRow.holds Try.pinned (OpenSpec.ofChange fnExactAssembleSpec)

/-- ITS FALSE NEIGHBOUR: 'it returns false'. Refute it at one input. -/
def fnExactAssembleWrong : ChangeSpec := { name := "fnExactAssemble", fn := fun _ => fun
  | [d1, d2] => { results := [.lit (.bool false)], args := [d1, d2] }
  | _ => none }
def FnExactAssembleWrongFalsely : Prop := fnExactAssembleRow.holds Try.pinned (OpenSpec.ofChange fnExactAssembleWrong)

/-- 'laws.FnImage': WHATEVER THE INPUT: true; the input reads as it did. -/
def fnImageSpec : ChangeSpec := { name := "fnImage", fn := fun _ => fun
  | [d] => { results := [.lit (.bool true)], args := [d] }
  | _ => none }
def fnImageRow : OpenClaim := { program := "ythndggachjdkfaa", sum := "d80578b6b0a369f8c84bbf0f4e3ef4fc60488bb56a00ed739094f82f1dabd2a4", func := "loop.example/s01681/laws.FnImage", spec := "fnImage", unfollowed := true, recurses := true, apart := false }
def FnImageSaid : Prop := fnImageRow.holds Try.pinned (OpenSpec.ofChange fnImageSpec)

/-- ITS FALSE NEIGHBOUR: 'it returns false'. Refute it at one input. -/
def fnImageWrong : ChangeSpec := { name := "fnImage", fn := fun _ => fun
  | [d] => { results := [.lit (.bool false)], args := [d] }
  | _ => none }
def FnImageWrongFalsely : Prop := fnImageRow.holds Try.pinned (OpenSpec.ofChange fnImageWrong)

/- THE SECOND FORM. 'bulk': how many values and letters a reading holds, each counted each time it is reached (what is shared counts as often as it is met; a slice's spare places count too). A statement '..UptoSaid' is the law's where the arguments, and the package variables that the reading takes, are together of bulk at most 1048576: NARROWER than '..Said'. Prove '..Said' where nothing that the law and all that it calls make is longer than what came in: it says more and counts as full. Else prove '..UptoSaid'. A law counts once. -/
mutual
def uptoBulk {H : Type} : DataW H → Nat
  | .lit (.string bytes) => bytes.length + 1
  | .lit _ => 1
  | .nil => 1
  | .ptr d => uptoBulk d + 1
  | .slice elems spare => uptoBulkAll elems + uptoBulkAll spare + 1
  | .agg parts => uptoBulkAll parts + 1
  | .iface _ d => uptoBulk d + 1
  | .map entries => uptoBulkEntries entries + 1
  | .held _ => 1
def uptoBulkAll {H : Type} : List (DataW H) → Nat
  | [] => 0
  | d :: r => uptoBulk d + uptoBulkAll r
def uptoBulkEntries {H : Type} : List (Lit × DataW H) → Nat
  | [] => 0
  | x :: r => uptoBulkEntry x + uptoBulkEntries r
def uptoBulkEntry {H : Type} : Lit × DataW H → Nat
  | (.string bytes, d) => bytes.length + uptoBulk d + 1
  | (_, d) => uptoBulk d + 1
 end
def uptoSmall : (H : Type) → List (DataW H) → Bool := fun _ ds => decide (uptoBulkAll ds ≤ 1048576)
def OpenSpec.upto (s : _root_.Go.ChangeSpec) : _root_.Go.OpenSpec := { _root_.Go.OpenSpec.ofChange s with cond := some uptoSmall }

/-- 'laws.FnExactImageOk', WHERE WHAT IT READS IS OF BULK AT MOST 1048576: true; the input reads as it did. -/
def fnExactImageOkUptoRow : OpenClaim := { program := "ythndggachjdkfaa", sum := "d80578b6b0a369f8c84bbf0f4e3ef4fc60488bb56a00ed739094f82f1dabd2a4", func := "loop.example/s01681/laws.FnExactImageOk", spec := "fnExactImageOk", unfollowed := true, recurses := true, apart := false, narrowed := true }
def FnExactImageOkUptoSaid : Prop := fnExactImageOkUptoRow.holds Try.pinned (OpenSpec.upto fnExactImageOkSpec)

/-- 'laws.FnExactMachineOk', WHERE WHAT IT READS IS OF BULK AT MOST 1048576: true; the input reads as it did. -/
def fnExactMachineOkUptoRow : OpenClaim := { program := "ythndggachjdkfaa", sum := "d80578b6b0a369f8c84bbf0f4e3ef4fc60488bb56a00ed739094f82f1dabd2a4", func := "loop.example/s01681/laws.FnExactMachineOk", spec := "fnExactMachineOk", unfollowed := true, recurses := true, apart := false, narrowed := true }
def FnExactMachineOkUptoSaid : Prop := fnExactMachineOkUptoRow.holds Try.pinned (OpenSpec.upto fnExactMachineOkSpec)

/-- 'laws.FnExactStartMachine', WHERE WHAT IT READS IS OF BULK AT MOST 1048576: true; the input reads as it did. -/
def fnExactStartMachineUptoRow : OpenClaim := { program := "ythndggachjdkfaa", sum := "d80578b6b0a369f8c84bbf0f4e3ef4fc60488bb56a00ed739094f82f1dabd2a4", func := "loop.example/s01681/laws.FnExactStartMachine", spec := "fnExactStartMachine", unfollowed := true, recurses := true, apart := false, narrowed := true }
def FnExactStartMachineUptoSaid : Prop := fnExactStartMachineUptoRow.holds Try.pinned (OpenSpec.upto fnExactStartMachineSpec)

/-- 'laws.FnExactLoadWord', WHERE WHAT IT READS IS OF BULK AT MOST 1048576: true; the input reads as it did. -/
def fnExactLoadWordUptoRow : OpenClaim := { program := "ythndggachjdkfaa", sum := "d80578b6b0a369f8c84bbf0f4e3ef4fc60488bb56a00ed739094f82f1dabd2a4", func := "loop.example/s01681/laws.FnExactLoadWord", spec := "fnExactLoadWord", unfollowed := true, recurses := true, apart := false, narrowed := true }
def FnExactLoadWordUptoSaid : Prop := fnExactLoadWordUptoRow.holds Try.pinned (OpenSpec.upto fnExactLoadWordSpec)

/-- 'laws.FnExactStoreWord', WHERE WHAT IT READS IS OF BULK AT MOST 1048576: true; the input reads as it did. -/
def fnExactStoreWordUptoRow : OpenClaim := { program := "ythndggachjdkfaa", sum := "d80578b6b0a369f8c84bbf0f4e3ef4fc60488bb56a00ed739094f82f1dabd2a4", func := "loop.example/s01681/laws.FnExactStoreWord", spec := "fnExactStoreWord", unfollowed := true, recurses := true, apart := false, narrowed := true }
def FnExactStoreWordUptoSaid : Prop := fnExactStoreWordUptoRow.holds Try.pinned (OpenSpec.upto fnExactStoreWordSpec)

/-- 'laws.FnMemory', WHERE WHAT IT READS IS OF BULK AT MOST 1048576: true; the input reads as it did. -/
def fnMemoryUptoRow : OpenClaim := { program := "ythndggachjdkfaa", sum := "d80578b6b0a369f8c84bbf0f4e3ef4fc60488bb56a00ed739094f82f1dabd2a4", func := "loop.example/s01681/laws.FnMemory", spec := "fnMemory", unfollowed := true, recurses := true, apart := false, narrowed := true }
def FnMemoryUptoSaid : Prop := fnMemoryUptoRow.holds Try.pinned (OpenSpec.upto fnMemorySpec)

/-- 'laws.FnExactAssemble', WHERE WHAT IT READS IS OF BULK AT MOST 1048576: true; the input reads as it did. -/
def fnExactAssembleUptoRow : OpenClaim := { program := "ythndggachjdkfaa", sum := "d80578b6b0a369f8c84bbf0f4e3ef4fc60488bb56a00ed739094f82f1dabd2a4", func := "loop.example/s01681/laws.FnExactAssemble", spec := "fnExactAssemble", unfollowed := true, recurses := true, apart := false, narrowed := true }
def FnExactAssembleUptoSaid : Prop := fnExactAssembleUptoRow.holds Try.pinned (OpenSpec.upto fnExactAssembleSpec)

/-- 'laws.FnImage', WHERE WHAT IT READS IS OF BULK AT MOST 1048576: true; the input reads as it did. -/
def fnImageUptoRow : OpenClaim := { program := "ythndggachjdkfaa", sum := "d80578b6b0a369f8c84bbf0f4e3ef4fc60488bb56a00ed739094f82f1dabd2a4", func := "loop.example/s01681/laws.FnImage", spec := "fnImage", unfollowed := true, recurses := true, apart := false, narrowed := true }
def FnImageUptoSaid : Prop := fnImageUptoRow.holds Try.pinned (OpenSpec.upto fnImageSpec)

end Rows
end Go.Proofs.Ythndggachjdkfaa
