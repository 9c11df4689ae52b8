/-
  DERIVED. GIVEN WITH THE SEED: THE CARDS: each row of YthndggachjdkfaaDoorRows.lean that lists a variable, with what it lists TIED to the program's text (the seventh form; the later family's looks); each row that meets fmt, with fmt's text TOLD by the authors' own Lean function (tested against real Go, not proved from fmt's source: count such statements apart). THE CARD IS WHAT COUNTS. Prove the row's statement (the work); the ties are given (YthndggachjdkfaaDoorTie.lean); close each card by the builder's one call (the guide's Derived/Test/ToyasCard.lean, 'card_holds'). Laid BY PROGRAM, IN A SANDBOX (cutbox-door.mjs). By AI agents, Wed Nov 11 2026. No macro, syntax, notation, axiom, sorry.
-/
import Derived.Test.YthndggachjdkfaaDoorRows
import GoSem.ClaimSeven
namespace Go.Proofs.YthndggachjdkfaaDoor
namespace Rows

/-- THE TIED CARD OF 'laws.FnExactStepMachine'. -/
def fnExactStepMachineCard : Claim7 := { stood := { row := fnExactStepMachineRow, standIns := [], harness := (true, "a056b6b26d403013230ad58bc346443de02172d9d74b0193ea9caad9a297e987"), looks := false }, kinds := [], alts := [], laidByText := true, laidKinds := [.data, .data, .data], laidTests := true, laidLooks := .later }
def FnExactStepMachineCardSaid : Prop := Claim7.holds Tryd.pinned (.plain (OpenSpec.ofChange fnExactStepMachineSpec)) fnExactStepMachineCard

/-- THE TIED CARD OF 'laws.FnExactRunMachine'. -/
def fnExactRunMachineCard : Claim7 := { stood := { row := fnExactRunMachineRow, standIns := [], harness := (true, "a056b6b26d403013230ad58bc346443de02172d9d74b0193ea9caad9a297e987"), looks := false }, kinds := [], alts := [], laidByText := true, laidKinds := [.data, .data, .data], laidTests := true, laidLooks := .later }
def FnExactRunMachineCardSaid : Prop := Claim7.holds Tryd.pinned (.plain (OpenSpec.ofChange fnExactRunMachineSpec)) fnExactRunMachineCard

/-- THE TIED CARD OF 'laws.FnSplit'. -/
def fnSplitCard : Claim7 := { stood := { row := fnSplitRow, standIns := [], harness := (true, "a056b6b26d403013230ad58bc346443de02172d9d74b0193ea9caad9a297e987"), looks := false }, kinds := [], alts := [], laidByText := true, laidKinds := [.data, .data, .data], laidTests := true, laidLooks := .later }
def FnSplitCardSaid : Prop := Claim7.holds Tryd.pinned (.plain (OpenSpec.ofChange fnSplitSpec)) fnSplitCard

/-- THE TIED CARD OF 'laws.FnStep'. -/
def fnStepCard : Claim7 := { stood := { row := fnStepRow, standIns := [], harness := (true, "a056b6b26d403013230ad58bc346443de02172d9d74b0193ea9caad9a297e987"), looks := false }, kinds := [], alts := [], laidByText := true, laidKinds := [.data, .data, .data], laidTests := true, laidLooks := .later }
def FnStepCardSaid : Prop := Claim7.holds Tryd.pinned (.plain (OpenSpec.ofChange fnStepSpec)) fnStepCard

/-- THE SECOND FORM's CARD OF 'laws.FnExactStepMachine'. -/
def fnExactStepMachineUptoCard : Claim7 := { stood := { row := fnExactStepMachineUptoRow, standIns := [], harness := (true, "a056b6b26d403013230ad58bc346443de02172d9d74b0193ea9caad9a297e987"), looks := false }, kinds := [], alts := [], laidByText := true, laidKinds := [.data, .data, .data], laidTests := true, laidLooks := .later }
def FnExactStepMachineUptoCardSaid : Prop := Claim7.holds Tryd.pinned (.plain (OpenSpec.upto fnExactStepMachineSpec)) fnExactStepMachineUptoCard

/-- THE SECOND FORM's CARD OF 'laws.FnExactRunMachine'. -/
def fnExactRunMachineUptoCard : Claim7 := { stood := { row := fnExactRunMachineUptoRow, standIns := [], harness := (true, "a056b6b26d403013230ad58bc346443de02172d9d74b0193ea9caad9a297e987"), looks := false }, kinds := [], alts := [], laidByText := true, laidKinds := [.data, .data, .data], laidTests := true, laidLooks := .later }
def FnExactRunMachineUptoCardSaid : Prop := Claim7.holds Tryd.pinned (.plain (OpenSpec.upto fnExactRunMachineSpec)) fnExactRunMachineUptoCard

/-- THE SECOND FORM's CARD OF 'laws.FnSplit'. -/
def fnSplitUptoCard : Claim7 := { stood := { row := fnSplitUptoRow, standIns := [], harness := (true, "a056b6b26d403013230ad58bc346443de02172d9d74b0193ea9caad9a297e987"), looks := false }, kinds := [], alts := [], laidByText := true, laidKinds := [.data, .data, .data], laidTests := true, laidLooks := .later }
def FnSplitUptoCardSaid : Prop := Claim7.holds Tryd.pinned (.plain (OpenSpec.upto fnSplitSpec)) fnSplitUptoCard

/-- THE SECOND FORM's CARD OF 'laws.FnStep'. -/
def fnStepUptoCard : Claim7 := { stood := { row := fnStepUptoRow, standIns := [], harness := (true, "a056b6b26d403013230ad58bc346443de02172d9d74b0193ea9caad9a297e987"), looks := false }, kinds := [], alts := [], laidByText := true, laidKinds := [.data, .data, .data], laidTests := true, laidLooks := .later }
def FnStepUptoCardSaid : Prop := Claim7.holds Tryd.pinned (.plain (OpenSpec.upto fnStepSpec)) fnStepUptoCard
end Rows
end Go.Proofs.YthndggachjdkfaaDoor
