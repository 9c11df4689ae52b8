/-
  DERIVED. GIVEN WITH THE SEED: THE CARDS: each row of YtjggmhpjlnmigaaDoorRows.lean that lists a variable, with what it lists TIED to the program's text (the seventh form; the later family's looks); each row that meets fmt, with fmt's text TOLD by the authors' own Lean function (tested against real Go, not proved from fmt's source: count such statements apart). THE CARD IS WHAT COUNTS. Prove the row's statement (the work); the ties are given (YtjggmhpjlnmigaaDoorTie.lean); close each card by the builder's one call (the guide's Derived/Test/ToyasCard.lean, 'card_holds'). Laid BY PROGRAM, IN A SANDBOX (cutbox-door.mjs). By AI agents, Wed Nov 11 2026. No macro, syntax, notation, axiom, sorry.
-/
import Derived.Test.YtjggmhpjlnmigaaDoorRows
import GoSem.ClaimSeven
namespace Go.Proofs.YtjggmhpjlnmigaaDoor
namespace Rows

/-- THE TIED CARD OF 'laws.FnExactLiveBefore'. -/
def fnExactLiveBeforeCard : Claim7 := { stood := { row := fnExactLiveBeforeRow, standIns := [], harness := (true, "669208b815f9b35fc43f46177441c793eec26f46f6430dafba488911838bf3a2"), looks := false }, kinds := [], alts := [], laidByText := true, laidKinds := [.data, .widerDeep], laidTests := true, laidLooks := .later }
def FnExactLiveBeforeCardSaid : Prop := Claim7.holds Tryd.pinned (.plain (OpenSpec.ofChange fnExactLiveBeforeSpec)) fnExactLiveBeforeCard

/-- THE TIED CARD OF 'laws.FnExactSpans'. -/
def fnExactSpansCard : Claim7 := { stood := { row := fnExactSpansRow, standIns := [], harness := (true, "669208b815f9b35fc43f46177441c793eec26f46f6430dafba488911838bf3a2"), looks := false }, kinds := [], alts := [], laidByText := true, laidKinds := [.data, .widerDeep], laidTests := true, laidLooks := .later }
def FnExactSpansCardSaid : Prop := Claim7.holds Tryd.pinned (.plain (OpenSpec.ofChange fnExactSpansSpec)) fnExactSpansCard

/-- THE TIED CARD OF 'laws.FnExactAllot'. -/
def fnExactAllotCard : Claim7 := { stood := { row := fnExactAllotRow, standIns := [], harness := (true, "669208b815f9b35fc43f46177441c793eec26f46f6430dafba488911838bf3a2"), looks := false }, kinds := [], alts := [], laidByText := true, laidKinds := [.data, .widerDeep, .widerDeep], laidTests := true, laidLooks := .later }
def FnExactAllotCardSaid : Prop := Claim7.holds Tryd.pinned (.plain (OpenSpec.ofChange fnExactAllotSpec)) fnExactAllotCard

/-- THE SECOND FORM's CARD OF 'laws.FnExactLiveBefore'. -/
def fnExactLiveBeforeUptoCard : Claim7 := { stood := { row := fnExactLiveBeforeUptoRow, standIns := [], harness := (true, "669208b815f9b35fc43f46177441c793eec26f46f6430dafba488911838bf3a2"), looks := false }, kinds := [], alts := [], laidByText := true, laidKinds := [.data, .widerDeep], laidTests := true, laidLooks := .later }
def FnExactLiveBeforeUptoCardSaid : Prop := Claim7.holds Tryd.pinned (.plain (OpenSpec.upto fnExactLiveBeforeSpec)) fnExactLiveBeforeUptoCard

/-- THE SECOND FORM's CARD OF 'laws.FnExactSpans'. -/
def fnExactSpansUptoCard : Claim7 := { stood := { row := fnExactSpansUptoRow, standIns := [], harness := (true, "669208b815f9b35fc43f46177441c793eec26f46f6430dafba488911838bf3a2"), looks := false }, kinds := [], alts := [], laidByText := true, laidKinds := [.data, .widerDeep], laidTests := true, laidLooks := .later }
def FnExactSpansUptoCardSaid : Prop := Claim7.holds Tryd.pinned (.plain (OpenSpec.upto fnExactSpansSpec)) fnExactSpansUptoCard

/-- THE SECOND FORM's CARD OF 'laws.FnExactAllot'. -/
def fnExactAllotUptoCard : Claim7 := { stood := { row := fnExactAllotUptoRow, standIns := [], harness := (true, "669208b815f9b35fc43f46177441c793eec26f46f6430dafba488911838bf3a2"), looks := false }, kinds := [], alts := [], laidByText := true, laidKinds := [.data, .widerDeep, .widerDeep], laidTests := true, laidLooks := .later }
def FnExactAllotUptoCardSaid : Prop := Claim7.holds Tryd.pinned (.plain (OpenSpec.upto fnExactAllotSpec)) fnExactAllotUptoCard
end Rows
end Go.Proofs.YtjggmhpjlnmigaaDoor
