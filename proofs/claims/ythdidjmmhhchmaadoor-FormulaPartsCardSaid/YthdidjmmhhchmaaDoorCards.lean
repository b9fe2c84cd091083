/-
  DERIVED. GIVEN WITH THE SEED: THE CARDS: each row of YthdidjmmhhchmaaDoorRows.lean that lists a variable, with what it lists TIED to the program's text (the seventh form; the later family's looks); each row that meets fmt, with fmt's text TOLD by the authors' own Lean function (tested against real Go, not proved from fmt's source: count such statements apart). THE CARD IS WHAT COUNTS. Prove the row's statement (the work); the ties are given (YthdidjmmhhchmaaDoorTie.lean); close each card by the builder's one call (the guide's Derived/Test/ToyasCard.lean, 'card_holds'). Laid BY PROGRAM, IN A SANDBOX (cutbox-door.mjs). By AI agents, Wed Nov 11 2026. No macro, syntax, notation, axiom, sorry.
-/
import Derived.Test.YthdidjmmhhchmaaDoorRows
import GoSem.ClaimSeven
namespace Go.Proofs.YthdidjmmhhchmaaDoor
namespace Rows

/-- THE TIED CARD OF 'foresightlaw03.FormulaOrder'. -/
def formulaOrderCard : Claim7 := { stood := { row := formulaOrderRow, standIns := [], harness := (true, "228ca5776923c43add3269bf0c4fe6a1b4bf230256f4d6eeab3d3b7eaebfb45e"), looks := false }, kinds := [], alts := [], laidByText := true, laidKinds := [.data, .data], laidTests := true, laidLooks := .later }
def FormulaOrderCardSaid : Prop := Claim7.holds Tryd.pinned (.plain (OpenSpec.ofChange formulaOrderSpec)) formulaOrderCard

/-- THE TIED CARD OF 'foresightlaw03.FormulaParts'. -/
def formulaPartsCard : Claim7 := { stood := { row := formulaPartsRow, standIns := [], harness := (true, "228ca5776923c43add3269bf0c4fe6a1b4bf230256f4d6eeab3d3b7eaebfb45e"), looks := false }, kinds := [], alts := [], laidByText := true, laidKinds := [.data, .data], laidTests := true, laidLooks := .later }
def FormulaPartsCardSaid : Prop := Claim7.holds Tryd.pinned (.plain (OpenSpec.ofChange formulaPartsSpec)) formulaPartsCard

/-- THE TIED CARD OF 'foresightlaw03.FormulaExpansion'. -/
def formulaExpansionCard : Claim7 := { stood := { row := formulaExpansionRow, standIns := [], harness := (true, "228ca5776923c43add3269bf0c4fe6a1b4bf230256f4d6eeab3d3b7eaebfb45e"), looks := false }, kinds := [], alts := [], laidByText := true, laidKinds := [.data, .data], laidTests := true, laidLooks := .later }
def FormulaExpansionCardSaid : Prop := Claim7.holds Tryd.pinned (.plain (OpenSpec.ofChange formulaExpansionSpec)) formulaExpansionCard

/-- THE SECOND FORM's CARD OF 'foresightlaw03.FormulaOrder'. -/
def formulaOrderUptoCard : Claim7 := { stood := { row := formulaOrderUptoRow, standIns := [], harness := (true, "228ca5776923c43add3269bf0c4fe6a1b4bf230256f4d6eeab3d3b7eaebfb45e"), looks := false }, kinds := [], alts := [], laidByText := true, laidKinds := [.data, .data], laidTests := true, laidLooks := .later }
def FormulaOrderUptoCardSaid : Prop := Claim7.holds Tryd.pinned (.plain (OpenSpec.upto formulaOrderSpec)) formulaOrderUptoCard

/-- THE SECOND FORM's CARD OF 'foresightlaw03.FormulaParts'. -/
def formulaPartsUptoCard : Claim7 := { stood := { row := formulaPartsUptoRow, standIns := [], harness := (true, "228ca5776923c43add3269bf0c4fe6a1b4bf230256f4d6eeab3d3b7eaebfb45e"), looks := false }, kinds := [], alts := [], laidByText := true, laidKinds := [.data, .data], laidTests := true, laidLooks := .later }
def FormulaPartsUptoCardSaid : Prop := Claim7.holds Tryd.pinned (.plain (OpenSpec.upto formulaPartsSpec)) formulaPartsUptoCard

/-- THE SECOND FORM's CARD OF 'foresightlaw03.FormulaExpansion'. -/
def formulaExpansionUptoCard : Claim7 := { stood := { row := formulaExpansionUptoRow, standIns := [], harness := (true, "228ca5776923c43add3269bf0c4fe6a1b4bf230256f4d6eeab3d3b7eaebfb45e"), looks := false }, kinds := [], alts := [], laidByText := true, laidKinds := [.data, .data], laidTests := true, laidLooks := .later }
def FormulaExpansionUptoCardSaid : Prop := Claim7.holds Tryd.pinned (.plain (OpenSpec.upto formulaExpansionSpec)) formulaExpansionUptoCard
end Rows
end Go.Proofs.YthdidjmmhhchmaaDoor
