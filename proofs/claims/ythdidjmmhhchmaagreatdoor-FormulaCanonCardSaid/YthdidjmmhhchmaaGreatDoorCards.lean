/-
  DERIVED. GIVEN WITH THE SEED: THE CARDS: each row of YthdidjmmhhchmaaGreatDoorRows.lean that lists a variable, with what it lists TIED to the program's text (the seventh form; the later family's looks); each row that meets fmt, with fmt's text TOLD by the authors' own Lean function (tested against real Go, not proved from fmt's source: count such statements apart). THE CARD IS WHAT COUNTS. Prove the row's statement (the work); the ties are given (YthdidjmmhhchmaaGreatDoorTie.lean); close each card by the builder's one call (the guide's Derived/Test/ToyasCard.lean, 'card_holds'). Laid BY PROGRAM, IN A SANDBOX (cutbox-door.mjs). By AI agents, Wed Nov 11 2026. No macro, syntax, notation, axiom, sorry.
-/
import Derived.Test.YthdidjmmhhchmaaGreatDoorRows
import GoSem.ClaimSeven
namespace Go.Proofs.YthdidjmmhhchmaaGreatDoor
namespace Rows

/-- THE TIED CARD OF 'foresightlaw03.FormulaKernels'. -/
def formulaKernelsCard : Claim7 := { stood := { row := formulaKernelsRow, standIns := [], harness := (true, "d44f8e7ad56cf69bfb96f2913873ac74abeb134695cfcff79db92138e1bacd1f"), looks := false }, kinds := [], alts := [], laidByText := true, laidKinds := [.data, .data], laidTests := true, laidLooks := .later }
def FormulaKernelsCardSaid : Prop := Claim7.holds Tryz.pinned (.plain (OpenSpec.ofChange formulaKernelsSpec)) formulaKernelsCard

/-- THE TIED CARD OF 'foresightlaw03.FormulaNegation'. -/
def formulaNegationCard : Claim7 := { stood := { row := formulaNegationRow, standIns := [], harness := (true, "d44f8e7ad56cf69bfb96f2913873ac74abeb134695cfcff79db92138e1bacd1f"), looks := false }, kinds := [], alts := [], laidByText := true, laidKinds := [.data, .data], laidTests := true, laidLooks := .later }
def FormulaNegationCardSaid : Prop := Claim7.holds Tryz.pinned (.plain (OpenSpec.ofChange formulaNegationSpec)) formulaNegationCard

/-- THE TIED CARD OF 'foresightlaw03.FormulaCanon'. -/
def formulaCanonCard : Claim7 := { stood := { row := formulaCanonRow, standIns := [], harness := (true, "d44f8e7ad56cf69bfb96f2913873ac74abeb134695cfcff79db92138e1bacd1f"), looks := false }, kinds := [], alts := [], laidByText := true, laidKinds := [.data, .data], laidTests := true, laidLooks := .later }
def FormulaCanonCardSaid : Prop := Claim7.holds Tryz.pinned (.plain (OpenSpec.ofChange formulaCanonSpec)) formulaCanonCard

/-- THE TIED CARD OF 'foresightlaw03.FormulaMatchesReference'. -/
def formulaMatchesReferenceCard : Claim7 := { stood := { row := formulaMatchesReferenceRow, standIns := [], harness := (true, "d44f8e7ad56cf69bfb96f2913873ac74abeb134695cfcff79db92138e1bacd1f"), looks := false }, kinds := [], alts := [], laidByText := true, laidKinds := [.data, .data], laidTests := true, laidLooks := .later }
def FormulaMatchesReferenceCardSaid : Prop := Claim7.holds Tryz.pinned (.plain (OpenSpec.ofChange formulaMatchesReferenceSpec)) formulaMatchesReferenceCard

/-- THE TIED CARD OF 'foresightlaw03.FormulaLattice'. -/
def formulaLatticeCard : Claim7 := { stood := { row := formulaLatticeRow, standIns := [], harness := (true, "d44f8e7ad56cf69bfb96f2913873ac74abeb134695cfcff79db92138e1bacd1f"), looks := false }, kinds := [], alts := [], laidByText := true, laidKinds := [.data, .data], laidTests := true, laidLooks := .later }
def FormulaLatticeCardSaid : Prop := Claim7.holds Tryz.pinned (.plain (OpenSpec.ofChange formulaLatticeSpec)) formulaLatticeCard

/-- THE TIED CARD OF 'foresightlaw03.FormulaDuality'. -/
def formulaDualityCard : Claim7 := { stood := { row := formulaDualityRow, standIns := [], harness := (true, "d44f8e7ad56cf69bfb96f2913873ac74abeb134695cfcff79db92138e1bacd1f"), looks := false }, kinds := [], alts := [], laidByText := true, laidKinds := [.data, .data], laidTests := true, laidLooks := .later }
def FormulaDualityCardSaid : Prop := Claim7.holds Tryz.pinned (.plain (OpenSpec.ofChange formulaDualitySpec)) formulaDualityCard

/-- THE SECOND FORM's CARD OF 'foresightlaw03.FormulaKernels'. -/
def formulaKernelsUptoCard : Claim7 := { stood := { row := formulaKernelsUptoRow, standIns := [], harness := (true, "d44f8e7ad56cf69bfb96f2913873ac74abeb134695cfcff79db92138e1bacd1f"), looks := false }, kinds := [], alts := [], laidByText := true, laidKinds := [.data, .data], laidTests := true, laidLooks := .later }
def FormulaKernelsUptoCardSaid : Prop := Claim7.holds Tryz.pinned (.plain (OpenSpec.upto formulaKernelsSpec)) formulaKernelsUptoCard

/-- THE SECOND FORM's CARD OF 'foresightlaw03.FormulaNegation'. -/
def formulaNegationUptoCard : Claim7 := { stood := { row := formulaNegationUptoRow, standIns := [], harness := (true, "d44f8e7ad56cf69bfb96f2913873ac74abeb134695cfcff79db92138e1bacd1f"), looks := false }, kinds := [], alts := [], laidByText := true, laidKinds := [.data, .data], laidTests := true, laidLooks := .later }
def FormulaNegationUptoCardSaid : Prop := Claim7.holds Tryz.pinned (.plain (OpenSpec.upto formulaNegationSpec)) formulaNegationUptoCard

/-- THE SECOND FORM's CARD OF 'foresightlaw03.FormulaCanon'. -/
def formulaCanonUptoCard : Claim7 := { stood := { row := formulaCanonUptoRow, standIns := [], harness := (true, "d44f8e7ad56cf69bfb96f2913873ac74abeb134695cfcff79db92138e1bacd1f"), looks := false }, kinds := [], alts := [], laidByText := true, laidKinds := [.data, .data], laidTests := true, laidLooks := .later }
def FormulaCanonUptoCardSaid : Prop := Claim7.holds Tryz.pinned (.plain (OpenSpec.upto formulaCanonSpec)) formulaCanonUptoCard

/-- THE SECOND FORM's CARD OF 'foresightlaw03.FormulaMatchesReference'. -/
def formulaMatchesReferenceUptoCard : Claim7 := { stood := { row := formulaMatchesReferenceUptoRow, standIns := [], harness := (true, "d44f8e7ad56cf69bfb96f2913873ac74abeb134695cfcff79db92138e1bacd1f"), looks := false }, kinds := [], alts := [], laidByText := true, laidKinds := [.data, .data], laidTests := true, laidLooks := .later }
def FormulaMatchesReferenceUptoCardSaid : Prop := Claim7.holds Tryz.pinned (.plain (OpenSpec.upto formulaMatchesReferenceSpec)) formulaMatchesReferenceUptoCard

/-- THE SECOND FORM's CARD OF 'foresightlaw03.FormulaLattice'. -/
def formulaLatticeUptoCard : Claim7 := { stood := { row := formulaLatticeUptoRow, standIns := [], harness := (true, "d44f8e7ad56cf69bfb96f2913873ac74abeb134695cfcff79db92138e1bacd1f"), looks := false }, kinds := [], alts := [], laidByText := true, laidKinds := [.data, .data], laidTests := true, laidLooks := .later }
def FormulaLatticeUptoCardSaid : Prop := Claim7.holds Tryz.pinned (.plain (OpenSpec.upto formulaLatticeSpec)) formulaLatticeUptoCard

/-- THE SECOND FORM's CARD OF 'foresightlaw03.FormulaDuality'. -/
def formulaDualityUptoCard : Claim7 := { stood := { row := formulaDualityUptoRow, standIns := [], harness := (true, "d44f8e7ad56cf69bfb96f2913873ac74abeb134695cfcff79db92138e1bacd1f"), looks := false }, kinds := [], alts := [], laidByText := true, laidKinds := [.data, .data], laidTests := true, laidLooks := .later }
def FormulaDualityUptoCardSaid : Prop := Claim7.holds Tryz.pinned (.plain (OpenSpec.upto formulaDualitySpec)) formulaDualityUptoCard
end Rows
end Go.Proofs.YthdidjmmhhchmaaGreatDoor
