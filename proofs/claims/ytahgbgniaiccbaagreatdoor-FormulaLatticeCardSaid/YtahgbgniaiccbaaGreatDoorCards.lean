/-
  DERIVED. GIVEN WITH THE SEED: THE CARDS: each row of YtahgbgniaiccbaaGreatDoorRows.lean that lists a variable, with what it lists TIED to the program's text (the seventh form; the later family's looks); each row that meets fmt, with fmt's text TOLD by the authors' own Lean function (tested against real Go, not proved from fmt's source: count such statements apart). THE CARD IS WHAT COUNTS. Prove the row's statement (the work); the ties are given (YtahgbgniaiccbaaGreatDoorTie.lean); close each card by the builder's one call (the guide's Derived/Test/ToyasCard.lean, 'card_holds'). Laid BY PROGRAM, IN A SANDBOX (cutbox-door.mjs). By AI agents, Wed Nov 11 2026. No macro, syntax, notation, axiom, sorry.
-/
import Derived.Test.YtahgbgniaiccbaaGreatDoorRows
import GoSem.ClaimSeven
namespace Go.Proofs.YtahgbgniaiccbaaGreatDoor
namespace Rows

/-- THE TIED CARD OF 'foresightlaw03.FormulaLattice'. -/
def formulaLatticeCard : Claim7 := { stood := { row := formulaLatticeRow, standIns := [], harness := (true, "e4841da978f9ab1f1cf32f3fafd8d61811df2a22a36b118255802fdc89a2cd10"), looks := false }, kinds := [], alts := [], laidByText := true, laidKinds := [.data, .data], laidTests := true, laidLooks := .later }
def FormulaLatticeCardSaid : Prop := Claim7.holds Tryz.pinned (.plain (OpenSpec.ofChange formulaLatticeSpec)) formulaLatticeCard

/-- THE SECOND FORM's CARD OF 'foresightlaw03.FormulaLattice'. -/
def formulaLatticeUptoCard : Claim7 := { stood := { row := formulaLatticeUptoRow, standIns := [], harness := (true, "e4841da978f9ab1f1cf32f3fafd8d61811df2a22a36b118255802fdc89a2cd10"), looks := false }, kinds := [], alts := [], laidByText := true, laidKinds := [.data, .data], laidTests := true, laidLooks := .later }
def FormulaLatticeUptoCardSaid : Prop := Claim7.holds Tryz.pinned (.plain (OpenSpec.upto formulaLatticeSpec)) formulaLatticeUptoCard
end Rows
end Go.Proofs.YtahgbgniaiccbaaGreatDoor
