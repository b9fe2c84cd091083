/-
  DERIVED. GIVEN WITH THE SEED: THE CARDS: each row of YtdakdpfofgkjoaaGreatDoorRows.lean that lists a variable, with what it lists TIED to the program's text (the seventh form; the later family's looks); each row that meets fmt, with fmt's text TOLD by the authors' own Lean function (tested against real Go, not proved from fmt's source: count such statements apart). THE CARD IS WHAT COUNTS. Prove the row's statement (the work); the ties are given (YtdakdpfofgkjoaaGreatDoorTie.lean); close each card by the builder's one call (the guide's Derived/Test/ToyasCard.lean, 'card_holds'). Laid BY PROGRAM, IN A SANDBOX (cutbox-door.mjs). By AI agents, Wed Nov 11 2026. No macro, syntax, notation, axiom, sorry.
-/
import Derived.Test.YtdakdpfofgkjoaaGreatDoorRows
import GoSem.ClaimSeven
namespace Go.Proofs.YtdakdpfofgkjoaaGreatDoor
namespace Rows

/-- THE TIED CARD OF 'foresightlaw07.TypingMatchesReference'. -/
def typingMatchesReferenceCard : Claim7 := { stood := { row := typingMatchesReferenceRow, standIns := [], harness := (true, "86c9cde107c75cbd8aa85f16593852dd26ba04f827d8863963816f0b9eb6e710"), looks := false }, kinds := [], alts := [], laidByText := true, laidKinds := [.data, .data], laidTests := true, laidLooks := .later }
def TypingMatchesReferenceCardSaid : Prop := Claim7.holds Tryz.pinned (.plain (OpenSpec.ofChange typingMatchesReferenceSpec)) typingMatchesReferenceCard

/-- THE TIED CARD OF 'foresightlaw07.TypingSubformulas'. -/
def typingSubformulasCard : Claim7 := { stood := { row := typingSubformulasRow, standIns := [], harness := (true, "86c9cde107c75cbd8aa85f16593852dd26ba04f827d8863963816f0b9eb6e710"), looks := false }, kinds := [], alts := [], laidByText := true, laidKinds := [.data, .data], laidTests := true, laidLooks := .later }
def TypingSubformulasCardSaid : Prop := Claim7.holds Tryz.pinned (.plain (OpenSpec.ofChange typingSubformulasSpec)) typingSubformulasCard

/-- THE SECOND FORM's CARD OF 'foresightlaw07.TypingMatchesReference'. -/
def typingMatchesReferenceUptoCard : Claim7 := { stood := { row := typingMatchesReferenceUptoRow, standIns := [], harness := (true, "86c9cde107c75cbd8aa85f16593852dd26ba04f827d8863963816f0b9eb6e710"), looks := false }, kinds := [], alts := [], laidByText := true, laidKinds := [.data, .data], laidTests := true, laidLooks := .later }
def TypingMatchesReferenceUptoCardSaid : Prop := Claim7.holds Tryz.pinned (.plain (OpenSpec.upto typingMatchesReferenceSpec)) typingMatchesReferenceUptoCard

/-- THE SECOND FORM's CARD OF 'foresightlaw07.TypingSubformulas'. -/
def typingSubformulasUptoCard : Claim7 := { stood := { row := typingSubformulasUptoRow, standIns := [], harness := (true, "86c9cde107c75cbd8aa85f16593852dd26ba04f827d8863963816f0b9eb6e710"), looks := false }, kinds := [], alts := [], laidByText := true, laidKinds := [.data, .data], laidTests := true, laidLooks := .later }
def TypingSubformulasUptoCardSaid : Prop := Claim7.holds Tryz.pinned (.plain (OpenSpec.upto typingSubformulasSpec)) typingSubformulasUptoCard
end Rows
end Go.Proofs.YtdakdpfofgkjoaaGreatDoor
