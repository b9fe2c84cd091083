/-
  DERIVED. GIVEN WITH THE SEED: THE CARDS: each row of YtdakdpfofgkjoaaDoorRows.lean that lists a variable, with what it lists TIED to the program's text (the seventh form; the later family's looks); each row that meets fmt, with fmt's text TOLD by the authors' own Lean function (tested against real Go, not proved from fmt's source: count such statements apart). THE CARD IS WHAT COUNTS. Prove the row's statement (the work); the ties are given (YtdakdpfofgkjoaaDoorTie.lean); close each card by the builder's one call (the guide's Derived/Test/ToyasCard.lean, 'card_holds'). Laid BY PROGRAM, IN A SANDBOX (cutbox-door.mjs). By AI agents, Wed Nov 11 2026. No macro, syntax, notation, axiom, sorry.
-/
import Derived.Test.YtdakdpfofgkjoaaDoorRows
import GoSem.ClaimSeven
namespace Go.Proofs.YtdakdpfofgkjoaaDoor
namespace Rows

/-- THE TIED CARD OF 'foresightlaw07.TypingSignals'. -/
def typingSignalsCard : Claim7 := { stood := { row := typingSignalsRow, standIns := [], harness := (true, "4cc6de46171b91d65c74ea11a936c8680b45ae91a2cb02d705513314f0f56233"), looks := false }, kinds := [], alts := [], laidByText := true, laidKinds := [.data, .data], laidTests := true, laidLooks := .later }
def TypingSignalsCardSaid : Prop := Claim7.holds Tryd.pinned (.plain (OpenSpec.ofChange typingSignalsSpec)) typingSignalsCard

/-- THE TIED CARD OF 'foresightlaw07.TypingRequirements'. -/
def typingRequirementsCard : Claim7 := { stood := { row := typingRequirementsRow, standIns := [], harness := (true, "4cc6de46171b91d65c74ea11a936c8680b45ae91a2cb02d705513314f0f56233"), looks := false }, kinds := [], alts := [], laidByText := true, laidKinds := [.data, .data], laidTests := true, laidLooks := .later }
def TypingRequirementsCardSaid : Prop := Claim7.holds Tryd.pinned (.plain (OpenSpec.ofChange typingRequirementsSpec)) typingRequirementsCard

/-- THE TIED CARD OF 'foresightlaw07.TypingGoals'. -/
def typingGoalsCard : Claim7 := { stood := { row := typingGoalsRow, standIns := [], harness := (true, "4cc6de46171b91d65c74ea11a936c8680b45ae91a2cb02d705513314f0f56233"), looks := false }, kinds := [], alts := [], laidByText := true, laidKinds := [.data, .data], laidTests := true, laidLooks := .later }
def TypingGoalsCardSaid : Prop := Claim7.holds Tryd.pinned (.plain (OpenSpec.ofChange typingGoalsSpec)) typingGoalsCard

/-- THE SECOND FORM's CARD OF 'foresightlaw07.TypingSignals'. -/
def typingSignalsUptoCard : Claim7 := { stood := { row := typingSignalsUptoRow, standIns := [], harness := (true, "4cc6de46171b91d65c74ea11a936c8680b45ae91a2cb02d705513314f0f56233"), looks := false }, kinds := [], alts := [], laidByText := true, laidKinds := [.data, .data], laidTests := true, laidLooks := .later }
def TypingSignalsUptoCardSaid : Prop := Claim7.holds Tryd.pinned (.plain (OpenSpec.upto typingSignalsSpec)) typingSignalsUptoCard

/-- THE SECOND FORM's CARD OF 'foresightlaw07.TypingRequirements'. -/
def typingRequirementsUptoCard : Claim7 := { stood := { row := typingRequirementsUptoRow, standIns := [], harness := (true, "4cc6de46171b91d65c74ea11a936c8680b45ae91a2cb02d705513314f0f56233"), looks := false }, kinds := [], alts := [], laidByText := true, laidKinds := [.data, .data], laidTests := true, laidLooks := .later }
def TypingRequirementsUptoCardSaid : Prop := Claim7.holds Tryd.pinned (.plain (OpenSpec.upto typingRequirementsSpec)) typingRequirementsUptoCard

/-- THE SECOND FORM's CARD OF 'foresightlaw07.TypingGoals'. -/
def typingGoalsUptoCard : Claim7 := { stood := { row := typingGoalsUptoRow, standIns := [], harness := (true, "4cc6de46171b91d65c74ea11a936c8680b45ae91a2cb02d705513314f0f56233"), looks := false }, kinds := [], alts := [], laidByText := true, laidKinds := [.data, .data], laidTests := true, laidLooks := .later }
def TypingGoalsUptoCardSaid : Prop := Claim7.holds Tryd.pinned (.plain (OpenSpec.upto typingGoalsSpec)) typingGoalsUptoCard
end Rows
end Go.Proofs.YtdakdpfofgkjoaaDoor
