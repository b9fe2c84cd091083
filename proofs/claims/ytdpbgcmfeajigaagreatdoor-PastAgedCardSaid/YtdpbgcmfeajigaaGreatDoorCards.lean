/-
  DERIVED. GIVEN WITH THE SEED: THE CARDS: each row of YtdpbgcmfeajigaaGreatDoorRows.lean that lists a variable, with what it lists TIED to the program's text (the seventh form; the later family's looks); each row that meets fmt, with fmt's text TOLD by the authors' own Lean function (tested against real Go, not proved from fmt's source: count such statements apart). THE CARD IS WHAT COUNTS. Prove the row's statement (the work); the ties are given (YtdpbgcmfeajigaaGreatDoorTie.lean); close each card by the builder's one call (the guide's Derived/Test/ToyasCard.lean, 'card_holds'). Laid BY PROGRAM, IN A SANDBOX (cutbox-door.mjs). By AI agents, Wed Nov 11 2026. No macro, syntax, notation, axiom, sorry.
-/
import Derived.Test.YtdpbgcmfeajigaaGreatDoorRows
import GoSem.ClaimSeven
namespace Go.Proofs.YtdpbgcmfeajigaaGreatDoor
namespace Rows

/-- THE TIED CARD OF 'foresightlaw09.PastNodes'. -/
def pastNodesCard : Claim7 := { stood := { row := pastNodesRow, standIns := [], harness := (true, "5c109be31299c626b1a24271a7c6a65248b160c758ae47dcfc48477c0cbf8ff3"), looks := false }, kinds := [], alts := [], laidByText := true, laidKinds := [.data, .data], laidTests := true, laidLooks := .later }
def PastNodesCardSaid : Prop := Claim7.holds Tryz.pinned (.plain (OpenSpec.ofChange pastNodesSpec)) pastNodesCard

/-- THE TIED CARD OF 'foresightlaw09.PastTruth'. -/
def pastTruthCard : Claim7 := { stood := { row := pastTruthRow, standIns := [], harness := (true, "5c109be31299c626b1a24271a7c6a65248b160c758ae47dcfc48477c0cbf8ff3"), looks := false }, kinds := [], alts := [], laidByText := true, laidKinds := [.data, .data], laidTests := true, laidLooks := .later }
def PastTruthCardSaid : Prop := Claim7.holds Tryz.pinned (.plain (OpenSpec.ofChange pastTruthSpec)) pastTruthCard

/-- THE TIED CARD OF 'foresightlaw09.PastDuality'. -/
def pastDualityCard : Claim7 := { stood := { row := pastDualityRow, standIns := [], harness := (true, "5c109be31299c626b1a24271a7c6a65248b160c758ae47dcfc48477c0cbf8ff3"), looks := false }, kinds := [], alts := [], laidByText := true, laidKinds := [.data, .data], laidTests := true, laidLooks := .later }
def PastDualityCardSaid : Prop := Claim7.holds Tryz.pinned (.plain (OpenSpec.ofChange pastDualitySpec)) pastDualityCard

/-- THE TIED CARD OF 'foresightlaw09.PastAged'. -/
def pastAgedCard : Claim7 := { stood := { row := pastAgedRow, standIns := [], harness := (true, "5c109be31299c626b1a24271a7c6a65248b160c758ae47dcfc48477c0cbf8ff3"), looks := false }, kinds := [], alts := [], laidByText := true, laidKinds := [.data, .data], laidTests := true, laidLooks := .later }
def PastAgedCardSaid : Prop := Claim7.holds Tryz.pinned (.plain (OpenSpec.ofChange pastAgedSpec)) pastAgedCard

/-- THE TIED CARD OF 'foresightlaw09.PastPuts'. -/
def pastPutsCard : Claim7 := { stood := { row := pastPutsRow, standIns := [], harness := (true, "5c109be31299c626b1a24271a7c6a65248b160c758ae47dcfc48477c0cbf8ff3"), looks := false }, kinds := [], alts := [], laidByText := true, laidKinds := [.data, .data], laidTests := true, laidLooks := .later }
def PastPutsCardSaid : Prop := Claim7.holds Tryz.pinned (.plain (OpenSpec.ofChange pastPutsSpec)) pastPutsCard

/-- THE SECOND FORM's CARD OF 'foresightlaw09.PastNodes'. -/
def pastNodesUptoCard : Claim7 := { stood := { row := pastNodesUptoRow, standIns := [], harness := (true, "5c109be31299c626b1a24271a7c6a65248b160c758ae47dcfc48477c0cbf8ff3"), looks := false }, kinds := [], alts := [], laidByText := true, laidKinds := [.data, .data], laidTests := true, laidLooks := .later }
def PastNodesUptoCardSaid : Prop := Claim7.holds Tryz.pinned (.plain (OpenSpec.upto pastNodesSpec)) pastNodesUptoCard

/-- THE SECOND FORM's CARD OF 'foresightlaw09.PastTruth'. -/
def pastTruthUptoCard : Claim7 := { stood := { row := pastTruthUptoRow, standIns := [], harness := (true, "5c109be31299c626b1a24271a7c6a65248b160c758ae47dcfc48477c0cbf8ff3"), looks := false }, kinds := [], alts := [], laidByText := true, laidKinds := [.data, .data], laidTests := true, laidLooks := .later }
def PastTruthUptoCardSaid : Prop := Claim7.holds Tryz.pinned (.plain (OpenSpec.upto pastTruthSpec)) pastTruthUptoCard

/-- THE SECOND FORM's CARD OF 'foresightlaw09.PastDuality'. -/
def pastDualityUptoCard : Claim7 := { stood := { row := pastDualityUptoRow, standIns := [], harness := (true, "5c109be31299c626b1a24271a7c6a65248b160c758ae47dcfc48477c0cbf8ff3"), looks := false }, kinds := [], alts := [], laidByText := true, laidKinds := [.data, .data], laidTests := true, laidLooks := .later }
def PastDualityUptoCardSaid : Prop := Claim7.holds Tryz.pinned (.plain (OpenSpec.upto pastDualitySpec)) pastDualityUptoCard

/-- THE SECOND FORM's CARD OF 'foresightlaw09.PastAged'. -/
def pastAgedUptoCard : Claim7 := { stood := { row := pastAgedUptoRow, standIns := [], harness := (true, "5c109be31299c626b1a24271a7c6a65248b160c758ae47dcfc48477c0cbf8ff3"), looks := false }, kinds := [], alts := [], laidByText := true, laidKinds := [.data, .data], laidTests := true, laidLooks := .later }
def PastAgedUptoCardSaid : Prop := Claim7.holds Tryz.pinned (.plain (OpenSpec.upto pastAgedSpec)) pastAgedUptoCard

/-- THE SECOND FORM's CARD OF 'foresightlaw09.PastPuts'. -/
def pastPutsUptoCard : Claim7 := { stood := { row := pastPutsUptoRow, standIns := [], harness := (true, "5c109be31299c626b1a24271a7c6a65248b160c758ae47dcfc48477c0cbf8ff3"), looks := false }, kinds := [], alts := [], laidByText := true, laidKinds := [.data, .data], laidTests := true, laidLooks := .later }
def PastPutsUptoCardSaid : Prop := Claim7.holds Tryz.pinned (.plain (OpenSpec.upto pastPutsSpec)) pastPutsUptoCard
end Rows
end Go.Proofs.YtdpbgcmfeajigaaGreatDoor
