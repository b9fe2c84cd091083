/-
  DERIVED. GIVEN WITH THE SEED: THE PROGRAM's TIES (one call each: nine closed facts by the kernel) AND EACH ROW's TIE, after the 31st guide's Derived/Test/Toyas{Tie, Card}.lean. No idea stands in it: it is a product of the set-up. Laid BY PROGRAM, IN A SANDBOX (cutbox-door.mjs). By AI agents, Wed Nov 11 2026. No macro, syntax, notation, axiom, sorry.
-/
import Derived.Test.YtdakdpfofgkjoaaGreatDoorRows
import Derived.LaidByTextLater
import Derived.SevenTiedAt
import Derived.LaidSub
import Derived.LaidOnce
namespace Go.Proofs.YtdakdpfofgkjoaaGreatDoor
open Go
set_option maxRecDepth 100000
theorem seatTie1 : Tryz.prog.laidByTextLater [("foresight/signal.keys", Rows.laid_foresight_signal_keys), ("foresight/formula.forms", Rows.laid_foresight_formula_forms)] [.data, .data] true :=
  Program.laidByTextLater_by_one 38 8 161 (by kernel_rfl) (by kernel_rfl) (by kernel_rfl) (by kernel_rfl) (by kernel_rfl) (by kernel_rfl) (fun _ _ => by kernel_rfl)
theorem noOwnUnsafe : Tryz.pinned.checked.prog.headLifts.contains "ownunsafe" = false := by kernel_rfl
theorem tie : Tryz.prog.laidByTextLater [("foresight/signal.keys", Rows.laid_foresight_signal_keys), ("foresight/formula.forms", Rows.laid_foresight_formula_forms)] [.data, .data] true :=
  Program.laidByTextLater.sub seatTie1 ["foresight/signal.keys", "foresight/formula.forms"] (by kernel_rfl) (by kernel_rfl)
theorem typingMatchesReference_row_tie : Rows.typingMatchesReferenceRow.laidByTextAt .later Tryz.pinned [.data, .data] true :=
  OpenClaim.laidByTextAt_later rfl rfl tie noOwnUnsafe
theorem typingSubformulas_row_tie : Rows.typingSubformulasRow.laidByTextAt .later Tryz.pinned [.data, .data] true :=
  OpenClaim.laidByTextAt_later rfl rfl tie noOwnUnsafe
theorem typingMatchesReferenceUpto_row_tie : Rows.typingMatchesReferenceUptoRow.laidByTextAt .later Tryz.pinned [.data, .data] true :=
  OpenClaim.laidByTextAt_later rfl rfl tie noOwnUnsafe
theorem typingSubformulasUpto_row_tie : Rows.typingSubformulasUptoRow.laidByTextAt .later Tryz.pinned [.data, .data] true :=
  OpenClaim.laidByTextAt_later rfl rfl tie noOwnUnsafe
end Go.Proofs.YtdakdpfofgkjoaaGreatDoor
