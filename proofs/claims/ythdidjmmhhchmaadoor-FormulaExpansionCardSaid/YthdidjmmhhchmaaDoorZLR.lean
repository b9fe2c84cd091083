/-
  The tied card of FormulaExpansion: for all arguments, the law FormulaExpansion returns true, and its arguments read afterwards as before. No condition.
-/
import Derived.Test.YthdidjmmhhchmaaDoorCards
import Derived.Test.YthdidjmmhhchmaaDoorTie
import Derived.SevenTiedAt
import Derived.Test.YthdidjmmhhchmaaDoorZLQ
set_option linter.unusedVariables false
set_option linter.unusedSimpArgs false
namespace Go.Proofs.YthdidjmmhhchmaaDoor
open Go

theorem law03E_card : Rows.FormulaExpansionCardSaid :=
  Claim7.holds_tied_plain_at .later [] [.data, .data] true (true, "228ca5776923c43add3269bf0c4fe6a1b4bf230256f4d6eeab3d3b7eaebfb45e") false
    law03E_holds (fun _ h => by cases h) (by kernel_rfl) (fun _ h => by cases h) formulaExpansion_row_tie rfl ⟨rfl, rfl⟩ (by kernel_rfl) rfl
    (fun f fn hf hfn => by
      obtain rfl : f = 5 := Option.some.inj ((show Tryd.prog.funcNamed "foresight/foresightlaw03.FormulaExpansion" = some 5 by kernel_rfl).symm.trans hf) |>.symm
      obtain rfl : fn = Tryd.f5 := (Option.some.inj (Tryd.func5.symm.trans hfn)).symm
      exact ⟨by kernel_rfl, fun j t ht => by
        rw [Tryd.params5] at ht
        have hm : t ∈ [24, 24, 5] := by simpa using Array.mem_of_getElem? ht
        have hall : ([24, 24, 5].all fun u => !Tryd.prog.wantsStandIn u) = true := by kernel_rfl
        exact (show Tryd.prog.wantsStandIn t = false by simpa using List.all_eq_true.1 hall t hm)⟩)
    (by kernel_rfl)
end Go.Proofs.YthdidjmmhhchmaaDoor
