/-
  NARROWER THAN 'FOR EVERY INPUT', by the rows' own cells (each row's printed sentence says how): TypingSignals: loops, laid · TypingRequirements: loops, laid · TypingGoals: loops, laid.
  DERIVED. THE GIVEN ROWS OF THIS SEAT. 3 by the template 'for every input the law returns true; each argument reads behind the call as it read before'; 0 by the template 'total and deterministic' (their statements: YtdakdpfofgkjoaaDoorTotals.lean).
  GIVEN WITH THE SEED: the statements are not yours to turn. If you find one false, say at which input.
  Laid BY PROGRAM, IN A SANDBOX (cutbox-rows.mjs): the forced cells as the released guide's own fill.sh prints them over the translation f580d6448b92776e… (all of the seat's roots in one cut). By AI agents, Wed Nov 11 2026. No macro, syntax, notation, axiom, sorry.
-/
import Derived.Test.YtdakdpfofgkjoaaDoorChecked
import GoSem.Claim
import GoSem.ClaimJoined
import GoSem.ClaimMapViews
import Derived.JoinedTies
import Derived.KernelRfl
namespace Go.Proofs.YtdakdpfofgkjoaaDoor
/- THE CELL 'sum', in the pinned program and in every row, IS THE sha256 OF THE DUMP (.gsa) THAT YtdakdpfofgkjoaaDoorProg.lean LOADS. Nothing in Lean hashes anything: it is a label: what it is worth is what the hold of that sum in a sandbox is worth. -/
noncomputable def Tryd.pinned : Pinned := { name := "ytdakdpfofgkjoaadoor", sum := "f580d6448b92776e349c36d2729f34046a0cd659df32ac1bc0d056ffd71ce7cb", checked := Tryd.checked }
namespace Rows
def none {H : Type} : Left H := { results := [], args := [] }

/- WHAT THE LISTED PACKAGE-LEVEL VARIABLES READ AS WHEN THE CALL BEGINS. Each datum BY PROGRAM (the guide's laid-datum.mjs) off the statement by which the dump's own 'gosem.cut.vars' lays the variable. In a bare row this is a premise. The card (YtdakdpfofgkjoaaDoorCards.lean) ties it to the program's text. -/
def laid_foresight_signal_keys {H : Type} : DataW H := .agg [.lit (.string [105, 110, 112, 117, 116]), .lit (.string [111, 117, 116, 112, 117, 116]), .lit (.string [112, 97, 114, 116]), .lit (.string [97, 115, 115, 117, 109, 101]), .lit (.string [103, 117, 97, 114, 97, 110, 116, 101, 101]), .lit (.string [116, 114, 117, 101]), .lit (.string [102, 97, 108, 115, 101]), .lit (.string [97, 100, 100]), .lit (.string [100, 114, 111, 112]), .lit (.string [114, 101, 112, 108, 97, 99, 101])]
def laid_foresight_formula_forms {H : Type} : DataW H := .agg [.agg [.lit (.int .i64 0), .lit (.int .i64 0), .lit (.int .i64 0), .lit (.int .i64 0), .lit (.bool false), .lit (.bool false), .lit (.bool false), .lit (.bool false)], .agg [.lit (.int .i64 0), .lit (.int .i64 0), .lit (.int .i64 0), .lit (.int .i64 0), .lit (.bool false), .lit (.bool false), .lit (.bool false), .lit (.bool true)], .agg [.lit (.int .i64 0), .lit (.int .i64 0), .lit (.int .i64 0), .lit (.int .i64 0), .lit (.bool false), .lit (.bool false), .lit (.bool false), .lit (.bool true)], .agg [.lit (.int .i64 0), .lit (.int .i64 0), .lit (.int .i64 3), .lit (.int .i64 0), .lit (.bool true), .lit (.bool false), .lit (.bool false), .lit (.bool true)], .agg [.lit (.int .i64 1), .lit (.int .i64 1), .lit (.int .i64 0), .lit (.int .i64 0), .lit (.bool false), .lit (.bool false), .lit (.bool false), .lit (.bool true)], .agg [.lit (.int .i64 2), .lit (.int .i64 1099511627776), .lit (.int .i64 0), .lit (.int .i64 0), .lit (.bool false), .lit (.bool false), .lit (.bool false), .lit (.bool true)], .agg [.lit (.int .i64 2), .lit (.int .i64 1099511627776), .lit (.int .i64 0), .lit (.int .i64 0), .lit (.bool false), .lit (.bool false), .lit (.bool false), .lit (.bool true)], .agg [.lit (.int .i64 2), .lit (.int .i64 2), .lit (.int .i64 0), .lit (.int .i64 0), .lit (.bool false), .lit (.bool false), .lit (.bool false), .lit (.bool false)], .agg [.lit (.int .i64 1), .lit (.int .i64 1), .lit (.int .i64 0), .lit (.int .i64 0), .lit (.bool false), .lit (.bool false), .lit (.bool true), .lit (.bool true)], .agg [.lit (.int .i64 2), .lit (.int .i64 2), .lit (.int .i64 0), .lit (.int .i64 0), .lit (.bool false), .lit (.bool false), .lit (.bool true), .lit (.bool true)], .agg [.lit (.int .i64 2), .lit (.int .i64 2), .lit (.int .i64 0), .lit (.int .i64 0), .lit (.bool false), .lit (.bool false), .lit (.bool true), .lit (.bool true)], .agg [.lit (.int .i64 1), .lit (.int .i64 1), .lit (.int .i64 0), .lit (.int .i64 0), .lit (.bool false), .lit (.bool false), .lit (.bool true), .lit (.bool false)], .agg [.lit (.int .i64 1), .lit (.int .i64 1), .lit (.int .i64 0), .lit (.int .i64 0), .lit (.bool false), .lit (.bool false), .lit (.bool true), .lit (.bool false)], .agg [.lit (.int .i64 1), .lit (.int .i64 1), .lit (.int .i64 0), .lit (.int .i64 9), .lit (.bool false), .lit (.bool false), .lit (.bool true), .lit (.bool false)], .agg [.lit (.int .i64 1), .lit (.int .i64 1), .lit (.int .i64 0), .lit (.int .i64 9), .lit (.bool false), .lit (.bool false), .lit (.bool true), .lit (.bool false)], .agg [.lit (.int .i64 1), .lit (.int .i64 1), .lit (.int .i64 1), .lit (.int .i64 0), .lit (.bool false), .lit (.bool true), .lit (.bool false), .lit (.bool true)], .agg [.lit (.int .i64 2), .lit (.int .i64 2), .lit (.int .i64 1), .lit (.int .i64 0), .lit (.bool false), .lit (.bool true), .lit (.bool false), .lit (.bool true)], .agg [.lit (.int .i64 2), .lit (.int .i64 2), .lit (.int .i64 1), .lit (.int .i64 0), .lit (.bool false), .lit (.bool true), .lit (.bool false), .lit (.bool true)], .agg [.lit (.int .i64 1), .lit (.int .i64 1), .lit (.int .i64 0), .lit (.int .i64 0), .lit (.bool false), .lit (.bool true), .lit (.bool false), .lit (.bool false)], .agg [.lit (.int .i64 1), .lit (.int .i64 1), .lit (.int .i64 0), .lit (.int .i64 0), .lit (.bool false), .lit (.bool true), .lit (.bool false), .lit (.bool false)]]

/-- 'foresightlaw07.TypingSignals': WHATEVER THE INPUT: true; the input reads as it did. -/
def typingSignalsSpec : ChangeSpec := { name := "typingSignals", fn := fun _ => fun
  | [d1, d2, d3, d4] => { results := [.lit (.bool true)], args := [d1, d2, d3, d4] }
  | _ => none }
def typingSignalsRow : OpenClaim := { program := "ytdakdpfofgkjoaadoor", sum := "f580d6448b92776e349c36d2729f34046a0cd659df32ac1bc0d056ffd71ce7cb", func := "foresight/foresightlaw07.TypingSignals", spec := "typingSignals", inPlace := ["internal/bytealg.abigen_runtime_cmpstring"], unfollowed := true, recurses := true, named := ["foresight/signal.keys", "foresight/formula.forms"], loops := true, apart := false, laid := [("foresight/signal.keys", laid_foresight_signal_keys), ("foresight/formula.forms", laid_foresight_formula_forms)] }
def TypingSignalsSaid : Prop := typingSignalsRow.holds Tryd.pinned (OpenSpec.ofChange typingSignalsSpec)

/-- ITS FALSE NEIGHBOUR: 'it returns false'. Refute it at one input. -/
def typingSignalsWrong : ChangeSpec := { name := "typingSignals", fn := fun _ => fun
  | [d1, d2, d3, d4] => { results := [.lit (.bool false)], args := [d1, d2, d3, d4] }
  | _ => none }
def TypingSignalsWrongFalsely : Prop := typingSignalsRow.holds Tryd.pinned (OpenSpec.ofChange typingSignalsWrong)

/-- 'foresightlaw07.TypingRequirements': WHATEVER THE INPUT: true; the input reads as it did. -/
def typingRequirementsSpec : ChangeSpec := { name := "typingRequirements", fn := fun _ => fun
  | [d] => { results := [.lit (.bool true)], args := [d] }
  | _ => none }
def typingRequirementsRow : OpenClaim := { program := "ytdakdpfofgkjoaadoor", sum := "f580d6448b92776e349c36d2729f34046a0cd659df32ac1bc0d056ffd71ce7cb", func := "foresight/foresightlaw07.TypingRequirements", spec := "typingRequirements", inPlace := ["internal/bytealg.abigen_runtime_cmpstring"], unfollowed := true, recurses := true, named := ["foresight/signal.keys", "foresight/formula.forms"], loops := true, apart := false, laid := [("foresight/signal.keys", laid_foresight_signal_keys), ("foresight/formula.forms", laid_foresight_formula_forms)] }
def TypingRequirementsSaid : Prop := typingRequirementsRow.holds Tryd.pinned (OpenSpec.ofChange typingRequirementsSpec)

/-- ITS FALSE NEIGHBOUR: 'it returns false'. Refute it at one input. -/
def typingRequirementsWrong : ChangeSpec := { name := "typingRequirements", fn := fun _ => fun
  | [d] => { results := [.lit (.bool false)], args := [d] }
  | _ => none }
def TypingRequirementsWrongFalsely : Prop := typingRequirementsRow.holds Tryd.pinned (OpenSpec.ofChange typingRequirementsWrong)

/-- 'foresightlaw07.TypingGoals': WHATEVER THE INPUT: true; the input reads as it did. -/
def typingGoalsSpec : ChangeSpec := { name := "typingGoals", fn := fun _ => fun
  | [d] => { results := [.lit (.bool true)], args := [d] }
  | _ => none }
def typingGoalsRow : OpenClaim := { program := "ytdakdpfofgkjoaadoor", sum := "f580d6448b92776e349c36d2729f34046a0cd659df32ac1bc0d056ffd71ce7cb", func := "foresight/foresightlaw07.TypingGoals", spec := "typingGoals", inPlace := ["internal/bytealg.abigen_runtime_cmpstring"], unfollowed := true, recurses := true, named := ["foresight/signal.keys", "foresight/formula.forms"], loops := true, apart := false, laid := [("foresight/signal.keys", laid_foresight_signal_keys), ("foresight/formula.forms", laid_foresight_formula_forms)] }
def TypingGoalsSaid : Prop := typingGoalsRow.holds Tryd.pinned (OpenSpec.ofChange typingGoalsSpec)

/-- ITS FALSE NEIGHBOUR: 'it returns false'. Refute it at one input. -/
def typingGoalsWrong : ChangeSpec := { name := "typingGoals", fn := fun _ => fun
  | [d] => { results := [.lit (.bool false)], args := [d] }
  | _ => none }
def TypingGoalsWrongFalsely : Prop := typingGoalsRow.holds Tryd.pinned (OpenSpec.ofChange typingGoalsWrong)

/- THE SECOND FORM. 'bulk': how many values and letters a reading holds, each counted each time it is reached (what is shared counts as often as it is met; a slice's spare places count too). A statement '..UptoSaid' is the law's where the arguments, and the package variables that the reading takes, are together of bulk at most 1048576: NARROWER than '..Said'. Prove '..Said' where nothing that the law and all that it calls make is longer than what came in: it says more and counts as full. Else prove '..UptoSaid'. A law counts once. -/
mutual
def uptoBulk {H : Type} : DataW H → Nat
  | .lit (.string bytes) => bytes.length + 1
  | .lit _ => 1
  | .nil => 1
  | .ptr d => uptoBulk d + 1
  | .slice elems spare => uptoBulkAll elems + uptoBulkAll spare + 1
  | .agg parts => uptoBulkAll parts + 1
  | .iface _ d => uptoBulk d + 1
  | .map entries => uptoBulkEntries entries + 1
  | .held _ => 1
def uptoBulkAll {H : Type} : List (DataW H) → Nat
  | [] => 0
  | d :: r => uptoBulk d + uptoBulkAll r
def uptoBulkEntries {H : Type} : List (Lit × DataW H) → Nat
  | [] => 0
  | x :: r => uptoBulkEntry x + uptoBulkEntries r
def uptoBulkEntry {H : Type} : Lit × DataW H → Nat
  | (.string bytes, d) => bytes.length + uptoBulk d + 1
  | (_, d) => uptoBulk d + 1
 end
def uptoSmall : (H : Type) → List (DataW H) → Bool := fun _ ds => decide (uptoBulkAll ds ≤ 1048576)
def OpenSpec.upto (s : _root_.Go.ChangeSpec) : _root_.Go.OpenSpec := { _root_.Go.OpenSpec.ofChange s with cond := some uptoSmall }

/-- 'foresightlaw07.TypingSignals', WHERE WHAT IT READS IS OF BULK AT MOST 1048576: true; the input reads as it did. -/
def typingSignalsUptoRow : OpenClaim := { program := "ytdakdpfofgkjoaadoor", sum := "f580d6448b92776e349c36d2729f34046a0cd659df32ac1bc0d056ffd71ce7cb", func := "foresight/foresightlaw07.TypingSignals", spec := "typingSignals", inPlace := ["internal/bytealg.abigen_runtime_cmpstring"], unfollowed := true, recurses := true, named := ["foresight/signal.keys", "foresight/formula.forms"], loops := true, apart := false, laid := [("foresight/signal.keys", laid_foresight_signal_keys), ("foresight/formula.forms", laid_foresight_formula_forms)], narrowed := true }
def TypingSignalsUptoSaid : Prop := typingSignalsUptoRow.holds Tryd.pinned (OpenSpec.upto typingSignalsSpec)

/-- 'foresightlaw07.TypingRequirements', WHERE WHAT IT READS IS OF BULK AT MOST 1048576: true; the input reads as it did. -/
def typingRequirementsUptoRow : OpenClaim := { program := "ytdakdpfofgkjoaadoor", sum := "f580d6448b92776e349c36d2729f34046a0cd659df32ac1bc0d056ffd71ce7cb", func := "foresight/foresightlaw07.TypingRequirements", spec := "typingRequirements", inPlace := ["internal/bytealg.abigen_runtime_cmpstring"], unfollowed := true, recurses := true, named := ["foresight/signal.keys", "foresight/formula.forms"], loops := true, apart := false, laid := [("foresight/signal.keys", laid_foresight_signal_keys), ("foresight/formula.forms", laid_foresight_formula_forms)], narrowed := true }
def TypingRequirementsUptoSaid : Prop := typingRequirementsUptoRow.holds Tryd.pinned (OpenSpec.upto typingRequirementsSpec)

/-- 'foresightlaw07.TypingGoals', WHERE WHAT IT READS IS OF BULK AT MOST 1048576: true; the input reads as it did. -/
def typingGoalsUptoRow : OpenClaim := { program := "ytdakdpfofgkjoaadoor", sum := "f580d6448b92776e349c36d2729f34046a0cd659df32ac1bc0d056ffd71ce7cb", func := "foresight/foresightlaw07.TypingGoals", spec := "typingGoals", inPlace := ["internal/bytealg.abigen_runtime_cmpstring"], unfollowed := true, recurses := true, named := ["foresight/signal.keys", "foresight/formula.forms"], loops := true, apart := false, laid := [("foresight/signal.keys", laid_foresight_signal_keys), ("foresight/formula.forms", laid_foresight_formula_forms)], narrowed := true }
def TypingGoalsUptoSaid : Prop := typingGoalsUptoRow.holds Tryd.pinned (OpenSpec.upto typingGoalsSpec)

end Rows
end Go.Proofs.YtdakdpfofgkjoaaDoor
