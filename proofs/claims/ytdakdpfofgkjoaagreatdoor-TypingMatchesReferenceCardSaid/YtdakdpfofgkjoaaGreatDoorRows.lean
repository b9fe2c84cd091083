/-
  NARROWER THAN 'FOR EVERY INPUT', by the rows' own cells (each row's printed sentence says how): TypingMatchesReference: loops, laid · TypingSubformulas: loops, laid.
  DERIVED. THE GIVEN ROWS OF THIS SEAT. 2 by the template 'for every input the law returns true; each argument reads behind the call as it read before'; 0 by the template 'total and deterministic' (their statements: YtdakdpfofgkjoaaGreatDoorTotals.lean).
  GIVEN WITH THE SEED: the statements are not yours to turn. If you find one false, say at which input.
  Laid BY PROGRAM, IN A SANDBOX (cutbox-rows.mjs): the forced cells as the released guide's own fill.sh prints them over the translation 112c7ab453f32bb7… (all of the seat's roots in one cut). By AI agents, Wed Nov 11 2026. No macro, syntax, notation, axiom, sorry.
-/
import Derived.Test.YtdakdpfofgkjoaaGreatDoorChecked
import GoSem.Claim
import GoSem.ClaimJoined
import GoSem.ClaimMapViews
import Derived.JoinedTies
import Derived.KernelRfl
namespace Go.Proofs.YtdakdpfofgkjoaaGreatDoor
/- THE CELL 'sum', in the pinned program and in every row, IS THE sha256 OF THE DUMP (.gsa) THAT YtdakdpfofgkjoaaGreatDoorProg.lean LOADS. Nothing in Lean hashes anything: it is a label: what it is worth is what the hold of that sum in a sandbox is worth. -/
noncomputable def Tryz.pinned : Pinned := { name := "ytdakdpfofgkjoaagreatdoor", sum := "112c7ab453f32bb79be96bdaa3a900c4b3923107aa5d7bd293842e8c68272db7", checked := Tryz.checked }
namespace Rows
def none {H : Type} : Left H := { results := [], args := [] }

/- WHAT THE LISTED PACKAGE-LEVEL VARIABLES READ AS WHEN THE CALL BEGINS. Each datum BY PROGRAM (the guide's laid-datum.mjs) off the statement by which the dump's own 'gosem.cut.vars' lays the variable. In a bare row this is a premise. The card (YtdakdpfofgkjoaaGreatDoorCards.lean) ties it to the program's text. -/
def laid_foresight_signal_keys {H : Type} : DataW H := .agg [.lit (.string [105, 110, 112, 117, 116]), .lit (.string [111, 117, 116, 112, 117, 116]), .lit (.string [112, 97, 114, 116]), .lit (.string [97, 115, 115, 117, 109, 101]), .lit (.string [103, 117, 97, 114, 97, 110, 116, 101, 101]), .lit (.string [116, 114, 117, 101]), .lit (.string [102, 97, 108, 115, 101]), .lit (.string [97, 100, 100]), .lit (.string [100, 114, 111, 112]), .lit (.string [114, 101, 112, 108, 97, 99, 101])]
def laid_foresight_formula_forms {H : Type} : DataW H := .agg [.agg [.lit (.int .i64 0), .lit (.int .i64 0), .lit (.int .i64 0), .lit (.int .i64 0), .lit (.bool false), .lit (.bool false), .lit (.bool false), .lit (.bool false)], .agg [.lit (.int .i64 0), .lit (.int .i64 0), .lit (.int .i64 0), .lit (.int .i64 0), .lit (.bool false), .lit (.bool false), .lit (.bool false), .lit (.bool true)], .agg [.lit (.int .i64 0), .lit (.int .i64 0), .lit (.int .i64 0), .lit (.int .i64 0), .lit (.bool false), .lit (.bool false), .lit (.bool false), .lit (.bool true)], .agg [.lit (.int .i64 0), .lit (.int .i64 0), .lit (.int .i64 3), .lit (.int .i64 0), .lit (.bool true), .lit (.bool false), .lit (.bool false), .lit (.bool true)], .agg [.lit (.int .i64 1), .lit (.int .i64 1), .lit (.int .i64 0), .lit (.int .i64 0), .lit (.bool false), .lit (.bool false), .lit (.bool false), .lit (.bool true)], .agg [.lit (.int .i64 2), .lit (.int .i64 1099511627776), .lit (.int .i64 0), .lit (.int .i64 0), .lit (.bool false), .lit (.bool false), .lit (.bool false), .lit (.bool true)], .agg [.lit (.int .i64 2), .lit (.int .i64 1099511627776), .lit (.int .i64 0), .lit (.int .i64 0), .lit (.bool false), .lit (.bool false), .lit (.bool false), .lit (.bool true)], .agg [.lit (.int .i64 2), .lit (.int .i64 2), .lit (.int .i64 0), .lit (.int .i64 0), .lit (.bool false), .lit (.bool false), .lit (.bool false), .lit (.bool false)], .agg [.lit (.int .i64 1), .lit (.int .i64 1), .lit (.int .i64 0), .lit (.int .i64 0), .lit (.bool false), .lit (.bool false), .lit (.bool true), .lit (.bool true)], .agg [.lit (.int .i64 2), .lit (.int .i64 2), .lit (.int .i64 0), .lit (.int .i64 0), .lit (.bool false), .lit (.bool false), .lit (.bool true), .lit (.bool true)], .agg [.lit (.int .i64 2), .lit (.int .i64 2), .lit (.int .i64 0), .lit (.int .i64 0), .lit (.bool false), .lit (.bool false), .lit (.bool true), .lit (.bool true)], .agg [.lit (.int .i64 1), .lit (.int .i64 1), .lit (.int .i64 0), .lit (.int .i64 0), .lit (.bool false), .lit (.bool false), .lit (.bool true), .lit (.bool false)], .agg [.lit (.int .i64 1), .lit (.int .i64 1), .lit (.int .i64 0), .lit (.int .i64 0), .lit (.bool false), .lit (.bool false), .lit (.bool true), .lit (.bool false)], .agg [.lit (.int .i64 1), .lit (.int .i64 1), .lit (.int .i64 0), .lit (.int .i64 9), .lit (.bool false), .lit (.bool false), .lit (.bool true), .lit (.bool false)], .agg [.lit (.int .i64 1), .lit (.int .i64 1), .lit (.int .i64 0), .lit (.int .i64 9), .lit (.bool false), .lit (.bool false), .lit (.bool true), .lit (.bool false)], .agg [.lit (.int .i64 1), .lit (.int .i64 1), .lit (.int .i64 1), .lit (.int .i64 0), .lit (.bool false), .lit (.bool true), .lit (.bool false), .lit (.bool true)], .agg [.lit (.int .i64 2), .lit (.int .i64 2), .lit (.int .i64 1), .lit (.int .i64 0), .lit (.bool false), .lit (.bool true), .lit (.bool false), .lit (.bool true)], .agg [.lit (.int .i64 2), .lit (.int .i64 2), .lit (.int .i64 1), .lit (.int .i64 0), .lit (.bool false), .lit (.bool true), .lit (.bool false), .lit (.bool true)], .agg [.lit (.int .i64 1), .lit (.int .i64 1), .lit (.int .i64 0), .lit (.int .i64 0), .lit (.bool false), .lit (.bool true), .lit (.bool false), .lit (.bool false)], .agg [.lit (.int .i64 1), .lit (.int .i64 1), .lit (.int .i64 0), .lit (.int .i64 0), .lit (.bool false), .lit (.bool true), .lit (.bool false), .lit (.bool false)]]

/-- 'foresightlaw07.TypingMatchesReference': WHATEVER THE INPUT: true; the input reads as it did. -/
def typingMatchesReferenceSpec : ChangeSpec := { name := "typingMatchesReference", fn := fun _ => fun
  | [d1, d2] => { results := [.lit (.bool true)], args := [d1, d2] }
  | _ => none }
def typingMatchesReferenceRow : OpenClaim := { program := "ytdakdpfofgkjoaagreatdoor", sum := "112c7ab453f32bb79be96bdaa3a900c4b3923107aa5d7bd293842e8c68272db7", func := "foresight/foresightlaw07.TypingMatchesReference", spec := "typingMatchesReference", inPlace := ["internal/bytealg.abigen_runtime_cmpstring"], unfollowed := true, recurses := true, named := ["foresight/signal.keys", "foresight/formula.forms"], loops := true, apart := false, laid := [("foresight/signal.keys", laid_foresight_signal_keys), ("foresight/formula.forms", laid_foresight_formula_forms)] }
def TypingMatchesReferenceSaid : Prop := typingMatchesReferenceRow.holds Tryz.pinned (OpenSpec.ofChange typingMatchesReferenceSpec)

/-- ITS FALSE NEIGHBOUR: 'it returns false'. Refute it at one input. -/
def typingMatchesReferenceWrong : ChangeSpec := { name := "typingMatchesReference", fn := fun _ => fun
  | [d1, d2] => { results := [.lit (.bool false)], args := [d1, d2] }
  | _ => none }
def TypingMatchesReferenceWrongFalsely : Prop := typingMatchesReferenceRow.holds Tryz.pinned (OpenSpec.ofChange typingMatchesReferenceWrong)

/-- 'foresightlaw07.TypingSubformulas': WHATEVER THE INPUT: true; the input reads as it did. -/
def typingSubformulasSpec : ChangeSpec := { name := "typingSubformulas", fn := fun _ => fun
  | [d1, d2, d3] => { results := [.lit (.bool true)], args := [d1, d2, d3] }
  | _ => none }
def typingSubformulasRow : OpenClaim := { program := "ytdakdpfofgkjoaagreatdoor", sum := "112c7ab453f32bb79be96bdaa3a900c4b3923107aa5d7bd293842e8c68272db7", func := "foresight/foresightlaw07.TypingSubformulas", spec := "typingSubformulas", inPlace := ["internal/bytealg.abigen_runtime_cmpstring"], unfollowed := true, recurses := true, named := ["foresight/signal.keys", "foresight/formula.forms"], loops := true, apart := false, laid := [("foresight/signal.keys", laid_foresight_signal_keys), ("foresight/formula.forms", laid_foresight_formula_forms)] }
def TypingSubformulasSaid : Prop := typingSubformulasRow.holds Tryz.pinned (OpenSpec.ofChange typingSubformulasSpec)

/-- ITS FALSE NEIGHBOUR: 'it returns false'. Refute it at one input. -/
def typingSubformulasWrong : ChangeSpec := { name := "typingSubformulas", fn := fun _ => fun
  | [d1, d2, d3] => { results := [.lit (.bool false)], args := [d1, d2, d3] }
  | _ => none }
def TypingSubformulasWrongFalsely : Prop := typingSubformulasRow.holds Tryz.pinned (OpenSpec.ofChange typingSubformulasWrong)

/- THE SECOND FORM. 'bulk': how many values and letters a reading holds, each counted each time it is reached (what is shared counts as often as it is met; a slice's spare places count too). A statement '..UptoSaid' is the law's where the arguments, and the package variables that the reading takes, are together of bulk at most 1048576: NARROWER than '..Said'. Prove '..Said' where nothing that the law and all that it calls make is longer than what came in: it says more and counts as full. Else prove '..UptoSaid'. A law counts once. -/
mutual
def uptoBulk {H : Type} : DataW H → Nat
  | .lit (.string bytes) => bytes.length + 1
  | .lit _ => 1
  | .nil => 1
  | .ptr d => uptoBulk d + 1
  | .slice elems spare => uptoBulkAll elems + uptoBulkAll spare + 1
  | .agg parts => uptoBulkAll parts + 1
  | .iface _ d => uptoBulk d + 1
  | .map entries => uptoBulkEntries entries + 1
  | .held _ => 1
def uptoBulkAll {H : Type} : List (DataW H) → Nat
  | [] => 0
  | d :: r => uptoBulk d + uptoBulkAll r
def uptoBulkEntries {H : Type} : List (Lit × DataW H) → Nat
  | [] => 0
  | x :: r => uptoBulkEntry x + uptoBulkEntries r
def uptoBulkEntry {H : Type} : Lit × DataW H → Nat
  | (.string bytes, d) => bytes.length + uptoBulk d + 1
  | (_, d) => uptoBulk d + 1
 end
def uptoSmall : (H : Type) → List (DataW H) → Bool := fun _ ds => decide (uptoBulkAll ds ≤ 1048576)
def OpenSpec.upto (s : _root_.Go.ChangeSpec) : _root_.Go.OpenSpec := { _root_.Go.OpenSpec.ofChange s with cond := some uptoSmall }

/-- 'foresightlaw07.TypingMatchesReference', WHERE WHAT IT READS IS OF BULK AT MOST 1048576: true; the input reads as it did. -/
def typingMatchesReferenceUptoRow : OpenClaim := { program := "ytdakdpfofgkjoaagreatdoor", sum := "112c7ab453f32bb79be96bdaa3a900c4b3923107aa5d7bd293842e8c68272db7", func := "foresight/foresightlaw07.TypingMatchesReference", spec := "typingMatchesReference", inPlace := ["internal/bytealg.abigen_runtime_cmpstring"], unfollowed := true, recurses := true, named := ["foresight/signal.keys", "foresight/formula.forms"], loops := true, apart := false, laid := [("foresight/signal.keys", laid_foresight_signal_keys), ("foresight/formula.forms", laid_foresight_formula_forms)], narrowed := true }
def TypingMatchesReferenceUptoSaid : Prop := typingMatchesReferenceUptoRow.holds Tryz.pinned (OpenSpec.upto typingMatchesReferenceSpec)

/-- 'foresightlaw07.TypingSubformulas', WHERE WHAT IT READS IS OF BULK AT MOST 1048576: true; the input reads as it did. -/
def typingSubformulasUptoRow : OpenClaim := { program := "ytdakdpfofgkjoaagreatdoor", sum := "112c7ab453f32bb79be96bdaa3a900c4b3923107aa5d7bd293842e8c68272db7", func := "foresight/foresightlaw07.TypingSubformulas", spec := "typingSubformulas", inPlace := ["internal/bytealg.abigen_runtime_cmpstring"], unfollowed := true, recurses := true, named := ["foresight/signal.keys", "foresight/formula.forms"], loops := true, apart := false, laid := [("foresight/signal.keys", laid_foresight_signal_keys), ("foresight/formula.forms", laid_foresight_formula_forms)], narrowed := true }
def TypingSubformulasUptoSaid : Prop := typingSubformulasUptoRow.holds Tryz.pinned (OpenSpec.upto typingSubformulasSpec)

end Rows
end Go.Proofs.YtdakdpfofgkjoaaGreatDoor
