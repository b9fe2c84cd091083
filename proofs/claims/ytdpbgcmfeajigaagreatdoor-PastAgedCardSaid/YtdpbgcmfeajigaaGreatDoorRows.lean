/-
  NARROWER THAN 'FOR EVERY INPUT', by the rows' own cells (each row's printed sentence says how): PastNodes: loops, laid · PastTruth: loops, laid · PastDuality: loops, laid · PastAged: loops, laid · PastPuts: loops, laid.
  DERIVED. THE GIVEN ROWS OF THIS SEAT. 5 by the template 'for every input the law returns true; each argument reads behind the call as it read before'; 0 by the template 'total and deterministic' (their statements: YtdpbgcmfeajigaaGreatDoorTotals.lean).
  GIVEN WITH THE SEED: the statements are not yours to turn. If you find one false, say at which input.
  Laid BY PROGRAM, IN A SANDBOX (cutbox-rows.mjs): the forced cells as the released guide's own fill.sh prints them over the translation 91378516fb47c116… (all of the seat's roots in one cut). By AI agents, Wed Nov 11 2026. No macro, syntax, notation, axiom, sorry.
-/
import Derived.Test.YtdpbgcmfeajigaaGreatDoorChecked
import GoSem.Claim
import GoSem.ClaimJoined
import GoSem.ClaimMapViews
import Derived.JoinedTies
import Derived.KernelRfl
namespace Go.Proofs.YtdpbgcmfeajigaaGreatDoor
/- THE CELL 'sum', in the pinned program and in every row, IS THE sha256 OF THE DUMP (.gsa) THAT YtdpbgcmfeajigaaGreatDoorProg.lean LOADS. Nothing in Lean hashes anything: it is a label: what it is worth is what the hold of that sum in a sandbox is worth. -/
noncomputable def Tryz.pinned : Pinned := { name := "ytdpbgcmfeajigaagreatdoor", sum := "91378516fb47c116c3991fd813dc2336af40bf7f7b97d265e3ac148a55af171d", checked := Tryz.checked }
namespace Rows
def none {H : Type} : Left H := { results := [], args := [] }

/- WHAT THE LISTED PACKAGE-LEVEL VARIABLES READ AS WHEN THE CALL BEGINS. Each datum BY PROGRAM (the guide's laid-datum.mjs) off the statement by which the dump's own 'gosem.cut.vars' lays the variable. In a bare row this is a premise. The card (YtdpbgcmfeajigaaGreatDoorCards.lean) ties it to the program's text. -/
def laid_foresight_signal_keys {H : Type} : DataW H := .agg [.lit (.string [105, 110, 112, 117, 116]), .lit (.string [111, 117, 116, 112, 117, 116]), .lit (.string [112, 97, 114, 116]), .lit (.string [97, 115, 115, 117, 109, 101]), .lit (.string [103, 117, 97, 114, 97, 110, 116, 101, 101]), .lit (.string [116, 114, 117, 101]), .lit (.string [102, 97, 108, 115, 101]), .lit (.string [97, 100, 100]), .lit (.string [100, 114, 111, 112]), .lit (.string [114, 101, 112, 108, 97, 99, 101])]
def laid_foresight_formula_forms {H : Type} : DataW H := .agg [.agg [.lit (.int .i64 0), .lit (.int .i64 0), .lit (.int .i64 0), .lit (.int .i64 0), .lit (.bool false), .lit (.bool false), .lit (.bool false), .lit (.bool false)], .agg [.lit (.int .i64 0), .lit (.int .i64 0), .lit (.int .i64 0), .lit (.int .i64 0), .lit (.bool false), .lit (.bool false), .lit (.bool false), .lit (.bool true)], .agg [.lit (.int .i64 0), .lit (.int .i64 0), .lit (.int .i64 0), .lit (.int .i64 0), .lit (.bool false), .lit (.bool false), .lit (.bool false), .lit (.bool true)], .agg [.lit (.int .i64 0), .lit (.int .i64 0), .lit (.int .i64 3), .lit (.int .i64 0), .lit (.bool true), .lit (.bool false), .lit (.bool false), .lit (.bool true)], .agg [.lit (.int .i64 1), .lit (.int .i64 1), .lit (.int .i64 0), .lit (.int .i64 0), .lit (.bool false), .lit (.bool false), .lit (.bool false), .lit (.bool true)], .agg [.lit (.int .i64 2), .lit (.int .i64 1099511627776), .lit (.int .i64 0), .lit (.int .i64 0), .lit (.bool false), .lit (.bool false), .lit (.bool false), .lit (.bool true)], .agg [.lit (.int .i64 2), .lit (.int .i64 1099511627776), .lit (.int .i64 0), .lit (.int .i64 0), .lit (.bool false), .lit (.bool false), .lit (.bool false), .lit (.bool true)], .agg [.lit (.int .i64 2), .lit (.int .i64 2), .lit (.int .i64 0), .lit (.int .i64 0), .lit (.bool false), .lit (.bool false), .lit (.bool false), .lit (.bool false)], .agg [.lit (.int .i64 1), .lit (.int .i64 1), .lit (.int .i64 0), .lit (.int .i64 0), .lit (.bool false), .lit (.bool false), .lit (.bool true), .lit (.bool true)], .agg [.lit (.int .i64 2), .lit (.int .i64 2), .lit (.int .i64 0), .lit (.int .i64 0), .lit (.bool false), .lit (.bool false), .lit (.bool true), .lit (.bool true)], .agg [.lit (.int .i64 2), .lit (.int .i64 2), .lit (.int .i64 0), .lit (.int .i64 0), .lit (.bool false), .lit (.bool false), .lit (.bool true), .lit (.bool true)], .agg [.lit (.int .i64 1), .lit (.int .i64 1), .lit (.int .i64 0), .lit (.int .i64 0), .lit (.bool false), .lit (.bool false), .lit (.bool true), .lit (.bool false)], .agg [.lit (.int .i64 1), .lit (.int .i64 1), .lit (.int .i64 0), .lit (.int .i64 0), .lit (.bool false), .lit (.bool false), .lit (.bool true), .lit (.bool false)], .agg [.lit (.int .i64 1), .lit (.int .i64 1), .lit (.int .i64 0), .lit (.int .i64 9), .lit (.bool false), .lit (.bool false), .lit (.bool true), .lit (.bool false)], .agg [.lit (.int .i64 1), .lit (.int .i64 1), .lit (.int .i64 0), .lit (.int .i64 9), .lit (.bool false), .lit (.bool false), .lit (.bool true), .lit (.bool false)], .agg [.lit (.int .i64 1), .lit (.int .i64 1), .lit (.int .i64 1), .lit (.int .i64 0), .lit (.bool false), .lit (.bool true), .lit (.bool false), .lit (.bool true)], .agg [.lit (.int .i64 2), .lit (.int .i64 2), .lit (.int .i64 1), .lit (.int .i64 0), .lit (.bool false), .lit (.bool true), .lit (.bool false), .lit (.bool true)], .agg [.lit (.int .i64 2), .lit (.int .i64 2), .lit (.int .i64 1), .lit (.int .i64 0), .lit (.bool false), .lit (.bool true), .lit (.bool false), .lit (.bool true)], .agg [.lit (.int .i64 1), .lit (.int .i64 1), .lit (.int .i64 0), .lit (.int .i64 0), .lit (.bool false), .lit (.bool true), .lit (.bool false), .lit (.bool false)], .agg [.lit (.int .i64 1), .lit (.int .i64 1), .lit (.int .i64 0), .lit (.int .i64 0), .lit (.bool false), .lit (.bool true), .lit (.bool false), .lit (.bool false)]]

/-- 'foresightlaw09.PastNodes': WHATEVER THE INPUT: true; the input reads as it did. -/
def pastNodesSpec : ChangeSpec := { name := "pastNodes", fn := fun _ => fun
  | [d1, d2] => { results := [.lit (.bool true)], args := [d1, d2] }
  | _ => none }
def pastNodesRow : OpenClaim := { program := "ytdpbgcmfeajigaagreatdoor", sum := "91378516fb47c116c3991fd813dc2336af40bf7f7b97d265e3ac148a55af171d", func := "foresight/foresightlaw09.PastNodes", spec := "pastNodes", inPlace := ["internal/bytealg.abigen_runtime_cmpstring"], unfollowed := true, recurses := true, named := ["foresight/formula.forms", "foresight/signal.keys"], loops := true, apart := false, laid := [("foresight/signal.keys", laid_foresight_signal_keys), ("foresight/formula.forms", laid_foresight_formula_forms)] }
def PastNodesSaid : Prop := pastNodesRow.holds Tryz.pinned (OpenSpec.ofChange pastNodesSpec)

/-- ITS FALSE NEIGHBOUR: 'it returns false'. Refute it at one input. -/
def pastNodesWrong : ChangeSpec := { name := "pastNodes", fn := fun _ => fun
  | [d1, d2] => { results := [.lit (.bool false)], args := [d1, d2] }
  | _ => none }
def PastNodesWrongFalsely : Prop := pastNodesRow.holds Tryz.pinned (OpenSpec.ofChange pastNodesWrong)

/-- 'foresightlaw09.PastTruth': WHATEVER THE INPUT: true; the input reads as it did. -/
def pastTruthSpec : ChangeSpec := { name := "pastTruth", fn := fun _ => fun
  | [d1, d2, d3, d4] => { results := [.lit (.bool true)], args := [d1, d2, d3, d4] }
  | _ => none }
def pastTruthRow : OpenClaim := { program := "ytdpbgcmfeajigaagreatdoor", sum := "91378516fb47c116c3991fd813dc2336af40bf7f7b97d265e3ac148a55af171d", func := "foresight/foresightlaw09.PastTruth", spec := "pastTruth", inPlace := ["internal/bytealg.abigen_runtime_cmpstring"], unfollowed := true, recurses := true, named := ["foresight/formula.forms", "foresight/signal.keys"], loops := true, apart := false, laid := [("foresight/signal.keys", laid_foresight_signal_keys), ("foresight/formula.forms", laid_foresight_formula_forms)] }
def PastTruthSaid : Prop := pastTruthRow.holds Tryz.pinned (OpenSpec.ofChange pastTruthSpec)

/-- ITS FALSE NEIGHBOUR: 'it returns false'. Refute it at one input. -/
def pastTruthWrong : ChangeSpec := { name := "pastTruth", fn := fun _ => fun
  | [d1, d2, d3, d4] => { results := [.lit (.bool false)], args := [d1, d2, d3, d4] }
  | _ => none }
def PastTruthWrongFalsely : Prop := pastTruthRow.holds Tryz.pinned (OpenSpec.ofChange pastTruthWrong)

/-- 'foresightlaw09.PastDuality': WHATEVER THE INPUT: true; the input reads as it did. -/
def pastDualitySpec : ChangeSpec := { name := "pastDuality", fn := fun _ => fun
  | [d1, d2, d3, d4] => { results := [.lit (.bool true)], args := [d1, d2, d3, d4] }
  | _ => none }
def pastDualityRow : OpenClaim := { program := "ytdpbgcmfeajigaagreatdoor", sum := "91378516fb47c116c3991fd813dc2336af40bf7f7b97d265e3ac148a55af171d", func := "foresight/foresightlaw09.PastDuality", spec := "pastDuality", inPlace := ["internal/bytealg.abigen_runtime_cmpstring"], unfollowed := true, recurses := true, named := ["foresight/formula.forms", "foresight/signal.keys"], loops := true, apart := false, laid := [("foresight/signal.keys", laid_foresight_signal_keys), ("foresight/formula.forms", laid_foresight_formula_forms)] }
def PastDualitySaid : Prop := pastDualityRow.holds Tryz.pinned (OpenSpec.ofChange pastDualitySpec)

/-- ITS FALSE NEIGHBOUR: 'it returns false'. Refute it at one input. -/
def pastDualityWrong : ChangeSpec := { name := "pastDuality", fn := fun _ => fun
  | [d1, d2, d3, d4] => { results := [.lit (.bool false)], args := [d1, d2, d3, d4] }
  | _ => none }
def PastDualityWrongFalsely : Prop := pastDualityRow.holds Tryz.pinned (OpenSpec.ofChange pastDualityWrong)

/-- 'foresightlaw09.PastAged': WHATEVER THE INPUT: true; the input reads as it did. -/
def pastAgedSpec : ChangeSpec := { name := "pastAged", fn := fun _ => fun
  | [d1, d2, d3, d4, d5] => { results := [.lit (.bool true)], args := [d1, d2, d3, d4, d5] }
  | _ => none }
def pastAgedRow : OpenClaim := { program := "ytdpbgcmfeajigaagreatdoor", sum := "91378516fb47c116c3991fd813dc2336af40bf7f7b97d265e3ac148a55af171d", func := "foresight/foresightlaw09.PastAged", spec := "pastAged", inPlace := ["internal/bytealg.abigen_runtime_cmpstring"], unfollowed := true, recurses := true, named := ["foresight/formula.forms", "foresight/signal.keys"], loops := true, apart := false, laid := [("foresight/signal.keys", laid_foresight_signal_keys), ("foresight/formula.forms", laid_foresight_formula_forms)] }
def PastAgedSaid : Prop := pastAgedRow.holds Tryz.pinned (OpenSpec.ofChange pastAgedSpec)

/-- ITS FALSE NEIGHBOUR: 'it returns false'. Refute it at one input. -/
def pastAgedWrong : ChangeSpec := { name := "pastAged", fn := fun _ => fun
  | [d1, d2, d3, d4, d5] => { results := [.lit (.bool false)], args := [d1, d2, d3, d4, d5] }
  | _ => none }
def PastAgedWrongFalsely : Prop := pastAgedRow.holds Tryz.pinned (OpenSpec.ofChange pastAgedWrong)

/-- 'foresightlaw09.PastPuts': WHATEVER THE INPUT: true; the input reads as it did. -/
def pastPutsSpec : ChangeSpec := { name := "pastPuts", fn := fun _ => fun
  | [d1, d2, d3, d4] => { results := [.lit (.bool true)], args := [d1, d2, d3, d4] }
  | _ => none }
def pastPutsRow : OpenClaim := { program := "ytdpbgcmfeajigaagreatdoor", sum := "91378516fb47c116c3991fd813dc2336af40bf7f7b97d265e3ac148a55af171d", func := "foresight/foresightlaw09.PastPuts", spec := "pastPuts", inPlace := ["internal/bytealg.abigen_runtime_cmpstring"], unfollowed := true, recurses := true, named := ["foresight/formula.forms", "foresight/signal.keys"], loops := true, apart := false, laid := [("foresight/signal.keys", laid_foresight_signal_keys), ("foresight/formula.forms", laid_foresight_formula_forms)] }
def PastPutsSaid : Prop := pastPutsRow.holds Tryz.pinned (OpenSpec.ofChange pastPutsSpec)

/-- ITS FALSE NEIGHBOUR: 'it returns false'. Refute it at one input. -/
def pastPutsWrong : ChangeSpec := { name := "pastPuts", fn := fun _ => fun
  | [d1, d2, d3, d4] => { results := [.lit (.bool false)], args := [d1, d2, d3, d4] }
  | _ => none }
def PastPutsWrongFalsely : Prop := pastPutsRow.holds Tryz.pinned (OpenSpec.ofChange pastPutsWrong)

/- THE SECOND FORM. 'bulk': how many values and letters a reading holds, each counted each time it is reached (what is shared counts as often as it is met; a slice's spare places count too). A statement '..UptoSaid' is the law's where the arguments, and the package variables that the reading takes, are together of bulk at most 1048576: NARROWER than '..Said'. Prove '..Said' where nothing that the law and all that it calls make is longer than what came in: it says more and counts as full. Else prove '..UptoSaid'. A law counts once. -/
mutual
def uptoBulk {H : Type} : DataW H → Nat
  | .lit (.string bytes) => bytes.length + 1
  | .lit _ => 1
  | .nil => 1
  | .ptr d => uptoBulk d + 1
  | .slice elems spare => uptoBulkAll elems + uptoBulkAll spare + 1
  | .agg parts => uptoBulkAll parts + 1
  | .iface _ d => uptoBulk d + 1
  | .map entries => uptoBulkEntries entries + 1
  | .held _ => 1
def uptoBulkAll {H : Type} : List (DataW H) → Nat
  | [] => 0
  | d :: r => uptoBulk d + uptoBulkAll r
def uptoBulkEntries {H : Type} : List (Lit × DataW H) → Nat
  | [] => 0
  | x :: r => uptoBulkEntry x + uptoBulkEntries r
def uptoBulkEntry {H : Type} : Lit × DataW H → Nat
  | (.string bytes, d) => bytes.length + uptoBulk d + 1
  | (_, d) => uptoBulk d + 1
 end
def uptoSmall : (H : Type) → List (DataW H) → Bool := fun _ ds => decide (uptoBulkAll ds ≤ 1048576)
def OpenSpec.upto (s : _root_.Go.ChangeSpec) : _root_.Go.OpenSpec := { _root_.Go.OpenSpec.ofChange s with cond := some uptoSmall }

/-- 'foresightlaw09.PastNodes', WHERE WHAT IT READS IS OF BULK AT MOST 1048576: true; the input reads as it did. -/
def pastNodesUptoRow : OpenClaim := { program := "ytdpbgcmfeajigaagreatdoor", sum := "91378516fb47c116c3991fd813dc2336af40bf7f7b97d265e3ac148a55af171d", func := "foresight/foresightlaw09.PastNodes", spec := "pastNodes", inPlace := ["internal/bytealg.abigen_runtime_cmpstring"], unfollowed := true, recurses := true, named := ["foresight/formula.forms", "foresight/signal.keys"], loops := true, apart := false, laid := [("foresight/signal.keys", laid_foresight_signal_keys), ("foresight/formula.forms", laid_foresight_formula_forms)], narrowed := true }
def PastNodesUptoSaid : Prop := pastNodesUptoRow.holds Tryz.pinned (OpenSpec.upto pastNodesSpec)

/-- 'foresightlaw09.PastTruth', WHERE WHAT IT READS IS OF BULK AT MOST 1048576: true; the input reads as it did. -/
def pastTruthUptoRow : OpenClaim := { program := "ytdpbgcmfeajigaagreatdoor", sum := "91378516fb47c116c3991fd813dc2336af40bf7f7b97d265e3ac148a55af171d", func := "foresight/foresightlaw09.PastTruth", spec := "pastTruth", inPlace := ["internal/bytealg.abigen_runtime_cmpstring"], unfollowed := true, recurses := true, named := ["foresight/formula.forms", "foresight/signal.keys"], loops := true, apart := false, laid := [("foresight/signal.keys", laid_foresight_signal_keys), ("foresight/formula.forms", laid_foresight_formula_forms)], narrowed := true }
def PastTruthUptoSaid : Prop := pastTruthUptoRow.holds Tryz.pinned (OpenSpec.upto pastTruthSpec)

/-- 'foresightlaw09.PastDuality', WHERE WHAT IT READS IS OF BULK AT MOST 1048576: true; the input reads as it did. -/
def pastDualityUptoRow : OpenClaim := { program := "ytdpbgcmfeajigaagreatdoor", sum := "91378516fb47c116c3991fd813dc2336af40bf7f7b97d265e3ac148a55af171d", func := "foresight/foresightlaw09.PastDuality", spec := "pastDuality", inPlace := ["internal/bytealg.abigen_runtime_cmpstring"], unfollowed := true, recurses := true, named := ["foresight/formula.forms", "foresight/signal.keys"], loops := true, apart := false, laid := [("foresight/signal.keys", laid_foresight_signal_keys), ("foresight/formula.forms", laid_foresight_formula_forms)], narrowed := true }
def PastDualityUptoSaid : Prop := pastDualityUptoRow.holds Tryz.pinned (OpenSpec.upto pastDualitySpec)

/-- 'foresightlaw09.PastAged', WHERE WHAT IT READS IS OF BULK AT MOST 1048576: true; the input reads as it did. -/
def pastAgedUptoRow : OpenClaim := { program := "ytdpbgcmfeajigaagreatdoor", sum := "91378516fb47c116c3991fd813dc2336af40bf7f7b97d265e3ac148a55af171d", func := "foresight/foresightlaw09.PastAged", spec := "pastAged", inPlace := ["internal/bytealg.abigen_runtime_cmpstring"], unfollowed := true, recurses := true, named := ["foresight/formula.forms", "foresight/signal.keys"], loops := true, apart := false, laid := [("foresight/signal.keys", laid_foresight_signal_keys), ("foresight/formula.forms", laid_foresight_formula_forms)], narrowed := true }
def PastAgedUptoSaid : Prop := pastAgedUptoRow.holds Tryz.pinned (OpenSpec.upto pastAgedSpec)

/-- 'foresightlaw09.PastPuts', WHERE WHAT IT READS IS OF BULK AT MOST 1048576: true; the input reads as it did. -/
def pastPutsUptoRow : OpenClaim := { program := "ytdpbgcmfeajigaagreatdoor", sum := "91378516fb47c116c3991fd813dc2336af40bf7f7b97d265e3ac148a55af171d", func := "foresight/foresightlaw09.PastPuts", spec := "pastPuts", inPlace := ["internal/bytealg.abigen_runtime_cmpstring"], unfollowed := true, recurses := true, named := ["foresight/formula.forms", "foresight/signal.keys"], loops := true, apart := false, laid := [("foresight/signal.keys", laid_foresight_signal_keys), ("foresight/formula.forms", laid_foresight_formula_forms)], narrowed := true }
def PastPutsUptoSaid : Prop := pastPutsUptoRow.holds Tryz.pinned (OpenSpec.upto pastPutsSpec)

end Rows
end Go.Proofs.YtdpbgcmfeajigaaGreatDoor
