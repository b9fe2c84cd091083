/-
  NARROWER THAN 'FOR EVERY INPUT', by the rows' own cells (each row's printed sentence says how): FormulaKernels: loops, laid · FormulaNegation: loops, laid · FormulaCanon: loops, laid · FormulaMatchesReference: loops, laid · FormulaLattice: loops, laid · FormulaDuality: loops, laid.
  DERIVED. THE GIVEN ROWS OF THIS SEAT. 6 by the template 'for every input the law returns true; each argument reads behind the call as it read before'; 0 by the template 'total and deterministic' (their statements: YthdidjmmhhchmaaGreatDoorTotals.lean).
  GIVEN WITH THE SEED: the statements are not yours to turn. If you find one false, say at which input.
  Laid BY PROGRAM, IN A SANDBOX (cutbox-rows.mjs): the forced cells as the released guide's own fill.sh prints them over the translation 27f2e04f0feb67e2… (all of the seat's roots in one cut). By AI agents, Wed Nov 11 2026. No macro, syntax, notation, axiom, sorry.
-/
import Derived.Test.YthdidjmmhhchmaaGreatDoorChecked
import GoSem.Claim
import GoSem.ClaimJoined
import GoSem.ClaimMapViews
import Derived.JoinedTies
import Derived.KernelRfl
namespace Go.Proofs.YthdidjmmhhchmaaGreatDoor
/- THE CELL 'sum', in the pinned program and in every row, IS THE sha256 OF THE DUMP (.gsa) THAT YthdidjmmhhchmaaGreatDoorProg.lean LOADS. Nothing in Lean hashes anything: it is a label: what it is worth is what the hold of that sum in a sandbox is worth. -/
noncomputable def Tryz.pinned : Pinned := { name := "ythdidjmmhhchmaagreatdoor", sum := "27f2e04f0feb67e2f72a00336a3e38932f579baf7a659733675ac865ecc1a963", checked := Tryz.checked }
namespace Rows
def none {H : Type} : Left H := { results := [], args := [] }

/- WHAT THE LISTED PACKAGE-LEVEL VARIABLES READ AS WHEN THE CALL BEGINS. Each datum BY PROGRAM (the guide's laid-datum.mjs) off the statement by which the dump's own 'gosem.cut.vars' lays the variable. In a bare row this is a premise. The card (YthdidjmmhhchmaaGreatDoorCards.lean) ties it to the program's text. -/
def laid_foresight_signal_keys {H : Type} : DataW H := .agg [.lit (.string [105, 110, 112, 117, 116]), .lit (.string [111, 117, 116, 112, 117, 116]), .lit (.string [112, 97, 114, 116]), .lit (.string [97, 115, 115, 117, 109, 101]), .lit (.string [103, 117, 97, 114, 97, 110, 116, 101, 101]), .lit (.string [116, 114, 117, 101]), .lit (.string [102, 97, 108, 115, 101]), .lit (.string [97, 100, 100]), .lit (.string [100, 114, 111, 112]), .lit (.string [114, 101, 112, 108, 97, 99, 101])]
def laid_foresight_formula_forms {H : Type} : DataW H := .agg [.agg [.lit (.int .i64 0), .lit (.int .i64 0), .lit (.int .i64 0), .lit (.int .i64 0), .lit (.bool false), .lit (.bool false), .lit (.bool false), .lit (.bool false)], .agg [.lit (.int .i64 0), .lit (.int .i64 0), .lit (.int .i64 0), .lit (.int .i64 0), .lit (.bool false), .lit (.bool false), .lit (.bool false), .lit (.bool true)], .agg [.lit (.int .i64 0), .lit (.int .i64 0), .lit (.int .i64 0), .lit (.int .i64 0), .lit (.bool false), .lit (.bool false), .lit (.bool false), .lit (.bool true)], .agg [.lit (.int .i64 0), .lit (.int .i64 0), .lit (.int .i64 3), .lit (.int .i64 0), .lit (.bool true), .lit (.bool false), .lit (.bool false), .lit (.bool true)], .agg [.lit (.int .i64 1), .lit (.int .i64 1), .lit (.int .i64 0), .lit (.int .i64 0), .lit (.bool false), .lit (.bool false), .lit (.bool false), .lit (.bool true)], .agg [.lit (.int .i64 2), .lit (.int .i64 1099511627776), .lit (.int .i64 0), .lit (.int .i64 0), .lit (.bool false), .lit (.bool false), .lit (.bool false), .lit (.bool true)], .agg [.lit (.int .i64 2), .lit (.int .i64 1099511627776), .lit (.int .i64 0), .lit (.int .i64 0), .lit (.bool false), .lit (.bool false), .lit (.bool false), .lit (.bool true)], .agg [.lit (.int .i64 2), .lit (.int .i64 2), .lit (.int .i64 0), .lit (.int .i64 0), .lit (.bool false), .lit (.bool false), .lit (.bool false), .lit (.bool false)], .agg [.lit (.int .i64 1), .lit (.int .i64 1), .lit (.int .i64 0), .lit (.int .i64 0), .lit (.bool false), .lit (.bool false), .lit (.bool true), .lit (.bool true)], .agg [.lit (.int .i64 2), .lit (.int .i64 2), .lit (.int .i64 0), .lit (.int .i64 0), .lit (.bool false), .lit (.bool false), .lit (.bool true), .lit (.bool true)], .agg [.lit (.int .i64 2), .lit (.int .i64 2), .lit (.int .i64 0), .lit (.int .i64 0), .lit (.bool false), .lit (.bool false), .lit (.bool true), .lit (.bool true)], .agg [.lit (.int .i64 1), .lit (.int .i64 1), .lit (.int .i64 0), .lit (.int .i64 0), .lit (.bool false), .lit (.bool false), .lit (.bool true), .lit (.bool false)], .agg [.lit (.int .i64 1), .lit (.int .i64 1), .lit (.int .i64 0), .lit (.int .i64 0), .lit (.bool false), .lit (.bool false), .lit (.bool true), .lit (.bool false)], .agg [.lit (.int .i64 1), .lit (.int .i64 1), .lit (.int .i64 0), .lit (.int .i64 9), .lit (.bool false), .lit (.bool false), .lit (.bool true), .lit (.bool false)], .agg [.lit (.int .i64 1), .lit (.int .i64 1), .lit (.int .i64 0), .lit (.int .i64 9), .lit (.bool false), .lit (.bool false), .lit (.bool true), .lit (.bool false)], .agg [.lit (.int .i64 1), .lit (.int .i64 1), .lit (.int .i64 1), .lit (.int .i64 0), .lit (.bool false), .lit (.bool true), .lit (.bool false), .lit (.bool true)], .agg [.lit (.int .i64 2), .lit (.int .i64 2), .lit (.int .i64 1), .lit (.int .i64 0), .lit (.bool false), .lit (.bool true), .lit (.bool false), .lit (.bool true)], .agg [.lit (.int .i64 2), .lit (.int .i64 2), .lit (.int .i64 1), .lit (.int .i64 0), .lit (.bool false), .lit (.bool true), .lit (.bool false), .lit (.bool true)], .agg [.lit (.int .i64 1), .lit (.int .i64 1), .lit (.int .i64 0), .lit (.int .i64 0), .lit (.bool false), .lit (.bool true), .lit (.bool false), .lit (.bool false)], .agg [.lit (.int .i64 1), .lit (.int .i64 1), .lit (.int .i64 0), .lit (.int .i64 0), .lit (.bool false), .lit (.bool true), .lit (.bool false), .lit (.bool false)]]

/-- 'foresightlaw03.FormulaKernels': WHATEVER THE INPUT: true; the input reads as it did. -/
def formulaKernelsSpec : ChangeSpec := { name := "formulaKernels", fn := fun _ => fun
  | [d] => { results := [.lit (.bool true)], args := [d] }
  | _ => none }
def formulaKernelsRow : OpenClaim := { program := "ythdidjmmhhchmaagreatdoor", sum := "27f2e04f0feb67e2f72a00336a3e38932f579baf7a659733675ac865ecc1a963", func := "foresight/foresightlaw03.FormulaKernels", spec := "formulaKernels", inPlace := ["internal/bytealg.abigen_runtime_cmpstring"], unfollowed := true, recurses := true, named := ["foresight/formula.forms", "foresight/signal.keys"], loops := true, apart := false, laid := [("foresight/signal.keys", laid_foresight_signal_keys), ("foresight/formula.forms", laid_foresight_formula_forms)] }
def FormulaKernelsSaid : Prop := formulaKernelsRow.holds Tryz.pinned (OpenSpec.ofChange formulaKernelsSpec)

/-- ITS FALSE NEIGHBOUR: 'it returns false'. Refute it at one input. -/
def formulaKernelsWrong : ChangeSpec := { name := "formulaKernels", fn := fun _ => fun
  | [d] => { results := [.lit (.bool false)], args := [d] }
  | _ => none }
def FormulaKernelsWrongFalsely : Prop := formulaKernelsRow.holds Tryz.pinned (OpenSpec.ofChange formulaKernelsWrong)

/-- 'foresightlaw03.FormulaNegation': WHATEVER THE INPUT: true; the input reads as it did. -/
def formulaNegationSpec : ChangeSpec := { name := "formulaNegation", fn := fun _ => fun
  | [d] => { results := [.lit (.bool true)], args := [d] }
  | _ => none }
def formulaNegationRow : OpenClaim := { program := "ythdidjmmhhchmaagreatdoor", sum := "27f2e04f0feb67e2f72a00336a3e38932f579baf7a659733675ac865ecc1a963", func := "foresight/foresightlaw03.FormulaNegation", spec := "formulaNegation", inPlace := ["internal/bytealg.abigen_runtime_cmpstring"], unfollowed := true, recurses := true, named := ["foresight/formula.forms", "foresight/signal.keys"], loops := true, apart := false, laid := [("foresight/signal.keys", laid_foresight_signal_keys), ("foresight/formula.forms", laid_foresight_formula_forms)] }
def FormulaNegationSaid : Prop := formulaNegationRow.holds Tryz.pinned (OpenSpec.ofChange formulaNegationSpec)

/-- ITS FALSE NEIGHBOUR: 'it returns false'. Refute it at one input. -/
def formulaNegationWrong : ChangeSpec := { name := "formulaNegation", fn := fun _ => fun
  | [d] => { results := [.lit (.bool false)], args := [d] }
  | _ => none }
def FormulaNegationWrongFalsely : Prop := formulaNegationRow.holds Tryz.pinned (OpenSpec.ofChange formulaNegationWrong)

/-- 'foresightlaw03.FormulaCanon': WHATEVER THE INPUT: true; the input reads as it did. -/
def formulaCanonSpec : ChangeSpec := { name := "formulaCanon", fn := fun _ => fun
  | [d] => { results := [.lit (.bool true)], args := [d] }
  | _ => none }
def formulaCanonRow : OpenClaim := { program := "ythdidjmmhhchmaagreatdoor", sum := "27f2e04f0feb67e2f72a00336a3e38932f579baf7a659733675ac865ecc1a963", func := "foresight/foresightlaw03.FormulaCanon", spec := "formulaCanon", inPlace := ["internal/bytealg.abigen_runtime_cmpstring"], unfollowed := true, recurses := true, named := ["foresight/formula.forms", "foresight/signal.keys"], loops := true, apart := false, laid := [("foresight/signal.keys", laid_foresight_signal_keys), ("foresight/formula.forms", laid_foresight_formula_forms)] }
def FormulaCanonSaid : Prop := formulaCanonRow.holds Tryz.pinned (OpenSpec.ofChange formulaCanonSpec)

/-- ITS FALSE NEIGHBOUR: 'it returns false'. Refute it at one input. -/
def formulaCanonWrong : ChangeSpec := { name := "formulaCanon", fn := fun _ => fun
  | [d] => { results := [.lit (.bool false)], args := [d] }
  | _ => none }
def FormulaCanonWrongFalsely : Prop := formulaCanonRow.holds Tryz.pinned (OpenSpec.ofChange formulaCanonWrong)

/-- 'foresightlaw03.FormulaMatchesReference': WHATEVER THE INPUT: true; the input reads as it did. -/
def formulaMatchesReferenceSpec : ChangeSpec := { name := "formulaMatchesReference", fn := fun _ => fun
  | [d1, d2, d3] => { results := [.lit (.bool true)], args := [d1, d2, d3] }
  | _ => none }
def formulaMatchesReferenceRow : OpenClaim := { program := "ythdidjmmhhchmaagreatdoor", sum := "27f2e04f0feb67e2f72a00336a3e38932f579baf7a659733675ac865ecc1a963", func := "foresight/foresightlaw03.FormulaMatchesReference", spec := "formulaMatchesReference", inPlace := ["internal/bytealg.abigen_runtime_cmpstring"], unfollowed := true, recurses := true, named := ["foresight/formula.forms", "foresight/signal.keys"], loops := true, apart := false, laid := [("foresight/signal.keys", laid_foresight_signal_keys), ("foresight/formula.forms", laid_foresight_formula_forms)] }
def FormulaMatchesReferenceSaid : Prop := formulaMatchesReferenceRow.holds Tryz.pinned (OpenSpec.ofChange formulaMatchesReferenceSpec)

/-- ITS FALSE NEIGHBOUR: 'it returns false'. Refute it at one input. -/
def formulaMatchesReferenceWrong : ChangeSpec := { name := "formulaMatchesReference", fn := fun _ => fun
  | [d1, d2, d3] => { results := [.lit (.bool false)], args := [d1, d2, d3] }
  | _ => none }
def FormulaMatchesReferenceWrongFalsely : Prop := formulaMatchesReferenceRow.holds Tryz.pinned (OpenSpec.ofChange formulaMatchesReferenceWrong)

/-- 'foresightlaw03.FormulaLattice': WHATEVER THE INPUT: true; the input reads as it did. -/
def formulaLatticeSpec : ChangeSpec := { name := "formulaLattice", fn := fun _ => fun
  | [d1, d2, d3] => { results := [.lit (.bool true)], args := [d1, d2, d3] }
  | _ => none }
def formulaLatticeRow : OpenClaim := { program := "ythdidjmmhhchmaagreatdoor", sum := "27f2e04f0feb67e2f72a00336a3e38932f579baf7a659733675ac865ecc1a963", func := "foresight/foresightlaw03.FormulaLattice", spec := "formulaLattice", inPlace := ["internal/bytealg.abigen_runtime_cmpstring"], unfollowed := true, recurses := true, named := ["foresight/formula.forms", "foresight/signal.keys"], loops := true, apart := false, laid := [("foresight/signal.keys", laid_foresight_signal_keys), ("foresight/formula.forms", laid_foresight_formula_forms)] }
def FormulaLatticeSaid : Prop := formulaLatticeRow.holds Tryz.pinned (OpenSpec.ofChange formulaLatticeSpec)

/-- ITS FALSE NEIGHBOUR: 'it returns false'. Refute it at one input. -/
def formulaLatticeWrong : ChangeSpec := { name := "formulaLattice", fn := fun _ => fun
  | [d1, d2, d3] => { results := [.lit (.bool false)], args := [d1, d2, d3] }
  | _ => none }
def FormulaLatticeWrongFalsely : Prop := formulaLatticeRow.holds Tryz.pinned (OpenSpec.ofChange formulaLatticeWrong)

/-- 'foresightlaw03.FormulaDuality': WHATEVER THE INPUT: true; the input reads as it did. -/
def formulaDualitySpec : ChangeSpec := { name := "formulaDuality", fn := fun _ => fun
  | [d1, d2] => { results := [.lit (.bool true)], args := [d1, d2] }
  | _ => none }
def formulaDualityRow : OpenClaim := { program := "ythdidjmmhhchmaagreatdoor", sum := "27f2e04f0feb67e2f72a00336a3e38932f579baf7a659733675ac865ecc1a963", func := "foresight/foresightlaw03.FormulaDuality", spec := "formulaDuality", inPlace := ["internal/bytealg.abigen_runtime_cmpstring"], unfollowed := true, recurses := true, named := ["foresight/formula.forms", "foresight/signal.keys"], loops := true, apart := false, laid := [("foresight/signal.keys", laid_foresight_signal_keys), ("foresight/formula.forms", laid_foresight_formula_forms)] }
def FormulaDualitySaid : Prop := formulaDualityRow.holds Tryz.pinned (OpenSpec.ofChange formulaDualitySpec)

/-- ITS FALSE NEIGHBOUR: 'it returns false'. Refute it at one input. -/
def formulaDualityWrong : ChangeSpec := { name := "formulaDuality", fn := fun _ => fun
  | [d1, d2] => { results := [.lit (.bool false)], args := [d1, d2] }
  | _ => none }
def FormulaDualityWrongFalsely : Prop := formulaDualityRow.holds Tryz.pinned (OpenSpec.ofChange formulaDualityWrong)

/- THE SECOND FORM. 'bulk': how many values and letters a reading holds, each counted each time it is reached (what is shared counts as often as it is met; a slice's spare places count too). A statement '..UptoSaid' is the law's where the arguments, and the package variables that the reading takes, are together of bulk at most 1048576: NARROWER than '..Said'. Prove '..Said' where nothing that the law and all that it calls make is longer than what came in: it says more and counts as full. Else prove '..UptoSaid'. A law counts once. -/
mutual
def uptoBulk {H : Type} : DataW H → Nat
  | .lit (.string bytes) => bytes.length + 1
  | .lit _ => 1
  | .nil => 1
  | .ptr d => uptoBulk d + 1
  | .slice elems spare => uptoBulkAll elems + uptoBulkAll spare + 1
  | .agg parts => uptoBulkAll parts + 1
  | .iface _ d => uptoBulk d + 1
  | .map entries => uptoBulkEntries entries + 1
  | .held _ => 1
def uptoBulkAll {H : Type} : List (DataW H) → Nat
  | [] => 0
  | d :: r => uptoBulk d + uptoBulkAll r
def uptoBulkEntries {H : Type} : List (Lit × DataW H) → Nat
  | [] => 0
  | x :: r => uptoBulkEntry x + uptoBulkEntries r
def uptoBulkEntry {H : Type} : Lit × DataW H → Nat
  | (.string bytes, d) => bytes.length + uptoBulk d + 1
  | (_, d) => uptoBulk d + 1
 end
def uptoSmall : (H : Type) → List (DataW H) → Bool := fun _ ds => decide (uptoBulkAll ds ≤ 1048576)
def OpenSpec.upto (s : _root_.Go.ChangeSpec) : _root_.Go.OpenSpec := { _root_.Go.OpenSpec.ofChange s with cond := some uptoSmall }

/-- 'foresightlaw03.FormulaKernels', WHERE WHAT IT READS IS OF BULK AT MOST 1048576: true; the input reads as it did. -/
def formulaKernelsUptoRow : OpenClaim := { program := "ythdidjmmhhchmaagreatdoor", sum := "27f2e04f0feb67e2f72a00336a3e38932f579baf7a659733675ac865ecc1a963", func := "foresight/foresightlaw03.FormulaKernels", spec := "formulaKernels", inPlace := ["internal/bytealg.abigen_runtime_cmpstring"], unfollowed := true, recurses := true, named := ["foresight/formula.forms", "foresight/signal.keys"], loops := true, apart := false, laid := [("foresight/signal.keys", laid_foresight_signal_keys), ("foresight/formula.forms", laid_foresight_formula_forms)], narrowed := true }
def FormulaKernelsUptoSaid : Prop := formulaKernelsUptoRow.holds Tryz.pinned (OpenSpec.upto formulaKernelsSpec)

/-- 'foresightlaw03.FormulaNegation', WHERE WHAT IT READS IS OF BULK AT MOST 1048576: true; the input reads as it did. -/
def formulaNegationUptoRow : OpenClaim := { program := "ythdidjmmhhchmaagreatdoor", sum := "27f2e04f0feb67e2f72a00336a3e38932f579baf7a659733675ac865ecc1a963", func := "foresight/foresightlaw03.FormulaNegation", spec := "formulaNegation", inPlace := ["internal/bytealg.abigen_runtime_cmpstring"], unfollowed := true, recurses := true, named := ["foresight/formula.forms", "foresight/signal.keys"], loops := true, apart := false, laid := [("foresight/signal.keys", laid_foresight_signal_keys), ("foresight/formula.forms", laid_foresight_formula_forms)], narrowed := true }
def FormulaNegationUptoSaid : Prop := formulaNegationUptoRow.holds Tryz.pinned (OpenSpec.upto formulaNegationSpec)

/-- 'foresightlaw03.FormulaCanon', WHERE WHAT IT READS IS OF BULK AT MOST 1048576: true; the input reads as it did. -/
def formulaCanonUptoRow : OpenClaim := { program := "ythdidjmmhhchmaagreatdoor", sum := "27f2e04f0feb67e2f72a00336a3e38932f579baf7a659733675ac865ecc1a963", func := "foresight/foresightlaw03.FormulaCanon", spec := "formulaCanon", inPlace := ["internal/bytealg.abigen_runtime_cmpstring"], unfollowed := true, recurses := true, named := ["foresight/formula.forms", "foresight/signal.keys"], loops := true, apart := false, laid := [("foresight/signal.keys", laid_foresight_signal_keys), ("foresight/formula.forms", laid_foresight_formula_forms)], narrowed := true }
def FormulaCanonUptoSaid : Prop := formulaCanonUptoRow.holds Tryz.pinned (OpenSpec.upto formulaCanonSpec)

/-- 'foresightlaw03.FormulaMatchesReference', WHERE WHAT IT READS IS OF BULK AT MOST 1048576: true; the input reads as it did. -/
def formulaMatchesReferenceUptoRow : OpenClaim := { program := "ythdidjmmhhchmaagreatdoor", sum := "27f2e04f0feb67e2f72a00336a3e38932f579baf7a659733675ac865ecc1a963", func := "foresight/foresightlaw03.FormulaMatchesReference", spec := "formulaMatchesReference", inPlace := ["internal/bytealg.abigen_runtime_cmpstring"], unfollowed := true, recurses := true, named := ["foresight/formula.forms", "foresight/signal.keys"], loops := true, apart := false, laid := [("foresight/signal.keys", laid_foresight_signal_keys), ("foresight/formula.forms", laid_foresight_formula_forms)], narrowed := true }
def FormulaMatchesReferenceUptoSaid : Prop := formulaMatchesReferenceUptoRow.holds Tryz.pinned (OpenSpec.upto formulaMatchesReferenceSpec)

/-- 'foresightlaw03.FormulaLattice', WHERE WHAT IT READS IS OF BULK AT MOST 1048576: true; the input reads as it did. -/
def formulaLatticeUptoRow : OpenClaim := { program := "ythdidjmmhhchmaagreatdoor", sum := "27f2e04f0feb67e2f72a00336a3e38932f579baf7a659733675ac865ecc1a963", func := "foresight/foresightlaw03.FormulaLattice", spec := "formulaLattice", inPlace := ["internal/bytealg.abigen_runtime_cmpstring"], unfollowed := true, recurses := true, named := ["foresight/formula.forms", "foresight/signal.keys"], loops := true, apart := false, laid := [("foresight/signal.keys", laid_foresight_signal_keys), ("foresight/formula.forms", laid_foresight_formula_forms)], narrowed := true }
def FormulaLatticeUptoSaid : Prop := formulaLatticeUptoRow.holds Tryz.pinned (OpenSpec.upto formulaLatticeSpec)

/-- 'foresightlaw03.FormulaDuality', WHERE WHAT IT READS IS OF BULK AT MOST 1048576: true; the input reads as it did. -/
def formulaDualityUptoRow : OpenClaim := { program := "ythdidjmmhhchmaagreatdoor", sum := "27f2e04f0feb67e2f72a00336a3e38932f579baf7a659733675ac865ecc1a963", func := "foresight/foresightlaw03.FormulaDuality", spec := "formulaDuality", inPlace := ["internal/bytealg.abigen_runtime_cmpstring"], unfollowed := true, recurses := true, named := ["foresight/formula.forms", "foresight/signal.keys"], loops := true, apart := false, laid := [("foresight/signal.keys", laid_foresight_signal_keys), ("foresight/formula.forms", laid_foresight_formula_forms)], narrowed := true }
def FormulaDualityUptoSaid : Prop := formulaDualityUptoRow.holds Tryz.pinned (OpenSpec.upto formulaDualitySpec)

end Rows
end Go.Proofs.YthdidjmmhhchmaaGreatDoor
