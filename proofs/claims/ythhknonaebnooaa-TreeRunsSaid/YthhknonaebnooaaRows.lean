/-
  No cell of these rows narrows 'for every input' (looked for: loops, veiled, ifaces, maps, wideKeys, modest, calm, conditions, laid).
  DERIVED. THE GIVEN ROWS OF THIS SEAT. 6 by the template 'for every input the law returns true; each argument reads behind the call as it read before'; 0 by the template 'total and deterministic' (their statements: YthhknonaebnooaaTotals.lean).
  GIVEN WITH THE SEED: the statements are not yours to turn. If you find one false, say at which input.
  Laid BY PROGRAM, IN A SANDBOX (cutbox-rows.mjs): the forced cells as the released guide's own fill.sh prints them over the translation 26bb3d1491d6f8b9… (all of the seat's roots in one cut). By AI agents, Wed Nov 11 2026. No macro, syntax, notation, axiom, sorry.
-/
import Derived.Test.YthhknonaebnooaaChecked
import GoSem.Claim
import GoSem.ClaimJoined
import GoSem.ClaimMapViews
import Derived.JoinedTies
import Derived.KernelRfl
namespace Go.Proofs.Ythhknonaebnooaa
/- THE CELL 'sum', in the pinned program and in every row, IS THE sha256 OF THE DUMP (.gsa) THAT YthhknonaebnooaaProg.lean LOADS. Nothing in Lean hashes anything: it is a label: what it is worth is what the hold of that sum in a sandbox is worth. -/
noncomputable def Try.pinned : Pinned := { name := "ythhknonaebnooaa", sum := "26bb3d1491d6f8b99d757b265208a27cabbe49e89aae74ae40d3a07035820edc", checked := Try.checked }
namespace Rows
def none {H : Type} : Left H := { results := [], args := [] }

/-- 'foresightlaw16.TreeMatchesReference': WHATEVER THE INPUT: true; the input reads as it did. -/
def treeMatchesReferenceSpec : ChangeSpec := { name := "treeMatchesReference", fn := fun _ => fun
  | [d1, d2, d3] => { results := [.lit (.bool true)], args := [d1, d2, d3] }
  | _ => none }
def treeMatchesReferenceRow : OpenClaim := { program := "ythhknonaebnooaa", sum := "26bb3d1491d6f8b99d757b265208a27cabbe49e89aae74ae40d3a07035820edc", func := "foresight/foresightlaw16.TreeMatchesReference", spec := "treeMatchesReference", unfollowed := true, recurses := true, plainKeys := false, apart := false }
def TreeMatchesReferenceSaid : Prop := treeMatchesReferenceRow.holds Try.pinned (OpenSpec.ofChange treeMatchesReferenceSpec)

/-- ITS FALSE NEIGHBOUR: 'it returns false'. Refute it at one input. -/
def treeMatchesReferenceWrong : ChangeSpec := { name := "treeMatchesReference", fn := fun _ => fun
  | [d1, d2, d3] => { results := [.lit (.bool false)], args := [d1, d2, d3] }
  | _ => none }
def TreeMatchesReferenceWrongFalsely : Prop := treeMatchesReferenceRow.holds Try.pinned (OpenSpec.ofChange treeMatchesReferenceWrong)

/-- 'foresightlaw16.TreeSets': WHATEVER THE INPUT: true; the input reads as it did. -/
def treeSetsSpec : ChangeSpec := { name := "treeSets", fn := fun _ => fun
  | [d1, d2] => { results := [.lit (.bool true)], args := [d1, d2] }
  | _ => none }
def treeSetsRow : OpenClaim := { program := "ythhknonaebnooaa", sum := "26bb3d1491d6f8b99d757b265208a27cabbe49e89aae74ae40d3a07035820edc", func := "foresight/foresightlaw16.TreeSets", spec := "treeSets", unfollowed := true, recurses := true, plainKeys := false, apart := false }
def TreeSetsSaid : Prop := treeSetsRow.holds Try.pinned (OpenSpec.ofChange treeSetsSpec)

/-- ITS FALSE NEIGHBOUR: 'it returns false'. Refute it at one input. -/
def treeSetsWrong : ChangeSpec := { name := "treeSets", fn := fun _ => fun
  | [d1, d2] => { results := [.lit (.bool false)], args := [d1, d2] }
  | _ => none }
def TreeSetsWrongFalsely : Prop := treeSetsRow.holds Try.pinned (OpenSpec.ofChange treeSetsWrong)

/-- 'foresightlaw16.TreeNames': WHATEVER THE INPUT: true; the input reads as it did. -/
def treeNamesSpec : ChangeSpec := { name := "treeNames", fn := fun _ => fun
  | [d1, d2, d3] => { results := [.lit (.bool true)], args := [d1, d2, d3] }
  | _ => none }
def treeNamesRow : OpenClaim := { program := "ythhknonaebnooaa", sum := "26bb3d1491d6f8b99d757b265208a27cabbe49e89aae74ae40d3a07035820edc", func := "foresight/foresightlaw16.TreeNames", spec := "treeNames", unfollowed := true, recurses := true, plainKeys := false, apart := false }
def TreeNamesSaid : Prop := treeNamesRow.holds Try.pinned (OpenSpec.ofChange treeNamesSpec)

/-- ITS FALSE NEIGHBOUR: 'it returns false'. Refute it at one input. -/
def treeNamesWrong : ChangeSpec := { name := "treeNames", fn := fun _ => fun
  | [d1, d2, d3] => { results := [.lit (.bool false)], args := [d1, d2, d3] }
  | _ => none }
def TreeNamesWrongFalsely : Prop := treeNamesRow.holds Try.pinned (OpenSpec.ofChange treeNamesWrong)

/-- 'foresightlaw16.TreeRuns': WHATEVER THE INPUT: true; the input reads as it did. -/
def treeRunsSpec : ChangeSpec := { name := "treeRuns", fn := fun _ => fun
  | [d1, d2] => { results := [.lit (.bool true)], args := [d1, d2] }
  | _ => none }
def treeRunsRow : OpenClaim := { program := "ythhknonaebnooaa", sum := "26bb3d1491d6f8b99d757b265208a27cabbe49e89aae74ae40d3a07035820edc", func := "foresight/foresightlaw16.TreeRuns", spec := "treeRuns", unfollowed := true, recurses := true, plainKeys := false, apart := false }
def TreeRunsSaid : Prop := treeRunsRow.holds Try.pinned (OpenSpec.ofChange treeRunsSpec)

/-- ITS FALSE NEIGHBOUR: 'it returns false'. Refute it at one input. -/
def treeRunsWrong : ChangeSpec := { name := "treeRuns", fn := fun _ => fun
  | [d1, d2] => { results := [.lit (.bool false)], args := [d1, d2] }
  | _ => none }
def TreeRunsWrongFalsely : Prop := treeRunsRow.holds Try.pinned (OpenSpec.ofChange treeRunsWrong)

/-- 'foresightlaw16.TreeOrder': WHATEVER THE INPUT: true; the input reads as it did. -/
def treeOrderSpec : ChangeSpec := { name := "treeOrder", fn := fun _ => fun
  | [d1, d2, d3] => { results := [.lit (.bool true)], args := [d1, d2, d3] }
  | _ => none }
def treeOrderRow : OpenClaim := { program := "ythhknonaebnooaa", sum := "26bb3d1491d6f8b99d757b265208a27cabbe49e89aae74ae40d3a07035820edc", func := "foresight/foresightlaw16.TreeOrder", spec := "treeOrder", unfollowed := true, recurses := true, plainKeys := false, apart := false }
def TreeOrderSaid : Prop := treeOrderRow.holds Try.pinned (OpenSpec.ofChange treeOrderSpec)

/-- ITS FALSE NEIGHBOUR: 'it returns false'. Refute it at one input. -/
def treeOrderWrong : ChangeSpec := { name := "treeOrder", fn := fun _ => fun
  | [d1, d2, d3] => { results := [.lit (.bool false)], args := [d1, d2, d3] }
  | _ => none }
def TreeOrderWrongFalsely : Prop := treeOrderRow.holds Try.pinned (OpenSpec.ofChange treeOrderWrong)

/-- 'foresightlaw16.TreeWords': WHATEVER THE INPUT: true; the input reads as it did. -/
def treeWordsSpec : ChangeSpec := { name := "treeWords", fn := fun _ => fun
  | [d1, d2] => { results := [.lit (.bool true)], args := [d1, d2] }
  | _ => none }
def treeWordsRow : OpenClaim := { program := "ythhknonaebnooaa", sum := "26bb3d1491d6f8b99d757b265208a27cabbe49e89aae74ae40d3a07035820edc", func := "foresight/foresightlaw16.TreeWords", spec := "treeWords", unfollowed := true, recurses := true, plainKeys := false, apart := false }
def TreeWordsSaid : Prop := treeWordsRow.holds Try.pinned (OpenSpec.ofChange treeWordsSpec)

/-- ITS FALSE NEIGHBOUR: 'it returns false'. Refute it at one input. -/
def treeWordsWrong : ChangeSpec := { name := "treeWords", fn := fun _ => fun
  | [d1, d2] => { results := [.lit (.bool false)], args := [d1, d2] }
  | _ => none }
def TreeWordsWrongFalsely : Prop := treeWordsRow.holds Try.pinned (OpenSpec.ofChange treeWordsWrong)

/- THE SECOND FORM. 'bulk': how many values and letters a reading holds, each counted each time it is reached (what is shared counts as often as it is met; a slice's spare places count too). A statement '..UptoSaid' is the law's where the arguments, and the package variables that the reading takes, are together of bulk at most 1048576: NARROWER than '..Said'. Prove '..Said' where nothing that the law and all that it calls make is longer than what came in: it says more and counts as full. Else prove '..UptoSaid'. A law counts once. -/
mutual
def uptoBulk {H : Type} : DataW H → Nat
  | .lit (.string bytes) => bytes.length + 1
  | .lit _ => 1
  | .nil => 1
  | .ptr d => uptoBulk d + 1
  | .slice elems spare => uptoBulkAll elems + uptoBulkAll spare + 1
  | .agg parts => uptoBulkAll parts + 1
  | .iface _ d => uptoBulk d + 1
  | .map entries => uptoBulkEntries entries + 1
  | .held _ => 1
def uptoBulkAll {H : Type} : List (DataW H) → Nat
  | [] => 0
  | d :: r => uptoBulk d + uptoBulkAll r
def uptoBulkEntries {H : Type} : List (Lit × DataW H) → Nat
  | [] => 0
  | x :: r => uptoBulkEntry x + uptoBulkEntries r
def uptoBulkEntry {H : Type} : Lit × DataW H → Nat
  | (.string bytes, d) => bytes.length + uptoBulk d + 1
  | (_, d) => uptoBulk d + 1
 end
def uptoSmall : (H : Type) → List (DataW H) → Bool := fun _ ds => decide (uptoBulkAll ds ≤ 1048576)
def OpenSpec.upto (s : _root_.Go.ChangeSpec) : _root_.Go.OpenSpec := { _root_.Go.OpenSpec.ofChange s with cond := some uptoSmall }

/-- 'foresightlaw16.TreeMatchesReference', WHERE WHAT IT READS IS OF BULK AT MOST 1048576: true; the input reads as it did. -/
def treeMatchesReferenceUptoRow : OpenClaim := { program := "ythhknonaebnooaa", sum := "26bb3d1491d6f8b99d757b265208a27cabbe49e89aae74ae40d3a07035820edc", func := "foresight/foresightlaw16.TreeMatchesReference", spec := "treeMatchesReference", unfollowed := true, recurses := true, plainKeys := false, apart := false, narrowed := true }
def TreeMatchesReferenceUptoSaid : Prop := treeMatchesReferenceUptoRow.holds Try.pinned (OpenSpec.upto treeMatchesReferenceSpec)

/-- 'foresightlaw16.TreeSets', WHERE WHAT IT READS IS OF BULK AT MOST 1048576: true; the input reads as it did. -/
def treeSetsUptoRow : OpenClaim := { program := "ythhknonaebnooaa", sum := "26bb3d1491d6f8b99d757b265208a27cabbe49e89aae74ae40d3a07035820edc", func := "foresight/foresightlaw16.TreeSets", spec := "treeSets", unfollowed := true, recurses := true, plainKeys := false, apart := false, narrowed := true }
def TreeSetsUptoSaid : Prop := treeSetsUptoRow.holds Try.pinned (OpenSpec.upto treeSetsSpec)

/-- 'foresightlaw16.TreeNames', WHERE WHAT IT READS IS OF BULK AT MOST 1048576: true; the input reads as it did. -/
def treeNamesUptoRow : OpenClaim := { program := "ythhknonaebnooaa", sum := "26bb3d1491d6f8b99d757b265208a27cabbe49e89aae74ae40d3a07035820edc", func := "foresight/foresightlaw16.TreeNames", spec := "treeNames", unfollowed := true, recurses := true, plainKeys := false, apart := false, narrowed := true }
def TreeNamesUptoSaid : Prop := treeNamesUptoRow.holds Try.pinned (OpenSpec.upto treeNamesSpec)

/-- 'foresightlaw16.TreeRuns', WHERE WHAT IT READS IS OF BULK AT MOST 1048576: true; the input reads as it did. -/
def treeRunsUptoRow : OpenClaim := { program := "ythhknonaebnooaa", sum := "26bb3d1491d6f8b99d757b265208a27cabbe49e89aae74ae40d3a07035820edc", func := "foresight/foresightlaw16.TreeRuns", spec := "treeRuns", unfollowed := true, recurses := true, plainKeys := false, apart := false, narrowed := true }
def TreeRunsUptoSaid : Prop := treeRunsUptoRow.holds Try.pinned (OpenSpec.upto treeRunsSpec)

/-- 'foresightlaw16.TreeOrder', WHERE WHAT IT READS IS OF BULK AT MOST 1048576: true; the input reads as it did. -/
def treeOrderUptoRow : OpenClaim := { program := "ythhknonaebnooaa", sum := "26bb3d1491d6f8b99d757b265208a27cabbe49e89aae74ae40d3a07035820edc", func := "foresight/foresightlaw16.TreeOrder", spec := "treeOrder", unfollowed := true, recurses := true, plainKeys := false, apart := false, narrowed := true }
def TreeOrderUptoSaid : Prop := treeOrderUptoRow.holds Try.pinned (OpenSpec.upto treeOrderSpec)

/-- 'foresightlaw16.TreeWords', WHERE WHAT IT READS IS OF BULK AT MOST 1048576: true; the input reads as it did. -/
def treeWordsUptoRow : OpenClaim := { program := "ythhknonaebnooaa", sum := "26bb3d1491d6f8b99d757b265208a27cabbe49e89aae74ae40d3a07035820edc", func := "foresight/foresightlaw16.TreeWords", spec := "treeWords", unfollowed := true, recurses := true, plainKeys := false, apart := false, narrowed := true }
def TreeWordsUptoSaid : Prop := treeWordsUptoRow.holds Try.pinned (OpenSpec.upto treeWordsSpec)

end Rows
end Go.Proofs.Ythhknonaebnooaa
