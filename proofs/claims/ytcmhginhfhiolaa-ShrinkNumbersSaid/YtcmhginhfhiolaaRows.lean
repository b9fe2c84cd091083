/-
  No cell of these rows narrows 'for every input' (looked for: loops, veiled, ifaces, maps, wideKeys, modest, calm, conditions, laid).
  DERIVED. THE GIVEN ROWS OF THIS SEAT. 7 by the template 'for every input the law returns true; each argument reads behind the call as it read before'; 0 by the template 'total and deterministic' (their statements: YtcmhginhfhiolaaTotals.lean).
  GIVEN WITH THE SEED: the statements are not yours to turn. If you find one false, say at which input.
  Laid BY PROGRAM, IN A SANDBOX (cutbox-rows.mjs): the forced cells as the released guide's own fill.sh prints them over the translation f166e7f4db1817dc… (all of the seat's roots in one cut). By AI agents, Wed Nov 11 2026. No macro, syntax, notation, axiom, sorry.
-/
import Derived.Test.YtcmhginhfhiolaaChecked
import GoSem.Claim
import GoSem.ClaimJoined
import GoSem.ClaimMapViews
import Derived.JoinedTies
import Derived.KernelRfl
namespace Go.Proofs.Ytcmhginhfhiolaa
/- THE CELL 'sum', in the pinned program and in every row, IS THE sha256 OF THE DUMP (.gsa) THAT YtcmhginhfhiolaaProg.lean LOADS. Nothing in Lean hashes anything: it is a label: what it is worth is what the hold of that sum in a sandbox is worth. -/
noncomputable def Try.pinned : Pinned := { name := "ytcmhginhfhiolaa", sum := "f166e7f4db1817dc1f44b150e844147b07b4a8a1928ec169fbdd0f7b58857f7f", checked := Try.checked }
namespace Rows
def none {H : Type} : Left H := { results := [], args := [] }

/-- 'foresightlaw27.ShrinkMatchesReference': WHATEVER THE INPUT: true; the input reads as it did. -/
def shrinkMatchesReferenceSpec : ChangeSpec := { name := "shrinkMatchesReference", fn := fun _ => fun
  | [d1, d2, d3] => { results := [.lit (.bool true)], args := [d1, d2, d3] }
  | _ => none }
def shrinkMatchesReferenceRow : OpenClaim := { program := "ytcmhginhfhiolaa", sum := "f166e7f4db1817dc1f44b150e844147b07b4a8a1928ec169fbdd0f7b58857f7f", func := "foresight/foresightlaw27.ShrinkMatchesReference", spec := "shrinkMatchesReference", unfollowed := true, recurses := true, plainKeys := false, apart := false }
def ShrinkMatchesReferenceSaid : Prop := shrinkMatchesReferenceRow.holds Try.pinned (OpenSpec.ofChange shrinkMatchesReferenceSpec)

/-- ITS FALSE NEIGHBOUR: 'it returns false'. Refute it at one input. -/
def shrinkMatchesReferenceWrong : ChangeSpec := { name := "shrinkMatchesReference", fn := fun _ => fun
  | [d1, d2, d3] => { results := [.lit (.bool false)], args := [d1, d2, d3] }
  | _ => none }
def ShrinkMatchesReferenceWrongFalsely : Prop := shrinkMatchesReferenceRow.holds Try.pinned (OpenSpec.ofChange shrinkMatchesReferenceWrong)

/-- 'foresightlaw27.ShrinkOutputs': WHATEVER THE INPUT: true; the input reads as it did. -/
def shrinkOutputsSpec : ChangeSpec := { name := "shrinkOutputs", fn := fun _ => fun
  | [d1, d2, d3] => { results := [.lit (.bool true)], args := [d1, d2, d3] }
  | _ => none }
def shrinkOutputsRow : OpenClaim := { program := "ytcmhginhfhiolaa", sum := "f166e7f4db1817dc1f44b150e844147b07b4a8a1928ec169fbdd0f7b58857f7f", func := "foresight/foresightlaw27.ShrinkOutputs", spec := "shrinkOutputs", unfollowed := true, recurses := true, plainKeys := false, apart := false }
def ShrinkOutputsSaid : Prop := shrinkOutputsRow.holds Try.pinned (OpenSpec.ofChange shrinkOutputsSpec)

/-- ITS FALSE NEIGHBOUR: 'it returns false'. Refute it at one input. -/
def shrinkOutputsWrong : ChangeSpec := { name := "shrinkOutputs", fn := fun _ => fun
  | [d1, d2, d3] => { results := [.lit (.bool false)], args := [d1, d2, d3] }
  | _ => none }
def ShrinkOutputsWrongFalsely : Prop := shrinkOutputsRow.holds Try.pinned (OpenSpec.ofChange shrinkOutputsWrong)

/-- 'foresightlaw27.ShrinkLeast': WHATEVER THE INPUT: true; the input reads as it did. -/
def shrinkLeastSpec : ChangeSpec := { name := "shrinkLeast", fn := fun _ => fun
  | [d1, d2] => { results := [.lit (.bool true)], args := [d1, d2] }
  | _ => none }
def shrinkLeastRow : OpenClaim := { program := "ytcmhginhfhiolaa", sum := "f166e7f4db1817dc1f44b150e844147b07b4a8a1928ec169fbdd0f7b58857f7f", func := "foresight/foresightlaw27.ShrinkLeast", spec := "shrinkLeast", unfollowed := true, recurses := true, plainKeys := false, apart := false }
def ShrinkLeastSaid : Prop := shrinkLeastRow.holds Try.pinned (OpenSpec.ofChange shrinkLeastSpec)

/-- ITS FALSE NEIGHBOUR: 'it returns false'. Refute it at one input. -/
def shrinkLeastWrong : ChangeSpec := { name := "shrinkLeast", fn := fun _ => fun
  | [d1, d2] => { results := [.lit (.bool false)], args := [d1, d2] }
  | _ => none }
def ShrinkLeastWrongFalsely : Prop := shrinkLeastRow.holds Try.pinned (OpenSpec.ofChange shrinkLeastWrong)

/-- 'foresightlaw27.ShrinkCares': WHATEVER THE INPUT: true; the input reads as it did. -/
def shrinkCaresSpec : ChangeSpec := { name := "shrinkCares", fn := fun _ => fun
  | [d1, d2, d3] => { results := [.lit (.bool true)], args := [d1, d2, d3] }
  | _ => none }
def shrinkCaresRow : OpenClaim := { program := "ytcmhginhfhiolaa", sum := "f166e7f4db1817dc1f44b150e844147b07b4a8a1928ec169fbdd0f7b58857f7f", func := "foresight/foresightlaw27.ShrinkCares", spec := "shrinkCares", unfollowed := true, recurses := true, plainKeys := false, apart := false }
def ShrinkCaresSaid : Prop := shrinkCaresRow.holds Try.pinned (OpenSpec.ofChange shrinkCaresSpec)

/-- ITS FALSE NEIGHBOUR: 'it returns false'. Refute it at one input. -/
def shrinkCaresWrong : ChangeSpec := { name := "shrinkCares", fn := fun _ => fun
  | [d1, d2, d3] => { results := [.lit (.bool false)], args := [d1, d2, d3] }
  | _ => none }
def ShrinkCaresWrongFalsely : Prop := shrinkCaresRow.holds Try.pinned (OpenSpec.ofChange shrinkCaresWrong)

/-- 'foresightlaw27.ShrinkAll': WHATEVER THE INPUT: true; the input reads as it did. -/
def shrinkAllSpec : ChangeSpec := { name := "shrinkAll", fn := fun _ => fun
  | [d1, d2] => { results := [.lit (.bool true)], args := [d1, d2] }
  | _ => none }
def shrinkAllRow : OpenClaim := { program := "ytcmhginhfhiolaa", sum := "f166e7f4db1817dc1f44b150e844147b07b4a8a1928ec169fbdd0f7b58857f7f", func := "foresight/foresightlaw27.ShrinkAll", spec := "shrinkAll", unfollowed := true, recurses := true, plainKeys := false, apart := false }
def ShrinkAllSaid : Prop := shrinkAllRow.holds Try.pinned (OpenSpec.ofChange shrinkAllSpec)

/-- ITS FALSE NEIGHBOUR: 'it returns false'. Refute it at one input. -/
def shrinkAllWrong : ChangeSpec := { name := "shrinkAll", fn := fun _ => fun
  | [d1, d2] => { results := [.lit (.bool false)], args := [d1, d2] }
  | _ => none }
def ShrinkAllWrongFalsely : Prop := shrinkAllRow.holds Try.pinned (OpenSpec.ofChange shrinkAllWrong)

/-- 'foresightlaw27.ShrinkNumbers': WHATEVER THE INPUT: true; the input reads as it did. -/
def shrinkNumbersSpec : ChangeSpec := { name := "shrinkNumbers", fn := fun _ => fun
  | [d1, d2] => { results := [.lit (.bool true)], args := [d1, d2] }
  | _ => none }
def shrinkNumbersRow : OpenClaim := { program := "ytcmhginhfhiolaa", sum := "f166e7f4db1817dc1f44b150e844147b07b4a8a1928ec169fbdd0f7b58857f7f", func := "foresight/foresightlaw27.ShrinkNumbers", spec := "shrinkNumbers", unfollowed := true, recurses := true, plainKeys := false, apart := false }
def ShrinkNumbersSaid : Prop := shrinkNumbersRow.holds Try.pinned (OpenSpec.ofChange shrinkNumbersSpec)

/-- ITS FALSE NEIGHBOUR: 'it returns false'. Refute it at one input. -/
def shrinkNumbersWrong : ChangeSpec := { name := "shrinkNumbers", fn := fun _ => fun
  | [d1, d2] => { results := [.lit (.bool false)], args := [d1, d2] }
  | _ => none }
def ShrinkNumbersWrongFalsely : Prop := shrinkNumbersRow.holds Try.pinned (OpenSpec.ofChange shrinkNumbersWrong)

/-- 'foresightlaw27.ShrinkStarts': WHATEVER THE INPUT: true; the input reads as it did. -/
def shrinkStartsSpec : ChangeSpec := { name := "shrinkStarts", fn := fun _ => fun
  | [d1, d2, d3] => { results := [.lit (.bool true)], args := [d1, d2, d3] }
  | _ => none }
def shrinkStartsRow : OpenClaim := { program := "ytcmhginhfhiolaa", sum := "f166e7f4db1817dc1f44b150e844147b07b4a8a1928ec169fbdd0f7b58857f7f", func := "foresight/foresightlaw27.ShrinkStarts", spec := "shrinkStarts", unfollowed := true, recurses := true, plainKeys := false, apart := false }
def ShrinkStartsSaid : Prop := shrinkStartsRow.holds Try.pinned (OpenSpec.ofChange shrinkStartsSpec)

/-- ITS FALSE NEIGHBOUR: 'it returns false'. Refute it at one input. -/
def shrinkStartsWrong : ChangeSpec := { name := "shrinkStarts", fn := fun _ => fun
  | [d1, d2, d3] => { results := [.lit (.bool false)], args := [d1, d2, d3] }
  | _ => none }
def ShrinkStartsWrongFalsely : Prop := shrinkStartsRow.holds Try.pinned (OpenSpec.ofChange shrinkStartsWrong)

/- THE SECOND FORM. 'bulk': how many values and letters a reading holds, each counted each time it is reached (what is shared counts as often as it is met; a slice's spare places count too). A statement '..UptoSaid' is the law's where the arguments, and the package variables that the reading takes, are together of bulk at most 1048576: NARROWER than '..Said'. Prove '..Said' where nothing that the law and all that it calls make is longer than what came in: it says more and counts as full. Else prove '..UptoSaid'. A law counts once. -/
mutual
def uptoBulk {H : Type} : DataW H → Nat
  | .lit (.string bytes) => bytes.length + 1
  | .lit _ => 1
  | .nil => 1
  | .ptr d => uptoBulk d + 1
  | .slice elems spare => uptoBulkAll elems + uptoBulkAll spare + 1
  | .agg parts => uptoBulkAll parts + 1
  | .iface _ d => uptoBulk d + 1
  | .map entries => uptoBulkEntries entries + 1
  | .held _ => 1
def uptoBulkAll {H : Type} : List (DataW H) → Nat
  | [] => 0
  | d :: r => uptoBulk d + uptoBulkAll r
def uptoBulkEntries {H : Type} : List (Lit × DataW H) → Nat
  | [] => 0
  | x :: r => uptoBulkEntry x + uptoBulkEntries r
def uptoBulkEntry {H : Type} : Lit × DataW H → Nat
  | (.string bytes, d) => bytes.length + uptoBulk d + 1
  | (_, d) => uptoBulk d + 1
 end
def uptoSmall : (H : Type) → List (DataW H) → Bool := fun _ ds => decide (uptoBulkAll ds ≤ 1048576)
def OpenSpec.upto (s : _root_.Go.ChangeSpec) : _root_.Go.OpenSpec := { _root_.Go.OpenSpec.ofChange s with cond := some uptoSmall }

/-- 'foresightlaw27.ShrinkMatchesReference', WHERE WHAT IT READS IS OF BULK AT MOST 1048576: true; the input reads as it did. -/
def shrinkMatchesReferenceUptoRow : OpenClaim := { program := "ytcmhginhfhiolaa", sum := "f166e7f4db1817dc1f44b150e844147b07b4a8a1928ec169fbdd0f7b58857f7f", func := "foresight/foresightlaw27.ShrinkMatchesReference", spec := "shrinkMatchesReference", unfollowed := true, recurses := true, plainKeys := false, apart := false, narrowed := true }
def ShrinkMatchesReferenceUptoSaid : Prop := shrinkMatchesReferenceUptoRow.holds Try.pinned (OpenSpec.upto shrinkMatchesReferenceSpec)

/-- 'foresightlaw27.ShrinkOutputs', WHERE WHAT IT READS IS OF BULK AT MOST 1048576: true; the input reads as it did. -/
def shrinkOutputsUptoRow : OpenClaim := { program := "ytcmhginhfhiolaa", sum := "f166e7f4db1817dc1f44b150e844147b07b4a8a1928ec169fbdd0f7b58857f7f", func := "foresight/foresightlaw27.ShrinkOutputs", spec := "shrinkOutputs", unfollowed := true, recurses := true, plainKeys := false, apart := false, narrowed := true }
def ShrinkOutputsUptoSaid : Prop := shrinkOutputsUptoRow.holds Try.pinned (OpenSpec.upto shrinkOutputsSpec)

/-- 'foresightlaw27.ShrinkLeast', WHERE WHAT IT READS IS OF BULK AT MOST 1048576: true; the input reads as it did. -/
def shrinkLeastUptoRow : OpenClaim := { program := "ytcmhginhfhiolaa", sum := "f166e7f4db1817dc1f44b150e844147b07b4a8a1928ec169fbdd0f7b58857f7f", func := "foresight/foresightlaw27.ShrinkLeast", spec := "shrinkLeast", unfollowed := true, recurses := true, plainKeys := false, apart := false, narrowed := true }
def ShrinkLeastUptoSaid : Prop := shrinkLeastUptoRow.holds Try.pinned (OpenSpec.upto shrinkLeastSpec)

/-- 'foresightlaw27.ShrinkCares', WHERE WHAT IT READS IS OF BULK AT MOST 1048576: true; the input reads as it did. -/
def shrinkCaresUptoRow : OpenClaim := { program := "ytcmhginhfhiolaa", sum := "f166e7f4db1817dc1f44b150e844147b07b4a8a1928ec169fbdd0f7b58857f7f", func := "foresight/foresightlaw27.ShrinkCares", spec := "shrinkCares", unfollowed := true, recurses := true, plainKeys := false, apart := false, narrowed := true }
def ShrinkCaresUptoSaid : Prop := shrinkCaresUptoRow.holds Try.pinned (OpenSpec.upto shrinkCaresSpec)

/-- 'foresightlaw27.ShrinkAll', WHERE WHAT IT READS IS OF BULK AT MOST 1048576: true; the input reads as it did. -/
def shrinkAllUptoRow : OpenClaim := { program := "ytcmhginhfhiolaa", sum := "f166e7f4db1817dc1f44b150e844147b07b4a8a1928ec169fbdd0f7b58857f7f", func := "foresight/foresightlaw27.ShrinkAll", spec := "shrinkAll", unfollowed := true, recurses := true, plainKeys := false, apart := false, narrowed := true }
def ShrinkAllUptoSaid : Prop := shrinkAllUptoRow.holds Try.pinned (OpenSpec.upto shrinkAllSpec)

/-- 'foresightlaw27.ShrinkNumbers', WHERE WHAT IT READS IS OF BULK AT MOST 1048576: true; the input reads as it did. -/
def shrinkNumbersUptoRow : OpenClaim := { program := "ytcmhginhfhiolaa", sum := "f166e7f4db1817dc1f44b150e844147b07b4a8a1928ec169fbdd0f7b58857f7f", func := "foresight/foresightlaw27.ShrinkNumbers", spec := "shrinkNumbers", unfollowed := true, recurses := true, plainKeys := false, apart := false, narrowed := true }
def ShrinkNumbersUptoSaid : Prop := shrinkNumbersUptoRow.holds Try.pinned (OpenSpec.upto shrinkNumbersSpec)

/-- 'foresightlaw27.ShrinkStarts', WHERE WHAT IT READS IS OF BULK AT MOST 1048576: true; the input reads as it did. -/
def shrinkStartsUptoRow : OpenClaim := { program := "ytcmhginhfhiolaa", sum := "f166e7f4db1817dc1f44b150e844147b07b4a8a1928ec169fbdd0f7b58857f7f", func := "foresight/foresightlaw27.ShrinkStarts", spec := "shrinkStarts", unfollowed := true, recurses := true, plainKeys := false, apart := false, narrowed := true }
def ShrinkStartsUptoSaid : Prop := shrinkStartsUptoRow.holds Try.pinned (OpenSpec.upto shrinkStartsSpec)

end Rows
end Go.Proofs.Ytcmhginhfhiolaa
