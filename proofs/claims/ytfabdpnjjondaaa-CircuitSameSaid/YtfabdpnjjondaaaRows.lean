/-
  No cell of these rows narrows 'for every input' (looked for: loops, veiled, ifaces, maps, wideKeys, modest, calm, conditions, laid).
  DERIVED. THE GIVEN ROWS OF THIS SEAT. 6 by the template 'for every input the law returns true; each argument reads behind the call as it read before'; 0 by the template 'total and deterministic' (their statements: YtfabdpnjjondaaaTotals.lean).
  GIVEN WITH THE SEED: the statements are not yours to turn. If you find one false, say at which input.
  Laid BY PROGRAM, IN A SANDBOX (cutbox-rows.mjs): the forced cells as the released guide's own fill.sh prints them over the translation 38eddef24a898085… (all of the seat's roots in one cut). By AI agents, Wed Nov 11 2026. No macro, syntax, notation, axiom, sorry.
-/
import Derived.Test.YtfabdpnjjondaaaChecked
import GoSem.Claim
import GoSem.ClaimJoined
import GoSem.ClaimMapViews
import Derived.JoinedTies
import Derived.KernelRfl
namespace Go.Proofs.Ytfabdpnjjondaaa
/- THE CELL 'sum', in the pinned program and in every row, IS THE sha256 OF THE DUMP (.gsa) THAT YtfabdpnjjondaaaProg.lean LOADS. Nothing in Lean hashes anything: it is a label: what it is worth is what the hold of that sum in a sandbox is worth. -/
noncomputable def Try.pinned : Pinned := { name := "ytfabdpnjjondaaa", sum := "38eddef24a898085d2246b81ee48e3808e6f94bce4a0e7f13817ada92a6d2f0d", checked := Try.checked }
namespace Rows
def none {H : Type} : Left H := { results := [], args := [] }

/-- 'foresightlaw28.CircuitMatchesReference': WHATEVER THE INPUT: true; the input reads as it did. -/
def circuitMatchesReferenceSpec : ChangeSpec := { name := "circuitMatchesReference", fn := fun _ => fun
  | [d1, d2, d3, d4] => { results := [.lit (.bool true)], args := [d1, d2, d3, d4] }
  | _ => none }
def circuitMatchesReferenceRow : OpenClaim := { program := "ytfabdpnjjondaaa", sum := "38eddef24a898085d2246b81ee48e3808e6f94bce4a0e7f13817ada92a6d2f0d", func := "foresight/foresightlaw28.CircuitMatchesReference", spec := "circuitMatchesReference", unfollowed := true, recurses := true, plainKeys := false, apart := false }
def CircuitMatchesReferenceSaid : Prop := circuitMatchesReferenceRow.holds Try.pinned (OpenSpec.ofChange circuitMatchesReferenceSpec)

/-- ITS FALSE NEIGHBOUR: 'it returns false'. Refute it at one input. -/
def circuitMatchesReferenceWrong : ChangeSpec := { name := "circuitMatchesReference", fn := fun _ => fun
  | [d1, d2, d3, d4] => { results := [.lit (.bool false)], args := [d1, d2, d3, d4] }
  | _ => none }
def CircuitMatchesReferenceWrongFalsely : Prop := circuitMatchesReferenceRow.holds Try.pinned (OpenSpec.ofChange circuitMatchesReferenceWrong)

/-- 'foresightlaw28.CircuitForm': WHATEVER THE INPUT: true; the input reads as it did. -/
def circuitFormSpec : ChangeSpec := { name := "circuitForm", fn := fun _ => fun
  | [d] => { results := [.lit (.bool true)], args := [d] }
  | _ => none }
def circuitFormRow : OpenClaim := { program := "ytfabdpnjjondaaa", sum := "38eddef24a898085d2246b81ee48e3808e6f94bce4a0e7f13817ada92a6d2f0d", func := "foresight/foresightlaw28.CircuitForm", spec := "circuitForm", unfollowed := true, recurses := true, plainKeys := false, apart := false }
def CircuitFormSaid : Prop := circuitFormRow.holds Try.pinned (OpenSpec.ofChange circuitFormSpec)

/-- ITS FALSE NEIGHBOUR: 'it returns false'. Refute it at one input. -/
def circuitFormWrong : ChangeSpec := { name := "circuitForm", fn := fun _ => fun
  | [d] => { results := [.lit (.bool false)], args := [d] }
  | _ => none }
def CircuitFormWrongFalsely : Prop := circuitFormRow.holds Try.pinned (OpenSpec.ofChange circuitFormWrong)

/-- 'foresightlaw28.CircuitRuns': WHATEVER THE INPUT: true; the input reads as it did. -/
def circuitRunsSpec : ChangeSpec := { name := "circuitRuns", fn := fun _ => fun
  | [d1, d2, d3] => { results := [.lit (.bool true)], args := [d1, d2, d3] }
  | _ => none }
def circuitRunsRow : OpenClaim := { program := "ytfabdpnjjondaaa", sum := "38eddef24a898085d2246b81ee48e3808e6f94bce4a0e7f13817ada92a6d2f0d", func := "foresight/foresightlaw28.CircuitRuns", spec := "circuitRuns", unfollowed := true, recurses := true, plainKeys := false, apart := false }
def CircuitRunsSaid : Prop := circuitRunsRow.holds Try.pinned (OpenSpec.ofChange circuitRunsSpec)

/-- ITS FALSE NEIGHBOUR: 'it returns false'. Refute it at one input. -/
def circuitRunsWrong : ChangeSpec := { name := "circuitRuns", fn := fun _ => fun
  | [d1, d2, d3] => { results := [.lit (.bool false)], args := [d1, d2, d3] }
  | _ => none }
def CircuitRunsWrongFalsely : Prop := circuitRunsRow.holds Try.pinned (OpenSpec.ofChange circuitRunsWrong)

/-- 'foresightlaw28.CircuitGates': WHATEVER THE INPUT: true; the input reads as it did. -/
def circuitGatesSpec : ChangeSpec := { name := "circuitGates", fn := fun _ => fun
  | [d1, d2, d3] => { results := [.lit (.bool true)], args := [d1, d2, d3] }
  | _ => none }
def circuitGatesRow : OpenClaim := { program := "ytfabdpnjjondaaa", sum := "38eddef24a898085d2246b81ee48e3808e6f94bce4a0e7f13817ada92a6d2f0d", func := "foresight/foresightlaw28.CircuitGates", spec := "circuitGates", unfollowed := true, recurses := true, plainKeys := false, apart := false }
def CircuitGatesSaid : Prop := circuitGatesRow.holds Try.pinned (OpenSpec.ofChange circuitGatesSpec)

/-- ITS FALSE NEIGHBOUR: 'it returns false'. Refute it at one input. -/
def circuitGatesWrong : ChangeSpec := { name := "circuitGates", fn := fun _ => fun
  | [d1, d2, d3] => { results := [.lit (.bool false)], args := [d1, d2, d3] }
  | _ => none }
def CircuitGatesWrongFalsely : Prop := circuitGatesRow.holds Try.pinned (OpenSpec.ofChange circuitGatesWrong)

/-- 'foresightlaw28.CircuitSame': WHATEVER THE INPUT: true; the input reads as it did. -/
def circuitSameSpec : ChangeSpec := { name := "circuitSame", fn := fun _ => fun
  | [d1, d2] => { results := [.lit (.bool true)], args := [d1, d2] }
  | _ => none }
def circuitSameRow : OpenClaim := { program := "ytfabdpnjjondaaa", sum := "38eddef24a898085d2246b81ee48e3808e6f94bce4a0e7f13817ada92a6d2f0d", func := "foresight/foresightlaw28.CircuitSame", spec := "circuitSame", unfollowed := true, recurses := true, plainKeys := false, apart := false }
def CircuitSameSaid : Prop := circuitSameRow.holds Try.pinned (OpenSpec.ofChange circuitSameSpec)

/-- ITS FALSE NEIGHBOUR: 'it returns false'. Refute it at one input. -/
def circuitSameWrong : ChangeSpec := { name := "circuitSame", fn := fun _ => fun
  | [d1, d2] => { results := [.lit (.bool false)], args := [d1, d2] }
  | _ => none }
def CircuitSameWrongFalsely : Prop := circuitSameRow.holds Try.pinned (OpenSpec.ofChange circuitSameWrong)

/-- 'foresightlaw28.CircuitOutputs': WHATEVER THE INPUT: true; the input reads as it did. -/
def circuitOutputsSpec : ChangeSpec := { name := "circuitOutputs", fn := fun _ => fun
  | [d1, d2] => { results := [.lit (.bool true)], args := [d1, d2] }
  | _ => none }
def circuitOutputsRow : OpenClaim := { program := "ytfabdpnjjondaaa", sum := "38eddef24a898085d2246b81ee48e3808e6f94bce4a0e7f13817ada92a6d2f0d", func := "foresight/foresightlaw28.CircuitOutputs", spec := "circuitOutputs", unfollowed := true, recurses := true, plainKeys := false, apart := false }
def CircuitOutputsSaid : Prop := circuitOutputsRow.holds Try.pinned (OpenSpec.ofChange circuitOutputsSpec)

/-- ITS FALSE NEIGHBOUR: 'it returns false'. Refute it at one input. -/
def circuitOutputsWrong : ChangeSpec := { name := "circuitOutputs", fn := fun _ => fun
  | [d1, d2] => { results := [.lit (.bool false)], args := [d1, d2] }
  | _ => none }
def CircuitOutputsWrongFalsely : Prop := circuitOutputsRow.holds Try.pinned (OpenSpec.ofChange circuitOutputsWrong)

/- THE SECOND FORM. 'bulk': how many values and letters a reading holds, each counted each time it is reached (what is shared counts as often as it is met; a slice's spare places count too). A statement '..UptoSaid' is the law's where the arguments, and the package variables that the reading takes, are together of bulk at most 1048576: NARROWER than '..Said'. Prove '..Said' where nothing that the law and all that it calls make is longer than what came in: it says more and counts as full. Else prove '..UptoSaid'. A law counts once. -/
mutual
def uptoBulk {H : Type} : DataW H → Nat
  | .lit (.string bytes) => bytes.length + 1
  | .lit _ => 1
  | .nil => 1
  | .ptr d => uptoBulk d + 1
  | .slice elems spare => uptoBulkAll elems + uptoBulkAll spare + 1
  | .agg parts => uptoBulkAll parts + 1
  | .iface _ d => uptoBulk d + 1
  | .map entries => uptoBulkEntries entries + 1
  | .held _ => 1
def uptoBulkAll {H : Type} : List (DataW H) → Nat
  | [] => 0
  | d :: r => uptoBulk d + uptoBulkAll r
def uptoBulkEntries {H : Type} : List (Lit × DataW H) → Nat
  | [] => 0
  | x :: r => uptoBulkEntry x + uptoBulkEntries r
def uptoBulkEntry {H : Type} : Lit × DataW H → Nat
  | (.string bytes, d) => bytes.length + uptoBulk d + 1
  | (_, d) => uptoBulk d + 1
 end
def uptoSmall : (H : Type) → List (DataW H) → Bool := fun _ ds => decide (uptoBulkAll ds ≤ 1048576)
def OpenSpec.upto (s : _root_.Go.ChangeSpec) : _root_.Go.OpenSpec := { _root_.Go.OpenSpec.ofChange s with cond := some uptoSmall }

/-- 'foresightlaw28.CircuitMatchesReference', WHERE WHAT IT READS IS OF BULK AT MOST 1048576: true; the input reads as it did. -/
def circuitMatchesReferenceUptoRow : OpenClaim := { program := "ytfabdpnjjondaaa", sum := "38eddef24a898085d2246b81ee48e3808e6f94bce4a0e7f13817ada92a6d2f0d", func := "foresight/foresightlaw28.CircuitMatchesReference", spec := "circuitMatchesReference", unfollowed := true, recurses := true, plainKeys := false, apart := false, narrowed := true }
def CircuitMatchesReferenceUptoSaid : Prop := circuitMatchesReferenceUptoRow.holds Try.pinned (OpenSpec.upto circuitMatchesReferenceSpec)

/-- 'foresightlaw28.CircuitForm', WHERE WHAT IT READS IS OF BULK AT MOST 1048576: true; the input reads as it did. -/
def circuitFormUptoRow : OpenClaim := { program := "ytfabdpnjjondaaa", sum := "38eddef24a898085d2246b81ee48e3808e6f94bce4a0e7f13817ada92a6d2f0d", func := "foresight/foresightlaw28.CircuitForm", spec := "circuitForm", unfollowed := true, recurses := true, plainKeys := false, apart := false, narrowed := true }
def CircuitFormUptoSaid : Prop := circuitFormUptoRow.holds Try.pinned (OpenSpec.upto circuitFormSpec)

/-- 'foresightlaw28.CircuitRuns', WHERE WHAT IT READS IS OF BULK AT MOST 1048576: true; the input reads as it did. -/
def circuitRunsUptoRow : OpenClaim := { program := "ytfabdpnjjondaaa", sum := "38eddef24a898085d2246b81ee48e3808e6f94bce4a0e7f13817ada92a6d2f0d", func := "foresight/foresightlaw28.CircuitRuns", spec := "circuitRuns", unfollowed := true, recurses := true, plainKeys := false, apart := false, narrowed := true }
def CircuitRunsUptoSaid : Prop := circuitRunsUptoRow.holds Try.pinned (OpenSpec.upto circuitRunsSpec)

/-- 'foresightlaw28.CircuitGates', WHERE WHAT IT READS IS OF BULK AT MOST 1048576: true; the input reads as it did. -/
def circuitGatesUptoRow : OpenClaim := { program := "ytfabdpnjjondaaa", sum := "38eddef24a898085d2246b81ee48e3808e6f94bce4a0e7f13817ada92a6d2f0d", func := "foresight/foresightlaw28.CircuitGates", spec := "circuitGates", unfollowed := true, recurses := true, plainKeys := false, apart := false, narrowed := true }
def CircuitGatesUptoSaid : Prop := circuitGatesUptoRow.holds Try.pinned (OpenSpec.upto circuitGatesSpec)

/-- 'foresightlaw28.CircuitSame', WHERE WHAT IT READS IS OF BULK AT MOST 1048576: true; the input reads as it did. -/
def circuitSameUptoRow : OpenClaim := { program := "ytfabdpnjjondaaa", sum := "38eddef24a898085d2246b81ee48e3808e6f94bce4a0e7f13817ada92a6d2f0d", func := "foresight/foresightlaw28.CircuitSame", spec := "circuitSame", unfollowed := true, recurses := true, plainKeys := false, apart := false, narrowed := true }
def CircuitSameUptoSaid : Prop := circuitSameUptoRow.holds Try.pinned (OpenSpec.upto circuitSameSpec)

/-- 'foresightlaw28.CircuitOutputs', WHERE WHAT IT READS IS OF BULK AT MOST 1048576: true; the input reads as it did. -/
def circuitOutputsUptoRow : OpenClaim := { program := "ytfabdpnjjondaaa", sum := "38eddef24a898085d2246b81ee48e3808e6f94bce4a0e7f13817ada92a6d2f0d", func := "foresight/foresightlaw28.CircuitOutputs", spec := "circuitOutputs", unfollowed := true, recurses := true, plainKeys := false, apart := false, narrowed := true }
def CircuitOutputsUptoSaid : Prop := circuitOutputsUptoRow.holds Try.pinned (OpenSpec.upto circuitOutputsSpec)

end Rows
end Go.Proofs.Ytfabdpnjjondaaa
