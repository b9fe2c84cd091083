/-
  The circuit with those gates that its latches and outputs need, as a plain function.
-/
import Derived.Test.YtfabdpnjjondaaaP2
set_option linter.unusedVariables false
set_option linter.unusedSimpArgs false
namespace Go.Proofs.Ytfabdpnjjondaaa

def markTo (need : List Bool) (l : List Int) : Nat → List Bool
  | 0 => need
  | k + 1 => (markTo need l k).set (l.getD k 0).toNat true
def needStep (gs : GS) (need : List Bool) (i : Nat) : List Bool :=
  if need.getD i false = true ∧ ((gs.getD i default).k = 4 ∨ (gs.getD i default).k = 5) then
    (need.set (gs.getD i default).a.toNat true).set (gs.getD i default).b.toNat ((need.set (gs.getD i default).a.toNat true).getD (gs.getD i default).b.toNat false || decide ((gs.getD i default).k = 4))
  else need
def needDown (gs : GS) : Nat → List Bool → List Bool
  | 0, need => need
  | i + 1, need => needDown gs i (needStep gs need i)
/-- The marks after the first j lists. -/
def marks (gs : GS) (lats outs : List Int) : Nat → List Bool
  | 0 => List.replicate gs.length false
  | 1 => markTo (List.replicate gs.length false) lats lats.length
  | _ + 2 => markTo (markTo (List.replicate gs.length false) lats lats.length) outs outs.length
def needOf (gs : GS) (lats outs : List Int) : List Bool := needDown gs gs.length (marks gs lats outs 2)
def ren (num : List Int) (g : Gt) : Gt := if g.k = 4 then ⟨4, num.getD g.a.toNat 0, num.getD g.b.toNat 0⟩ else if g.k = 5 then ⟨5, num.getD g.a.toNat 0, g.b⟩ else g
def keepTo (gs : GS) (need : List Bool) : Nat → List Int × GS
  | 0 => (List.replicate gs.length 0, [])
  | i + 1 => if need.getD i false = true then ((keepTo gs need i).1.set i (keepTo gs need i).2.length, (keepTo gs need i).2 ++ [ren ((keepTo gs need i).1.set i (keepTo gs need i).2.length) (gs.getD i default)]) else keepTo gs need i
def numsTo (num l : List Int) (k : Nat) : List Int := (l.take k).map fun g => num.getD g.toNat 0
def usedC (gs : GS) (ib : Int) (lats outs : List Int) : Cir :=
  ⟨ib, (keepTo gs (needOf gs lats outs) gs.length).2, numsTo (keepTo gs (needOf gs lats outs) gs.length).1 lats lats.length, numsTo (keepTo gs (needOf gs lats outs) gs.length).1 outs outs.length⟩

theorem markTo_len (need : List Bool) (l : List Int) : ∀ k, (markTo need l k).length = need.length
  | 0 => rfl
  | k + 1 => by simp [markTo, markTo_len need l k]
theorem needStep_len (gs : GS) (need : List Bool) (i : Nat) : (needStep gs need i).length = need.length := by
  unfold needStep
  split <;> simp
theorem needDown_len (gs : GS) : ∀ (i : Nat) (need : List Bool), (needDown gs i need).length = need.length
  | 0, _ => rfl
  | i + 1, need => by rw [needDown, needDown_len gs i, needStep_len]
theorem marks_len (gs : GS) (lats outs : List Int) : ∀ j, (marks gs lats outs j).length = gs.length
  | 0 => by simp [marks]
  | 1 => by simp [marks, markTo_len]
  | _ + 2 => by simp [marks, markTo_len]
theorem needOf_len (gs : GS) (lats outs : List Int) : (needOf gs lats outs).length = gs.length := by rw [needOf, needDown_len, marks_len]
theorem marks_succ (gs : GS) (lats outs : List Int) (j : Nat) (hj : j < 2) : marks gs lats outs (j + 1) = markTo (marks gs lats outs j) (if j = 0 then lats else outs) (if j = 0 then lats else outs).length := by
  match j, hj with
  | 0, _ => rfl
  | 1, _ => rfl
theorem keepTo_len (gs : GS) (need : List Bool) : ∀ i, (keepTo gs need i).1.length = gs.length
  | 0 => by simp [keepTo]
  | i + 1 => by
    rw [keepTo]
    split
    · simp [keepTo_len gs need i]
    · exact keepTo_len gs need i
theorem keepTo_out (gs : GS) (need : List Bool) : ∀ i, (keepTo gs need i).2.length ≤ i
  | 0 => by simp [keepTo]
  | i + 1 => by
    have := keepTo_out gs need i
    rw [keepTo]
    split
    · simp; omega
    · omega
theorem numsTo_succ (num l : List Int) {k : Nat} (h : k < l.length) : numsTo num l (k + 1) = numsTo num l k ++ [num.getD (l.getD k 0).toNat 0] := by
  unfold numsTo
  rw [take_succ_getD l 0 h, List.map_append]; rfl
theorem numsTo_len (num l : List Int) {k : Nat} (h : k ≤ l.length) : (numsTo num l k).length = k := by
  unfold numsTo
  simp; omega
end Go.Proofs.Ytfabdpnjjondaaa
