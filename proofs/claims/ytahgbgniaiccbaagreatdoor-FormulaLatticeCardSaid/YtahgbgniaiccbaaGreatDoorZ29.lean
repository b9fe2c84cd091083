/-
  Regions that draw their order inside a round of a loop over a function: they are done as outside of one.
-/
import Derived.Test.YtahgbgniaiccbaaGreatDoorZ00
import Derived.Test.YtahgbgniaiccbaaGreatDoorZ28
set_option linter.unusedVariables false
set_option linter.unusedSimpArgs false
namespace Go.Proofs.YtahgbgniaiccbaaGreatDoor
open Go.RowKit

/-- No operation defers a call. -/
def noDefer (ops : Array Oper) : Bool := ops.all fun o => match o.op with
  | .defer _ => false
  | _ => true
theorem noDefer_spec {ops : Array Oper} (h : noDefer ops = true) {i : Nat} {o : Oper} (ho : ops[i]? = some o) : ∀ c, o.op ≠ .defer c := by
  intro c e
  obtain ⟨hi, rfl⟩ := Array.getElem?_eq_some_iff.1 ho
  have := Array.all_eq_true.1 h i hi
  rw [e] at this
  cases this
section
variable {P : Program} {ops : Array Oper} {Q : Exit → Act → World → Prop} {n l : Nat}
theorem wpIn_of_wp {o : Oper} (hd : ∀ c, o.op ≠ .defer c) {a : Act} {w : World} {K K' : Act → World → Prop} (hK : ∀ a w, K a w → K' a w) (h : Oper.wp P o a w K Q) : Oper.wpIn (Fence.wide.inRound l) n P o a w K' Q := by
  refine ⟨fun _ _ => trivial, ?_⟩
  rw [Oper.semAt_eq _ _ _ hd]
  unfold Oper.wp at h
  generalize (execOp a.eval o).run P w = r at *
  cases r with
  | ok nx w' =>
    cases nx with
    | value v => exact hK _ _ h
    | skip => exact hK _ _ h
    | defer d => exact hK _ _ h
    | enter f args =>
      refine ⟨fun h => (by cases h), ?_⟩
      refine CallsIn.inRound l (callsIn_wide.2 (Calls.mono h fun e w'' he => ?_))
      cases e with
      | returned u => exact hK _ _ he
      | panicked c => exact he
      | outgrown => exact he
    | row row args =>
      refine ⟨fun h => (by cases h), fun c cs _ => ?_⟩
      obtain ⟨v, w', r, s⟩ := h c cs
      exact ⟨v, w', hK _ _ r, stepsIn_wide.2 s⟩
    | round _ _ _ _ _ => exact h.elim
    | recover => exact h.elim
    | _ => exact h.elim
  | halt x w' => cases x <;> exact h
theorem wpOpsIn_round (hd : noDefer ops = true) (hQ : ¬ LetsOut Q) : ∀ (is : List Nat) (a : Act) (w : World), wpOps P ops Q is a w → wpOpsIn (Fence.wide.inRound l) n P ops Q is a w
  | [], a, w, h => h
  | i :: is, a, w, h => by
    unfold wpOps at h
    unfold wpOpsIn
    cases ho : ops[i]? with
    | none =>
      simp only [ho] at h ⊢
      exact wpOpsIn_round hd hQ is a w h
    | some o =>
      simp only [ho] at h ⊢
      split
      · rename_i hw
        rw [if_pos hw] at h
        rcases h with h | h
        · exact wpIn_of_wp (noDefer_spec hd ho) (fun a w => wpOpsIn_round hd hQ is a w) h
        · exact absurd h.2 hQ
      · rename_i hw
        rw [if_neg hw] at h
        exact ⟨fun _ _ => trivial, wpOpsIn_round hd hQ is _ w h⟩
theorem wpIn_round_any {id : Nat} {a : Act} {w : World} (hm : P.follows .mixedOrders = true) (hd : noDefer ops = true) (hQ : ¬ LetsOut Q)
    (h : wpAny P .any ops Q ops.size (Array.replicate ops.size false) a w.drew) : (Code.region id ops true).wpIn (Fence.wide.inRound l) n P Q a w :=
  wpIn_region_draw fun t => by
    simp only [Region.schedule, hm, Bool.true_or, if_true]
    exact wpOpsIn_round hd hQ _ a _ (wpAny_sound ops.size t _ a _ h)
theorem wpIn_round_sink {id : Nat} {a : Act} {w : World} {ls : List Oper} {o : Oper} (S : World → Prop) (hm : P.follows .mixedOrders = true) (hd : noDefer (o :: ls).toArray = true) (hQ : ¬ LetsOut Q)
    (hb : backB (o :: ls).dropLast.toArray = true) (hl : sinkB .any (o :: ls).dropLast.toArray.size ((o :: ls).getLast (List.cons_ne_nil _ _)) = true) (hS : S w.drew)
    (h : S w.drew → wpAnyH P .any (o :: ls).dropLast.toArray (sinkQ P ((o :: ls).getLast (List.cons_ne_nil _ _)) Q) S (o :: ls).dropLast.toArray.size (Array.replicate (o :: ls).dropLast.toArray.size false) a w.drew) : (Code.region id (o :: ls).toArray true).wpIn (Fence.wide.inRound l) n P Q a w := by
  refine wpIn_round_any hm hd hQ ?_
  have h1 := wpAny_sink hb hl (o :: ls).dropLast.toArray.size (Array.replicate (o :: ls).dropLast.toArray.size false) a w.drew (by simp) (wpAny_of_held _ _ _ _ (h hS))
  have e0 : (o :: ls).toArray = (o :: ls).dropLast.toArray.push ((o :: ls).getLast (List.cons_ne_nil _ _)) := by rw [List.push_toArray, List.dropLast_concat_getLast]
  rw [e0, Array.size_push]
  have e : Array.replicate ((o :: ls).dropLast.toArray.size + 1) false = (Array.replicate (o :: ls).dropLast.toArray.size false).push false := by rw [Array.replicate_succ]
  rw [e]
  exact h1
end
end Go.Proofs.YtahgbgniaiccbaaGreatDoor
