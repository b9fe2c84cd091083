/-
  What laws 2, 5 and 6 use of a controller that was handed in.
-/
import Derived.Test.YtfabdpnjjondaaaL2
import Derived.Test.YtfabdpnjjondaaaH1
import Derived.Test.YtfabdpnjjondaaaP12
import Derived.Test.YtfabdpnjjondaaaG17
set_option linter.unusedVariables false
set_option linter.unusedSimpArgs false
namespace Go.Proofs.Ytfabdpnjjondaaa
open Go.RowKit
attribute [local go_sem] cell_alloc_old

/-- Old memory is as it was; the first new block holds the controller that came in. -/
def Bm (w : World) (m : Mly) (Ao : Option Addr) (co : Nat) (An : Option Addr) (cn : Nat) (w' : World) : Prop :=
  Below w.heap.size w w' ∧ Box w' w.heap.size #[.int .i64 m.ins, .int .i64 m.outs, .int .i64 m.start, .slice Ao m.out.length co, .slice An m.next.length cn]
theorem Bm.below {w w' w'' : World} {m : Mly} {Ao An : Option Addr} {co cn : Nat} (h : Bm w m Ao co An cn w') (hb : Below w'.heap.size w' w'') : Bm w m Ao co An cn w'' :=
  ⟨h.1.trans (hb.mono h.1.size), h.2.below hb (Nat.le_refl _)⟩
theorem few_small {m : Mly} (h : fewM m = true) : m.out.length ≤ 12 ∧ m.next.length ≤ 12 ∧ m.ins ≤ 20 := by
  unfold fewM at h
  simp only [Bool.and_eq_true, decide_eq_true_eq] at h
  exact ⟨h.1.1.1.1, h.1.1.1.2, h.1.1.2⟩
theorem compiled_ok {m : Mly} (h : fewM m = true) (hm : mealyB m = true) : compileE m = 0 ∧ compiledZ m = 0 := by
  have hs := sized_of hm
  obtain ⟨h1, h2, h3⟩ := few_small h
  have q1 : (m.out.length : Int) * m.ins ≤ 12 * 20 := Int.mul_le_mul (by omega) h3 (by have := hs.i1; omega) (by omega)
  have q2 : (m.next.length : Int) * m.ins ≤ 12 * 20 := Int.mul_le_mul (by omega) h3 (by have := hs.i1; omega) (by omega)
  exact ⟨by unfold compileE; rw [if_pos hm, if_neg (by omega)], by unfold compiledZ; rw [if_pos hm, if_neg (by omega)]⟩
theorem compiled_no {m : Mly} (hm : mealyB m = false) : compileE m = 1 ∧ compiledZ m = 1 := by
  have h : ¬ mealyB m = true := by rw [hm]; decide
  exact ⟨by unfold compileE; rw [if_neg h], by unfold compiledZ; rw [if_neg h]⟩
end Go.Proofs.Ytfabdpnjjondaaa
