/-
  The fixed examples of head.
-/
import Derived.Test.YtfabdpnjjondaaaP4
set_option linter.unusedVariables false
set_option linter.unusedSimpArgs false
namespace Go.Proofs.Ytfabdpnjjondaaa
open Go.RowKit

def exM : Mly := ⟨1, 2, 0, [[0], [1]], [[1], [0]]⟩
def flipC : Cir := ⟨0, [⟨3, 0, 0⟩, ⟨5, 0, 0⟩], [1], [0]⟩
def bothC : Cir := ⟨2, [⟨2, 0, 0⟩, ⟨2, 1, 0⟩, ⟨4, 0, 1⟩], [], [2, 0]⟩
def sameM : Mly := ⟨2, 2, 0, [[0, 1]], [[0, 0]]⟩
def zeroM : Mly := ⟨0, 0, 0, [], []⟩
def badC1 : Cir := ⟨0, [], [], [0]⟩
def badC2 : Cir := ⟨0, [⟨5, 0, 0⟩], [], []⟩
theorem ex_flip : validB flipC = true ∧ runZ flipC [0, 0, 0] = [0, 1, 0] := by constructor <;> kernel_rfl
theorem ex_both : stepZ bothC 0 3 = (3, 0) ∧ stepZ bothC 0 1 = (2, 0) ∧ runZ bothC [4] = [] := by refine ⟨?_, ?_, ?_⟩ <;> kernel_rfl
theorem ex_bad : validB badC1 = false ∧ validB badC2 = false := by constructor <;> kernel_rfl
theorem ex_ex : compileE exM = 0 ∧ runZ (compileZ exM) [0, 0, 0, 0] = [0, 1, 0, 1] ∧ (compileZ exM).lat.length = 1 := by refine ⟨?_, ?_, ?_⟩ <;> kernel_rfl
theorem ex_same : compileE sameM = 0 ∧ runZ (compileZ sameM) [0, 1, 1] = [0, 1, 1] ∧ (compileZ sameM).lat.length = 0 := by refine ⟨?_, ?_, ?_⟩ <;> kernel_rfl
theorem ex_zero : compileE zeroM = 1 := by kernel_rfl
end Go.Proofs.Ytfabdpnjjondaaa
