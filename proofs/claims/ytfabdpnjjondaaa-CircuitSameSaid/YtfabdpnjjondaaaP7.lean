/-
  Runs of circuits: a beginning's outputs are the outputs' beginning; steps; without latches.
-/
import Derived.Test.YtfabdpnjjondaaaP4
import Derived.Test.YtfabdpnjjondaaaA11
set_option linter.unusedVariables false
set_option linter.unusedSimpArgs false
namespace Go.Proofs.Ytfabdpnjjondaaa

theorem belowB_take {n : Int} {xs : List Int} (h : belowB n xs = true) (k : Nat) : belowB n (xs.take k) = true := by
  unfold belowB at h ⊢
  refine allN_of fun j hj => ?_
  rw [List.length_take] at hj
  rw [getD_take _ _ (by omega)]
  exact allN_true.1 h j (by omega)
theorem latTo_take (c : Cir) (ins : List Int) (n : Nat) : ∀ k, k ≤ n → latTo c (ins.take n) k = latTo c ins k
  | 0, _ => rfl
  | k + 1, h => by rw [latTo, latTo, latTo_take c ins n k (by omega), getD_take _ _ (by omega)]
theorem outsTo_take (c : Cir) (ins : List Int) (n : Nat) : ∀ k, k ≤ n → outsTo c (ins.take n) k = outsTo c ins k
  | 0, _ => rfl
  | k + 1, h => by rw [outsTo, outsTo, outsTo_take c ins n k (by omega), latTo_take c ins n k (by omega), getD_take _ _ (by omega)]
theorem outsTo_pre (c : Cir) (ins : List Int) {k n : Nat} (h : k ≤ n) : (outsTo c ins n).take k = outsTo c ins k := by
  induction n with
  | zero => obtain rfl : k = 0 := by omega
            rfl
  | succ n ih =>
    by_cases e : k = n + 1
    · subst e
      exact List.take_of_length_le (by rw [outsTo_len]; omega)
    · rw [outsTo, List.take_append_of_le_length (by rw [outsTo_len]; omega), ih (by omega)]
theorem outsTo_get (c : Cir) (ins : List Int) {j n : Nat} (h : j < n) : (outsTo c ins n).getD j 0 = (stepC c (latTo c ins j) (ins.getD j 0)).1 := by
  induction n with
  | zero => omega
  | succ n ih =>
    rw [outsTo, getD_snoc, outsTo_len]
    split
    · exact ih ‹_›
    · rw [if_pos (by omega), show n = j by omega]
/-- The run went through. -/
theorem runZ_full {c : Cir} {ins : List Int} (h : (runZ c ins).length = ins.length) (hn : 0 < ins.length) : validB c = true ∧ belowB (pow2 c.ib.toNat) ins = true ∧ runZ c ins = outsTo c ins ins.length := by
  unfold runZ at h ⊢
  by_cases hv : (validB c && belowB (pow2 c.ib.toNat) ins) = true
  · rw [if_pos hv]
    rw [Bool.and_eq_true] at hv
    exact ⟨hv.1, hv.2, rfl⟩
  · rw [if_neg hv] at h
    simp at h
    omega
theorem runZ_len (c : Cir) (ins : List Int) : (runZ c ins).length = ins.length ∨ (runZ c ins).length = 0 := by
  unfold runZ
  split
  · left; exact outsTo_len _ _ _
  · right; rfl
theorem runZ_take {c : Cir} {ins : List Int} (h : (runZ c ins).length = ins.length) {k : Nat} (hk : k ≤ ins.length) : runZ c (ins.take k) = (runZ c ins).take k := by
  by_cases hn : 0 < ins.length
  · obtain ⟨h1, h2, h3⟩ := runZ_full h hn
    rw [h3, outsTo_pre c ins hk]
    unfold runZ
    rw [h1, belowB_take h2]
    simp only [Bool.and_self, if_true]
    rw [List.length_take, Nat.min_eq_left hk]
    exact outsTo_take c ins k k (Nat.le_refl _)
  · have : ins = [] := List.eq_nil_of_length_eq_zero (by omega)
    subst this
    have : runZ c [] = [] := List.eq_nil_of_length_eq_zero (by simpa using h)
    rw [List.take_nil, this, List.take_nil]
theorem runZ_step {c : Cir} {ins : List Int} (h : (runZ c ins).length = ins.length) {i : Nat} (hi : i < ins.length) :
    (stepZ c (latTo c ins i) (ins.getD i 0)).1 = (runZ c ins).getD i 0 ∧ (stepZ c (latTo c ins i) (ins.getD i 0)).2 = latTo c ins (i + 1) := by
  obtain ⟨h1, h2, h3⟩ := runZ_full h (by omega)
  have hf := fits_run h2 hi
  unfold stepZ
  rw [h1, hf, h3, outsTo_get c ins hi]
  exact ⟨rfl, rfl⟩
theorem latTo_none {c : Cir} {ins : List Int} (hl : c.lat.length = 0) : ∀ k, latTo c ins k = 0
  | 0 => rfl
  | k + 1 => by
    have : c.lat = [] := List.eq_nil_of_length_eq_zero hl
    show numZ _ c.lat = 0
    rw [this]; rfl
theorem runZ_one {c : Cir} {ins : List Int} (h : (runZ c ins).length = ins.length) (hl : c.lat.length = 0) {i : Nat} (hi : i < ins.length) : runZ c [ins.getD i 0] = [(runZ c ins).getD i 0] := by
  obtain ⟨h1, h2, h3⟩ := runZ_full h (by omega)
  have hb : belowB (pow2 c.ib.toNat) [ins.getD i 0] = true := by
    unfold belowB at h2 ⊢
    have := allN_true.1 h2 i hi
    refine allN_of fun j hj => ?_
    obtain rfl : j = 0 := by simpa using hj
    exact this
  have : runZ c [ins.getD i 0] = outsTo c [ins.getD i 0] 1 := by
    unfold runZ
    rw [h1, hb]; rfl
  rw [this, h3, outsTo_get c ins hi, latTo_none hl]
  rfl
end Go.Proofs.Ytfabdpnjjondaaa
