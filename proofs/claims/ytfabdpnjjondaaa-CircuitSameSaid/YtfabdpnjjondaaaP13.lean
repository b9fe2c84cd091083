/-
  The twin of a controller (two copies of each state) has the same outputs.
-/
import Derived.Test.YtfabdpnjjondaaaP12
set_option linter.unusedVariables false
set_option linter.unusedSimpArgs false
namespace Go.Proofs.Ytfabdpnjjondaaa

/-- The successor of copy i for input x, and the twin. -/
def twinC (m : Mly) (i x : Nat) : Int := ((m.next.getD (i % m.next.length) []).getD x 0 + (m.next.length : Int) * (1 + ((i / m.next.length : Nat) : Int) + x)) % (2 * (m.next.length : Int))
def twinRow (m : Mly) (i k : Nat) : List Int := (List.range k).map fun x => twinC m i x
def twinOuts (m : Mly) (k : Nat) : List (List Int) := (List.range k).map fun i => m.out.getD (i % m.next.length) []
def twinNexts (m : Mly) (k : Nat) : List (List Int) := (List.range k).map fun i => twinRow m i m.ins.toNat
def twinM (m : Mly) : Mly := ⟨m.ins, m.outs, m.start + (m.next.length : Int), twinOuts m (2 * m.next.length), twinNexts m (2 * m.next.length)⟩

theorem twinRow_succ (m : Mly) (i k : Nat) : twinRow m i (k + 1) = twinRow m i k ++ [twinC m i k] := by
  unfold twinRow; rw [List.range_succ, List.map_append]; rfl
theorem twinOuts_succ (m : Mly) (k : Nat) : twinOuts m (k + 1) = twinOuts m k ++ [m.out.getD (k % m.next.length) []] := by
  unfold twinOuts; rw [List.range_succ, List.map_append]; rfl
theorem twinNexts_succ (m : Mly) (k : Nat) : twinNexts m (k + 1) = twinNexts m k ++ [twinRow m k m.ins.toNat] := by
  unfold twinNexts; rw [List.range_succ, List.map_append]; rfl
theorem twinRow_len (m : Mly) (i k : Nat) : (twinRow m i k).length = k := by simp [twinRow]
theorem twinOuts_len (m : Mly) (k : Nat) : (twinOuts m k).length = k := by simp [twinOuts]
theorem twinNexts_len (m : Mly) (k : Nat) : (twinNexts m k).length = k := by simp [twinNexts]
theorem twinRow_get (m : Mly) (i : Nat) {k x : Nat} (h : x < k) : (twinRow m i k).getD x 0 = twinC m i x := by simp [twinRow, List.getD, h]
theorem twinOuts_get (m : Mly) {k i : Nat} (h : i < k) : (twinOuts m k).getD i [] = m.out.getD (i % m.next.length) [] := by simp [twinOuts, List.getD, h]
theorem twinNexts_get (m : Mly) {k i : Nat} (h : i < k) : (twinNexts m k).getD i [] = twinRow m i m.ins.toNat := by simp [twinNexts, List.getD, h]

theorem twinC_range {m : Mly} (h : Sized m) (i x : Nat) : 0 ≤ twinC m i x ∧ twinC m i x < 2 * (m.next.length : Int) := by
  have h1 := h.n1
  have h2 := h.nn
  unfold twinC
  exact ⟨Int.emod_nonneg _ (by omega), Int.emod_lt_of_pos _ (by omega)⟩
theorem twin_mealy {m : Mly} (h : Sized m) (h12 : m.out.length ≤ 1500) : mealyB (twinM m) = true := by
  obtain ⟨i1, i2, o1, o2, n1, n2, s0, s1, nn, hout, hnext⟩ := h
  have h' : Sized m := ⟨i1, i2, o1, o2, n1, n2, s0, s1, nn, hout, hnext⟩
  unfold mealyB twinM
  dsimp only
  rw [twinOuts_len, twinNexts_len]
  have r1 : rowsB m.ins m.outs (twinOuts m (2 * m.next.length)) = true := by
    unfold rowsB
    refine allN_of fun i hi => ?_
    rw [twinOuts_len] at hi
    rw [twinOuts_get m hi]
    have hq : i % m.next.length < m.out.length := by rw [← nn]; exact Nat.mod_lt _ (by omega)
    have h0 := hout _ 0 hq (by omega)
    unfold rowB
    rw [decide_eq_true h0.1, Bool.true_and]
    unfold belowB
    refine allN_of fun x hx => ?_
    have := hout _ x hq (by omega)
    rw [decide_eq_true this.2.1, decide_eq_true this.2.2]; rfl
  have r2 : rowsB m.ins ((2 * m.next.length : Nat) : Int) (twinNexts m (2 * m.next.length)) = true := by
    unfold rowsB
    refine allN_of fun i hi => ?_
    rw [twinNexts_len] at hi
    rw [twinNexts_get m hi]
    unfold rowB
    rw [twinRow_len, decide_eq_true (by omega), Bool.true_and]
    unfold belowB
    refine allN_of fun x hx => ?_
    rw [twinRow_len] at hx
    rw [twinRow_get m i hx]
    have := twinC_range h' i x
    rw [decide_eq_true this.1, decide_eq_true (by omega)]; rfl
  rw [r1, r2]
  simp only [Bool.and_eq_true, decide_eq_true_eq, and_true]
  omega

/-- The twin is in a copy of the controller's state. -/
theorem twin_state {m : Mly} (h : Sized m) {ins : List Int} (hi : ∀ j, j < ins.length → 0 ≤ ins.getD j 0 ∧ ins.getD j 0 < m.ins) : ∀ k, k ≤ ins.length →
    0 ≤ mSt (twinM m) (twinM m).start ins k ∧ mSt (twinM m) (twinM m).start ins k < 2 * (m.next.length : Int) ∧ mSt (twinM m) (twinM m).start ins k % (m.next.length : Int) = mSt m m.start ins k
  | 0, _ => by
    have h1 := h.s0
    have h2 := h.s1
    have h3 := h.nn
    refine ⟨?_, ?_, ?_⟩
    · show 0 ≤ m.start + _; omega
    · show m.start + _ < _; omega
    · show (m.start + (m.next.length : Int)) % _ = m.start
      rw [Int.add_emod_right, Int.emod_eq_of_lt h1 (by omega)]
  | k + 1, hk => by
    obtain ⟨a1, a2, a3⟩ := twin_state h hi k (by omega)
    have h3 := h.nn
    have h1 := h.n1
    have hr := mSt_range h h.s0 h.s1 hi k (by omega)
    have hx := hi k (by omega)
    rw [mSt, mSt]
    generalize mSt (twinM m) (twinM m).start ins k = Q at a1 a2 a3 ⊢
    generalize mSt m m.start ins k = q at a3 hr ⊢
    generalize ins.getD k 0 = x at hx ⊢
    have e1 : (twinM m).next.getD Q.toNat [] = twinRow m Q.toNat m.ins.toNat := twinNexts_get m (by omega)
    rw [e1, twinRow_get m _ (by omega)]
    have hc := twinC_range h Q.toNat x.toNat
    refine ⟨hc.1, hc.2, ?_⟩
    have e2 : Q.toNat % m.next.length = q.toNat := by rw [← a3, Int.toNat_emod a1 (by omega), Int.toNat_natCast]
    have hn := h.nextr q.toNat x.toNat (by omega) (by omega)
    unfold twinC
    rw [e2, Int.emod_emod_of_dvd _ (Int.dvd_mul_left 2 (m.next.length : Int)), Int.add_mul_emod_self_left, Int.emod_eq_of_lt hn.2.1 (by omega)]
theorem twin_outs {m : Mly} (h : Sized m) {ins : List Int} (hi : ∀ j, j < ins.length → 0 ≤ ins.getD j 0 ∧ ins.getD j 0 < m.ins) : ∀ k, k ≤ ins.length →
    mOuts (twinM m) (twinM m).start ins k = mOuts m m.start ins k
  | 0, _ => rfl
  | k + 1, hk => by
    rw [mOuts, mOuts, twin_outs h hi k (by omega)]
    obtain ⟨a1, a2, a3⟩ := twin_state h hi k (by omega)
    have h1 := h.n1
    have h3 := h.nn
    have hr := mSt_range h h.s0 h.s1 hi k (by omega)
    generalize mSt (twinM m) (twinM m).start ins k = Q at a1 a2 a3 ⊢
    generalize mSt m m.start ins k = q at a3 hr ⊢
    have e1 : (twinM m).out.getD Q.toNat [] = m.out.getD (Q.toNat % m.next.length) [] := twinOuts_get m (by omega)
    have e2 : Q.toNat % m.next.length = q.toNat := by rw [← a3, Int.toNat_emod a1 (by omega), Int.toNat_natCast]
    rw [e1, e2]
/-- Both circuits have the same outputs. -/
theorem twin_run {m : Mly} (h : Sized m) (h12 : m.out.length ≤ 12) (h20 : m.ins ≤ 20) {ins : List Int} (hi : ∀ j, j < ins.length → 0 ≤ ins.getD j 0 ∧ ins.getD j 0 < m.ins) :
    runZ (compileC (twinM m)) ins = runZ (compileC m) ins := by
  have h2 := sized_of (twin_mealy h (by omega))
  have hn := h.nn
  have hl : (twinM m).out.length ≤ 24 := by
    show (twinOuts m (2 * m.next.length)).length ≤ 24
    rw [twinOuts_len]; omega
  have v1 := (comp_valid h (by omega) h20).1
  have v2 := (comp_valid h2 hl h20).1
  rw [comp_run h v1 hi, comp_run h2 v2 (fun j hj => hi j hj), twin_outs h hi _ (Nat.le_refl _)]
theorem twin_len (m : Mly) : (twinM m).out.length = 2 * m.next.length := twinOuts_len m _
end Go.Proofs.Ytfabdpnjjondaaa
