/-
  The compiled circuit runs as the controller does; how many gates it has.
-/
import Derived.Test.YtfabdpnjjondaaaP11
set_option linter.unusedVariables false
set_option linter.unusedSimpArgs false
namespace Go.Proofs.Ytfabdpnjjondaaa

/-- The state before input number k; the outputs of the first k inputs. -/
def mSt (m : Mly) (s : Int) (ins : List Int) : Nat → Int
  | 0 => s
  | k + 1 => (m.next.getD (mSt m s ins k).toNat []).getD (ins.getD k 0).toNat 0
def mOuts (m : Mly) (s : Int) (ins : List Int) : Nat → List Int
  | 0 => []
  | k + 1 => mOuts m s ins k ++ [(m.out.getD (mSt m s ins k).toNat []).getD (ins.getD k 0).toNat 0]
theorem mOuts_len (m : Mly) (s : Int) (ins : List Int) : ∀ k, (mOuts m s ins k).length = k
  | 0 => rfl
  | k + 1 => by simp [mOuts, mOuts_len m s ins k]
theorem mSt_range {m : Mly} (h : Sized m) {s : Int} {ins : List Int} (s0 : 0 ≤ s) (s1 : s < m.out.length) (hi : ∀ j, j < ins.length → 0 ≤ ins.getD j 0 ∧ ins.getD j 0 < m.ins) : ∀ k, k ≤ ins.length → 0 ≤ mSt m s ins k ∧ mSt m s ins k < m.out.length
  | 0, _ => ⟨s0, s1⟩
  | k + 1, hk => by
    have ih := mSt_range h s0 s1 hi k (by omega)
    have hx := hi k (by omega)
    have := h.nextr (mSt m s ins k).toNat (ins.getD k 0).toNat (by omega) (by omega)
    exact ⟨this.2.1, this.2.2⟩
theorem comp_lat {m : Mly} (h : Sized m) {ins : List Int} (hi : ∀ j, j < ins.length → 0 ≤ ins.getD j 0 ∧ ins.getD j 0 < m.ins) : ∀ k, k ≤ ins.length →
    latTo (compileC m) ins k = codeZ m.start (mSt m m.start ins k) ∧ outsTo (compileC m) ins k = mOuts m m.start ins k
  | 0, _ => ⟨by show (0 : Int) = codeZ m.start m.start; unfold codeZ; rw [if_pos rfl], rfl⟩
  | k + 1, hk => by
    obtain ⟨h1, h2⟩ := comp_lat h hi k (by omega)
    have hx := hi k (by omega)
    have hq := mSt_range h h.s0 h.s1 hi k (by omega)
    have hs := comp_step h (q := (mSt m m.start ins k).toNat) (x := (ins.getD k 0).toNat) (by omega) (by omega)
    rw [show (((mSt m m.start ins k).toNat : Nat) : Int) = mSt m m.start ins k by omega, show (((ins.getD k 0).toNat : Nat) : Int) = ins.getD k 0 by omega] at hs
    constructor
    · rw [latTo, h1, hs]; rfl
    · rw [outsTo, h1, h2, hs]; rfl
theorem comp_run {m : Mly} (h : Sized m) (hv : VC (compileC m)) {ins : List Int} (hi : ∀ j, j < ins.length → 0 ≤ ins.getD j 0 ∧ ins.getD j 0 < m.ins) : runZ (compileC m) ins = mOuts m m.start ins ins.length := by
  have hb : belowB (pow2 (compileC m).ib.toNat) ins = true := by
    rw [belowB_iff]
    intro j hj
    have := hi j hj
    have hp := (bitsN_range m.ins h.i1 (by have := h.i2; omega)).1
    have e : (compileC m).ib.toNat = inW m := by show ((inW m : Nat) : Int).toNat = _; omega
    rw [e]
    show _ ∧ _ < pow2 (bitsN m.ins)
    omega
  unfold runZ
  rw [(validB_iff _).2 hv, hb]
  exact (comp_lat h hi ins.length (Nat.le_refl _)).2

/-! Counting. -/
theorem countP_range_lt (M : Nat) : ∀ B, (List.range B).countP (fun j => decide (j < M)) ≤ min B M
  | 0 => by simp
  | B + 1 => by
    have := countP_range_lt M B
    rw [List.range_succ, List.countP_append, List.countP_singleton]
    split
    · rename_i h
      simp at h
      omega
    · omega
theorem countP_grid (B N M : Nat) (hB : 0 < B) : ∀ A, (List.range (A * B)).countP (fun i => decide (i / B < N) && decide (i % B < M)) ≤ min A N * M
  | 0 => by simp
  | A + 1 => by
    have ih := countP_grid B N M hB A
    rw [Nat.add_mul, Nat.one_mul, List.range_add, List.countP_append, List.countP_map]
    have e : (List.range B).countP ((fun i => decide (i / B < N) && decide (i % B < M)) ∘ fun x => A * B + x) ≤ if A < N then M else 0 := by
      have e1 : ∀ j, j ∈ List.range B → (((fun i => decide (i / B < N) && decide (i % B < M)) ∘ fun x => A * B + x) j = true ↔ (decide (A < N) && decide (j < M)) = true) := fun j hj => by
        have hj := List.mem_range.1 hj
        simp only [Function.comp]
        rw [show (A * B + j) / B = A by rw [Nat.add_comm, Nat.add_mul_div_right _ _ hB, Nat.div_eq_of_lt hj, Nat.zero_add], show (A * B + j) % B = j by rw [Nat.add_comm, Nat.add_mul_mod_self_right, Nat.mod_eq_of_lt hj]]
      rw [List.countP_congr e1]
      split
      · rename_i h
        simp only [h, decide_true, Bool.true_and]
        exact Nat.le_trans (countP_range_lt M B) (Nat.min_le_right _ _)
      · rename_i h
        simp only [h, decide_false, Bool.false_and]
        simp
    split at e
    · have : min (A + 1) N = min A N + 1 := by omega
      rw [this, Nat.add_mul, Nat.one_mul]
      omega
    · have : min (A + 1) N = min A N := by omega
      rw [this]
      omega
/-- Whether the pair of neighbours number i is not free. -/
def full2 (cells : List Int) (i : Nat) : Bool := !(decide (cells.getD (2 * i) 0 = -1) && decide (cells.getD (2 * i + 1) 0 = -1))
theorem blk_count : ∀ (n : Nat) (cells : List Int), cells.length = 2 ^ (n + 1) → blk (n + 1) cells = (List.range (2 ^ n)).countP (full2 cells)
  | 0, cells, h => by
    match cells, h with
    | [x, y], _ =>
      simp only [blk, emptyB, allN, full2]
      by_cases h1 : x = -1 <;> by_cases h2 : y = -1 <;> simp [h1, h2, List.range_succ, full2]
  | n + 1, cells, h => by
    have hp : 0 < 2 ^ (n + 1) := Nat.two_pow_pos _
    have hh : cells.length = 2 * 2 ^ (n + 1) := by rw [h, show n + 1 + 1 = (n + 1) + 1 from rfl, Nat.pow_succ]; omega
    have hq : cells.length / 2 = 2 ^ (n + 1) := by omega
    have h2 : 2 ^ (n + 1) = 2 * 2 ^ n := by rw [Nat.pow_succ]; omega
    rw [blk, hq, blk_count n (cells.take (2 ^ (n + 1))) (by rw [List.length_take]; omega), blk_count n (cells.drop (2 ^ (n + 1))) (by rw [List.length_drop]; omega)]
    rw [show 2 ^ (n + 1) = 2 ^ n + 2 ^ n by omega, List.range_add, List.countP_append, List.countP_map]
    rw [show 2 ^ n + 2 ^ n = 2 ^ (n + 1) by omega]
    congr 1
    · refine List.countP_congr fun i hi => ?_
      have hi := List.mem_range.1 hi
      unfold full2
      rw [getD_take _ _ (by omega), getD_take _ _ (by omega)]
    · refine List.countP_congr fun i hi => ?_
      have hi := List.mem_range.1 hi
      have hd : ∀ k, (cells.drop (2 ^ (n + 1))).getD k 0 = cells.getD (2 ^ (n + 1) + k) 0 := fun k => by simp [List.getD]
      simp only [Function.comp]
      unfold full2
      rw [hd, hd, show 2 * (2 ^ n + i) = 2 ^ (n + 1) + 2 * i by omega, show 2 ^ (n + 1) + 2 * i + 1 = 2 ^ (n + 1) + (2 * i + 1) by omega]
theorem cell_free {m : Mly} {val : Int → Int → Int} {r : Nat} (hr : r < rowsM m) (h : ¬ (((r / 2 ^ inW m : Nat) : Int) < m.out.length ∧ ((r % 2 ^ inW m : Nat) : Int) < m.ins)) : (cellsOf val (pairsTo m (rowsM m))).getD r 0 = -1 := by
  have hl : r < (pairsTo m (rowsM m)).length := by rw [pairs_len]; exact hr
  have e := pairs_get m hr
  simp only [List.getD, List.getElem?_eq_getElem hl, Option.getD_some] at e
  simp only [cellsOf, List.getD, List.getElem?_map, List.getElem?_eq_getElem hl, Option.map_some, Option.getD_some]
  rw [e]
  unfold pairN
  rw [if_neg h, if_pos rfl]
theorem blk_cells {m : Mly} (h : Sized m) (val : Int → Int → Int) : blk (laW m + inW m) (cellsOf val (pairsTo m (rowsM m))) ≤ m.out.length * ((m.ins.toNat + 1) / 2) := by
  have hlen : (cellsOf val (pairsTo m (rowsM m))).length = 2 ^ (laW m + inW m) := by simp [cellsOf, pairs_len, rowsM]
  have hi1 := h.i1
  have hn1 := h.n1
  have b3 := (bitsN_range m.ins h.i1 (by have := h.i2; omega)).1
  obtain ⟨kin, hkin⟩ : ∃ k, inW m = k := ⟨_, rfl⟩
  rcases kin with _ | kin
  · -- one input
    have hins : m.ins = 1 := by
      rw [show bitsN m.ins = 0 from hkin] at b3
      simp [pow2] at b3
      omega
    obtain ⟨kla, hkla⟩ : ∃ k, laW m = k := ⟨_, rfl⟩
    rw [hins]
    rcases kla with _ | kla
    · rw [hkla, hkin]
      have := blk_le 0 (cellsOf val (pairsTo m (rowsM m)))
      simp at this ⊢
      omega
    · rw [hkla, hkin] at hlen ⊢
      rw [Nat.add_zero] at hlen ⊢
      rw [blk_count kla _ hlen]
      have hle : (List.range (2 ^ kla)).countP (full2 (cellsOf val (pairsTo m (rowsM m)))) ≤ (List.range (2 ^ kla)).countP (fun j => decide (j < m.out.length)) := by
        refine List.countP_mono_left fun i hi hf => ?_
        have hi := List.mem_range.1 hi
        rw [decide_eq_true_eq]
        refine Decidable.byContradiction fun hn => ?_
        have h2 : 2 ^ (kla + 1) = 2 * 2 ^ kla := by rw [Nat.pow_succ]; omega
        have hrm : rowsM m = 2 ^ (kla + 1) := by unfold rowsM; rw [hkla, hkin, Nat.add_zero]
        have f1 := cell_free (m := m) (val := val) (r := 2 * i) (by omega) (by rw [hkin]; simp; omega)
        have f2 := cell_free (m := m) (val := val) (r := 2 * i + 1) (by omega) (by rw [hkin]; simp; omega)
        unfold full2 at hf
        rw [f1, f2] at hf
        simp at hf
      have := countP_range_lt m.out.length (2 ^ kla)
      simp
      omega
  · rw [hkin] at hlen ⊢
    rw [show laW m + (kin + 1) = (laW m + kin) + 1 by omega] at hlen ⊢
    rw [blk_count _ _ hlen, Nat.pow_add]
    have hB : 0 < 2 ^ kin := Nat.two_pow_pos _
    have h2 : 2 ^ (kin + 1) = 2 * 2 ^ kin := by rw [Nat.pow_succ]; omega
    have hrm : rowsM m = 2 * (2 ^ laW m * 2 ^ kin) := by
      unfold rowsM
      rw [hkin, Nat.pow_add, h2]
      rw [Nat.mul_left_comm]
    refine Nat.le_trans (List.countP_mono_left (q := fun i => decide (i / 2 ^ kin < m.out.length) && decide (i % 2 ^ kin < (m.ins.toNat + 1) / 2)) fun i hi hf => ?_) (Nat.le_trans (countP_grid (2 ^ kin) m.out.length ((m.ins.toNat + 1) / 2) hB (2 ^ laW m)) (Nat.mul_le_mul_right _ (Nat.min_le_right _ _)))
    have hi := List.mem_range.1 hi
    rw [Bool.and_eq_true, decide_eq_true_eq, decide_eq_true_eq]
    refine Decidable.byContradiction fun hn => ?_
    have d1 : (2 * i) / 2 ^ (kin + 1) = i / 2 ^ kin := by rw [h2, Nat.mul_div_mul_left _ _ (by omega)]
    have m1 : (2 * i) % 2 ^ (kin + 1) = 2 * (i % 2 ^ kin) := by rw [h2, Nat.mul_mod_mul_left]
    have d2 : (2 * i + 1) / 2 ^ (kin + 1) = i / 2 ^ kin := by
      rw [h2, ← Nat.div_div_eq_div_mul]
      congr 1
      omega
    have m2 : (2 * i + 1) % 2 ^ (kin + 1) = 2 * (i % 2 ^ kin) + 1 := by
      have e1 := Nat.div_add_mod (2 * i + 1) (2 ^ (kin + 1))
      have e2 := Nat.div_add_mod (2 * i) (2 ^ (kin + 1))
      rw [d2] at e1
      rw [d1, m1] at e2
      omega
    have f1 := cell_free (m := m) (val := val) (r := 2 * i) (by omega) (by rw [hkin, d1, m1]; omega)
    have f2 := cell_free (m := m) (val := val) (r := 2 * i + 1) (by omega) (by rw [hkin, d2, m2]; omega)
    unfold full2 at hf
    rw [f1, f2] at hf
    simp at hf
/-- The number of gates of the whole list. -/
theorem comp_total {m : Mly} (h : Sized m) : (latsM m).2.length ≤ 2 * (laW m + inW m + 1 + (bitsN m.outs + laW m) * (3 * (m.out.length * ((m.ins.toNat + 1) / 2) - 1))) := by
  have := lats_few m _ (fun i => blk_cells h (outVal m i)) (fun i => blk_cells h (latVal m i)) (laW m)
  rw [Nat.add_mul]
  exact this
theorem bits_le {n : Int} {b : Nat} (h1 : 1 ≤ n) (h2 : n ≤ ((2 ^ b : Nat) : Int)) (h3 : n ≤ 65536) (hb : b ≤ 16) : bitsN n ≤ b := by
  refine Decidable.byContradiction fun hn => ?_
  have hr := (bitsN_range n h1 h3).2
  have hn1 : 1 < n := by
    refine Decidable.byContradiction fun hx => ?_
    have : n = 1 := by omega
    subst this
    exact hn (by show bitsN 1 ≤ b; rw [show bitsN 1 = 0 from by decide]; omega)
  have := hr hn1
  rw [pow2_nat] at this
  have h4 : 2 ^ (b + 1) ≤ 2 ^ bitsN n := Nat.pow_le_pow_right (by omega) (by omega)
  rw [Nat.pow_succ] at h4
  omega
/-- The circuit of a small controller is well-formed. -/
theorem comp_valid {m : Mly} (h : Sized m) (hn : m.out.length ≤ 24) (hi : m.ins ≤ 20) : VC (compileC m) ∧ (latsM m).2.length ≤ 15800 := by
  have w1 : laW m ≤ 5 := bits_le (by have := h.n1; omega) (by show (m.out.length : Int) ≤ 32; omega) (by omega) (by omega)
  have w2 : inW m ≤ 5 := bits_le h.i1 (by show m.ins ≤ 32; omega) (by omega) (by omega)
  have w3 : bitsN m.outs ≤ 6 := bits_le h.o1 (by have := h.o2; show m.outs ≤ 64; omega) (by have := h.o2; omega) (by omega)
  have ht := comp_total h
  have e1 : m.out.length * ((m.ins.toNat + 1) / 2) ≤ 24 * 10 := Nat.mul_le_mul hn (by omega)
  have e2 : (bitsN m.outs + laW m) * (3 * (m.out.length * ((m.ins.toNat + 1) / 2) - 1)) ≤ 11 * (3 * 239) := Nat.mul_le_mul (by omega) (by omega)
  have hl := comp_lens m
  refine ⟨used_valid (comp_used m) (by rw [hl.1]) (by omega) (by omega) (by rw [hl.1]; omega) (by rw [hl.2]; exact w3) (by omega), by omega⟩
end Go.Proofs.Ytfabdpnjjondaaa
