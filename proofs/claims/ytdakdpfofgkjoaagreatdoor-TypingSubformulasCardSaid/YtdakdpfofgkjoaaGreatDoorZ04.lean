/-
  The table of the operators' forms in memory; walk of formOf.
-/
import Derived.Test.YtdakdpfofgkjoaaGreatDoorZ03
set_option linter.unusedVariables false
set_option linter.unusedSimpArgs false
namespace Go.Proofs.YtdakdpfofgkjoaaGreatDoor
open Go.RowKit
attribute [local go_sem] cell_alloc_old

def formV (s : Form) : Value := .agg #[.int .i64 s.least, .int .i64 s.most, .int .i64 s.val, .int .i64 s.bound, .bool s.named, .bool s.past, .bool s.future, .bool s.loose]
/-- The table lies in block 0. -/
structure GF (w : World) : Prop where
  pos : 0 < w.heap.size
  at_ : ∀ k, k < 20 → w.cell? ⟨0, k * 8, none⟩ = some (.int .i64 (formsL.getD k form0).least) ∧ w.cell? ⟨0, k * 8 + 1, none⟩ = some (.int .i64 (formsL.getD k form0).most) ∧ w.cell? ⟨0, k * 8 + 2, none⟩ = some (.int .i64 (formsL.getD k form0).val) ∧ w.cell? ⟨0, k * 8 + 3, none⟩ = some (.int .i64 (formsL.getD k form0).bound) ∧
    w.cell? ⟨0, k * 8 + 4, none⟩ = some (.bool (formsL.getD k form0).named) ∧ w.cell? ⟨0, k * 8 + 5, none⟩ = some (.bool (formsL.getD k form0).past) ∧ w.cell? ⟨0, k * 8 + 6, none⟩ = some (.bool (formsL.getD k form0).future) ∧ w.cell? ⟨0, k * 8 + 7, none⟩ = some (.bool (formsL.getD k form0).loose)
theorem GF.below {w w' : World} {B : Nat} (h : GF w) (hb : Below B w w') (hB : 0 < B) : GF w' :=
  ⟨Nat.lt_of_lt_of_le h.pos hb.size, fun k hk => by
    obtain ⟨c0, c1, c2, c3, c4, c5, c6, c7⟩ := h.at_ k hk
    have key : ∀ j u, w.cell? ⟨0, j, none⟩ = some u → w'.cell? ⟨0, j, none⟩ = some u := fun j u hu => (hb.cell (p := ⟨0, j, none⟩) hB).trans hu
    exact ⟨key _ _ c0, key _ _ c1, key _ _ c2, key _ _ c3, key _ _ c4, key _ _ c5, key _ _ c6, key _ _ c7⟩⟩
theorem build_form0 (w : World) : (Instr.build 84 #[]).run Tryz.prog w = .ok (.agg #[.int .i64 0, .int .i64 0, .int .i64 0, .int .i64 0, .bool false, .bool false, .bool false, .bool false]) w := run_build w 84 _ _ (by kernel_rfl)
attribute [local go_sem] build_form0
set_option maxRecDepth 100000 in
set_option maxHeartbeats 2000000 in
theorem formof_any (op : Int) (w : World) (h : GF w) : Calls Tryz.prog 49 #[.int .i64 op] w fun e w' => e = .returned (.tuple #[formV (formZ op), .bool (isOp op)]) ∧ Below w.heap.size w w' := by
  have HG := hid h
  have hpos := h.pos
  clear h
  by_cases h0 : op < 1
  · have hop : isOp op = false := by unfold isOp; rw [decide_eq_false (by omega)]; rfl
    have hz : formZ op = form0 := by unfold formZ; rw [hop]; rfl
    rw [hz, hop]
    have d0 : decide (op < 1) = true := decide_eq_true h0
    clear hop hz
    go_enter Tryz.func49, Tryz.ntmps49
    go_wp2_with fail
    refine bodyPost_gen fun W hW => ?_
    have hb : Below w.heap.size w W := by rw [hW]; go_grown
    have hc : W.heap[w.heap.size]? = some (.cells #[.int .i64 0, .int .i64 0, .int .i64 0, .int .i64 0, .bool false, .bool false, .bool false, .bool false] 84 (0, 0)) := by rw [hW]; exact heap_alloc_new w _
    have r0 := block_cell hc (i := 0) rfl
    have r1 := block_cell hc (i := 1) rfl
    have r2 := block_cell hc (i := 2) rfl
    have r3 := block_cell hc (i := 3) rfl
    have r4 := block_cell hc (i := 4) rfl
    have r5 := block_cell hc (i := 5) rfl
    have r6 := block_cell hc (i := 6) rfl
    have r7 := block_cell hc (i := 7) rfl
    clear hW
    exact bodyPost_ret (v := .tuple #[.agg #[.int .i64 0, .int .i64 0, .int .i64 0, .int .i64 0, .bool false, .bool false, .bool false, .bool false], .bool false]) (by simp [results, Tryz.results49, go_sem, r0, r1, r2, r3, r4, r5, r6, r7]) rfl ⟨rfl, hb⟩
  · by_cases h1 : 20 ≤ op
    · have hop : isOp op = false := by unfold isOp; rw [decide_eq_false (show ¬ op < 20 by omega)]; simp
      have hz : formZ op = form0 := by unfold formZ; rw [hop]; rfl
      rw [hz, hop]
      have d0 : decide (op < 1) = false := decide_eq_false h0
      have d1 : decide (20 ≤ op) = true := decide_eq_true h1
      clear hop hz
      go_enter Tryz.func49, Tryz.ntmps49
      go_wp2_with fail
      refine bodyPost_gen fun W hW => ?_
      have hb : Below w.heap.size w W := by rw [hW]; go_grown
      have hc : W.heap[w.heap.size]? = some (.cells #[.int .i64 0, .int .i64 0, .int .i64 0, .int .i64 0, .bool false, .bool false, .bool false, .bool false] 84 (0, 0)) := by rw [hW]; exact heap_alloc_new w _
      have r0 := block_cell hc (i := 0) rfl
      have r1 := block_cell hc (i := 1) rfl
      have r2 := block_cell hc (i := 2) rfl
      have r3 := block_cell hc (i := 3) rfl
      have r4 := block_cell hc (i := 4) rfl
      have r5 := block_cell hc (i := 5) rfl
      have r6 := block_cell hc (i := 6) rfl
      have r7 := block_cell hc (i := 7) rfl
      clear hW
      exact bodyPost_ret (v := .tuple #[.agg #[.int .i64 0, .int .i64 0, .int .i64 0, .int .i64 0, .bool false, .bool false, .bool false, .bool false], .bool false]) (by simp [results, Tryz.results49, go_sem, r0, r1, r2, r3, r4, r5, r6, r7]) rfl ⟨rfl, hb⟩
    · obtain ⟨k, rfl⟩ : ∃ k : Nat, op = (k : Int) := ⟨op.toNat, by omega⟩
      have hk : k < 20 := by omega
      have hop : isOp (k : Int) = true := by unfold isOp; rw [decide_eq_true (by omega : (1 : Int) ≤ (k : Int)), decide_eq_true (by omega : (k : Int) < 20)]; rfl
      have hz : formZ (k : Int) = formsL.getD k form0 := by unfold formZ; rw [hop]; rfl
      rw [hz, hop]
      obtain ⟨s, hs⟩ : ∃ s, s = formsL.getD k form0 := ⟨_, rfl⟩
      have hg := HG.out.at_ k hk
      rw [← hs] at hg ⊢
      obtain ⟨c0, c1, c2, c3, c4, c5, c6, c7⟩ := hg
      have d0 : decide ((k : Int) < 1) = false := decide_eq_false h0
      have d1 : decide (20 ≤ (k : Int)) = false := decide_eq_false h1
      have hki : (k : Int) < 20 := by omega
      clear hop hz hs
      go_enter Tryz.func49, Tryz.ntmps49
      go_wp2_with fail
      refine bodyPost_gen fun W hW => ?_
      have hb : Below w.heap.size w W := by rw [hW]; go_grown
      have hc : W.heap[w.heap.size]? = some (.cells #[.int .i64 s.least, .int .i64 s.most, .int .i64 s.val, .int .i64 s.bound, .bool s.named, .bool s.past, .bool s.future, .bool s.loose] 84 (0, 0)) := by rw [hW]; exact heap_alloc_new w _
      have r0 := block_cell hc (i := 0) rfl
      have r1 := block_cell hc (i := 1) rfl
      have r2 := block_cell hc (i := 2) rfl
      have r3 := block_cell hc (i := 3) rfl
      have r4 := block_cell hc (i := 4) rfl
      have r5 := block_cell hc (i := 5) rfl
      have r6 := block_cell hc (i := 6) rfl
      have r7 := block_cell hc (i := 7) rfl
      clear hW
      exact bodyPost_ret (v := .tuple #[.agg #[.int .i64 s.least, .int .i64 s.most, .int .i64 s.val, .int .i64 s.bound, .bool s.named, .bool s.past, .bool s.future, .bool s.loose], .bool true]) (by simp [results, Tryz.results49, go_sem, r0, r1, r2, r3, r4, r5, r6, r7]) rfl ⟨rfl, hb⟩
end Go.Proofs.YtdakdpfofgkjoaaGreatDoor
