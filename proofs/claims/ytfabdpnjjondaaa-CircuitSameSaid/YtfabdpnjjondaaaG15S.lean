/-
  Memory during the walk of used: the marks; the circuit that grows.
-/
import Derived.Test.YtfabdpnjjondaaaG10
import Derived.Test.YtfabdpnjjondaaaP3
set_option linter.unusedVariables false
set_option linter.unusedSimpArgs false
namespace Go.Proofs.Ytfabdpnjjondaaa
open Go.RowKit

/-- The marks in memory: block nb; block w.heap.size is the result's. -/
structure Marked (w wr : World) (need : List Bool) : Prop where
  below : Below w.heap.size w wr
  res : wr.heap[w.heap.size]? = some (.cells #[.int .i64 0, .slice none 0 0, .slice none 0 0, .slice none 0 0] 25 (0, 0))
  row : wr.heap[w.heap.size + 1]? = some (.cells (need.map Value.bool).toArray 4 (0, 0))
section
variable {w wr : World} {need : List Bool}
theorem Marked.set (h : Marked w wr need) (i : Nat) (b : Bool) : Marked w (wr.setCell ⟨w.heap.size + 1, i, none⟩ (.bool b)) (need.set i b) := by
  refine ⟨h.below.setCell (p := ⟨w.heap.size + 1, i, none⟩) (Nat.le_succ _) _, ?_, ?_⟩
  · rw [Below.heap_setCell _ _ _ _ (show w.heap.size ≠ w.heap.size + 1 by omega)]
    exact h.res
  · rw [set_block h.row (i := i) (.bool b), List.map_set]
    simp
theorem Marked.after {wr' : World} (h : Marked w wr need) (hb : Below wr.heap.size wr wr') : Marked w wr' need :=
  ⟨h.below.trans (hb.mono h.below.size), (hb.block _ (lt_of_block h.res)).trans h.res, (hb.block _ (lt_of_block h.row)).trans h.row⟩
theorem Marked.get (h : Marked w wr need) {i : Nat} (hi : i < need.length) : wr.cell? ⟨w.heap.size + 1, i, none⟩ = some (.bool (need.getD i false)) ∧ wr.frozen? ⟨w.heap.size + 1, i, none⟩ = false :=
  ⟨block_cell h.row (by simp [List.getD, hi]), block_free h.row⟩
theorem Marked.start (w : World) (n : Nat) : Marked w ((w.alloc (.cells #[.int .i64 0, .slice none 0 0, .slice none 0 0, .slice none 0 0] 25)).alloc (zrow (.bool false) n 4)) (List.replicate n false) := by
  obtain ⟨w1, h1⟩ : ∃ w1, w1 = w.alloc (.cells #[.int .i64 0, .slice none 0 0, .slice none 0 0, .slice none 0 0] 25) := ⟨_, rfl⟩
  have s1 : w1.heap.size = w.heap.size + 1 := by rw [h1]; simp
  have m1 : w1.heap[w.heap.size]? = some (.cells #[.int .i64 0, .slice none 0 0, .slice none 0 0, .slice none 0 0] 25 (0, 0)) := by rw [h1]; exact heap_alloc_new w _
  have b1 : Below w.heap.size w w1 := by rw [h1]; go_grown
  rw [← h1]
  refine ⟨b1.alloc b1.size _, ?_, ?_⟩
  · rw [Below.heap_alloc _ _ _ (by omega)]; exact m1
  · rw [← s1, heap_alloc_new]; simp [zrow]
end


theorem Marked.drew {w wr : World} {need : List Bool} (h : Marked w wr need) : Marked w wr.drew need := ⟨h.below.drew, h.res, h.row⟩
/-- The circuit while it grows: wn is the world when the marks were done; its block wn.heap.size holds the new numbers, the next one the circuit. -/
structure Kept (w wn wr : World) (need : List Bool) (inb : Int) (num : List Int) (gr : GS) (Ag : Option Addr) (cg : Nat) (lr : List Int) (Al : Option Addr) (cl : Nat) (outr : List Int) (Ao : Option Addr) (co : Nat) : Prop where
  marks : Marked w wr need
  hw : w.heap.size + 1 < wn.heap.size
  num : wr.heap[wn.heap.size]? = some (.cells (num.map (Value.int .i64)).toArray 3 (0, 0))
  cir : wr.heap[wn.heap.size + 1]? = some (.cells #[.int .i64 inb, .slice Ag gr.length cg, .slice Al lr.length cl, .slice Ao outr.length co] 25 (0, 0))
  og : wr.ownsRow (wn.heap.size + 2) 45 3 (.slice Ag gr.length cg) gr.length (gr.flatMap gcells)
  ol : wr.ownsRow (wn.heap.size + 2) 3 1 (.slice Al lr.length cl) lr.length (lr.map (.int .i64))
  oo : wr.ownsRow (wn.heap.size + 2) 3 1 (.slice Ao outr.length co) outr.length (outr.map (.int .i64))
  dis : ∀ b, some b = (Value.slice Al lr.length cl).ownBlock → some b ≠ (Value.slice Ao outr.length co).ownBlock
section
variable {w wn wr w5 : World} {need : List Bool} {inb : Int} {num : List Int} {gr : GS} {Ag A5 : Option Addr} {cg c5 : Nat} {lr : List Int} {Al : Option Addr} {cl : Nat} {outr : List Int} {Ao : Option Addr} {co : Nat}
theorem Kept.start (w wn : World) (need : List Bool) (inb : Int) (n : Nat) (h : Marked w wn need) :
    Kept w wn ((wn.alloc (zrow (.int .i64 0) n 3)).alloc (.cells #[.int .i64 inb, .slice none 0 0, .slice none 0 0, .slice none 0 0] 25)) need inb (List.replicate n 0) [] none 0 [] none 0 [] none 0 := by
  obtain ⟨w1, h1⟩ : ∃ w1, w1 = wn.alloc (zrow (.int .i64 0) n 3) := ⟨_, rfl⟩
  have s1 : w1.heap.size = wn.heap.size + 1 := by rw [h1]; simp
  have m1 : w1.heap[wn.heap.size]? = some (.cells ((List.replicate n 0).map (Value.int .i64)).toArray 3 (0, 0)) := by rw [h1, heap_alloc_new]; simp [zrow]
  have b1 : Below wn.heap.size wn w1 := by rw [h1]; go_grown
  rw [← h1]
  refine ⟨h.after (b1.alloc b1.size _), lt_of_block h.row, ?_, ?_, ⟨rfl, .inl ⟨rfl, rfl⟩⟩, ⟨rfl, .inl ⟨rfl, rfl⟩⟩, ⟨rfl, .inl ⟨rfl, rfl⟩⟩, fun b hb => by cases hb⟩
  · rw [Below.heap_alloc _ _ _ (by omega)]; exact m1
  · rw [← s1, heap_alloc_new]; rfl
theorem Kept.after {wr' : World} (h : Kept w wn wr need inb num gr Ag cg lr Al cl outr Ao co) (hb : Below wr.heap.size wr wr') : Kept w wn wr' need inb num gr Ag cg lr Al cl outr Ao co :=
  ⟨h.marks.after hb, h.hw, (hb.block _ (lt_of_block h.num)).trans h.num, (hb.block _ (lt_of_block h.cir)).trans h.cir, own_below h.og hb, own_below h.ol hb, own_below h.oo hb, h.dis⟩
theorem Kept.number (h : Kept w wn wr need inb num gr Ag cg lr Al cl outr Ao co) (i : Nat) (x : Int) : Kept w wn (wr.setCell ⟨wn.heap.size, i, none⟩ (.int .i64 x)) need inb (num.set i x) gr Ag cg lr Al cl outr Ao co := by
  have hw := h.hw
  have key : ∀ b, b ≠ wn.heap.size → (wr.setCell ⟨wn.heap.size, i, none⟩ (.int .i64 x)).heap[b]? = wr.heap[b]? := fun b hb => Below.heap_setCell _ _ _ _ hb
  refine ⟨⟨h.marks.below.setCell (p := ⟨wn.heap.size, i, none⟩) (by simp; omega) _, (key _ (by omega)).trans h.marks.res, (key _ (by omega)).trans h.marks.row⟩, h.hw, ?_, (key _ (by omega)).trans h.cir,
    own_agree h.og fun b e => key b ?_, own_agree h.ol fun b e => key b ?_, own_agree h.oo fun b e => key b ?_, h.dis⟩
  · rw [set_block h.num (i := i) (.int .i64 x), List.map_set]; simp
  · have := (h.og.lt b e.symm).1; omega
  · have := (h.ol.lt b e.symm).1; omega
  · have := (h.oo.lt b e.symm).1; omega
theorem Kept.get (h : Kept w wn wr need inb num gr Ag cg lr Al cl outr Ao co) {i : Nat} (hi : i < num.length) : wr.cell? ⟨wn.heap.size, i, none⟩ = some (.int .i64 (num.getD i 0)) ∧ wr.frozen? ⟨wn.heap.size, i, none⟩ = false :=
  ⟨block_cell h.num (by simp [List.getD, hi]), block_free h.num⟩
theorem Kept.cells (h : Kept w wn wr need inb num gr Ag cg lr Al cl outr Ao co) : wr.cell? ⟨wn.heap.size + 1, 0, none⟩ = some (.int .i64 inb) ∧ wr.cell? ⟨wn.heap.size + 1, 1, none⟩ = some (.slice Ag gr.length cg) ∧
    wr.cell? ⟨wn.heap.size + 1, 2, none⟩ = some (.slice Al lr.length cl) ∧ wr.cell? ⟨wn.heap.size + 1, 3, none⟩ = some (.slice Ao outr.length co) ∧ wn.heap.size + 1 < wr.heap.size ∧
    wr.frozen? ⟨wn.heap.size + 1, 1, none⟩ = false ∧ wr.frozen? ⟨wn.heap.size + 1, 2, none⟩ = false ∧ wr.frozen? ⟨wn.heap.size + 1, 3, none⟩ = false :=
  ⟨block_cell h.cir rfl, block_cell h.cir rfl, block_cell h.cir rfl, block_cell h.cir rfl, lt_of_block h.cir, block_free h.cir, block_free h.cir, block_free h.cir⟩
theorem Kept.grow {base n size : Nat} {e : TypeId} {v : Value} {xs : List Value} (h : Kept w wn wr need inb num gr Ag cg lr Al cl outr Ao co) (ho : wr.ownsRow (wn.heap.size + 2) e size v n xs) (hg : wr.grownBy w5 v.ownBlock) (j : Nat) (u : Value) :
    (∀ b, b ≠ wn.heap.size + 1 → b < wr.heap.size → some b ≠ v.ownBlock → (w5.setCell ⟨wn.heap.size + 1, j, none⟩ u).heap[b]? = wr.heap[b]?) ∧ Marked w (w5.setCell ⟨wn.heap.size + 1, j, none⟩ u) need ∧
      (w5.setCell ⟨wn.heap.size + 1, j, none⟩ u).heap[wn.heap.size]? = some (.cells (num.map (Value.int .i64)).toArray 3 (0, 0)) ∧
      w5.heap[wn.heap.size + 1]? = some (.cells #[.int .i64 inb, .slice Ag gr.length cg, .slice Al lr.length cl, .slice Ao outr.length co] 25 (0, 0)) := by
  have hw := h.hw
  have hs := lt_of_block h.cir
  have key : ∀ b, b ≠ wn.heap.size + 1 → b < wr.heap.size → some b ≠ v.ownBlock → (w5.setCell ⟨wn.heap.size + 1, j, none⟩ u).heap[b]? = wr.heap[b]? := fun b h1 h2 h3 => by
    rw [Below.heap_setCell _ _ _ _ h1]
    exact hg.block b h2 h3
  have low : ∀ b, b < wn.heap.size + 2 → some b ≠ v.ownBlock := fun b hb e => by
    have := (ho.lt b e.symm).1; omega
  refine ⟨key, ⟨Below.setCell (Below.grown h.marks.below hg h.marks.below.size (fun k hk => ?_)) (by simp; omega) _, (key _ (by omega) (by omega) (low _ (by omega))).trans h.marks.res, (key _ (by omega) (by omega) (low _ (by omega))).trans h.marks.row⟩, (key _ (by omega) (by omega) (low _ (by omega))).trans h.num, (hg.block _ hs (low _ (by omega))).trans h.cir⟩
  have := (ho.lt k hk).1
  omega
theorem Kept.gate (h : Kept w wn wr need inb num gr Ag cg lr Al cl outr Ao co) (g : Gt) (hg : wr.grownBy w5 (Value.slice Ag gr.length cg).ownBlock)
    (hown : w5.ownsRow (wn.heap.size + 2) 45 3 (.slice A5 (gr.length + 1) c5) (gr.length + 1) (gr.flatMap gcells ++ gcells g)) :
    Kept w wn (w5.setCell ⟨wn.heap.size + 1, 1, none⟩ (.slice A5 (gr.length + 1) c5)) need inb num (gr ++ [g]) A5 c5 lr Al cl outr Ao co := by
  have hl : (gr ++ [g]).length = gr.length + 1 := by simp
  obtain ⟨key, hm, hn, hc⟩ := h.grow (base := 0) h.og hg 1 (.slice A5 (gr.length + 1) c5)
  refine ⟨hm, h.hw, hn, by rw [hl]; exact set_block hc _, ?_, own_agree h.ol fun b e => key b (by have := (h.ol.lt b e.symm).1; omega) (h.ol.lt b e.symm).2 (own_apart h.ol h.og (by decide) e), own_agree h.oo fun b e => key b (by have := (h.oo.lt b e.symm).1; omega) (h.oo.lt b e.symm).2 (own_apart h.oo h.og (by decide) e), h.dis⟩
  rw [hl, List.flatMap_append]
  refine ownsRow_setCell_other ?_ (own_ne hown hc (by decide)) _
  simpa using hown
theorem Kept.lat (h : Kept w wn wr need inb num gr Ag cg lr Al cl outr Ao co) (x : Int) (hg : wr.grownBy w5 (Value.slice Al lr.length cl).ownBlock)
    (hown : w5.ownsRow (wn.heap.size + 2) 3 1 (.slice A5 (lr.length + 1) c5) (lr.length + 1) (lr.map (.int .i64) ++ [.int .i64 x]))
    (hat : (Value.slice A5 (lr.length + 1) c5).ownBlock = (Value.slice Al lr.length cl).ownBlock ∨ (Value.slice A5 (lr.length + 1) c5).ownBlock = some wr.heap.size) :
    Kept w wn (w5.setCell ⟨wn.heap.size + 1, 2, none⟩ (.slice A5 (lr.length + 1) c5)) need inb num gr Ag cg (lr ++ [x]) A5 c5 outr Ao co := by
  have hl : (lr ++ [x]).length = lr.length + 1 := by simp
  obtain ⟨key, hm, hn, hc⟩ := h.grow (base := 0) h.ol hg 2 (.slice A5 (lr.length + 1) c5)
  refine ⟨hm, h.hw, hn, by rw [hl]; exact set_block hc _, own_agree h.og fun b e => key b (by have := (h.og.lt b e.symm).1; omega) (h.og.lt b e.symm).2 (own_apart h.og h.ol (by decide) e), ?_, own_agree h.oo fun b e => key b (by have := (h.oo.lt b e.symm).1; omega) (h.oo.lt b e.symm).2 (fun e2 => h.dis b e2 e), fun b e => ?_⟩
  · rw [hl, List.map_append]
    exact ownsRow_setCell_other hown (own_ne hown hc (by decide)) _
  · rw [hl] at e
    rcases hat with h1 | h1
    · exact h.dis b (e.trans h1)
    · rw [h1] at e
      injection e with e
      intro e2
      have := (h.oo.lt b e2.symm).2
      omega
theorem Kept.out (h : Kept w wn wr need inb num gr Ag cg lr Al cl outr Ao co) (x : Int) (hg : wr.grownBy w5 (Value.slice Ao outr.length co).ownBlock)
    (hown : w5.ownsRow (wn.heap.size + 2) 3 1 (.slice A5 (outr.length + 1) c5) (outr.length + 1) (outr.map (.int .i64) ++ [.int .i64 x]))
    (hat : (Value.slice A5 (outr.length + 1) c5).ownBlock = (Value.slice Ao outr.length co).ownBlock ∨ (Value.slice A5 (outr.length + 1) c5).ownBlock = some wr.heap.size) :
    Kept w wn (w5.setCell ⟨wn.heap.size + 1, 3, none⟩ (.slice A5 (outr.length + 1) c5)) need inb num gr Ag cg lr Al cl (outr ++ [x]) A5 c5 := by
  have hl : (outr ++ [x]).length = outr.length + 1 := by simp
  obtain ⟨key, hm, hn, hc⟩ := h.grow (base := 0) h.oo hg 3 (.slice A5 (outr.length + 1) c5)
  refine ⟨hm, h.hw, hn, by rw [hl]; exact set_block hc _, own_agree h.og fun b e => key b (by have := (h.og.lt b e.symm).1; omega) (h.og.lt b e.symm).2 (own_apart h.og h.oo (by decide) e), own_agree h.ol fun b e => key b (by have := (h.ol.lt b e.symm).1; omega) (h.ol.lt b e.symm).2 (h.dis b e), ?_, fun b e => ?_⟩
  · rw [hl, List.map_append]
    exact ownsRow_setCell_other hown (own_ne hown hc (by decide)) _
  · rw [hl]
    rcases hat with h1 | h1
    · rw [h1]; exact h.dis b e
    · rw [h1]
      intro e2
      injection e2 with e2
      have := (h.ol.lt b e.symm).2
      omega
end
end Go.Proofs.Ytfabdpnjjondaaa
