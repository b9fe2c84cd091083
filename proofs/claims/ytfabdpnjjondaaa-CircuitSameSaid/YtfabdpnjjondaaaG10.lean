/-
  The table grows: a variable, a row, the number of rows.
-/
import Derived.Test.YtfabdpnjjondaaaG9
set_option linter.unusedVariables false
set_option linter.unusedSimpArgs false
namespace Go.Proofs.Ytfabdpnjjondaaa
open Go.RowKit
attribute [local go_sem] cell_alloc_old build_g1 build_g2 build_g3

theorem own_agree {w W : World} {base n size : Nat} {e : TypeId} {v : Value} {xs : List Value} (h : w.ownsRow base e size v n xs) (hb : ∀ b, some b = v.ownBlock → W.heap[b]? = w.heap[b]?) : W.ownsRow base e size v n xs := by
  refine ⟨h.1, ?_⟩
  rcases h.2 with h0 | ⟨g, cap, cur, hv, h1, hh, h3⟩
  · exact .inl h0
  · refine .inr ⟨g, cap, cur, hv, h1, ?_, h3⟩
    rw [hb g (by rw [hv]; rfl)]
    exact hh
theorem own_apart {w : World} {base n size base' n' size' : Nat} {e e' : TypeId} {v v' : Value} {xs xs' : List Value} (h : w.ownsRow base e size v n xs) (k : w.ownsRow base' e' size' v' n' xs') (hne : e ≠ e') {b : Nat} (hb : some b = v.ownBlock) : some b ≠ v'.ownBlock := by
  rcases h.2 with ⟨rfl, _⟩ | ⟨g, cap, cur, rfl, _, hh, _⟩
  · cases hb
  · injection hb with hb
    subst hb
    exact fun e => own_ne k hh (fun e => hne e.symm) e.symm
theorem Gat.agree {w W : World} {bg : Nat} {gs : GS} {F : Dom} (h : Gat w bg gs F) (hb : ∀ b, F b → W.heap[b]? = w.heap[b]?) : Gat W bg gs F := by
  obtain ⟨A, c, mb, h1, h2, h3, h4⟩ := h
  exact ⟨A, c, mb, (hb bg ((h4 bg).2 (.inl rfl))).trans h1, own_agree h2 fun b e => hb b ((h4 b).2 (.inr (.inr e))), h3.of_block (hb mb ((h4 mb).2 (.inr (.inl rfl)))), h4⟩

section
variable {w wr w5 : World} {bt bg : Nat} {st : Int} {vars : List Int} {gs : GS} {F : Dom} {A A5 : Option Addr} {c c5 : Nat} {n : Int} {R R5 : Option Addr} {rc rc5 : Nat} {prs : List (Int × Int)}
theorem NT.var (h : NT w wr bt bg st vars gs F A c n R rc prs) (x : Int) (hg : wr.grownBy w5 (Value.slice A vars.length c).ownBlock)
    (hown : w5.ownsRow w.heap.size 3 1 (.slice A5 (vars.length + 1) c5) (vars.length + 1) (vars.map (.int .i64) ++ [.int .i64 x]))
    (hat : (Value.slice A5 (vars.length + 1) c5).ownBlock = (Value.slice A vars.length c).ownBlock ∨ (Value.slice A5 (vars.length + 1) c5).ownBlock = some wr.heap.size) :
    NT w (w5.setCell ⟨bt, 2, none⟩ (.slice A5 (vars.length + 1) c5)) bt bg st (vars ++ [x]) gs F A5 c5 n R rc prs := by
  have hl : (vars ++ [x]).length = vars.length + 1 := by simp
  have hb5 := (hg.block bt (lt_of_block h.blk) (fun e => own_ne h.own h.blk (by decide) e.symm)).trans h.blk
  have hF5 : ∀ b, F b → some b ≠ (Value.slice A5 (vars.length + 1) c5).ownBlock := fun b hb e => by
    rcases hat with h1 | h1
    · exact h.nown b hb (e.trans h1)
    · rw [h1] at e
      injection e with e
      have := h.gat.lt hb
      omega
  refine ⟨by rw [hl]; exact set_block hb5 _, h.gat.agree fun b hb => ?_, ?_, own_agree h.rown fun b e => ?_, h.low, h.nbt, by rw [hl]; exact hF5, h.nrown, ?_, h.lt, ?_⟩
  · rw [Below.heap_setCell _ _ _ _ (show b ≠ bt from fun e => h.nbt (e ▸ hb))]
    exact hg.block b (h.gat.lt hb) (h.nown b hb)
  · rw [hl, List.map_append]
    exact ownsRow_setCell_other hown (own_ne hown hb5 (by decide)) _
  · have hb' := (h.rown.lt b e.symm).2
    rw [Below.heap_setCell _ _ _ _ (show b ≠ bt from fun e' => own_ne h.rown h.blk (by decide) (by rw [← e, e']))]
    exact hg.block b hb' (own_apart h.rown h.own (by decide) e)
  · refine Below.setCell (Below.grown h.bel hg h.bsz (fun b e => ?_)) h.lt _
    have := (h.own.lt b e).1
    omega
  · simp only [World.size_setCell]
    exact Nat.le_trans h.bsz hg.size
theorem NT.var_cell (h : NT w wr bt bg st vars gs F A c n R rc prs) (hg : wr.grownBy w5 (Value.slice A vars.length c).ownBlock) : w5.cell? ⟨bt, 2, none⟩ = some (.slice A vars.length c) ∧ w5.frozen? ⟨bt, 2, none⟩ = false := by
  have hb5 := (hg.block bt (lt_of_block h.blk) (fun e => own_ne h.own h.blk (by decide) e.symm)).trans h.blk
  exact ⟨block_cell hb5 rfl, block_free hb5⟩
theorem NT.row_cell (h : NT w wr bt bg st vars gs F A c n R rc prs) (hg : wr.grownBy w5 (Value.slice R prs.length rc).ownBlock) : w5.cell? ⟨bt, 4, none⟩ = some (.slice R prs.length rc) ∧ w5.frozen? ⟨bt, 4, none⟩ = false := by
  have hb5 := (hg.block bt (lt_of_block h.blk) (fun e => own_ne h.rown h.blk (by decide) e.symm)).trans h.blk
  exact ⟨block_cell hb5 rfl, block_free hb5⟩
theorem NT.row (h : NT w wr bt bg st vars gs F A c n R rc prs) (x : Int × Int) (hg : wr.grownBy w5 (Value.slice R prs.length rc).ownBlock)
    (hown : w5.ownsRow w.heap.size 74 2 (.slice R5 (prs.length + 1) rc5) (prs.length + 1) (prs.flatMap pcells ++ pcells x))
    (hat : (Value.slice R5 (prs.length + 1) rc5).ownBlock = (Value.slice R prs.length rc).ownBlock ∨ (Value.slice R5 (prs.length + 1) rc5).ownBlock = some wr.heap.size) :
    NT w (w5.setCell ⟨bt, 4, none⟩ (.slice R5 (prs.length + 1) rc5)) bt bg st vars gs F A c n R5 rc5 (prs ++ [x]) := by
  have hl : (prs ++ [x]).length = prs.length + 1 := by simp
  have hb5 := (hg.block bt (lt_of_block h.blk) (fun e => own_ne h.rown h.blk (by decide) e.symm)).trans h.blk
  have hF5 : ∀ b, F b → some b ≠ (Value.slice R5 (prs.length + 1) rc5).ownBlock := fun b hb e => by
    rcases hat with h1 | h1
    · exact h.nrown b hb (e.trans h1)
    · rw [h1] at e
      injection e with e
      have := h.gat.lt hb
      omega
  refine ⟨by rw [hl]; exact set_block hb5 _, h.gat.agree fun b hb => ?_, own_agree h.own fun b e => ?_, ?_, h.low, h.nbt, h.nown, by rw [hl]; exact hF5, ?_, h.lt, ?_⟩
  · rw [Below.heap_setCell _ _ _ _ (show b ≠ bt from fun e => h.nbt (e ▸ hb))]
    exact hg.block b (h.gat.lt hb) (h.nrown b hb)
  · have hb' := (h.own.lt b e.symm).2
    rw [Below.heap_setCell _ _ _ _ (show b ≠ bt from fun e' => own_ne h.own h.blk (by decide) (by rw [← e, e']))]
    exact hg.block b hb' (own_apart h.own h.rown (by decide) e)
  · rw [hl, List.flatMap_append]
    refine ownsRow_setCell_other ?_ (own_ne hown hb5 (by decide)) _
    simpa using hown
  · refine Below.setCell (Below.grown h.bel hg h.bsz (fun b e => ?_)) h.lt _
    have := (h.rown.lt b e).1
    omega
  · simp only [World.size_setCell]
    exact Nat.le_trans h.bsz hg.size
theorem NT.rows (h : NT w wr bt bg st vars gs F A c n R rc prs) (m : Int) : NT w (wr.setCell ⟨bt, 3, none⟩ (.int .i64 m)) bt bg st vars gs F A c m R rc prs := by
  refine ⟨set_block h.blk _, h.gat.agree fun b hb => Below.heap_setCell _ _ _ _ (show b ≠ bt from fun e => h.nbt (e ▸ hb)),
    own_agree h.own fun b e => Below.heap_setCell _ _ _ _ (show b ≠ bt from fun e' => own_ne h.own h.blk (by decide) (by rw [← e, e'])),
    own_agree h.rown fun b e => Below.heap_setCell _ _ _ _ (show b ≠ bt from fun e' => own_ne h.rown h.blk (by decide) (by rw [← e, e'])), h.low, h.nbt, h.nown, h.nrown,
    h.bel.setCell h.lt _, h.lt, by simp only [World.size_setCell]; exact h.bsz⟩
end
theorem NT.init (w : World) (st : Int) : NT w (((w.alloc (.map #[] 0)).alloc (.cells #[.slice none 0 0, .map (some w.heap.size)] 72)).alloc (.cells #[.pointer (some ⟨w.heap.size + 1, 0, none⟩), .int .i64 st, .slice none 0 0, .int .i64 0, .slice none 0 0] 63))
    (w.heap.size + 2) (w.heap.size + 1) st [] [] (fun b => b = w.heap.size ∨ b = w.heap.size + 1) none 0 0 none 0 [] := by
  obtain ⟨w1, h1⟩ : ∃ w1, w1 = w.alloc (.map #[] 0) := ⟨_, rfl⟩
  have m1 : MapIs gval w1 w.heap.size (numbered []) := by rw [h1]; exact MapIs.new w
  have s1 : w1.heap.size = w.heap.size + 1 := by rw [h1]; simp
  have b1 : Below w.heap.size w w1 := by rw [h1]; go_grown
  rw [← h1]
  obtain ⟨w2, h2⟩ : ∃ w2, w2 = w1.alloc (.cells #[.slice none 0 0, .map (some w.heap.size)] 72) := ⟨_, rfl⟩
  have m2 : w2.heap[w.heap.size + 1]? = some (.cells #[.slice none 0 0, .map (some w.heap.size)] 72 (0, 0)) := by rw [h2, ← s1]; exact heap_alloc_new w1 _
  have s2 : w2.heap.size = w.heap.size + 2 := by rw [h2]; simp; omega
  have b2 : Below w1.heap.size w1 w2 := by rw [h2]; go_grown
  rw [← h2]
  obtain ⟨w3, h3⟩ : ∃ w3, w3 = w2.alloc (.cells #[.pointer (some ⟨w.heap.size + 1, 0, none⟩), .int .i64 st, .slice none 0 0, .int .i64 0, .slice none 0 0] 63) := ⟨_, rfl⟩
  have m3 : w3.heap[w.heap.size + 2]? = some (.cells #[.pointer (some ⟨w.heap.size + 1, 0, none⟩), .int .i64 st, .slice none 0 0, .int .i64 0, .slice none 0 0] 63 (0, 0)) := by rw [h3, ← s2]; exact heap_alloc_new w2 _
  have s3 : w3.heap.size = w.heap.size + 3 := by rw [h3]; simp; omega
  have b3 : Below w2.heap.size w2 w3 := by rw [h3]; go_grown
  rw [← h3]
  have hm3 : MapIs gval w3 w.heap.size (numbered []) := m1.of_block ((b3.block _ (by omega)).trans (b2.block _ (by omega)))
  have hg3 : w3.heap[w.heap.size + 1]? = some (.cells #[.slice none 0 0, .map (some w.heap.size)] 72 (0, 0)) := (b3.block _ (by omega)).trans m2
  refine ⟨m3, ⟨none, 0, w.heap.size, hg3, ⟨rfl, .inl ⟨rfl, rfl⟩⟩, hm3, fun b => ?_⟩, ⟨rfl, .inl ⟨rfl, rfl⟩⟩, ⟨rfl, .inl ⟨rfl, rfl⟩⟩, fun b hb => ?_, fun hb => ?_, fun b _ => ?_, fun b _ => ?_, (b1.trans (b2.mono (by omega))).trans (b3.mono (by omega)), by omega, by omega⟩
  · simp [Value.ownBlock]; omega
  · rcases hb with h | h <;> omega
  · rcases hb with h | h <;> omega
  · simp [Value.ownBlock]
  · simp [Value.ownBlock]
end Go.Proofs.Ytfabdpnjjondaaa
