/-
  The gates' list and map in memory; walks of add, constant, not.
-/
import Derived.Test.YtfabdpnjjondaaaA13
import Derived.Test.YtfabdpnjjondaaaG1
import Derived.Test.YtfabdpnjjondaaaMap
set_option linter.unusedVariables false
set_option linter.unusedSimpArgs false
namespace Go.Proofs.Ytfabdpnjjondaaa
open Go.RowKit
attribute [local go_sem] cell_alloc_old

def gval (g : Gt) : Value := .agg #[.int .i64 g.k, .int .i64 g.a, .int .i64 g.b]

theorem gate_check (e : Bool) (w : World) (k a b : Int) : (Instr.checkKey e 10000 45 (.agg #[.int .i64 k, .int .i64 a, .int .i64 b])).run Try.prog w = .ok () w := by kernel_rfl
theorem gate_equal (w : World) (x y : Gt) : (Op.equal 45 (gval x) (gval y)).run Try.prog w = .ok (decide (x = y)) w := by
  have u3 := Try.underlying3
  have a3 := Try.isAgg3
  have z3 := Try.sizeOf3
  have hS : Try.prog.underlying 45 = some (.struct (Try.prog.fieldsOf 45)) := by kernel_rfl
  have hp : Try.prog.stoodInHeld 45 = false := by kernel_rfl
  have : decide (x = y) = (x.k == y.k && x.a == y.a && x.b == y.b) := by
    rw [Bool.eq_iff_iff]
    simp only [decide_eq_true_eq, Bool.and_eq_true, beq_iff_eq]
    constructor
    · rintro rfl; exact ⟨⟨rfl, rfl⟩, rfl⟩
    · obtain ⟨a, b, c⟩ := x
      obtain ⟨a', b', c'⟩ := y
      rintro ⟨⟨h1, h2⟩, h3⟩
      dsimp only at h1 h2 h3
      subst h1 h2 h3
      rfl
  rw [this]
  clear this
  unfold gval Op.equal Op.maxDepth
  rw [show (10000 : Nat) = 9999 + 1 from rfl, run_equalIn_agg w 9999 45 _ _ hS hp]
  simp only [Program.fieldsOf, Try.underlying45]
  go_simp
  by_cases h1 : x.k = y.k <;> by_cases h2 : x.a = y.a <;> by_cases h3 : x.b = y.b <;> simp [h1, h2, h3]
theorem gate_same (g : Gt) : Instr.sameBits 10000 (gval g) (gval g) = true := by
  unfold gval
  simp [Instr.sameBits]
theorem gate_key : KeyT Try.prog 45 gval :=
  .of_asking (fun e w k => gate_check e w k.k k.a k.b) gate_equal Try.underlying45 (fun a b => by rfl) gate_same
theorem int_zero (w : World) : (zeroValue 3).run Try.prog w = .ok (.int .i64 0) w := by kernel_rfl
theorem gate_info : (Try.prog.info? 45).map (fun i => (i.zero, i.size, i.bytes)) = some (some (.agg #[.int .i64 0, .int .i64 0, .int .i64 0]), 3, 24) := by kernel_rfl

/-- The entries of the map: each gate's number. -/
def numbered (gs : GS) : List (Gt × Value) := gs.zipIdx.map fun p => (p.1, .int .i64 p.2)
theorem numbered_keys (gs : GS) : (numbered gs).map (·.1) = gs := by
  unfold numbered
  rw [List.map_map]
  show gs.zipIdx.map (fun p => p.1) = gs
  simp
theorem numbered_snoc (gs : GS) (g : Gt) : numbered (gs ++ [g]) = numbered gs ++ [(g, .int .i64 gs.length)] := by
  unfold numbered
  rw [List.zipIdx_append, List.map_append]
  simp
theorem numbered_look (gs : GS) (g : Gt) : lookL (numbered gs) g = if g ∈ gs then some (.int .i64 (gs.idxOf g : Nat)) else none := by
  split
  · rename_i h
    rw [lookL_idx _ _ (by rw [numbered_keys]; exact h), numbered_keys]
    have hl := List.idxOf_lt_length_of_mem h
    congr 1
    unfold numbered
    simp [hl]
  · rename_i h
    rw [lookL_none _ _ (by rw [numbered_keys]; exact h)]

/-- Block bg is the gates' struct: the list gs and its map; F: the blocks that it takes. -/
def Gat (w : World) (bg : Nat) (gs : GS) (F : Dom) : Prop :=
  ∃ (A : Option Addr) (c mb : Nat), w.heap[bg]? = some (.cells #[.slice A gs.length c, .map (some mb)] 72 (0, 0)) ∧
    w.ownsRow 0 45 3 (.slice A gs.length c) gs.length (gs.flatMap gcells) ∧ MapIs gval w mb (numbered gs) ∧
    ∀ b, F b ↔ b = bg ∨ b = mb ∨ some b = (Value.slice A gs.length c).ownBlock

/-- Only blocks of F have changed, and new ones have come. -/
structure Chg (F : Dom) (w w' : World) : Prop where
  os : w'.os = w.os
  tape : w'.tape = w.tape
  output : w'.output = w.output
  size : w.heap.size ≤ w'.heap.size
  block : ∀ b, b < w.heap.size → ¬ F b → w'.heap[b]? = w.heap[b]?
section
variable {F F' D : Dom} {w w' w'' : World}
theorem Chg.refl (F : Dom) (w : World) : Chg F w w := ⟨rfl, rfl, rfl, Nat.le_refl _, fun _ _ _ => rfl⟩
theorem Chg.trans (h : Chg F w w') (k : Chg F' w' w'') (hF : ∀ b, F' b → F b ∨ w.heap.size ≤ b) : Chg F w w'' :=
  ⟨k.os.trans h.os, k.tape.trans h.tape, k.output.trans h.output, Nat.le_trans h.size k.size, fun b hb hn => (k.block b (Nat.lt_of_lt_of_le hb h.size) (fun hf => by
    rcases hF b hf with h1 | h1
    · exact hn h1
    · omega)).trans (h.block b hb hn)⟩
theorem Chg.keeps (h : Chg F w w') (hD : ∀ b, D b → ¬ F b) : Keeps D w w' := ⟨h.size, fun b hb hl => h.block b hl (hD b hb)⟩
theorem Chg.below {B : Nat} (h : Chg F w w') (hF : ∀ b, F b → B ≤ b) (hB : B ≤ w.heap.size) : Below B w w' :=
  ⟨h.os, h.tape, h.output, h.size, fun b hb => h.block b (by omega) (fun hf => by have := hF b hf; omega)⟩
theorem Chg.of_below (h : Below w.heap.size w w') : Chg F w w' := ⟨h.os, h.tape, h.output, h.size, fun b hb _ => h.block b hb⟩
theorem Chg.mono (h : Chg F w w') (hF : ∀ b, F b → F' b) : Chg F' w w' := ⟨h.os, h.tape, h.output, h.size, fun b hb hn => h.block b hb (fun hf => hn (hF b hf))⟩
theorem Chg.of_grown {row : Option Nat} (h : w.grownBy w' row) (hr : ∀ k, row = some k → F k) : Chg F w w' :=
  ⟨h.os, h.tape, h.output, h.size, fun b hb hn => h.block b hb (fun e => hn (hr b e.symm))⟩
end

/-- What a method of the gates leaves: the list r, the rest of memory as it was. -/
def GPost (w : World) (bg : Nat) (F : Dom) (gs : GS) (w' : World) : Prop := ∃ F', Gat w' bg gs F' ∧ (∀ b, F' b → F b ∨ w.heap.size ≤ b) ∧ Chg F w w'
theorem GPost.trans {w w' w'' : World} {bg : Nat} {F F' : Dom} {gs' : GS} (hs : ∀ b, F' b → F b ∨ w.heap.size ≤ b) (hc : Chg F w w') (k : GPost w' bg F' gs' w'') : GPost w bg F gs' w'' := by
  obtain ⟨F'', h1, h2, h3⟩ := k
  refine ⟨F'', h1, fun b hb => ?_, hc.trans h3 hs⟩
  rcases h2 b hb with h | h
  · exact hs b h
  · have := hc.size; exact .inr (by omega)
theorem Gat.below {w w' : World} {bg : Nat} {gs : GS} {F : Dom} (h : Gat w bg gs F) (hb : Below w.heap.size w w') : Gat w' bg gs F := by
  obtain ⟨A, c, mb, h1, h2, h3, h4⟩ := h
  exact ⟨A, c, mb, (hb.block bg (lt_of_block h1)).trans h1, own_below h2 hb, h3.of_block (hb.block mb h3.lt), h4⟩
theorem Gat.lt {w : World} {bg : Nat} {gs : GS} {F : Dom} (h : Gat w bg gs F) {b : Nat} (hb : F b) : b < w.heap.size := by
  obtain ⟨A, c, mb, h1, h2, h3, h4⟩ := h
  rcases (h4 b).1 hb with rfl | rfl | e
  · exact lt_of_block h1
  · exact h3.lt
  · exact (h2.lt b e.symm).2
end Go.Proofs.Ytfabdpnjjondaaa
