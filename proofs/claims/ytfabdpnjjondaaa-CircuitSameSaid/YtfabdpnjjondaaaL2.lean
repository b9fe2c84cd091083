/-
  Walk of head: the fixed examples.
-/
import Derived.Test.YtfabdpnjjondaaaL1
set_option linter.unusedVariables false
set_option linter.unusedSimpArgs false
namespace Go.Proofs.Ytfabdpnjjondaaa
open Go.RowKit
attribute [local go_sem] cell_alloc_old

theorem bg1 (k : Int) (w : World) : (Instr.build 45 #[(0, .int .i64 k)]).run Try.prog w = .ok (.agg #[.int .i64 k, .int .i64 0, .int .i64 0]) w := run_build w 45 _ _ (by kernel_rfl)
theorem bg2 (k a : Int) (w : World) : (Instr.build 45 #[(0, .int .i64 k), (1, .int .i64 a)]).run Try.prog w = .ok (.agg #[.int .i64 k, .int .i64 a, .int .i64 0]) w := run_build w 45 _ _ (by kernel_rfl)
theorem bg3 (k b : Int) (w : World) : (Instr.build 45 #[(0, .int .i64 k), (2, .int .i64 b)]).run Try.prog w = .ok (.agg #[.int .i64 k, .int .i64 0, .int .i64 b]) w := run_build w 45 _ _ (by kernel_rfl)
theorem bc1 (A B C : Option Addr) (n c k d m f : Nat) (w : World) : (Instr.build 25 #[(1, .slice A n c), (2, .slice B k d), (3, .slice C m f)]).run Try.prog w = .ok (.agg #[.int .i64 0, .slice A n c, .slice B k d, .slice C m f]) w := run_build w 25 _ _ (by kernel_rfl)
theorem bc2 (x : Int) (A C : Option Addr) (n c m f : Nat) (w : World) : (Instr.build 25 #[(0, .int .i64 x), (1, .slice A n c), (3, .slice C m f)]).run Try.prog w = .ok (.agg #[.int .i64 x, .slice A n c, .slice none 0 0, .slice C m f]) w := run_build w 25 _ _ (by kernel_rfl)
theorem bc3 (C : Option Addr) (m f : Nat) (w : World) : (Instr.build 25 #[(3, .slice C m f)]).run Try.prog w = .ok (.agg #[.int .i64 0, .slice none 0 0, .slice none 0 0, .slice C m f]) w := run_build w 25 _ _ (by kernel_rfl)
theorem bc4 (C : Option Addr) (m f : Nat) (w : World) : (Instr.build 25 #[(1, .slice C m f)]).run Try.prog w = .ok (.agg #[.int .i64 0, .slice C m f, .slice none 0 0, .slice none 0 0]) w := run_build w 25 _ _ (by kernel_rfl)
theorem bm1 (x y : Int) (A C : Option Addr) (n c m f : Nat) (w : World) : (Instr.build 35 #[(0, .int .i64 x), (1, .int .i64 y), (3, .slice A n c), (4, .slice C m f)]).run Try.prog w = .ok (.agg #[.int .i64 x, .int .i64 y, .int .i64 0, .slice A n c, .slice C m f]) w := run_build w 35 _ _ (by kernel_rfl)
theorem bm0 (w : World) : (Instr.build 35 #[]).run Try.prog w = .ok (.agg #[.int .i64 0, .int .i64 0, .int .i64 0, .slice none 0 0, .slice none 0 0]) w := run_build w 35 _ _ (by kernel_rfl)
attribute [local go_sem] bg1 bg2 bg3 bc1 bc2 bc3 bc4 bm1 bm0

/-- Block b holds the circuit c. -/
structure HasC (w : World) (b : Nat) (cs : Array Value) (c : Cir) : Prop where
  blk : w.heap[b]? = some (.cells cs 25 (0, 0))
  rd : RdC w (· < w.heap.size) (.agg cs) c
theorem HasC.below {w w' : World} {b : Nat} {cs : Array Value} {c : Cir} (h : HasC w b cs c) (hb : Below w.heap.size w w') : HasC w' b cs c :=
  ⟨(hb.block _ (lt_of_block h.blk)).trans h.blk, (h.rd.keep (Keeps.of_below hb (fun _ h => h))).mono (fun _ hb2 _ => Nat.lt_of_lt_of_le hb2 hb.size)⟩

theorem HasC.cells {w : World} {b : Nat} {x0 x1 x2 x3 : Value} {c : Cir} (h : HasC w b #[x0, x1, x2, x3] c) : w.cell? ⟨b, 0, none⟩ = some x0 ∧ w.cell? ⟨b, 1, none⟩ = some x1 ∧ w.cell? ⟨b, 2, none⟩ = some x2 ∧ w.cell? ⟨b, 3, none⟩ = some x3 ∧ b < w.heap.size :=
  ⟨block_cell h.blk rfl, block_cell h.blk rfl, block_cell h.blk rfl, block_cell h.blk rfl, lt_of_block h.blk⟩
theorem HasC.new {w : World} {D : Dom} {cs : Array Value} {c : Cir} (h : RdC w D (.agg cs) c) : HasC (w.alloc (.cells cs 25)) w.heap.size cs c :=
  ⟨heap_alloc_new w _, (h.old.keep ((Keeps.refl _ w).alloc _)).mono (fun b hb _ => by have : b < w.heap.size := hb; simp; omega)⟩
theorem calls_gen {P : Program} {f : FuncId} {args : Array Value} {Q : Ending → World → Prop} {w : World} (h : ∀ W, W = w → Calls P f args W Q) : Calls P f args w Q := h w rfl
section
variable {D E : Dom} (v : Value) (w : World)
theorem step_both3 (h : RdC w D v bothC) : Calls Try.prog 11 #[v, .int .i64 0, .int .i64 3] w fun e w' => e = .returned (.tuple #[.int .i64 3, .int .i64 0]) ∧ Below w.heap.size w w' := by
  have := cstep_any v bothC 0 3 w h
  rw [ex_both.1] at this
  exact this
theorem step_both1 (h : RdC w D v bothC) : Calls Try.prog 11 #[v, .int .i64 0, .int .i64 1] w fun e w' => e = .returned (.tuple #[.int .i64 2, .int .i64 0]) ∧ Below w.heap.size w w' := by
  have := cstep_any v bothC 0 1 w h
  rw [ex_both.2.1] at this
  exact this
theorem comp_ex (h : RdM w D v exM) : Calls Try.prog 19 #[v] w fun e w' => ∃ (ib : Int) (n k : Nat) (Ag : Option Addr) (cg : Nat) (Al : Option Addr) (cl : Nat) (Ao : Option Addr) (co : Nat),
    e = .returned (.tuple #[.agg #[.int .i64 ib, .slice Ag n cg, .slice Al 1 cl, .slice Ao k co], .int .i64 0]) ∧ Below w.heap.size w w' ∧ RdC w' (fun b => w.heap.size ≤ b) (.agg #[.int .i64 ib, .slice Ag n cg, .slice Al 1 cl, .slice Ao k co]) (compileZ exM) := by
  have := compile_any w v exM h (by decide)
  rw [ex_ex.1] at this
  refine this.mono ?_
  rintro e w' ⟨u, rfl, h1, h2⟩
  have h3 := h2
  obtain ⟨Ag, cg, Al, cl, Ao, co, rfl, -, -, -⟩ := h3
  rw [ex_ex.2.2] at h2 ⊢
  exact ⟨_, _, _, Ag, cg, Al, cl, Ao, co, rfl, h1, h2⟩
theorem comp_same (h : RdM w D v sameM) : Calls Try.prog 19 #[v] w fun e w' => ∃ (ib : Int) (n k : Nat) (Ag : Option Addr) (cg : Nat) (Al : Option Addr) (cl : Nat) (Ao : Option Addr) (co : Nat),
    e = .returned (.tuple #[.agg #[.int .i64 ib, .slice Ag n cg, .slice Al 0 cl, .slice Ao k co], .int .i64 0]) ∧ Below w.heap.size w w' ∧ RdC w' (fun b => w.heap.size ≤ b) (.agg #[.int .i64 ib, .slice Ag n cg, .slice Al 0 cl, .slice Ao k co]) (compileZ sameM) := by
  have := compile_any w v sameM h (by decide)
  rw [ex_same.1] at this
  refine this.mono ?_
  rintro e w' ⟨u, rfl, h1, h2⟩
  have h3 := h2
  obtain ⟨Ag, cg, Al, cl, Ao, co, rfl, -, -, -⟩ := h3
  rw [ex_same.2.2] at h2 ⊢
  exact ⟨_, _, _, Ag, cg, Al, cl, Ao, co, rfl, h1, h2⟩
theorem comp_zero (h : RdM w D v zeroM) : Calls Try.prog 19 #[v] w fun e w' => ∃ u, e = .returned (.tuple #[u, .int .i64 1]) ∧ Below w.heap.size w w' ∧ RdC w' (fun b => w.heap.size ≤ b) u (compileZ zeroM) := by
  have := compile_any w v zeroM h (by decide)
  rw [ex_zero] at this
  exact this
theorem valid_flip (h : RdC w D v flipC) : Calls Try.prog 13 #[v] w fun e w' => e = .returned (.bool true) ∧ Below w.heap.size w w' := by
  have := valid_any v flipC w h
  rw [ex_flip.1] at this
  exact this
theorem valid_bad1 (h : RdC w D v badC1) : Calls Try.prog 13 #[v] w fun e w' => e = .returned (.bool false) ∧ Below w.heap.size w w' := by
  have := valid_any v badC1 w h
  rw [ex_bad.1] at this
  exact this
theorem valid_bad2 (h : RdC w D v badC2) : Calls Try.prog 13 #[v] w fun e w' => e = .returned (.bool false) ∧ Below w.heap.size w w' := by
  have := valid_any v badC2 w h
  rw [ex_bad.2] at this
  exact this
theorem run_at (c : Cir) (ins out : List Int) (A : Option Addr) (ca : Nat) (h : RdC w D v c) (hi : RdI w E A ca ins) (hl : ins.length ≤ 100) (he : runZ c ins = out) : Calls Try.prog 16 #[v, .slice A ins.length ca] w fun e w' =>
    ∃ A' c', e = .returned (.slice A' out.length c') ∧ Below w.heap.size w w' ∧ RdI w' (fun b => w.heap.size ≤ b) A' c' out := by
  have := run_any v c A ca ins w h hi (by omega)
  rw [he] at this
  exact this
theorem ints_same (xs : List Int) (A B : Option Addr) (c d : Nat) (hx : RdI w D A c xs) (hy : RdI w E B d xs) : Calls Try.prog 15 #[.slice A xs.length c, .slice B xs.length d] w fun e w' => e = .returned (.bool true) ∧ Drawn w w' := by
  have := ints_any A B c d xs xs w hx hy
  rw [decide_eq_true (rfl : xs = xs)] at this
  exact this
end

set_option maxRecDepth 100000 in
set_option maxHeartbeats 4000000 in
theorem head_any (w : World) : Calls Try.prog 9 #[] w fun e w' => e = .returned (.bool true) ∧ Below w.heap.size w w' := by
  go_enter Try.func9, Try.ntmps9
  go_upto_region 3 with (fail)
  refine wp_gen fun W hW => ?_
  obtain ⟨f0, hf0⟩ : ∃ n, n = w.heap.size := ⟨_, rfl⟩
  have FL : HasC W (w.heap.size + 1 + 1 + 1) #[.int .i64 0, .slice (some ⟨w.heap.size, 0, none⟩) 2 2, .slice (some ⟨w.heap.size + 1, 0, none⟩) 1 1, .slice (some ⟨w.heap.size + 1 + 1, 0, none⟩) 1 1] flipC := by
    have hz : w.heap.size + 6 < W.heap.size := by rw [hW]; simp only [World.size_alloc]; omega
    have b0 : W.heap[w.heap.size]? = some (.cells #[.int .i64 3, .int .i64 0, .int .i64 0, .int .i64 5, .int .i64 0, .int .i64 0] 45 (0, 0)) := by rw [hW]; (repeat (first | (refine at_new _ _ _ ?_; (simp only [World.size_alloc]; done)) | (refine (at_old _ _ _ ?_).trans ?_; (simp only [World.size_alloc]; omega))))
    have b1 : W.heap[w.heap.size + 1]? = some (.cells #[.int .i64 1] 3 (0, 0)) := by rw [hW]; (repeat (first | (refine at_new _ _ _ ?_; (simp only [World.size_alloc]; done)) | (refine (at_old _ _ _ ?_).trans ?_; (simp only [World.size_alloc]; omega))))
    have b2 : W.heap[w.heap.size + 1 + 1]? = some (.cells #[.int .i64 0] 3 (0, 0)) := by rw [hW]; (repeat (first | (refine at_new _ _ _ ?_; (simp only [World.size_alloc]; done)) | (refine (at_old _ _ _ ?_).trans ?_; (simp only [World.size_alloc]; omega))))
    refine ⟨by rw [hW]; (repeat (first | (refine at_new _ _ _ ?_; (simp only [World.size_alloc]; done)) | (refine (at_old _ _ _ ?_).trans ?_; (simp only [World.size_alloc]; omega)))), ⟨_, _, _, _, _, _, rfl, gates_block b0 (by show _ < _; omega) rfl (by decide), ints_block b1 (zs := [1]) (by show _ < _; omega) rfl (by decide), ints_block b2 (zs := [0]) (by show _ < _; omega) rfl (by decide)⟩⟩
  have BO : HasC W (w.heap.size + 1 + 1 + 1 + 1 + 1 + 1) #[.int .i64 2, .slice (some ⟨w.heap.size + 1 + 1 + 1 + 1, 0, none⟩) 3 3, .slice none 0 0, .slice (some ⟨w.heap.size + 1 + 1 + 1 + 1 + 1, 0, none⟩) 2 2] bothC := by
    have hz : w.heap.size + 6 < W.heap.size := by rw [hW]; simp only [World.size_alloc]; omega
    have b0 : W.heap[w.heap.size + 1 + 1 + 1 + 1]? = some (.cells #[.int .i64 2, .int .i64 0, .int .i64 0, .int .i64 2, .int .i64 1, .int .i64 0, .int .i64 4, .int .i64 0, .int .i64 1] 45 (0, 0)) := by rw [hW]; (repeat (first | (refine at_new _ _ _ ?_; (simp only [World.size_alloc]; done)) | (refine (at_old _ _ _ ?_).trans ?_; (simp only [World.size_alloc]; omega))))
    have b2 : W.heap[w.heap.size + 1 + 1 + 1 + 1 + 1]? = some (.cells #[.int .i64 2, .int .i64 0] 3 (0, 0)) := by rw [hW]; (repeat (first | (refine at_new _ _ _ ?_; (simp only [World.size_alloc]; done)) | (refine (at_old _ _ _ ?_).trans ?_; (simp only [World.size_alloc]; omega))))
    refine ⟨by rw [hW]; (repeat (first | (refine at_new _ _ _ ?_; (simp only [World.size_alloc]; done)) | (refine (at_old _ _ _ ?_).trans ?_; (simp only [World.size_alloc]; omega)))), ⟨_, _, _, _, _, _, rfl, gates_block b0 (by show _ < _; omega) rfl (by decide), RdI.nil _ _ _ (by omega), ints_block b2 (zs := [2, 0]) (by show _ < _; omega) rfl (by decide)⟩⟩
  have hbW : Below w.heap.size w W := by rw [hW]; go_grown
  have HF := hid FL
  have HBO := hid BO
  have HBW := hid hbW
  have HF0 := hid hf0
  obtain ⟨o0, o1, o2, o3, ol⟩ := BO.cells
  clear hW FL BO hbW hf0
  go_wp2_with fail
  refine (step_both3 _ W HBO.out.rd).mono ?_
  rintro e W1 ⟨rfl, hb⟩
  have HF := hid (HF.out.below hb)
  have HBO := hid (HBO.out.below hb)
  have HBW := hid (HBW.out.trans (hb.mono HBW.out.size))
  obtain ⟨o0, o1, o2, o3, ol⟩ := HBO.out.cells
  clear hb
  go_wp2_with fail
  refine (step_both1 _ W1 HBO.out.rd).mono ?_
  rintro e W2 ⟨rfl, hb⟩
  have HF := hid (HF.out.below hb)
  have HBO := hid (HBO.out.below hb)
  have HBW := hid (HBW.out.trans (hb.mono HBW.out.size))
  clear hb
  go_wp2_with fail
  refine (example_any W2).mono ?_
  rintro e W3 ⟨u, rfl, hb, hrd⟩
  have HF := hid (HF.out.below hb)
  have HBO := hid (HBO.out.below hb)
  have HBW := hid (HBW.out.trans (hb.mono HBW.out.size))
  have HRD := hid hrd
  clear hb hrd
  go_wp2_with fail
  refine (comp_ex _ W3 HRD.out).mono ?_
  rintro e W4 ⟨ib4, n4, k4, Ag, cg, Al, cl, Ao, co, rfl, hb, hrd⟩
  have HF := hid (HF.out.below hb)
  have HBO := hid (HBO.out.below hb)
  have HBW := hid (HBW.out.trans (hb.mono HBW.out.size))
  have HEX := hid (HasC.new hrd)
  clear hb hrd HRD
  go_wp2_with fail
  refine calls_gen fun W5 hW5 => ?_
  have hsm : RdM W5 (· < W5.heap.size) (.agg #[.int .i64 2, .int .i64 2, .int .i64 0, .slice (some ⟨W4.heap.size + 1 + 1, 0, none⟩) 1 1, .slice (some ⟨W4.heap.size + 1 + 1 + 1 + 1, 0, none⟩) 1 1]) sameM := by
    have hz : W4.heap.size + 5 < W5.heap.size := by rw [hW5]; simp only [World.size_alloc]; omega
    have b1 : W5.heap[W4.heap.size + 1]? = some (.cells #[.int .i64 0, .int .i64 1] 3 (0, 0)) := by rw [hW5]; (repeat (first | (refine at_new _ _ _ ?_; (simp only [World.size_alloc]; done)) | (refine (at_old _ _ _ ?_).trans ?_; (simp only [World.size_alloc]; omega))))
    have b2 : W5.heap[W4.heap.size + 1 + 1]? = some (.cells #[.slice (some ⟨W4.heap.size + 1, 0, none⟩) 2 2] 23 (0, 0)) := by rw [hW5]; (repeat (first | (refine at_new _ _ _ ?_; (simp only [World.size_alloc]; done)) | (refine (at_old _ _ _ ?_).trans ?_; (simp only [World.size_alloc]; omega))))
    have b3 : W5.heap[W4.heap.size + 1 + 1 + 1]? = some (.cells #[.int .i64 0, .int .i64 0] 3 (0, 0)) := by rw [hW5]; (repeat (first | (refine at_new _ _ _ ?_; (simp only [World.size_alloc]; done)) | (refine (at_old _ _ _ ?_).trans ?_; (simp only [World.size_alloc]; omega))))
    have b4 : W5.heap[W4.heap.size + 1 + 1 + 1 + 1]? = some (.cells #[.slice (some ⟨W4.heap.size + 1 + 1 + 1, 0, none⟩) 2 2] 23 (0, 0)) := by rw [hW5]; (repeat (first | (refine at_new _ _ _ ?_; (simp only [World.size_alloc]; done)) | (refine (at_old _ _ _ ?_).trans ?_; (simp only [World.size_alloc]; omega))))
    refine ⟨_, _, _, _, rfl, ⟨_, rd_block b2 (n := 1) (size := 1) (by show _ < _; omega) rfl (by omega), fun i hi => ?_⟩, ⟨_, rd_block b4 (n := 1) (size := 1) (by show _ < _; omega) rfl (by omega), fun i hi => ?_⟩⟩
    · match i, hi with
      | 0, _ => exact ⟨_, _, rfl, ints_block b1 (zs := [0, 1]) (by show _ < _; omega) rfl (by simp)⟩
      | i + 1, hi => exact absurd hi (by simp [sameM])
    · match i, hi with
      | 0, _ => exact ⟨_, _, rfl, ints_block b3 (zs := [0, 0]) (by show _ < _; omega) rfl (by simp)⟩
      | i + 1, hi => exact absurd hi (by simp [sameM])
  have hb : Below W4.heap.size W4 W5 := by rw [hW5]; go_grown
  have hb2 : Below (W4.alloc (.cells #[.int .i64 ib4, .slice Ag n4 cg, .slice Al 1 cl, .slice Ao k4 co] 25)).heap.size (W4.alloc (.cells #[.int .i64 ib4, .slice Ag n4 cg, .slice Al 1 cl, .slice Ao k4 co] 25)) W5 := by rw [hW5]; go_grown
  have HF := hid (HF.out.below hb)
  have HBO := hid (HBO.out.below hb)
  have HBW := hid (HBW.out.trans (hb.mono HBW.out.size))
  have HEX := hid (HEX.out.below hb2)
  clear hb hb2 hW5
  refine (comp_same _ W5 hsm).mono ?_
  rintro e W6 ⟨ib6, n6, k6, Ag', cg', Al', cl', Ao', co', rfl, hb, hrd⟩
  have HF := hid (HF.out.below hb)
  have HBO := hid (HBO.out.below hb)
  have HBW := hid (HBW.out.trans (hb.mono HBW.out.size))
  have HEX := hid (HEX.out.below hb)
  have HSA := hid (HasC.new hrd)
  clear hb hrd hsm
  go_wp2_with fail
  refine (comp_zero _ _ (D := fun _ => True) ⟨_, _, _, _, rfl, RdII.nil _ _ _ (by omega), RdII.nil _ _ _ (by omega)⟩).mono ?_
  rintro e W7 ⟨u7, rfl, hb, hrd⟩
  have hb' : Below W6.heap.size W6 W7 := (((Below.refl _ _).alloc (Nat.le_refl _) _)).trans (hb.mono (by simp))
  have HF := hid (HF.out.below hb')
  have HBO := hid (HBO.out.below hb')
  have HBW := hid (HBW.out.trans (hb'.mono HBW.out.size))
  have HEX := hid (HEX.out.below hb')
  have HSA := hid (HSA.out.below hb)
  obtain ⟨Ag7, cg7, Al7, cl7, Ao7, co7, rfl, -, -, -⟩ := hrd
  clear hb hb'
  go_upto_region 9 with (fail)
  refine wp_gen fun W8 hW8 => ?_
  have hb : Below W7.heap.size W7 W8 := by rw [hW8]; go_grown
  have HF := hid (HF.out.below hb)
  have HBO := hid (HBO.out.below hb)
  have HBW := hid (HBW.out.trans (hb.mono HBW.out.size))
  have HEX := hid (HEX.out.below hb)
  have HSA := hid (HSA.out.below hb)
  obtain ⟨o0, o1, o2, o3, ol⟩ := HF.out.cells
  clear hb hW8
  go_wp2_with fail
  refine (valid_flip _ W8 HF.out.rd).mono ?_
  rintro e W9 ⟨rfl, hb⟩
  have HF := hid (HF.out.below hb)
  have HBO := hid (HBO.out.below hb)
  have HBW := hid (HBW.out.trans (hb.mono HBW.out.size))
  have HEX := hid (HEX.out.below hb)
  have HSA := hid (HSA.out.below hb)
  obtain ⟨o0, o1, o2, o3, ol⟩ := HF.out.cells
  clear hb
  go_wp2_with fail
  refine calls_gen fun W10 hW10 => ?_
  have hb : Below W9.heap.size W9 W10 := by rw [hW10]; go_grown
  have HF := hid (HF.out.below hb)
  have HBO := hid (HBO.out.below hb)
  have HBW := hid (HBW.out.trans (hb.mono HBW.out.size))
  have HEX := hid (HEX.out.below hb)
  have HSA := hid (HSA.out.below hb)
  have hin : RdI W10 (fun _ => True) (some ⟨W9.heap.size, 0, none⟩) 3 [0, 0, 0] := by
    rw [hW10]
    exact ints_block (D := fun _ => True) (zs := [0, 0, 0]) (heap_alloc_new W9 _) trivial rfl (by simp)
  clear hb hW10
  refine (run_at _ W10 flipC [0, 0, 0] [0, 1, 0] _ _ HF.out.rd hin (by simp) ex_flip.2).mono ?_
  rintro e W11 ⟨A1, c1, rfl, hb, hout⟩
  have HF := hid (HF.out.below hb)
  have HBO := hid (HBO.out.below hb)
  have HBW := hid (HBW.out.trans (hb.mono HBW.out.size))
  have HEX := hid (HEX.out.below hb)
  have HSA := hid (HSA.out.below hb)
  have HOUT := hid hout
  clear hb hin hout
  go_wp2_with fail
  refine calls_gen fun W12 hW12 => ?_
  have hb : Below W11.heap.size W11 W12 := by rw [hW12]; go_grown
  have HF := hid (HF.out.below hb)
  have HBO := hid (HBO.out.below hb)
  have HBW := hid (HBW.out.trans (hb.mono HBW.out.size))
  have HEX := hid (HEX.out.below hb)
  have HSA := hid (HSA.out.below hb)
  have hin : RdI W12 (fun _ => True) (some ⟨W11.heap.size, 0, none⟩) 3 [0, 1, 0] := by
    rw [hW12]
    exact ints_block (D := fun _ => True) (zs := [0, 1, 0]) (heap_alloc_new W11 _) trivial rfl (by simp)
  have hout2 := (HOUT.out.old.keep (Keeps.of_below hb (fun _ h => h)))
  clear hb hW12
  refine (ints_same W12 [0, 1, 0] _ _ _ _ hout2 hin).mono ?_
  rintro e W13 ⟨rfl, hd⟩
  have hb : Below W12.heap.size W12 W13 := hd.below _
  have HF := hid (HF.out.below hb)
  have HBO := hid (HBO.out.below hb)
  have HBW := hid (HBW.out.trans (hb.mono HBW.out.size))
  have HEX := hid (HEX.out.below hb)
  have HSA := hid (HSA.out.below hb)
  clear hb hin hout2 hd
  go_wp2_with fail
  refine calls_gen fun W14 hW14 => ?_
  have hb : Below W13.heap.size W13 W14 := by rw [hW14]; go_grown
  have HF := hid (HF.out.below hb)
  have HBO := hid (HBO.out.below hb)
  have HBW := hid (HBW.out.trans (hb.mono HBW.out.size))
  have HEX := hid (HEX.out.below hb)
  have HSA := hid (HSA.out.below hb)
  have hbad : RdC W14 (fun _ => True) (.agg #[.int .i64 0, .slice none 0 0, .slice none 0 0, .slice (some ⟨W13.heap.size, 0, none⟩) 1 1]) badC1 := by
    rw [hW14]
    exact ⟨_, _, _, _, _, _, rfl, Rd.nil _ _ 3 _ (by omega), RdI.nil _ _ _ (by omega), ints_block (zs := [0]) (heap_alloc_new W13 _) trivial rfl (by simp)⟩
  clear hb hW14
  refine (valid_bad1 _ W14 hbad).mono ?_
  rintro e W15 ⟨rfl, hb⟩
  have HF := hid (HF.out.below hb)
  have HBO := hid (HBO.out.below hb)
  have HBW := hid (HBW.out.trans (hb.mono HBW.out.size))
  have HEX := hid (HEX.out.below hb)
  have HSA := hid (HSA.out.below hb)
  clear hb hbad
  go_wp2_with fail
  refine calls_gen fun W16 hW16 => ?_
  have hb : Below W15.heap.size W15 W16 := by rw [hW16]; go_grown
  have HF := hid (HF.out.below hb)
  have HBO := hid (HBO.out.below hb)
  have HBW := hid (HBW.out.trans (hb.mono HBW.out.size))
  have HEX := hid (HEX.out.below hb)
  have HSA := hid (HSA.out.below hb)
  have hbad : RdC W16 (fun _ => True) (.agg #[.int .i64 0, .slice (some ⟨W15.heap.size, 0, none⟩) 1 1, .slice none 0 0, .slice none 0 0]) badC2 := by
    rw [hW16]
    exact ⟨_, _, _, _, _, _, rfl, gates_block (gs := [⟨5, 0, 0⟩]) (heap_alloc_new W15 _) trivial rfl (by simp), RdI.nil _ _ _ (by omega), RdI.nil _ _ _ (by omega)⟩
  clear hb hW16
  refine (valid_bad2 _ W16 hbad).mono ?_
  rintro e W17 ⟨rfl, hb⟩
  have HF := hid (HF.out.below hb)
  have HBO := hid (HBO.out.below hb)
  have HBW := hid (HBW.out.trans (hb.mono HBW.out.size))
  have HEX := hid (HEX.out.below hb)
  have HSA := hid (HSA.out.below hb)
  obtain ⟨o0, o1, o2, o3, ol⟩ := HEX.out.cells
  clear hb hbad
  go_wp2_with fail
  refine calls_gen fun W18 hW18 => ?_
  have hb : Below W17.heap.size W17 W18 := by rw [hW18]; go_grown
  have HF := hid (HF.out.below hb)
  have HBO := hid (HBO.out.below hb)
  have HBW := hid (HBW.out.trans (hb.mono HBW.out.size))
  have HEX := hid (HEX.out.below hb)
  have HSA := hid (HSA.out.below hb)
  have hin : RdI W18 (fun _ => True) (some ⟨W17.heap.size, 0, none⟩) 4 [0, 0, 0, 0] := by
    rw [hW18]
    exact ints_block (D := fun _ => True) (zs := [0, 0, 0, 0]) (heap_alloc_new W17 _) trivial rfl (by simp)
  clear hb hW18
  refine (run_at _ W18 (compileZ exM) [0, 0, 0, 0] [0, 1, 0, 1] _ _ HEX.out.rd hin (by simp) ex_ex.2.1).mono ?_
  rintro e W19 ⟨A1, c1, rfl, hb, hout⟩
  have HF := hid (HF.out.below hb)
  have HBO := hid (HBO.out.below hb)
  have HBW := hid (HBW.out.trans (hb.mono HBW.out.size))
  have HEX := hid (HEX.out.below hb)
  have HSA := hid (HSA.out.below hb)
  have HOUT := hid hout
  clear hb hin hout
  go_wp2_with fail
  refine calls_gen fun W20 hW20 => ?_
  have hb : Below W19.heap.size W19 W20 := by rw [hW20]; go_grown
  have HF := hid (HF.out.below hb)
  have HBO := hid (HBO.out.below hb)
  have HBW := hid (HBW.out.trans (hb.mono HBW.out.size))
  have HEX := hid (HEX.out.below hb)
  have HSA := hid (HSA.out.below hb)
  have hin : RdI W20 (fun _ => True) (some ⟨W19.heap.size, 0, none⟩) 4 [0, 1, 0, 1] := by
    rw [hW20]
    exact ints_block (D := fun _ => True) (zs := [0, 1, 0, 1]) (heap_alloc_new W19 _) trivial rfl (by simp)
  have hout2 := (HOUT.out.old.keep (Keeps.of_below hb (fun _ h => h)))
  clear hb hW20
  refine (ints_same W20 [0, 1, 0, 1] _ _ _ _ hout2 hin).mono ?_
  rintro e W21 ⟨rfl, hd⟩
  have hb : Below W20.heap.size W20 W21 := hd.below _
  have HF := hid (HF.out.below hb)
  have HBO := hid (HBO.out.below hb)
  have HBW := hid (HBW.out.trans (hb.mono HBW.out.size))
  have HEX := hid (HEX.out.below hb)
  have HSA := hid (HSA.out.below hb)
  obtain ⟨-, -, e2, -, el⟩ := HEX.out.cells
  obtain ⟨o0, o1, o2, o3, ol⟩ := HSA.out.cells
  clear hb hin hout2 hd
  go_wp2_with fail
  refine calls_gen fun W22 hW22 => ?_
  have hb : Below W21.heap.size W21 W22 := by rw [hW22]; go_grown
  have HF := hid (HF.out.below hb)
  have HBO := hid (HBO.out.below hb)
  have HBW := hid (HBW.out.trans (hb.mono HBW.out.size))
  have HEX := hid (HEX.out.below hb)
  have HSA := hid (HSA.out.below hb)
  have hin : RdI W22 (fun _ => True) (some ⟨W21.heap.size, 0, none⟩) 3 [0, 1, 1] := by
    rw [hW22]
    exact ints_block (D := fun _ => True) (zs := [0, 1, 1]) (heap_alloc_new W21 _) trivial rfl (by simp)
  clear hb hW22
  refine (run_at _ W22 (compileZ sameM) [0, 1, 1] [0, 1, 1] _ _ HSA.out.rd hin (by simp) ex_same.2.1).mono ?_
  rintro e W23 ⟨A1, c1, rfl, hb, hout⟩
  have HF := hid (HF.out.below hb)
  have HBO := hid (HBO.out.below hb)
  have HBW := hid (HBW.out.trans (hb.mono HBW.out.size))
  have HEX := hid (HEX.out.below hb)
  have HSA := hid (HSA.out.below hb)
  have HOUT := hid hout
  clear hb hin hout
  go_wp2_with fail
  refine calls_gen fun W24 hW24 => ?_
  have hb : Below W23.heap.size W23 W24 := by rw [hW24]; go_grown
  have HF := hid (HF.out.below hb)
  have HBO := hid (HBO.out.below hb)
  have HBW := hid (HBW.out.trans (hb.mono HBW.out.size))
  have HEX := hid (HEX.out.below hb)
  have HSA := hid (HSA.out.below hb)
  have hin : RdI W24 (fun _ => True) (some ⟨W23.heap.size, 0, none⟩) 3 [0, 1, 1] := by
    rw [hW24]
    exact ints_block (D := fun _ => True) (zs := [0, 1, 1]) (heap_alloc_new W23 _) trivial rfl (by simp)
  have hout2 := (HOUT.out.old.keep (Keeps.of_below hb (fun _ h => h)))
  clear hb hW24
  refine (ints_same W24 [0, 1, 1] _ _ _ _ hout2 hin).mono ?_
  rintro e W25 ⟨rfl, hd⟩
  have hb : Below W24.heap.size W24 W25 := hd.below _
  have HF := hid (HF.out.below hb)
  have HBO := hid (HBO.out.below hb)
  have HBW := hid (HBW.out.trans (hb.mono HBW.out.size))
  have HEX := hid (HEX.out.below hb)
  have HSA := hid (HSA.out.below hb)
  obtain ⟨-, -, e2, -, el⟩ := HSA.out.cells
  obtain ⟨o0, o1, o2, o3, ol⟩ := HBO.out.cells
  clear hb hin hout2 hd
  go_wp2_with fail
  refine calls_gen fun W26 hW26 => ?_
  have hb : Below W25.heap.size W25 W26 := by rw [hW26]; go_grown
  have HF := hid (HF.out.below hb)
  have HBO := hid (HBO.out.below hb)
  have HBW := hid (HBW.out.trans (hb.mono HBW.out.size))
  have HEX := hid (HEX.out.below hb)
  have HSA := hid (HSA.out.below hb)
  have hin : RdI W26 (fun _ => True) (some ⟨W25.heap.size, 0, none⟩) 1 [4] := by
    rw [hW26]
    exact ints_block (D := fun _ => True) (zs := [4]) (heap_alloc_new W25 _) trivial rfl (by simp)
  clear hb hW26
  refine (run_at _ W26 bothC [4] [] _ _ HBO.out.rd hin (by simp) ex_both.2.2).mono ?_
  rintro e W27 ⟨A1, c1, rfl, hb, hout⟩
  have HF := hid (HF.out.below hb)
  have HBO := hid (HBO.out.below hb)
  have HBW := hid (HBW.out.trans (hb.mono HBW.out.size))
  have HEX := hid (HEX.out.below hb)
  have HSA := hid (HSA.out.below hb)
  have HOUT := hid hout
  clear hb hin hout
  go_wp2_with fail
  go_ret
  exact ⟨rfl, HBW.out⟩
end Go.Proofs.Ytfabdpnjjondaaa
