/-
  Divisions of states: newClasses and unite.
-/
import Derived.Test.YtcmhginhfhiolaaZ15
set_option linter.unusedVariables false
set_option linter.unusedSimpArgs false
namespace Go.Proofs.Ytcmhginhfhiolaa
open Go.RowKit
attribute [local go_sem] cell_alloc_old

set_option maxRecDepth 100000 in
set_option maxHeartbeats 4000000 in
theorem newClasses_state (w : World) :
    Calls Try.prog 35 #[] w fun e w' => e = .returned (.pointer (some ⟨w.heap.size + 1, 0, none⟩)) ∧ Cls encS 86 w' (w.heap.size + 1) w.heap.size [] id ∧ Below w.heap.size w w' := by
  have hmm := @run_makeMap Try.prog
  go_enter Try.func35, Try.ntmps35
  go_wp2_with fail
  refine bodyPost_gen fun W2 hW2 => ?_
  have hb : Below w.heap.size w W2 := by rw [hW2]; exact ((Below.refl _ _).alloc (Nat.le_refl _) _).alloc (by simp) _
  have h1 : W2.heap[w.heap.size]? = some (.map #[] 0) := by rw [hW2]; exact (Below.heap_alloc _ _ _ (by simp)).trans (heap_alloc_new w _)
  have h2 : W2.heap[w.heap.size + 1]? = some (.cells #[.map (some w.heap.size), .pointer none] 86 (0, 0)) := by
    rw [hW2]
    have := heap_alloc_new (w.alloc (.map #[] 0)) (.cells #[.map (some w.heap.size), .pointer none] 86)
    rwa [World.size_alloc] at this
  have HB := hid hb
  have H1 := hid h1
  have H2 := hid h2
  clear hW2 hb h1 h2 hmm
  go_ret
  exact ⟨rfl, ⟨[], fun _ => 0, ChainC.one (rest := []) H2.out H1.out (fun _ h => by cases h) rfl, ⟨fun _ _ => rfl, fun _ _ h => by cases h⟩⟩, HB.out⟩

set_option maxRecDepth 100000 in
set_option maxHeartbeats 4000000 in
theorem unite_state (cb mb a b : Nat) (f : Nat → Nat) (w : World) (h : Cls encS 86 w cb mb [] f) (ha : f a = a) (hb : f b = b) (hne : a ≠ b) :
    Calls Try.prog 38 #[.pointer (some ⟨cb, 0, none⟩), encS a, encS b] w fun e w' =>
      e = .returned (.tuple #[]) ∧ Cls encS 86 w' cb mb [] (joinF f a b) ∧ Chg (fun k => k = mb) w w' := by
  obtain ⟨l, ht, hc, hr⟩ := h
  have HC := hid hc
  have HRT := hid hr
  have HAA := hid ha
  have HBB := hid hb
  have HNE := hid hne
  obtain ⟨ba, qa, ha1, ha2⟩ := arrS_split a
  obtain ⟨bb, qb, hb1, hb2⟩ := arrS_split b
  have HA2 := hid ha2
  have HB2 := hid hb2
  rw [ha2, hb2]
  clear hc hr ha hb hne ha1 hb1 ha2 hb2
  go_enter Try.func38, Try.ntmps38
  go_wp2_with fail
  refine wp_gen fun W1 hW1 => ?_
  have hb1 : Below w.heap.size w W1 := by rw [hW1]; go_grown
  have hx1 : W1.heap[w.heap.size]? = some (.cells #[.bool ba, .int .i64 (qa : Int)] 56 (0, 0)) := by
    rw [hW1]; (repeat (first | (refine at_new _ _ _ ?_; (simp only [World.size_alloc]; done)) | (refine (at_old _ _ _ ?_).trans ?_; (simp only [World.size_alloc]; omega))))
  have hy1 : W1.heap[w.heap.size + 1]? = some (.cells #[.bool bb, .int .i64 (qb : Int)] 56 (0, 0)) := by
    rw [hW1]; (repeat (first | (refine at_new _ _ _ ?_; (simp only [World.size_alloc]; done)) | (refine (at_old _ _ _ ?_).trans ?_; (simp only [World.size_alloc]; omega))))
  have hc6 := HC.out.keep (w' := W1) fun k _ hl => hb1.block k hl
  have HC6 := hid hc6
  obtain ⟨_, c2, h1, h2, h3, h4, h5⟩ := hc6
  obtain ⟨W7, hrun, hm7, hg7, hs7⟩ := run_update_b state_key (T := 84) (E := 56) (by kernel_rfl) (h2.of_block (w' := W1.drew) rfl) b (encS a)
  rw [← updB_val] at hm7
  have hg7' : W1.grownBy W7 (some mb) := ⟨hg7.os, hg7.tape, hg7.output, hg7.size, hg7.block⟩
  have hc7 := HC6.out.turn hg7' hm7 (updB_nodup h3 _ _)
  have hpu := parC_upd (cb := cb) (mb := mb) (l := l) (rest := []) b a
  have hr7 := HRT.out.unite HAA.out HBB.out HNE.out hpu.1 hpu.2
  have HC7 := hid hc7
  have HR7 := hid hr7
  rw [HA2.out, HB2.out] at hrun
  have HCG7 := hid ((Chg.of_new hb1 (V := fun k => k = mb)).grown hg7' (fun b e _ => (Option.some.inj e).symm))
  have a0 := block_cell hx1 (i := 0) rfl
  have a1 := block_cell hx1 (i := 1) rfl
  have b0 := block_cell hy1 (i := 0) rfl
  have b1 := block_cell hy1 (i := 1) rfl
  have c0 := block_cell h1 (i := 0) rfl
  clear hW1 hb1 hx1 hy1 h1 h2 h3 h4 h5 hm7 hg7 hs7 hg7' hc7 hpu hr7
  go_still_tail 6, (by kernel_rfl)
  simp only [World.drew_eq]
  go_wp2_with fail
  go_end0
  exact ⟨rfl, ⟨_, _, HC7.out, HR7.out⟩, HCG7.out⟩
end Go.Proofs.Ytcmhginhfhiolaa
