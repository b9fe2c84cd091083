/-
  Walks of Example and head.
-/
import Derived.Test.YtfabdpnjjondaaaG17
import Derived.Test.YtfabdpnjjondaaaP6
set_option linter.unusedVariables false
set_option linter.unusedSimpArgs false
namespace Go.Proofs.Ytfabdpnjjondaaa
open Go.RowKit
attribute [local go_sem] cell_alloc_old build_g1 build_g2 build_g3

theorem alloc_get (w : World) (o : Obj) (i : Nat) : (w.alloc o).heap[i]? = if i = w.heap.size then some o else w.heap[i]? := by
  show (w.heap.push o)[i]? = _
  rw [Array.getElem?_push]
theorem at_new (w : World) (o : Obj) (i : Nat) (h : i = w.heap.size) : (w.alloc o).heap[i]? = some o := by rw [alloc_get, if_pos h]
theorem at_old (w : World) (o : Obj) (i : Nat) (h : i < w.heap.size) : (w.alloc o).heap[i]? = w.heap[i]? := by rw [alloc_get, if_neg (by omega)]
theorem rd_block {w : World} {D : Dom} {b n size : Nat} {cs : Array Value} {t : TypeId} {fr : Nat × Nat} (h : w.heap[b]? = some (.cells cs t fr)) (hD : D b) (hs : cs.size = n * size) (hn : n ≤ 140737488355328) : Rd w D size (some ⟨b, 0, none⟩) n n cs.toList :=
  ⟨⟨by simpa using hs, hn, Nat.le_refl _, by omega⟩, fun _ => ⟨b, 0, rfl, hD, lt_of_block h, fun j u hu => by rw [Nat.zero_add]; exact block_cell h (by simpa using hu)⟩⟩
theorem ints_block {w : World} {D : Dom} {b : Nat} {zs : List Int} {cs : Array Value} {t : TypeId} {fr : Nat × Nat} (h : w.heap[b]? = some (.cells cs t fr)) (hD : D b) (hc : cs.toList = zs.map (.int .i64)) (hn : zs.length ≤ 140737488355328) : RdI w D (some ⟨b, 0, none⟩) zs.length zs := by
  have hs : cs.size = zs.length * 1 := by rw [← Array.length_toList, hc]; simp
  have := rd_block h hD hs hn
  rw [hc] at this
  exact this
theorem gates_block {w : World} {D : Dom} {b : Nat} {gs : List Gt} {cs : Array Value} {t : TypeId} {fr : Nat × Nat} (h : w.heap[b]? = some (.cells cs t fr)) (hD : D b) (hc : cs.toList = gs.flatMap gcells) (hn : gs.length ≤ 140737488355328) : RdG w D (some ⟨b, 0, none⟩) gs.length gs := by
  have hs : cs.size = gs.length * 3 := by rw [← Array.length_toList, hc, flat_len]
  have := rd_block h hD hs hn
  rw [hc] at this
  exact this

theorem build_exm (A B : Option Addr) (n c k d : Nat) (w : World) : (Instr.build 35 #[(0, .int .i64 1), (1, .int .i64 2), (3, .slice A n c), (4, .slice B k d)]).run Try.prog w = .ok (.agg #[.int .i64 1, .int .i64 2, .int .i64 0, .slice A n c, .slice B k d]) w := run_build w 35 _ _ (by kernel_rfl)
attribute [local go_sem] build_exm

set_option maxHeartbeats 1000000 in
theorem example_any (w : World) :
    Calls Try.prog 27 #[] w fun e w' => ∃ v, e = .returned v ∧ Below w.heap.size w w' ∧ RdM w' (fun b => w.heap.size ≤ b) v exM := by
  go_enter Try.func27, Try.ntmps27
  go_wp2_with fail
  refine bodyPost_gen fun W hW => ?_
  have b0 : W.heap[w.heap.size]? = some (.cells #[.int .i64 1, .int .i64 2, .int .i64 0, .slice (some ⟨w.heap.size + 1 + 1 + 1, 0, none⟩) 2 2, .slice (some ⟨w.heap.size + 1 + 1 + 1 + 1 + 1 + 1, 0, none⟩) 2 2] 35 (0, 0)) := by
    rw [hW]; (repeat (first | (refine at_new _ _ _ ?_; (simp only [World.size_alloc]; done)) | (refine (at_old _ _ _ ?_).trans ?_; (simp only [World.size_alloc]; omega))))
  have b1 : W.heap[w.heap.size + 1]? = some (.cells #[.int .i64 0] 3 (0, 0)) := by rw [hW]; (repeat (first | (refine at_new _ _ _ ?_; (simp only [World.size_alloc]; done)) | (refine (at_old _ _ _ ?_).trans ?_; (simp only [World.size_alloc]; omega))))
  have b2 : W.heap[w.heap.size + 1 + 1]? = some (.cells #[.int .i64 1] 3 (0, 0)) := by rw [hW]; (repeat (first | (refine at_new _ _ _ ?_; (simp only [World.size_alloc]; done)) | (refine (at_old _ _ _ ?_).trans ?_; (simp only [World.size_alloc]; omega))))
  have b3 : W.heap[w.heap.size + 1 + 1 + 1]? = some (.cells #[.slice (some ⟨w.heap.size + 1, 0, none⟩) 1 1, .slice (some ⟨w.heap.size + 1 + 1, 0, none⟩) 1 1] 23 (0, 0)) := by rw [hW]; (repeat (first | (refine at_new _ _ _ ?_; (simp only [World.size_alloc]; done)) | (refine (at_old _ _ _ ?_).trans ?_; (simp only [World.size_alloc]; omega))))
  have b4 : W.heap[w.heap.size + 1 + 1 + 1 + 1]? = some (.cells #[.int .i64 1] 3 (0, 0)) := by rw [hW]; (repeat (first | (refine at_new _ _ _ ?_; (simp only [World.size_alloc]; done)) | (refine (at_old _ _ _ ?_).trans ?_; (simp only [World.size_alloc]; omega))))
  have b5 : W.heap[w.heap.size + 1 + 1 + 1 + 1 + 1]? = some (.cells #[.int .i64 0] 3 (0, 0)) := by rw [hW]; (repeat (first | (refine at_new _ _ _ ?_; (simp only [World.size_alloc]; done)) | (refine (at_old _ _ _ ?_).trans ?_; (simp only [World.size_alloc]; omega))))
  have b6 : W.heap[w.heap.size + 1 + 1 + 1 + 1 + 1 + 1]? = some (.cells #[.slice (some ⟨w.heap.size + 1 + 1 + 1 + 1, 0, none⟩) 1 1, .slice (some ⟨w.heap.size + 1 + 1 + 1 + 1 + 1, 0, none⟩) 1 1] 23 (0, 0)) := by rw [hW]; (repeat (first | (refine at_new _ _ _ ?_; (simp only [World.size_alloc]; done)) | (refine (at_old _ _ _ ?_).trans ?_; (simp only [World.size_alloc]; omega))))
  have hb : Below w.heap.size w W := by rw [hW]; go_grown
  have p0 := block_cell b0 (i := 0) rfl
  have p1 := block_cell b0 (i := 1) rfl
  have p2 := block_cell b0 (i := 2) rfl
  have p3 := block_cell b0 (i := 3) rfl
  have p4 := block_cell b0 (i := 4) rfl
  have hrd : RdM W (fun b => w.heap.size ≤ b) (.agg #[.int .i64 1, .int .i64 2, .int .i64 0, .slice (some ⟨w.heap.size + 1 + 1 + 1, 0, none⟩) 2 2, .slice (some ⟨w.heap.size + 1 + 1 + 1 + 1 + 1 + 1, 0, none⟩) 2 2]) exM := by
    refine ⟨_, _, _, _, rfl, ⟨_, rd_block b3 (n := 2) (size := 1) (by show w.heap.size ≤ _; omega) rfl (by omega), fun i hi => ?_⟩, ⟨_, rd_block b6 (n := 2) (size := 1) (by show w.heap.size ≤ _; omega) rfl (by omega), fun i hi => ?_⟩⟩
    · match i, hi with
      | 0, _ => exact ⟨_, _, rfl, ints_block b1 (zs := [0]) (by show w.heap.size ≤ _; omega) rfl (by simp)⟩
      | 1, _ => exact ⟨_, _, rfl, ints_block b2 (zs := [1]) (by show w.heap.size ≤ _; omega) rfl (by simp)⟩
      | i + 2, hi => exact absurd hi (by simp [exM])
    · match i, hi with
      | 0, _ => exact ⟨_, _, rfl, ints_block b4 (zs := [1]) (by show w.heap.size ≤ _; omega) rfl (by simp)⟩
      | 1, _ => exact ⟨_, _, rfl, ints_block b5 (zs := [0]) (by show w.heap.size ≤ _; omega) rfl (by simp)⟩
      | i + 2, hi => exact absurd hi (by simp [exM])
  clear hW b0 b1 b2 b3 b4 b5 b6
  exact bodyPost_ret (v := .agg #[.int .i64 1, .int .i64 2, .int .i64 0, .slice (some ⟨w.heap.size + 1 + 1 + 1, 0, none⟩) 2 2, .slice (some ⟨w.heap.size + 1 + 1 + 1 + 1 + 1 + 1, 0, none⟩) 2 2]) (by simp [results, Try.results27, go_sem, p0, p1, p2, p3, p4]) rfl ⟨_, rfl, hb, hrd⟩
end Go.Proofs.Ytfabdpnjjondaaa
