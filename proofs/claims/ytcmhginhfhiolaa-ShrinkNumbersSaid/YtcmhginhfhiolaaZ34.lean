/-
  Walk of head: the fixed examples.
-/
import Derived.Test.YtcmhginhfhiolaaZ33
set_option linter.unusedVariables false
set_option linter.unusedSimpArgs false
namespace Go.Proofs.Ytcmhginhfhiolaa
open Go.RowKit
attribute [local go_sem] cell_alloc_old bm1 bm2 bm0 bf3

set_option maxRecDepth 100000 in
set_option maxHeartbeats 8000000 in
theorem head_any (w : World) : Calls Try.prog 10 #[] w fun e w' => e = .returned (.bool true) ∧ Below w.heap.size w w' := by
  go_enter Try.func10, Try.ntmps10
  go_wp2_with fail
  refine (three_any w).mono ?_
  rintro e W1 ⟨Ao, co, An, cn, rfl, hb, hrd⟩
  have HBW := hid hb
  have H3 := hid (HasM.new hrd)
  clear hb hrd
  go_upto_region 2 with (fail)
  refine wp_gen fun W2 hW2 => ?_
  have hb : Below W1.heap.size W1 W2 := by rw [hW2]; go_grown
  have H3 := hid (show HasM W2 W1.heap.size _ m3 by rw [hW2]; exact H3.out)
  have HBW := hid (HBW.out.trans (hb.mono HBW.out.size))
  clear hb hW2
  obtain ⟨o0, o1, o2, o3, o4, ol⟩ := H3.out.cells
  go_wp2_with fail
  refine (least_ex _ W2 H3.out.rd).mono ?_
  rintro e W3 ⟨Bo, bo, Bn, bn, rfl, hb, hrd⟩
  have H3 := hid (H3.out.below hb)
  have HBW := hid (HBW.out.trans (hb.mono HBW.out.size))
  have HL := hid (HasM.new hrd)
  clear hb hrd o0 o1 o2 o3 o4 ol
  go_upto_region 3 with (fail)
  refine wp_gen fun W4 hW4 => ?_
  have hb : Below W3.heap.size W3 W4 := by rw [hW4]; go_grown
  have HL := hid (show HasM W4 W3.heap.size _ least3 by rw [hW4]; exact HL.out)
  have H3 := hid (H3.out.below hb)
  have HBW := hid (HBW.out.trans (hb.mono HBW.out.size))
  clear hb hW4
  obtain ⟨o0, o1, o2, o3, o4, ol⟩ := H3.out.cells
  go_wp2_with fail
  refine calls_gen fun W5 hW5 => ?_
  have b0 : W5.heap[W4.heap.size]? = some (.cells #[.bool true, .bool true] 4 (0, 0)) := by rw [hW5]; (repeat (first | (refine at_new _ _ _ ?_; (simp only [World.size_alloc]; done)) | (refine (at_old _ _ _ ?_).trans ?_; (simp only [World.size_alloc]; omega))))
  have b1 : W5.heap[W4.heap.size + 1]? = some (.cells #[.bool true, .bool true] 4 (0, 0)) := by rw [hW5]; (repeat (first | (refine at_new _ _ _ ?_; (simp only [World.size_alloc]; done)) | (refine (at_old _ _ _ ?_).trans ?_; (simp only [World.size_alloc]; omega))))
  have b2 : W5.heap[W4.heap.size + 1 + 1]? = some (.cells #[.bool true, .bool false] 4 (0, 0)) := by rw [hW5]; (repeat (first | (refine at_new _ _ _ ?_; (simp only [World.size_alloc]; done)) | (refine (at_old _ _ _ ?_).trans ?_; (simp only [World.size_alloc]; omega))))
  have b3 : W5.heap[W4.heap.size + 1 + 1 + 1]? = some (.cells #[.slice (some ⟨W4.heap.size, 0, none⟩) 2 2, .slice (some ⟨W4.heap.size + 1, 0, none⟩) 2 2, .slice (some ⟨W4.heap.size + 1 + 1, 0, none⟩) 2 2] 41 (0, 0)) := by rw [hW5]; (repeat (first | (refine at_new _ _ _ ?_; (simp only [World.size_alloc]; done)) | (refine (at_old _ _ _ ?_).trans ?_; (simp only [World.size_alloc]; omega))))
  have hcr : RdBB W5 (fun _ => True) (some ⟨W4.heap.size + 1 + 1 + 1, 0, none⟩) 3 care3 := by
    refine ⟨_, rd_block b3 (n := 3) (size := 1) trivial rfl (by omega), fun i hi => ?_⟩
    match i, hi with
    | 0, _ => exact ⟨_, _, rfl, bools_block b0 (zs := [true, true]) trivial rfl (by simp)⟩
    | 1, _ => exact ⟨_, _, rfl, bools_block b1 (zs := [true, true]) trivial rfl (by simp)⟩
    | 2, _ => exact ⟨_, _, rfl, bools_block b2 (zs := [true, false]) trivial rfl (by simp)⟩
    | i + 3, hi => exact absurd hi (by simp [care3])
  have hb : Below W4.heap.size W4 W5 := by rw [hW5]; go_grown
  have H3 := hid (H3.out.below hb)
  have HL := hid (HL.out.below hb)
  have HBW := hid (HBW.out.trans (hb.mono HBW.out.size))
  clear hb hW5 b0 b1 b2 b3
  refine (loose_ex _ W5 _ _ H3.out.rd hcr).mono ?_
  rintro e W6 ⟨Co, co', Cn, cn', rfl, hb, hrd⟩
  have H3 := hid (H3.out.below hb)
  have HL := hid (HL.out.below hb)
  have HBW := hid (HBW.out.trans (hb.mono HBW.out.size))
  have HO := hid (HasM.new hrd)
  clear hb hrd hcr o0 o1 o2 o3 o4 ol
  go_upto_region 4 with (fail)
  refine wp_gen fun W7 hW7 => ?_
  have hb : Below W6.heap.size W6 W7 := by rw [hW7]; go_grown
  have HO := hid (show HasM W7 W6.heap.size _ loose3 by rw [hW7]; exact HO.out)
  have H3 := hid (H3.out.below hb)
  have HL := hid (HL.out.below hb)
  have HBW := hid (HBW.out.trans (hb.mono HBW.out.size))
  clear hb hW7
  go_upto_region 5 with (fail)
  refine wp_gen fun W8 hW8 => ?_
  have b0 : W8.heap[W7.heap.size]? = some (.cells #[.int .i64 0] 3 (0, 0)) := by rw [hW8]; (repeat (first | (refine at_new _ _ _ ?_; (simp only [World.size_alloc]; done)) | (refine (at_old _ _ _ ?_).trans ?_; (simp only [World.size_alloc]; omega))))
  have b1 : W8.heap[W7.heap.size + 1]? = some (.cells #[.int .i64 1] 3 (0, 0)) := by rw [hW8]; (repeat (first | (refine at_new _ _ _ ?_; (simp only [World.size_alloc]; done)) | (refine (at_old _ _ _ ?_).trans ?_; (simp only [World.size_alloc]; omega))))
  have b2 : W8.heap[W7.heap.size + 1 + 1]? = some (.cells #[.int .i64 2] 3 (0, 0)) := by rw [hW8]; (repeat (first | (refine at_new _ _ _ ?_; (simp only [World.size_alloc]; done)) | (refine (at_old _ _ _ ?_).trans ?_; (simp only [World.size_alloc]; omega))))
  have b4 : W8.heap[W7.heap.size + 1 + 1 + 1 + 1]? = some (.cells #[.int .i64 1] 3 (0, 0)) := by rw [hW8]; (repeat (first | (refine at_new _ _ _ ?_; (simp only [World.size_alloc]; done)) | (refine (at_old _ _ _ ?_).trans ?_; (simp only [World.size_alloc]; omega))))
  have b5 : W8.heap[W7.heap.size + 1 + 1 + 1 + 1 + 1]? = some (.cells #[.int .i64 0] 3 (0, 0)) := by rw [hW8]; (repeat (first | (refine at_new _ _ _ ?_; (simp only [World.size_alloc]; done)) | (refine (at_old _ _ _ ?_).trans ?_; (simp only [World.size_alloc]; omega))))
  have b6 : W8.heap[W7.heap.size + 1 + 1 + 1 + 1 + 1 + 1]? = some (.cells #[.int .i64 0] 3 (0, 0)) := by rw [hW8]; (repeat (first | (refine at_new _ _ _ ?_; (simp only [World.size_alloc]; done)) | (refine (at_old _ _ _ ?_).trans ?_; (simp only [World.size_alloc]; omega))))
  have b3 : W8.heap[W7.heap.size + 1 + 1 + 1]? = some (.cells #[.slice (some ⟨W7.heap.size, 0, none⟩) 1 1, .slice (some ⟨W7.heap.size + 1, 0, none⟩) 1 1, .slice (some ⟨W7.heap.size + 1 + 1, 0, none⟩) 1 1] 34 (0, 0)) := by rw [hW8]; (repeat (first | (refine at_new _ _ _ ?_; (simp only [World.size_alloc]; done)) | (refine (at_old _ _ _ ?_).trans ?_; (simp only [World.size_alloc]; omega))))
  have b7 : W8.heap[W7.heap.size + 1 + 1 + 1 + 1 + 1 + 1 + 1]? = some (.cells #[.slice (some ⟨W7.heap.size + 1 + 1 + 1 + 1, 0, none⟩) 1 1, .slice (some ⟨W7.heap.size + 1 + 1 + 1 + 1 + 1, 0, none⟩) 1 1, .slice (some ⟨W7.heap.size + 1 + 1 + 1 + 1 + 1 + 1, 0, none⟩) 1 1] 34 (0, 0)) := by rw [hW8]; (repeat (first | (refine at_new _ _ _ ?_; (simp only [World.size_alloc]; done)) | (refine (at_old _ _ _ ?_).trans ?_; (simp only [World.size_alloc]; omega))))
  have b8 : W8.heap[W7.heap.size + 1 + 1 + 1 + 1 + 1 + 1 + 1 + 1]? = some (.cells #[.int .i64 1, .int .i64 3, .int .i64 2, .slice (some ⟨W7.heap.size + 1 + 1 + 1, 0, none⟩) 3 3, .slice (some ⟨W7.heap.size + 1 + 1 + 1 + 1 + 1 + 1 + 1, 0, none⟩) 3 3] 24 (0, 0)) := by rw [hW8]; (repeat (first | (refine at_new _ _ _ ?_; (simp only [World.size_alloc]; done)) | (refine (at_old _ _ _ ?_).trans ?_; (simp only [World.size_alloc]; omega))))
  have hz : W7.heap.size + 8 < W8.heap.size := by rw [hW8]; simp only [World.size_alloc]; omega
  have hfar : HasM W8 (W7.heap.size + 1 + 1 + 1 + 1 + 1 + 1 + 1 + 1) #[.int .i64 1, .int .i64 3, .int .i64 2, .slice (some ⟨W7.heap.size + 1 + 1 + 1, 0, none⟩) 3 3, .slice (some ⟨W7.heap.size + 1 + 1 + 1 + 1 + 1 + 1 + 1, 0, none⟩) 3 3] far3 := ⟨b8, by
    refine ⟨_, _, _, _, rfl, ⟨_, rd_block b3 (n := 3) (size := 1) (by show _ < _; omega) rfl (by omega), fun i hi => ?_⟩, ⟨_, rd_block b7 (n := 3) (size := 1) (by show _ < _; omega) rfl (by omega), fun i hi => ?_⟩⟩
    · match i, hi with
      | 0, _ => exact ⟨_, _, rfl, ints_block b0 (zs := [0]) (by show _ < _; omega) rfl (by simp)⟩
      | 1, _ => exact ⟨_, _, rfl, ints_block b1 (zs := [1]) (by show _ < _; omega) rfl (by simp)⟩
      | 2, _ => exact ⟨_, _, rfl, ints_block b2 (zs := [2]) (by show _ < _; omega) rfl (by simp)⟩
      | i + 3, hi => exact absurd hi (by simp [far3])
    · match i, hi with
      | 0, _ => exact ⟨_, _, rfl, ints_block b4 (zs := [1]) (by show _ < _; omega) rfl (by simp)⟩
      | 1, _ => exact ⟨_, _, rfl, ints_block b5 (zs := [0]) (by show _ < _; omega) rfl (by simp)⟩
      | 2, _ => exact ⟨_, _, rfl, ints_block b6 (zs := [0]) (by show _ < _; omega) rfl (by simp)⟩
      | i + 3, hi => exact absurd hi (by simp [far3])⟩
  have HF := hid hfar
  have hb : Below W7.heap.size W7 W8 := by rw [hW8]; go_grown
  have H3 := hid (H3.out.below hb)
  have HL := hid (HL.out.below hb)
  have HO := hid (HO.out.below hb)
  have HBW := hid (HBW.out.trans (hb.mono HBW.out.size))
  clear hb hz hfar hW8 b0 b1 b2 b3 b4 b5 b6 b7 b8
  obtain ⟨o0, o1, o2, o3, o4, ol⟩ := HF.out.cells
  go_wp2_with fail
  refine (trim_ex _ W8 HF.out.rd).mono ?_
  rintro e W9 ⟨Do, d0, Dn, dn, rfl, hb, hrd⟩
  have H3 := hid (H3.out.below hb)
  have HL := hid (HL.out.below hb)
  have HO := hid (HO.out.below hb)
  have HF := hid (HF.out.below hb)
  have HBW := hid (HBW.out.trans (hb.mono HBW.out.size))
  have HT := hid (HasM.new hrd)
  clear hb hrd o0 o1 o2 o3 o4 ol
  go_upto_region 6 with (fail)
  refine wp_gen fun W10 hW10 => ?_
  have hb : Below W9.heap.size W9 W10 := by rw [hW10]; go_grown
  have HT := hid (show HasM W10 W9.heap.size _ trim3 by rw [hW10]; exact HT.out)
  have H3 := hid (H3.out.below hb)
  have HL := hid (HL.out.below hb)
  have HO := hid (HO.out.below hb)
  have HF := hid (HF.out.below hb)
  have HBW := hid (HBW.out.trans (hb.mono HBW.out.size))
  clear hb hW10
  obtain ⟨o0, o1, o2, o3, o4, ol⟩ := HL.out.cells
  go_wp2_with fail
  refine calls_gen fun W11 hW11 => ?_
  have hb : Below W10.heap.size W10 W11 := by rw [hW11]; go_grown
  have H3 := hid (H3.out.below hb)
  have HL := hid (HL.out.below hb)
  have HO := hid (HO.out.below hb)
  have HF := hid (HF.out.below hb)
  have HT := hid (HT.out.below hb)
  have HBW := hid (HBW.out.trans (hb.mono HBW.out.size))
  have hin : RdI W11 (fun _ => True) (some ⟨W10.heap.size, 0, none⟩) 4 [1, 1, 0, 1] := by
    rw [hW11]; exact ints_block (D := fun _ => True) (zs := [1, 1, 0, 1]) (heap_alloc_new W10 _) trivial rfl (by simp)
  clear hb hW11
  refine (run_ex _ W11 _ _ HL.out.rd hin).mono ?_
  rintro e W12 ⟨A1, c1, rfl, hb, hout⟩
  have H3 := hid (H3.out.below hb)
  have HL := hid (HL.out.below hb)
  have HO := hid (HO.out.below hb)
  have HF := hid (HF.out.below hb)
  have HT := hid (HT.out.below hb)
  have HBW := hid (HBW.out.trans (hb.mono HBW.out.size))
  have HOUT := hid hout.old
  clear hb hin hout o0 o1 o2 o3 o4 ol
  go_upto_region 7 with (fail)
  obtain ⟨o0, o1, o2, o3, o4, ol⟩ := HL.out.cells
  go_wp2_with fail
  refine calls_gen fun W13 hW13 => ?_
  have b0 : W13.heap[W12.heap.size]? = some (.cells #[.int .i64 0, .int .i64 0] 3 (0, 0)) := by rw [hW13]; (repeat (first | (refine at_new _ _ _ ?_; (simp only [World.size_alloc]; done)) | (refine (at_old _ _ _ ?_).trans ?_; (simp only [World.size_alloc]; omega))))
  have b1 : W13.heap[W12.heap.size + 1]? = some (.cells #[.int .i64 0, .int .i64 1] 3 (0, 0)) := by rw [hW13]; (repeat (first | (refine at_new _ _ _ ?_; (simp only [World.size_alloc]; done)) | (refine (at_old _ _ _ ?_).trans ?_; (simp only [World.size_alloc]; omega))))
  have b3 : W13.heap[W12.heap.size + 1 + 1 + 1]? = some (.cells #[.int .i64 0, .int .i64 1] 3 (0, 0)) := by rw [hW13]; (repeat (first | (refine at_new _ _ _ ?_; (simp only [World.size_alloc]; done)) | (refine (at_old _ _ _ ?_).trans ?_; (simp only [World.size_alloc]; omega))))
  have b4 : W13.heap[W12.heap.size + 1 + 1 + 1 + 1]? = some (.cells #[.int .i64 0, .int .i64 1] 3 (0, 0)) := by rw [hW13]; (repeat (first | (refine at_new _ _ _ ?_; (simp only [World.size_alloc]; done)) | (refine (at_old _ _ _ ?_).trans ?_; (simp only [World.size_alloc]; omega))))
  have b2 : W13.heap[W12.heap.size + 1 + 1]? = some (.cells #[.slice (some ⟨W12.heap.size, 0, none⟩) 2 2, .slice (some ⟨W12.heap.size + 1, 0, none⟩) 2 2] 34 (0, 0)) := by rw [hW13]; (repeat (first | (refine at_new _ _ _ ?_; (simp only [World.size_alloc]; done)) | (refine (at_old _ _ _ ?_).trans ?_; (simp only [World.size_alloc]; omega))))
  have b5 : W13.heap[W12.heap.size + 1 + 1 + 1 + 1 + 1]? = some (.cells #[.slice (some ⟨W12.heap.size + 1 + 1 + 1, 0, none⟩) 2 2, .slice (some ⟨W12.heap.size + 1 + 1 + 1 + 1, 0, none⟩) 2 2] 34 (0, 0)) := by rw [hW13]; (repeat (first | (refine at_new _ _ _ ?_; (simp only [World.size_alloc]; done)) | (refine (at_old _ _ _ ?_).trans ?_; (simp only [World.size_alloc]; omega))))
  have hlit : RdM W13 (fun _ => True) (.agg #[.int .i64 2, .int .i64 2, .int .i64 0, .slice (some ⟨W12.heap.size + 1 + 1, 0, none⟩) 2 2, .slice (some ⟨W12.heap.size + 1 + 1 + 1 + 1 + 1, 0, none⟩) 2 2]) least3 := by
    refine ⟨_, _, _, _, rfl, ⟨_, rd_block b2 (n := 2) (size := 1) (trivial) rfl (by omega), fun i hi => ?_⟩, ⟨_, rd_block b5 (n := 2) (size := 1) (trivial) rfl (by omega), fun i hi => ?_⟩⟩
    · match i, hi with
      | 0, _ => exact ⟨_, _, rfl, ints_block b0 (zs := [0, 0]) (trivial) rfl (by simp)⟩
      | 1, _ => exact ⟨_, _, rfl, ints_block b1 (zs := [0, 1]) (trivial) rfl (by simp)⟩
      | i + 2, hi => exact absurd hi (by simp [least3])
    · match i, hi with
      | 0, _ => exact ⟨_, _, rfl, ints_block b3 (zs := [0, 1]) (trivial) rfl (by simp)⟩
      | 1, _ => exact ⟨_, _, rfl, ints_block b4 (zs := [0, 1]) (trivial) rfl (by simp)⟩
      | i + 2, hi => exact absurd hi (by simp [least3])
  have hb : Below W12.heap.size W12 W13 := by rw [hW13]; go_grown
  have H3 := hid (H3.out.below hb)
  have HL := hid (HL.out.below hb)
  have HO := hid (HO.out.below hb)
  have HF := hid (HF.out.below hb)
  have HT := hid (HT.out.below hb)
  have HBW := hid (HBW.out.trans (hb.mono HBW.out.size))
  have HOUT := hid ((HOUT.out.keep (Keeps.of_below hb (fun _ h => h))).mono (fun b hb2 _ => Nat.lt_of_lt_of_le hb2 hb.size))
  clear hb hW13 b0 b1 b2 b3 b4 b5
  refine (eq_ex least3 _ _ W13 HL.out.rd hlit).mono ?_
  rintro e W14 ⟨rfl, hb⟩
  have H3 := hid (H3.out.below hb)
  have HL := hid (HL.out.below hb)
  have HO := hid (HO.out.below hb)
  have HF := hid (HF.out.below hb)
  have HT := hid (HT.out.below hb)
  have HBW := hid (HBW.out.trans (hb.mono HBW.out.size))
  have HOUT := hid ((HOUT.out.keep (Keeps.of_below hb (fun _ h => h))).mono (fun b hb2 _ => Nat.lt_of_lt_of_le hb2 hb.size))
  clear hb hlit
  clear o0 o1 o2 o3 o4 ol
  obtain ⟨o0, o1, o2, o3, o4, ol⟩ := HO.out.cells
  go_wp2_with fail
  refine calls_gen fun W15 hW15 => ?_
  have b0 : W15.heap[W14.heap.size]? = some (.cells #[.int .i64 0, .int .i64 0] 3 (0, 0)) := by rw [hW15]; (repeat (first | (refine at_new _ _ _ ?_; (simp only [World.size_alloc]; done)) | (refine (at_old _ _ _ ?_).trans ?_; (simp only [World.size_alloc]; omega))))
  have b2 : W15.heap[W14.heap.size + 1 + 1]? = some (.cells #[.int .i64 0, .int .i64 0] 3 (0, 0)) := by rw [hW15]; (repeat (first | (refine at_new _ _ _ ?_; (simp only [World.size_alloc]; done)) | (refine (at_old _ _ _ ?_).trans ?_; (simp only [World.size_alloc]; omega))))
  have b1 : W15.heap[W14.heap.size + 1]? = some (.cells #[.slice (some ⟨W14.heap.size, 0, none⟩) 2 2] 34 (0, 0)) := by rw [hW15]; (repeat (first | (refine at_new _ _ _ ?_; (simp only [World.size_alloc]; done)) | (refine (at_old _ _ _ ?_).trans ?_; (simp only [World.size_alloc]; omega))))
  have b3 : W15.heap[W14.heap.size + 1 + 1 + 1]? = some (.cells #[.slice (some ⟨W14.heap.size + 1 + 1, 0, none⟩) 2 2] 34 (0, 0)) := by rw [hW15]; (repeat (first | (refine at_new _ _ _ ?_; (simp only [World.size_alloc]; done)) | (refine (at_old _ _ _ ?_).trans ?_; (simp only [World.size_alloc]; omega))))
  have hlit : RdM W15 (fun _ => True) (.agg #[.int .i64 2, .int .i64 2, .int .i64 0, .slice (some ⟨W14.heap.size + 1, 0, none⟩) 1 1, .slice (some ⟨W14.heap.size + 1 + 1 + 1, 0, none⟩) 1 1]) loose3 := by
    refine ⟨_, _, _, _, rfl, ⟨_, rd_block b1 (n := 1) (size := 1) (trivial) rfl (by omega), fun i hi => ?_⟩, ⟨_, rd_block b3 (n := 1) (size := 1) (trivial) rfl (by omega), fun i hi => ?_⟩⟩
    · match i, hi with
      | 0, _ => exact ⟨_, _, rfl, ints_block b0 (zs := [0, 0]) (trivial) rfl (by simp)⟩
      | i + 1, hi => exact absurd hi (by simp [loose3])
    · match i, hi with
      | 0, _ => exact ⟨_, _, rfl, ints_block b2 (zs := [0, 0]) (trivial) rfl (by simp)⟩
      | i + 1, hi => exact absurd hi (by simp [loose3])
  have hb : Below W14.heap.size W14 W15 := by rw [hW15]; go_grown
  have H3 := hid (H3.out.below hb)
  have HL := hid (HL.out.below hb)
  have HO := hid (HO.out.below hb)
  have HF := hid (HF.out.below hb)
  have HT := hid (HT.out.below hb)
  have HBW := hid (HBW.out.trans (hb.mono HBW.out.size))
  have HOUT := hid ((HOUT.out.keep (Keeps.of_below hb (fun _ h => h))).mono (fun b hb2 _ => Nat.lt_of_lt_of_le hb2 hb.size))
  clear hb hW15 b0 b1 b2 b3
  refine (eq_ex loose3 _ _ W15 HO.out.rd hlit).mono ?_
  rintro e W16 ⟨rfl, hb⟩
  have H3 := hid (H3.out.below hb)
  have HL := hid (HL.out.below hb)
  have HO := hid (HO.out.below hb)
  have HF := hid (HF.out.below hb)
  have HT := hid (HT.out.below hb)
  have HBW := hid (HBW.out.trans (hb.mono HBW.out.size))
  have HOUT := hid ((HOUT.out.keep (Keeps.of_below hb (fun _ h => h))).mono (fun b hb2 _ => Nat.lt_of_lt_of_le hb2 hb.size))
  clear hb hlit
  clear o0 o1 o2 o3 o4 ol
  go_upto_region 8 with (fail)
  obtain ⟨o0, o1, o2, o3, o4, ol⟩ := HT.out.cells
  go_wp2_with fail
  refine calls_gen fun W17 hW17 => ?_
  have b0 : W17.heap[W16.heap.size]? = some (.cells #[.int .i64 2] 3 (0, 0)) := by rw [hW17]; (repeat (first | (refine at_new _ _ _ ?_; (simp only [World.size_alloc]; done)) | (refine (at_old _ _ _ ?_).trans ?_; (simp only [World.size_alloc]; omega))))
  have b1 : W17.heap[W16.heap.size + 1]? = some (.cells #[.int .i64 0] 3 (0, 0)) := by rw [hW17]; (repeat (first | (refine at_new _ _ _ ?_; (simp only [World.size_alloc]; done)) | (refine (at_old _ _ _ ?_).trans ?_; (simp only [World.size_alloc]; omega))))
  have b2 : W17.heap[W16.heap.size + 1 + 1]? = some (.cells #[.int .i64 1] 3 (0, 0)) := by rw [hW17]; (repeat (first | (refine at_new _ _ _ ?_; (simp only [World.size_alloc]; done)) | (refine (at_old _ _ _ ?_).trans ?_; (simp only [World.size_alloc]; omega))))
  have b4 : W17.heap[W16.heap.size + 1 + 1 + 1 + 1]? = some (.cells #[.int .i64 1] 3 (0, 0)) := by rw [hW17]; (repeat (first | (refine at_new _ _ _ ?_; (simp only [World.size_alloc]; done)) | (refine (at_old _ _ _ ?_).trans ?_; (simp only [World.size_alloc]; omega))))
  have b5 : W17.heap[W16.heap.size + 1 + 1 + 1 + 1 + 1]? = some (.cells #[.int .i64 2] 3 (0, 0)) := by rw [hW17]; (repeat (first | (refine at_new _ _ _ ?_; (simp only [World.size_alloc]; done)) | (refine (at_old _ _ _ ?_).trans ?_; (simp only [World.size_alloc]; omega))))
  have b6 : W17.heap[W16.heap.size + 1 + 1 + 1 + 1 + 1 + 1]? = some (.cells #[.int .i64 1] 3 (0, 0)) := by rw [hW17]; (repeat (first | (refine at_new _ _ _ ?_; (simp only [World.size_alloc]; done)) | (refine (at_old _ _ _ ?_).trans ?_; (simp only [World.size_alloc]; omega))))
  have b3 : W17.heap[W16.heap.size + 1 + 1 + 1]? = some (.cells #[.slice (some ⟨W16.heap.size, 0, none⟩) 1 1, .slice (some ⟨W16.heap.size + 1, 0, none⟩) 1 1, .slice (some ⟨W16.heap.size + 1 + 1, 0, none⟩) 1 1] 34 (0, 0)) := by rw [hW17]; (repeat (first | (refine at_new _ _ _ ?_; (simp only [World.size_alloc]; done)) | (refine (at_old _ _ _ ?_).trans ?_; (simp only [World.size_alloc]; omega))))
  have b7 : W17.heap[W16.heap.size + 1 + 1 + 1 + 1 + 1 + 1 + 1]? = some (.cells #[.slice (some ⟨W16.heap.size + 1 + 1 + 1 + 1, 0, none⟩) 1 1, .slice (some ⟨W16.heap.size + 1 + 1 + 1 + 1 + 1, 0, none⟩) 1 1, .slice (some ⟨W16.heap.size + 1 + 1 + 1 + 1 + 1 + 1, 0, none⟩) 1 1] 34 (0, 0)) := by rw [hW17]; (repeat (first | (refine at_new _ _ _ ?_; (simp only [World.size_alloc]; done)) | (refine (at_old _ _ _ ?_).trans ?_; (simp only [World.size_alloc]; omega))))
  have hlit : RdM W17 (fun _ => True) (.agg #[.int .i64 1, .int .i64 3, .int .i64 0, .slice (some ⟨W16.heap.size + 1 + 1 + 1, 0, none⟩) 3 3, .slice (some ⟨W16.heap.size + 1 + 1 + 1 + 1 + 1 + 1 + 1, 0, none⟩) 3 3]) trim3 := by
    refine ⟨_, _, _, _, rfl, ⟨_, rd_block b3 (n := 3) (size := 1) (trivial) rfl (by omega), fun i hi => ?_⟩, ⟨_, rd_block b7 (n := 3) (size := 1) (trivial) rfl (by omega), fun i hi => ?_⟩⟩
    · match i, hi with
      | 0, _ => exact ⟨_, _, rfl, ints_block b0 (zs := [2]) (trivial) rfl (by simp)⟩
      | 1, _ => exact ⟨_, _, rfl, ints_block b1 (zs := [0]) (trivial) rfl (by simp)⟩
      | 2, _ => exact ⟨_, _, rfl, ints_block b2 (zs := [1]) (trivial) rfl (by simp)⟩
      | i + 3, hi => exact absurd hi (by simp [trim3])
    · match i, hi with
      | 0, _ => exact ⟨_, _, rfl, ints_block b4 (zs := [1]) (trivial) rfl (by simp)⟩
      | 1, _ => exact ⟨_, _, rfl, ints_block b5 (zs := [2]) (trivial) rfl (by simp)⟩
      | 2, _ => exact ⟨_, _, rfl, ints_block b6 (zs := [1]) (trivial) rfl (by simp)⟩
      | i + 3, hi => exact absurd hi (by simp [trim3])
  have hb : Below W16.heap.size W16 W17 := by rw [hW17]; go_grown
  have H3 := hid (H3.out.below hb)
  have HL := hid (HL.out.below hb)
  have HO := hid (HO.out.below hb)
  have HF := hid (HF.out.below hb)
  have HT := hid (HT.out.below hb)
  have HBW := hid (HBW.out.trans (hb.mono HBW.out.size))
  have HOUT := hid ((HOUT.out.keep (Keeps.of_below hb (fun _ h => h))).mono (fun b hb2 _ => Nat.lt_of_lt_of_le hb2 hb.size))
  clear hb hW17 b0 b1 b2 b3 b4 b5 b6 b7
  refine (eq_ex trim3 _ _ W17 HT.out.rd hlit).mono ?_
  rintro e W18 ⟨rfl, hb⟩
  have H3 := hid (H3.out.below hb)
  have HL := hid (HL.out.below hb)
  have HO := hid (HO.out.below hb)
  have HF := hid (HF.out.below hb)
  have HT := hid (HT.out.below hb)
  have HBW := hid (HBW.out.trans (hb.mono HBW.out.size))
  have HOUT := hid ((HOUT.out.keep (Keeps.of_below hb (fun _ h => h))).mono (fun b hb2 _ => Nat.lt_of_lt_of_le hb2 hb.size))
  clear hb hlit
  clear o0 o1 o2 o3 o4 ol
  obtain ⟨o0, o1, o2, o3, o4, ol⟩ := H3.out.cells
  obtain ⟨q0, q1, q2, q3, q4, ql⟩ := HL.out.cells
  go_wp2_with fail
  refine (same_yes least3_same _ _ W18 H3.out.rd HL.out.rd).mono ?_
  rintro e W19 ⟨rfl, hb⟩
  have H3 := hid (H3.out.below hb)
  have HL := hid (HL.out.below hb)
  have HO := hid (HO.out.below hb)
  have HF := hid (HF.out.below hb)
  have HT := hid (HT.out.below hb)
  have HBW := hid (HBW.out.trans (hb.mono HBW.out.size))
  have HOUT := hid ((HOUT.out.keep (Keeps.of_below hb (fun _ h => h))).mono (fun b hb2 _ => Nat.lt_of_lt_of_le hb2 hb.size))
  clear hb o0 o1 o2 o3 o4 ol q0 q1 q2 q3 q4 ql
  obtain ⟨o0, o1, o2, o3, o4, ol⟩ := H3.out.cells
  obtain ⟨q0, q1, q2, q3, q4, ql⟩ := HO.out.cells
  go_wp2_with fail
  refine (same_no loose3_not _ _ W19 H3.out.rd HO.out.rd).mono ?_
  rintro e W20 ⟨rfl, hb⟩
  have H3 := hid (H3.out.below hb)
  have HL := hid (HL.out.below hb)
  have HO := hid (HO.out.below hb)
  have HF := hid (HF.out.below hb)
  have HT := hid (HT.out.below hb)
  have HBW := hid (HBW.out.trans (hb.mono HBW.out.size))
  have HOUT := hid ((HOUT.out.keep (Keeps.of_below hb (fun _ h => h))).mono (fun b hb2 _ => Nat.lt_of_lt_of_le hb2 hb.size))
  clear hb o0 o1 o2 o3 o4 ol q0 q1 q2 q3 q4 ql
  obtain ⟨o0, o1, o2, o3, o4, ol⟩ := H3.out.cells
  obtain ⟨q0, q1, q2, q3, q4, ql⟩ := HF.out.cells
  go_wp2_with fail
  refine (same_no far3_not _ _ W20 H3.out.rd HF.out.rd).mono ?_
  rintro e W21 ⟨rfl, hb⟩
  have H3 := hid (H3.out.below hb)
  have HL := hid (HL.out.below hb)
  have HO := hid (HO.out.below hb)
  have HF := hid (HF.out.below hb)
  have HT := hid (HT.out.below hb)
  have HBW := hid (HBW.out.trans (hb.mono HBW.out.size))
  have HOUT := hid ((HOUT.out.keep (Keeps.of_below hb (fun _ h => h))).mono (fun b hb2 _ => Nat.lt_of_lt_of_le hb2 hb.size))
  clear hb o0 o1 o2 o3 o4 ol q0 q1 q2 q3 q4 ql
  go_wp2_with fail
  refine (same_no zero_not _ _ W21 (D := fun _ => True) (E := fun _ => True) ⟨_, _, _, _, rfl, RdII.nil _ _ _ (by omega), RdII.nil _ _ _ (by omega)⟩ ⟨_, _, _, _, rfl, RdII.nil _ _ _ (by omega), RdII.nil _ _ _ (by omega)⟩).mono ?_
  rintro e W22 ⟨rfl, hb⟩
  have H3 := hid (H3.out.below hb)
  have HL := hid (HL.out.below hb)
  have HO := hid (HO.out.below hb)
  have HF := hid (HF.out.below hb)
  have HT := hid (HT.out.below hb)
  have HBW := hid (HBW.out.trans (hb.mono HBW.out.size))
  have HOUT := hid ((HOUT.out.keep (Keeps.of_below hb (fun _ h => h))).mono (fun b hb2 _ => Nat.lt_of_lt_of_le hb2 hb.size))
  clear hb
  go_upto_region 9 with (fail)
  go_wp2_with fail
  refine calls_gen fun W23 hW23 => ?_
  have hb : Below W22.heap.size W22 W23 := by rw [hW23]; go_grown
  have H3 := hid (H3.out.below hb)
  have HL := hid (HL.out.below hb)
  have HO := hid (HO.out.below hb)
  have HF := hid (HF.out.below hb)
  have HT := hid (HT.out.below hb)
  have HBW := hid (HBW.out.trans (hb.mono HBW.out.size))
  have hin : RdI W23 (fun _ => True) (some ⟨W22.heap.size, 0, none⟩) 4 [0, 1, 0, 0] := by
    rw [hW23]; exact ints_block (D := fun _ => True) (zs := [0, 1, 0, 0]) (heap_alloc_new W22 _) trivial rfl (by simp)
  have hout2 := HOUT.out.keep (Keeps.of_below hb (fun _ h => h))
  clear hb hW23
  refine (ints_same W23 [0, 1, 0, 0] _ _ _ _ hout2 hin).mono ?_
  rintro e W24 ⟨rfl, hd⟩
  have hb : Below W23.heap.size W23 W24 := hd.below _
  have H3 := hid (H3.out.below hb)
  have HL := hid (HL.out.below hb)
  have HO := hid (HO.out.below hb)
  have HF := hid (HF.out.below hb)
  have HT := hid (HT.out.below hb)
  have HBW := hid (HBW.out.trans (hb.mono HBW.out.size))
  clear hb hd hin hout2
  obtain ⟨o0, o1, o2, o3, o4, ol⟩ := H3.out.cells
  go_wp2_with fail
  refine (loose_nil _ W24 H3.out.rd).mono ?_
  rintro e W25 ⟨i0, i1, i2, Zo, zo, Zn, zk, zn, rfl, hb⟩
  have H3 := hid (H3.out.below hb)
  have HL := hid (HL.out.below hb)
  have HO := hid (HO.out.below hb)
  have HF := hid (HF.out.below hb)
  have HT := hid (HT.out.below hb)
  have HBW := hid (HBW.out.trans (hb.mono HBW.out.size))
  clear hb o0 o1 o2 o3 o4 ol
  go_wp2_with fail
  go_ret
  exact ⟨rfl, HBW.out⟩
end Go.Proofs.Ytcmhginhfhiolaa
