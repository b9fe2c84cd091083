/-
  Walk of FormulaKernels.
-/
import Derived.Test.YthdidjmmhhchmaaGreatDoorZKE
set_option linter.unusedVariables false
set_option linter.unusedSimpArgs false
namespace Go.Proofs.YthdidjmmhhchmaaGreatDoor
open Go.RowKit Go.Shelf
attribute [local go_sem] cell_alloc_old

set_option maxRecDepth 100000 in
set_option maxHeartbeats 8000000 in
theorem kernels_any {D : Dom} (f : Fm) (v : Value) (w : World) (h : RdF3 w D v f) (hg : GF w) (hk : GK w) :
    Calls Tryz.prog 3 #[v] w fun e w' => e = .returned (.bool true) ∧ Below w.heap.size w w' := by
  obtain ⟨A, c, rfl, ha⟩ := h
  have HA := hid (VF.of ha)
  have HG0 := hid hg
  have HK0 := hid hk
  clear ha hg hk
  go_enter Tryz.func3, Tryz.ntmps3
  go_upto_region 1 with (fail)
  refine wp_gen fun W hW => ?_
  have HB := hid (show Below w.heap.size w W by rw [hW]; go_grown)
  have HO1 := hid (show OB W w.heap.size f.op f.name f.val f.bound A f.args.length c by rw [hW]; exact at_new _ _ _ rfl)
  have HF := hid (HA.out.below HB.out)
  have HG := hid (HG0.out.nx HB.out)
  have HK := hid (HK0.out.nx HB.out)
  clear hW HA HG0 HK0
  obtain ⟨b1, hb1⟩ : ∃ b1, b1 = w.heap.size := ⟨_, rfl⟩
  rw [← hb1] at HO1 ⊢
  clear hb1
  go_upto_region 2 with (go_at_call 9; (with_reducible refine (head_any _ ?_ ?_).mono ?_); (first | exact HG.out | exact HG.out.nx (by go_grown)); (first | exact HK.out | exact HK.out.nx (by go_grown)); rintro e U ⟨rfl, hb⟩; have hbu := bel_of HG.out (by first | exact Below.refl _ _ | go_grown) hb; replace HG := hid (HG.out.nx hbu); replace HK := hid (HK.out.nx hbu); replace HB := hid (belNx HB.out hbu); replace HO1 := hid (HO1.out.below hbu); replace HF := hid (HF.out.below hbu); clear hbu hb)
  obtain ⟨x0, x1, x2, x3, x4, x5⟩ := HO1.out.cells
  by_cases hs : f.size ≤ 420
  rotate_left
  · go_wp2_with (go_at_call 10; (with_reducible refine (small_lit (f := f) 420 420 rfl ?_ false ?_ ?_).mono ?_); decide; exact decide_eq_false hs; (first | exact HF.out | exact HF.out.below (by go_grown)); rintro e U ⟨rfl, hb⟩; have hbu := bel_of HG.out (by first | exact Below.refl _ _ | go_grown) hb; replace HG := hid (HG.out.nx hbu); replace HK := hid (HK.out.nx hbu); replace HB := hid (belNx HB.out hbu); replace HO1 := hid (HO1.out.below hbu); replace HF := hid (HF.out.below hbu); clear hbu hb; clear x0 x1 x2 x3 x4 x5; obtain ⟨x0, x1, x2, x3, x4, x5⟩ := HO1.out.cells)
    go_ret
    exact ⟨rfl, HB.out⟩
  have HS := hid (decide_eq_true hs)
  have HSZ := hid hs
  clear hs
  cases hv : validB f
  · have HVB := hid hv
    clear hv
    go_wp2_with (first | (go_at_call 10; (with_reducible refine (small_lit (f := f) 420 420 rfl ?_ true ?_ ?_).mono ?_); decide; exact HS.out; (first | exact HF.out | exact HF.out.below (by go_grown)); rintro e U ⟨rfl, hb⟩; have hbu := bel_of HG.out (by first | exact Below.refl _ _ | go_grown) hb; replace HG := hid (HG.out.nx hbu); replace HK := hid (HK.out.nx hbu); replace HB := hid (belNx HB.out hbu); replace HO1 := hid (HO1.out.below hbu); replace HF := hid (HF.out.below hbu); clear hbu hb; clear x0 x1 x2 x3 x4 x5; obtain ⟨x0, x1, x2, x3, x4, x5⟩ := HO1.out.cells) | (go_at_call 11; (with_reducible refine (rvalid_lit (f := f) false ?_ ?_).mono ?_); exact HVB.out; (first | exact HF.out | exact HF.out.below (by go_grown)); rintro e U ⟨rfl, hb⟩; have hbu := bel_of HG.out (by first | exact Below.refl _ _ | go_grown) hb; replace HG := hid (HG.out.nx hbu); replace HK := hid (HK.out.nx hbu); replace HB := hid (belNx HB.out hbu); replace HO1 := hid (HO1.out.below hbu); replace HF := hid (HF.out.below hbu); clear hbu hb; clear x0 x1 x2 x3 x4 x5; obtain ⟨x0, x1, x2, x3, x4, x5⟩ := HO1.out.cells))
    go_ret
    exact ⟨rfl, HB.out⟩
  cases hl : layB f
  · have HVB := hid hv
    have HLB := hid hl
    clear hv hl
    go_wp2_with (first | (go_at_call 10; (with_reducible refine (small_lit (f := f) 420 420 rfl ?_ true ?_ ?_).mono ?_); decide; exact HS.out; (first | exact HF.out | exact HF.out.below (by go_grown)); rintro e U ⟨rfl, hb⟩; have hbu := bel_of HG.out (by first | exact Below.refl _ _ | go_grown) hb; replace HG := hid (HG.out.nx hbu); replace HK := hid (HK.out.nx hbu); replace HB := hid (belNx HB.out hbu); replace HO1 := hid (HO1.out.below hbu); replace HF := hid (HF.out.below hbu); clear hbu hb; clear x0 x1 x2 x3 x4 x5; obtain ⟨x0, x1, x2, x3, x4, x5⟩ := HO1.out.cells) | (go_at_call 11; (with_reducible refine (rvalid_lit (f := f) true ?_ ?_).mono ?_); exact HVB.out; (first | exact HF.out | exact HF.out.below (by go_grown)); rintro e U ⟨rfl, hb⟩; have hbu := bel_of HG.out (by first | exact Below.refl _ _ | go_grown) hb; replace HG := hid (HG.out.nx hbu); replace HK := hid (HK.out.nx hbu); replace HB := hid (belNx HB.out hbu); replace HO1 := hid (HO1.out.below hbu); replace HF := hid (HF.out.below hbu); clear hbu hb; clear x0 x1 x2 x3 x4 x5; obtain ⟨x0, x1, x2, x3, x4, x5⟩ := HO1.out.cells) | (go_at_call 12; (with_reducible refine (rlay_lit (f := f) false ?_ ?_).mono ?_); exact HLB.out; (first | exact HF.out | exact HF.out.below (by go_grown)); rintro e U ⟨rfl, hb⟩; have hbu := bel_of HG.out (by first | exact Below.refl _ _ | go_grown) hb; replace HG := hid (HG.out.nx hbu); replace HK := hid (HK.out.nx hbu); replace HB := hid (belNx HB.out hbu); replace HO1 := hid (HO1.out.below hbu); replace HF := hid (HF.out.below hbu); clear hbu hb; clear x0 x1 x2 x3 x4 x5; obtain ⟨x0, x1, x2, x3, x4, x5⟩ := HO1.out.cells))
    go_ret
    exact ⟨rfl, HB.out⟩
  have HLAW := hid (kern_law hv hl)
  have HVB := hid hv
  have HLB := hid hl
  clear hv hl
  go_upto_region 4 with (first | (go_at_call 10; (with_reducible refine (small_lit (f := f) 420 420 rfl ?_ true ?_ ?_).mono ?_); decide; exact HS.out; (first | exact HF.out | exact HF.out.below (by go_grown)); rintro e U ⟨rfl, hb⟩; have hbu := bel_of HG.out (by first | exact Below.refl _ _ | go_grown) hb; replace HG := hid (HG.out.nx hbu); replace HK := hid (HK.out.nx hbu); replace HB := hid (belNx HB.out hbu); replace HO1 := hid (HO1.out.below hbu); replace HF := hid (HF.out.below hbu); clear hbu hb; clear x0 x1 x2 x3 x4 x5; obtain ⟨x0, x1, x2, x3, x4, x5⟩ := HO1.out.cells) | (go_at_call 11; (with_reducible refine (rvalid_lit (f := f) true ?_ ?_).mono ?_); exact HVB.out; (first | exact HF.out | exact HF.out.below (by go_grown)); rintro e U ⟨rfl, hb⟩; have hbu := bel_of HG.out (by first | exact Below.refl _ _ | go_grown) hb; replace HG := hid (HG.out.nx hbu); replace HK := hid (HK.out.nx hbu); replace HB := hid (belNx HB.out hbu); replace HO1 := hid (HO1.out.below hbu); replace HF := hid (HF.out.below hbu); clear hbu hb; clear x0 x1 x2 x3 x4 x5; obtain ⟨x0, x1, x2, x3, x4, x5⟩ := HO1.out.cells) | (go_at_call 12; (with_reducible refine (rlay_lit (f := f) true ?_ ?_).mono ?_); exact HLB.out; (first | exact HF.out | exact HF.out.below (by go_grown)); rintro e U ⟨rfl, hb⟩; have hbu := bel_of HG.out (by first | exact Below.refl _ _ | go_grown) hb; replace HG := hid (HG.out.nx hbu); replace HK := hid (HK.out.nx hbu); replace HB := hid (belNx HB.out hbu); replace HO1 := hid (HO1.out.below hbu); replace HF := hid (HF.out.below hbu); clear hbu hb; clear x0 x1 x2 x3 x4 x5; obtain ⟨x0, x1, x2, x3, x4, x5⟩ := HO1.out.cells))
  clear x0 x1 x2 x3 x4 x5
  rename World => W
  have HKS := hid (kernZ_size f)
  rcases HLAW.out with ⟨k, hk1, hk2, hk3, hk4, hk5⟩ | ⟨hk1, hk2⟩
  · have HK1 := hid hk1
    have HK2 := hid hk2
    have HK3 := hid hk3
    have HK5 := hid hk5
    rw [hk1] at HKS
    obtain ⟨L, hL⟩ : ∃ L, namesF f = L := ⟨_, rfl⟩
    have HL1 := hid hL
    have HL2 := hid (show namesF k = L by rw [← hk4]; exact hL)
    have HDF := hid (show f.depth ≤ 5000 by have := depth_size f; have := HSZ.out; omega)
    have HDK := hid (show k.depth ≤ 5000 by
      have h := hk3
      unfold kernelB at h
      rw [Bool.and_eq_true, fits_true] at h
      omega)
    have HSK := hid (show k.size ≤ 1000000 from HKS.out)
    clear hk1 hk2 hk3 hk4 hk5 hL HLAW
    obtain ⟨x0, x1, x2, x3, x4, x5⟩ := HO1.out.cells
    go_upto_region 5 with (go_at_call 13; (with_reducible refine (kernel_litc (f := f) (k) 0 ?_ ?_ ?_ ?_).mono ?_); exact HK1.out; (first | exact HF.out | exact HF.out.below (by go_grown)); (first | exact HG.out | exact HG.out.nx (by go_grown)); (first | exact HK.out | exact HK.out.nx (by go_grown)); rintro e U ⟨A4, c4, rfl, hv, hb⟩; have hbu := bel_of HG.out (by first | exact Below.refl _ _ | go_grown) hb; replace HG := hid (HG.out.nx hbu); replace HK := hid (HK.out.nx hbu); replace HB := hid (belNx HB.out hbu); replace HO1 := hid (HO1.out.below hbu); replace HF := hid (HF.out.below hbu); clear hbu hb; have HV4 := hid hv; clear hv; clear x0 x1 x2 x3 x4 x5; obtain ⟨x0, x1, x2, x3, x4, x5⟩ := HO1.out.cells)
    clear x0 x1 x2 x3 x4 x5
    refine wp_gen fun W hW => ?_
    obtain ⟨b4, hbn⟩ : ∃ b4, b4 = U.heap.size := ⟨_, rfl⟩
    rw [← hbn]
    have hb : Below U.heap.size U W := by rw [hW]; go_grown
    have HO4 := hid (show OB W b4 k.op k.name k.val k.bound A4 k.args.length c4 by rw [hW]; exact at_new _ _ _ hbn)
    have hbu := hb
    replace HG := hid (HG.out.nx hbu)
    replace HK := hid (HK.out.nx hbu)
    replace HB := hid (belNx HB.out hbu)
    replace HO1 := hid (HO1.out.below hbu)
    replace HF := hid (HF.out.below hbu)
    replace HV4 := hid (HV4.out.below hbu)
    clear hW hbn hb hbu
    rename World => W
    go_upto_region 7 with (fail)
    obtain ⟨x0, x1, x2, x3, x4, x5⟩ := HO4.out.cells
    go_upto_region 8 with (go_at_call 13; (with_reducible refine (kernel_litc (f := k) (k) 0 ?_ ?_ ?_ ?_).mono ?_); exact HK2.out; (first | exact HV4.out.vf | exact (HV4.out.below (by go_grown)).vf); (first | exact HG.out | exact HG.out.nx (by go_grown)); (first | exact HK.out | exact HK.out.nx (by go_grown)); rintro e U ⟨A6, c6, rfl, hv, hb⟩; have hbu := bel_of HG.out (by first | exact Below.refl _ _ | go_grown) hb; replace HG := hid (HG.out.nx hbu); replace HK := hid (HK.out.nx hbu); replace HB := hid (belNx HB.out hbu); replace HO1 := hid (HO1.out.below hbu); replace HF := hid (HF.out.below hbu); replace HV4 := hid (HV4.out.below hbu); replace HO4 := hid (HO4.out.below hbu); clear hbu hb; have HV6 := hid hv; clear hv; clear x0 x1 x2 x3 x4 x5; obtain ⟨x0, x1, x2, x3, x4, x5⟩ := HO4.out.cells)
    clear x0 x1 x2 x3 x4 x5
    refine wp_gen fun W hW => ?_
    obtain ⟨b6, hbn⟩ : ∃ b6, b6 = U.heap.size := ⟨_, rfl⟩
    rw [← hbn]
    have hb : Below U.heap.size U W := by rw [hW]; go_grown
    have HO6 := hid (show OB W b6 k.op k.name k.val k.bound A6 k.args.length c6 by rw [hW]; exact at_new _ _ _ hbn)
    have hbu := hb
    replace HG := hid (HG.out.nx hbu)
    replace HK := hid (HK.out.nx hbu)
    replace HB := hid (belNx HB.out hbu)
    replace HO1 := hid (HO1.out.below hbu)
    replace HF := hid (HF.out.below hbu)
    replace HV4 := hid (HV4.out.below hbu)
    replace HO4 := hid (HO4.out.below hbu)
    replace HV6 := hid (HV6.out.below hbu)
    clear hW hbn hb hbu
    rename World => W
    obtain ⟨x0, x1, x2, x3, x4, x5⟩ := HO4.out.cells
    obtain ⟨y0, y1, y2, y3, y4, y5⟩ := HO6.out.cells
    go_upto_region 10 with (first | (go_at_call 14; (with_reducible refine (iskernel_lit (f := k) true ?_ ?_ ?_ ?_).mono ?_); exact HK3.out; (first | exact HV4.out.vf | exact (HV4.out.below (by go_grown)).vf); (first | exact HG.out | exact HG.out.nx (by go_grown)); (first | exact HK.out | exact HK.out.nx (by go_grown)); rintro e U ⟨rfl, hb⟩; have hbu := bel_of HG.out (by first | exact Below.refl _ _ | go_grown) hb; replace HG := hid (HG.out.nx hbu); replace HK := hid (HK.out.nx hbu); replace HB := hid (belNx HB.out hbu); replace HO1 := hid (HO1.out.below hbu); replace HF := hid (HF.out.below hbu); replace HV4 := hid (HV4.out.below hbu); replace HO4 := hid (HO4.out.below hbu); replace HV6 := hid (HV6.out.below hbu); replace HO6 := hid (HO6.out.below hbu); clear hbu hb; clear x0 x1 x2 x3 x4 x5 y0 y1 y2 y3 y4 y5; obtain ⟨x0, x1, x2, x3, x4, x5⟩ := HO4.out.cells; obtain ⟨y0, y1, y2, y3, y4, y5⟩ := HO6.out.cells) | (go_at_call 15; (with_reducible refine (comparec_lit (f := k) (f2 := k) 0 ?_ ?_ ?_ ?_).mono ?_); exact cmp_self k; exact HSK.out; (first | exact HV4.out | exact HV4.out.below (by go_grown)); (first | exact HV6.out.vf | exact (HV6.out.below (by go_grown)).vf); rintro e U ⟨rfl, hb⟩; have hbu := bel_of HG.out (by first | exact Below.refl _ _ | go_grown) hb; replace HG := hid (HG.out.nx hbu); replace HK := hid (HK.out.nx hbu); replace HB := hid (belNx HB.out hbu); replace HO1 := hid (HO1.out.below hbu); replace HF := hid (HF.out.below hbu); replace HV4 := hid (HV4.out.below hbu); replace HO4 := hid (HO4.out.below hbu); replace HV6 := hid (HV6.out.below hbu); replace HO6 := hid (HO6.out.below hbu); clear hbu hb; clear x0 x1 x2 x3 x4 x5 y0 y1 y2 y3 y4 y5; obtain ⟨x0, x1, x2, x3, x4, x5⟩ := HO4.out.cells; obtain ⟨y0, y1, y2, y3, y4, y5⟩ := HO6.out.cells))
    clear x0 x1 x2 x3 x4 x5 y0 y1 y2 y3 y4 y5
    rename World => W
    rename_i K hK
    refine wp_tail K (2 :: List.range' 58 19) (fun us W' => us 2 = .bool true ∧ Below W.heap.size W W') ?_ ?_
    rotate_left
    · intro HTAIL
      have HTL := hid HTAIL
      clear HTAIL hK
      have HW := hid (Below.refl W.heap.size W)
      cases hi : kernelB f
      · have HKI := hid hi
        clear hi
        obtain ⟨x0, x1, x2, x3, x4, x5⟩ := HO1.out.cells
        obtain ⟨y0, y1, y2, y3, y4, y5⟩ := HO4.out.cells
        go_region_law (first | (go_simp; go_at_call 17; (with_reducible refine (names_lit (f := f) L HL1.out (m := L.length) rfl ?_ ?_ ?_ ?_).mono ?_); exact HDF.out; (have := HSZ.out; omega); (first | exact HF.out | exact HF.out.below (by go_grown)); (first | exact HG.out | exact HG.out.nx (by go_grown)); rintro e U ⟨Af, cf, rfl, hv, hb⟩; have hbu := bel_of HG.out (by first | exact Below.refl _ _ | go_grown) hb; replace HG := hid (HG.out.nx hbu); replace HK := hid (HK.out.nx hbu); replace HB := hid (belNx HB.out hbu); replace HO1 := hid (HO1.out.below hbu); replace HF := hid (HF.out.below hbu); replace HV4 := hid (HV4.out.below hbu); replace HO4 := hid (HO4.out.below hbu); replace HV6 := hid (HV6.out.below hbu); replace HO6 := hid (HO6.out.below hbu); replace HW := hid (belNx HW.out hbu); (try (replace HNF := hid (HNF.out.below hbu))); (try (replace HNK := hid (HNK.out.below hbu))); clear hbu hb; have HNF := hid hv; clear hv; clear x0 x1 x2 x3 x4 x5 y0 y1 y2 y3 y4 y5; obtain ⟨x0, x1, x2, x3, x4, x5⟩ := HO1.out.cells; obtain ⟨y0, y1, y2, y3, y4, y5⟩ := HO4.out.cells) | (go_simp; go_at_call 17; (with_reducible refine (names_lit (f := k) L HL2.out (m := L.length) rfl ?_ ?_ ?_ ?_).mono ?_); exact HDK.out; exact HSK.out; (first | exact HV4.out.vf | exact (HV4.out.below (by go_grown)).vf); (first | exact HG.out | exact HG.out.nx (by go_grown)); rintro e U ⟨Ak, ck, rfl, hv, hb⟩; have hbu := bel_of HG.out (by first | exact Below.refl _ _ | go_grown) hb; replace HG := hid (HG.out.nx hbu); replace HK := hid (HK.out.nx hbu); replace HB := hid (belNx HB.out hbu); replace HO1 := hid (HO1.out.below hbu); replace HF := hid (HF.out.below hbu); replace HV4 := hid (HV4.out.below hbu); replace HO4 := hid (HO4.out.below hbu); replace HV6 := hid (HV6.out.below hbu); replace HO6 := hid (HO6.out.below hbu); replace HW := hid (belNx HW.out hbu); (try (replace HNF := hid (HNF.out.below hbu))); (try (replace HNK := hid (HNK.out.below hbu))); clear hbu hb; have HNK := hid hv; clear hv; clear x0 x1 x2 x3 x4 x5 y0 y1 y2 y3 y4 y5; obtain ⟨x0, x1, x2, x3, x4, x5⟩ := HO1.out.cells; obtain ⟨y0, y1, y2, y3, y4, y5⟩ := HO4.out.cells) | (go_simp; go_at_call 16; (with_reducible refine (strings_lit (D := AnyD) (E := AnyD) (L := L) rfl ?_ ?_).mono ?_); (first | exact HNF.out | exact HNF.out.below (by go_grown)); (first | exact HNK.out | exact HNK.out.below (by go_grown)); rintro e U ⟨rfl, hb⟩; have hbu := bel_of HG.out (by first | exact Below.refl _ _ | go_grown) hb; replace HG := hid (HG.out.nx hbu); replace HK := hid (HK.out.nx hbu); replace HB := hid (belNx HB.out hbu); replace HO1 := hid (HO1.out.below hbu); replace HF := hid (HF.out.below hbu); replace HV4 := hid (HV4.out.below hbu); replace HO4 := hid (HO4.out.below hbu); replace HV6 := hid (HV6.out.below hbu); replace HO6 := hid (HO6.out.below hbu); replace HW := hid (belNx HW.out hbu); (try (replace HNF := hid (HNF.out.below hbu))); (try (replace HNK := hid (HNK.out.below hbu))); clear hbu hb; clear x0 x1 x2 x3 x4 x5 y0 y1 y2 y3 y4 y5; obtain ⟨x0, x1, x2, x3, x4, x5⟩ := HO1.out.cells; obtain ⟨y0, y1, y2, y3, y4, y5⟩ := HO4.out.cells) | (go_simp; go_at_call 14; (with_reducible refine (iskernel_lit (f := f) false ?_ ?_ ?_ ?_).mono ?_); exact HKI.out; (first | exact HF.out | exact HF.out.below (by go_grown)); (first | exact HG.out | exact HG.out.nx (by go_grown)); (first | exact HK.out | exact HK.out.nx (by go_grown)); rintro e U ⟨rfl, hb⟩; have hbu := bel_of HG.out (by first | exact Below.refl _ _ | go_grown) hb; replace HG := hid (HG.out.nx hbu); replace HK := hid (HK.out.nx hbu); replace HB := hid (belNx HB.out hbu); replace HO1 := hid (HO1.out.below hbu); replace HF := hid (HF.out.below hbu); replace HV4 := hid (HV4.out.below hbu); replace HO4 := hid (HO4.out.below hbu); replace HV6 := hid (HV6.out.below hbu); replace HO6 := hid (HO6.out.below hbu); replace HW := hid (belNx HW.out hbu); (try (replace HNF := hid (HNF.out.below hbu))); (try (replace HNK := hid (HNK.out.below hbu))); clear hbu hb; clear x0 x1 x2 x3 x4 x5 y0 y1 y2 y3 y4 y5; obtain ⟨x0, x1, x2, x3, x4, x5⟩ := HO1.out.cells; obtain ⟨y0, y1, y2, y3, y4, y5⟩ := HO4.out.cells))
        all_goals
          refine tail_close HTL.out ?_ ?_
          · first
              | exact ⟨rfl, (by first | exact HW.out | exact (Drawn.n _ _).below _ | exact belNx HW.out (by go_grown))⟩
          · kernel_rfl
      · have HKI := hid hi
        have HEQ := hid (show f.cmp k = 0 by rw [HK5.out hi]; exact cmp_self f)
        clear hi
        obtain ⟨x0, x1, x2, x3, x4, x5⟩ := HO1.out.cells
        obtain ⟨y0, y1, y2, y3, y4, y5⟩ := HO4.out.cells
        go_region_held3 (fun W' : World => W'.cell? ⟨b1, 0, none⟩ = some (.int .i64 (f.op)) ∧ W'.cell? ⟨b1, 1, none⟩ = some (.string f.name) ∧ W'.cell? ⟨b1, 2, none⟩ = some (.int .i64 (f.val)) ∧ W'.cell? ⟨b1, 3, none⟩ = some (.int .i64 (f.bound)) ∧ W'.cell? ⟨b1, 4, none⟩ = some (.slice A f.args.length c) ∧ W'.cell? ⟨b4, 0, none⟩ = some (.int .i64 (k.op)) ∧ W'.cell? ⟨b4, 1, none⟩ = some (.string k.name) ∧ W'.cell? ⟨b4, 2, none⟩ = some (.int .i64 (k.val)) ∧ W'.cell? ⟨b4, 3, none⟩ = some (.int .i64 (k.bound)) ∧ W'.cell? ⟨b4, 4, none⟩ = some (.slice A4 k.args.length c4))
          (first | (with_reducible exact ⟨(HO1.out).cells.1, (HO1.out).cells.2.1, (HO1.out).cells.2.2.1, (HO1.out).cells.2.2.2.1, (HO1.out).cells.2.2.2.2.1, (HO4.out).cells.1, (HO4.out).cells.2.1, (HO4.out).cells.2.2.1, (HO4.out).cells.2.2.2.1, (HO4.out).cells.2.2.2.2.1⟩) | (with_reducible exact ⟨(HO1.out.alloc _).cells.1, (HO1.out.alloc _).cells.2.1, (HO1.out.alloc _).cells.2.2.1, (HO1.out.alloc _).cells.2.2.2.1, (HO1.out.alloc _).cells.2.2.2.2.1, (HO4.out.alloc _).cells.1, (HO4.out.alloc _).cells.2.1, (HO4.out.alloc _).cells.2.2.1, (HO4.out.alloc _).cells.2.2.2.1, (HO4.out.alloc _).cells.2.2.2.2.1⟩) | (with_reducible exact ⟨((HO1.out.alloc _).alloc _).cells.1, ((HO1.out.alloc _).alloc _).cells.2.1, ((HO1.out.alloc _).alloc _).cells.2.2.1, ((HO1.out.alloc _).alloc _).cells.2.2.2.1, ((HO1.out.alloc _).alloc _).cells.2.2.2.2.1, ((HO4.out.alloc _).alloc _).cells.1, ((HO4.out.alloc _).alloc _).cells.2.1, ((HO4.out.alloc _).alloc _).cells.2.2.1, ((HO4.out.alloc _).alloc _).cells.2.2.2.1, ((HO4.out.alloc _).alloc _).cells.2.2.2.2.1⟩) | (go_keep; done))
          (first | (go_at_call 17; (with_reducible refine (names_lit (f := f) L HL1.out (m := L.length) rfl ?_ ?_ ?_ ?_).mono ?_); exact HDF.out; (have := HSZ.out; omega); (first | exact HF.out | exact HF.out.below (by go_grown)); (first | exact HG.out | exact HG.out.nx (by go_grown)); rintro e U ⟨Af, cf, rfl, hv, hb⟩; have hbu := bel_of HG.out (by first | exact Below.refl _ _ | go_grown) hb; replace HG := hid (HG.out.nx hbu); replace HK := hid (HK.out.nx hbu); replace HB := hid (belNx HB.out hbu); replace HO1 := hid (HO1.out.below hbu); replace HF := hid (HF.out.below hbu); replace HV4 := hid (HV4.out.below hbu); replace HO4 := hid (HO4.out.below hbu); replace HV6 := hid (HV6.out.below hbu); replace HO6 := hid (HO6.out.below hbu); replace HW := hid (belNx HW.out hbu); (try (replace HNF := hid (HNF.out.below hbu))); (try (replace HNK := hid (HNK.out.below hbu))); clear hbu hb; have HNF := hid hv; clear hv) | (go_at_call 17; (with_reducible refine (names_lit (f := k) L HL2.out (m := L.length) rfl ?_ ?_ ?_ ?_).mono ?_); exact HDK.out; exact HSK.out; (first | exact HV4.out.vf | exact (HV4.out.below (by go_grown)).vf); (first | exact HG.out | exact HG.out.nx (by go_grown)); rintro e U ⟨Ak, ck, rfl, hv, hb⟩; have hbu := bel_of HG.out (by first | exact Below.refl _ _ | go_grown) hb; replace HG := hid (HG.out.nx hbu); replace HK := hid (HK.out.nx hbu); replace HB := hid (belNx HB.out hbu); replace HO1 := hid (HO1.out.below hbu); replace HF := hid (HF.out.below hbu); replace HV4 := hid (HV4.out.below hbu); replace HO4 := hid (HO4.out.below hbu); replace HV6 := hid (HV6.out.below hbu); replace HO6 := hid (HO6.out.below hbu); replace HW := hid (belNx HW.out hbu); (try (replace HNF := hid (HNF.out.below hbu))); (try (replace HNK := hid (HNK.out.below hbu))); clear hbu hb; have HNK := hid hv; clear hv) | (go_at_call 16; (with_reducible refine (strings_lit (D := AnyD) (E := AnyD) (L := L) rfl ?_ ?_).mono ?_); (first | exact HNF.out | exact HNF.out.below (by go_grown)); (first | exact HNK.out | exact HNK.out.below (by go_grown)); rintro e U ⟨rfl, hb⟩; have hbu := bel_of HG.out (by first | exact Below.refl _ _ | go_grown) hb; replace HG := hid (HG.out.nx hbu); replace HK := hid (HK.out.nx hbu); replace HB := hid (belNx HB.out hbu); replace HO1 := hid (HO1.out.below hbu); replace HF := hid (HF.out.below hbu); replace HV4 := hid (HV4.out.below hbu); replace HO4 := hid (HO4.out.below hbu); replace HV6 := hid (HV6.out.below hbu); replace HO6 := hid (HO6.out.below hbu); replace HW := hid (belNx HW.out hbu); (try (replace HNF := hid (HNF.out.below hbu))); (try (replace HNK := hid (HNK.out.below hbu))); clear hbu hb) | (go_at_call 14; (with_reducible refine (iskernel_lit (f := f) true ?_ ?_ ?_ ?_).mono ?_); exact HKI.out; (first | exact HF.out | exact HF.out.below (by go_grown)); (first | exact HG.out | exact HG.out.nx (by go_grown)); (first | exact HK.out | exact HK.out.nx (by go_grown)); rintro e U ⟨rfl, hb⟩; have hbu := bel_of HG.out (by first | exact Below.refl _ _ | go_grown) hb; replace HG := hid (HG.out.nx hbu); replace HK := hid (HK.out.nx hbu); replace HB := hid (belNx HB.out hbu); replace HO1 := hid (HO1.out.below hbu); replace HF := hid (HF.out.below hbu); replace HV4 := hid (HV4.out.below hbu); replace HO4 := hid (HO4.out.below hbu); replace HV6 := hid (HV6.out.below hbu); replace HO6 := hid (HO6.out.below hbu); replace HW := hid (belNx HW.out hbu); (try (replace HNF := hid (HNF.out.below hbu))); (try (replace HNK := hid (HNK.out.below hbu))); clear hbu hb) | (go_at_call 15; (with_reducible refine (comparec2_lit (f := f) (f2 := k) 0 ?_ ?_ ?_ ?_).mono ?_); exact HEQ.out; (have := HSZ.out; omega); (first | exact HF.out | exact HF.out.below (by go_grown)); (first | exact HV4.out | exact HV4.out.below (by go_grown)); rintro e U ⟨rfl, hb⟩; have hbu := bel_of HG.out (by first | exact Below.refl _ _ | go_grown) hb; replace HG := hid (HG.out.nx hbu); replace HK := hid (HK.out.nx hbu); replace HB := hid (belNx HB.out hbu); replace HO1 := hid (HO1.out.below hbu); replace HF := hid (HF.out.below hbu); replace HV4 := hid (HV4.out.below hbu); replace HO4 := hid (HO4.out.below hbu); replace HV6 := hid (HV6.out.below hbu); replace HO6 := hid (HO6.out.below hbu); replace HW := hid (belNx HW.out hbu); (try (replace HNF := hid (HNF.out.below hbu))); (try (replace HNK := hid (HNK.out.below hbu))); clear hbu hb))
        all_goals
          refine tail_close HTL.out ?_ ?_
          · first
              | exact ⟨rfl, (by first | exact HW.out | exact (Drawn.n _ _).below _ | exact belNx HW.out (by go_grown))⟩
          · kernel_rfl
    rintro us W1 ⟨hu, hbu⟩
    apply hK
    simp only [putAll, List.range', List.range'_succ, Act.put, List.setIfInBounds_toArray, List.set_cons_zero, List.set_cons_succ, Nat.reduceAdd]
    rw [hu]
    replace HG := hid (HG.out.nx hbu)
    replace HK := hid (HK.out.nx hbu)
    replace HB := hid (belNx HB.out hbu)
    replace HO1 := hid (HO1.out.below hbu)
    replace HF := hid (HF.out.below hbu)
    replace HV4 := hid (HV4.out.below hbu)
    replace HO4 := hid (HO4.out.below hbu)
    replace HV6 := hid (HV6.out.below hbu)
    replace HO6 := hid (HO6.out.below hbu)
    clear hK hu hbu
    rename World => W
    go_wp2_with fail
    go_ret
    exact ⟨rfl, HB.out⟩
  · have HK1 := hid hk1
    have HK2 := hid hk2
    clear hk1 hk2 HLAW
    obtain ⟨x0, x1, x2, x3, x4, x5⟩ := HO1.out.cells
    go_upto_region 5 with (go_at_call 13; (with_reducible refine (kernel_litc (f := f) (zeroF) 2 ?_ ?_ ?_ ?_).mono ?_); exact HK1.out; (first | exact HF.out | exact HF.out.below (by go_grown)); (first | exact HG.out | exact HG.out.nx (by go_grown)); (first | exact HK.out | exact HK.out.nx (by go_grown)); rintro e U ⟨A4, c4, rfl, hv, hb⟩; have hbu := bel_of HG.out (by first | exact Below.refl _ _ | go_grown) hb; replace HG := hid (HG.out.nx hbu); replace HK := hid (HK.out.nx hbu); replace HB := hid (belNx HB.out hbu); replace HO1 := hid (HO1.out.below hbu); replace HF := hid (HF.out.below hbu); clear hbu hb; have HV4 := hid hv; clear hv; clear x0 x1 x2 x3 x4 x5; obtain ⟨x0, x1, x2, x3, x4, x5⟩ := HO1.out.cells)
    clear x0 x1 x2 x3 x4 x5
    refine wp_gen fun W hW => ?_
    obtain ⟨b4, hbn⟩ : ∃ b4, b4 = U.heap.size := ⟨_, rfl⟩
    rw [← hbn]
    have hb : Below U.heap.size U W := by rw [hW]; go_grown
    have HO4 := hid (show OB W b4 zeroF.op zeroF.name zeroF.val zeroF.bound A4 zeroF.args.length c4 by rw [hW]; exact at_new _ _ _ hbn)
    have hbu := hb
    replace HG := hid (HG.out.nx hbu)
    replace HK := hid (HK.out.nx hbu)
    replace HB := hid (belNx HB.out hbu)
    replace HO1 := hid (HO1.out.below hbu)
    replace HF := hid (HF.out.below hbu)
    replace HV4 := hid (HV4.out.below hbu)
    clear hW hbn hb hbu
    rename World => W
    obtain ⟨x0, x1, x2, x3, x4, x5⟩ := HO1.out.cells
    go_wp2_with (go_at_call 14; (with_reducible refine (iskernel_lit (f := f) false ?_ ?_ ?_ ?_).mono ?_); exact HK2.out; (first | exact HF.out | exact HF.out.below (by go_grown)); (first | exact HG.out | exact HG.out.nx (by go_grown)); (first | exact HK.out | exact HK.out.nx (by go_grown)); rintro e U ⟨rfl, hb⟩; have hbu := bel_of HG.out (by first | exact Below.refl _ _ | go_grown) hb; replace HG := hid (HG.out.nx hbu); replace HK := hid (HK.out.nx hbu); replace HB := hid (belNx HB.out hbu); replace HO1 := hid (HO1.out.below hbu); replace HF := hid (HF.out.below hbu); replace HV4 := hid (HV4.out.below hbu); replace HO4 := hid (HO4.out.below hbu); clear hbu hb; clear x0 x1 x2 x3 x4 x5; obtain ⟨x0, x1, x2, x3, x4, x5⟩ := HO1.out.cells)
    go_ret
    exact ⟨rfl, HB.out⟩
end Go.Proofs.YthdidjmmhhchmaaGreatDoor
