/-
  Walk of FormulaLattice.
-/
import Derived.Test.YtahgbgniaiccbaaGreatDoorZKS5
import Derived.Test.YtahgbgniaiccbaaGreatDoorZKS6
set_option linter.unusedVariables false
set_option linter.unusedSimpArgs false
namespace Go.Proofs.YtahgbgniaiccbaaGreatDoor
open Go.RowKit Go.Shelf
attribute [local go_sem] cell_alloc_old

attribute [local go_sem] field_op
set_option maxRecDepth 100000 in
set_option maxHeartbeats 16000000 in
theorem lattice_any {D E F : Dom} (f g h : Fm) (v v2 v3 : Value) (w : World) (h1 : RdF3 w D v f) (h2 : RdF3 w E v2 g) (h3 : RdF3 w F v3 h) (hg : GF w) (hk : GK w) :
    Calls Tryz.prog 3 #[v, v2, v3] w fun e w' => e = .returned (.bool true) ∧ Below w.heap.size w w' := by
  obtain ⟨A, c, rfl, ha⟩ := h1
  obtain ⟨A2, c2, rfl, ha2⟩ := h2
  obtain ⟨A3, c3, rfl, ha3⟩ := h3
  have HA := hid (VF.of ha)
  have HA2 := hid (VF.of ha2)
  have HA3 := hid (VF.of ha3)
  have HG0 := hid hg
  have HK0 := hid hk
  clear ha ha2 ha3 hg hk
  go_enter Tryz.func3, Tryz.ntmps3
  go_upto_region 1 with (fail)
  refine wp_gen fun W hW => ?_
  have HB := hid (show Below w.heap.size w W by rw [hW]; go_grown)
  have HO1 := hid (show OB W w.heap.size f.op f.name f.val f.bound A f.args.length c by
    show W.heap[_]? = _
    rw [hW, at_old _ _ _ (by simp; omega), at_old _ _ _ (by simp)]; exact at_new _ _ _ rfl)
  have HO2 := hid (show OB W (w.heap.size + 1) g.op g.name g.val g.bound A2 g.args.length c2 by
    show W.heap[_]? = _
    rw [hW, at_old _ _ _ (by simp)]; exact at_new _ _ _ (by simp))
  have HO3 := hid (show OB W (w.heap.size + 2) h.op h.name h.val h.bound A3 h.args.length c3 by rw [hW]; exact at_new _ _ _ (by simp))
  have HF := hid (HA.out.below HB.out)
  have HH := hid (HA2.out.below HB.out)
  have HI := hid (HA3.out.below HB.out)
  have HG := hid (HG0.out.nx HB.out)
  have HK := hid (HK0.out.nx HB.out)
  clear hW HA HA2 HA3 HG0 HK0
  obtain ⟨b1, hb1⟩ : ∃ b1, b1 = w.heap.size := ⟨_, rfl⟩
  obtain ⟨b2, hb2⟩ : ∃ b2, b2 = w.heap.size + 1 := ⟨_, rfl⟩
  obtain ⟨b3, hb3⟩ : ∃ b3, b3 = w.heap.size + 2 := ⟨_, rfl⟩
  rw [← hb3] at HO3 ⊢
  rw [← hb2] at HO2 ⊢
  rw [← hb1] at HO1 ⊢
  clear hb1 hb2 hb3
  go_upto_region 2 with (go_at_call 4; (with_reducible refine (head_any _ ?_ ?_).mono ?_); (first | exact HG.out | exact HG.out.nx (by go_grown)); (first | exact HK.out | exact HK.out.nx (by go_grown)); rintro e U ⟨rfl, hb⟩; have hbu := bel_of HG.out (by first | exact Below.refl _ _ | go_grown) hb; replace HG := hid (HG.out.nx hbu); replace HK := hid (HK.out.nx hbu); replace HB := hid (belNx HB.out hbu); replace HO1 := hid (HO1.out.below hbu); replace HO2 := hid (HO2.out.below hbu); replace HO3 := hid (HO3.out.below hbu); replace HF := hid (HF.out.below hbu); replace HH := hid (HH.out.below hbu); replace HI := hid (HI.out.below hbu); clear hbu hb)
  obtain ⟨x0, x1, x2, x3, x4, x5⟩ := HO1.out.cells
  obtain ⟨y0, y1, y2, y3, y4, y5⟩ := HO2.out.cells
  obtain ⟨z0, z1, z2, z3, z4, z5⟩ := HO3.out.cells
  cases hl : lowB f
  · have HL1 := hid hl
    clear hl
    go_wp2_with (go_at_call 5; (with_reducible refine (low_lit (f := f) false ?_ ?_).mono ?_); exact HL1.out; (first | exact HF.out | exact HF.out.below (by go_grown)); rintro e U ⟨rfl, hb⟩; have hbu := bel_of HG.out (by first | exact Below.refl _ _ | go_grown) hb; replace HG := hid (HG.out.nx hbu); replace HK := hid (HK.out.nx hbu); replace HB := hid (belNx HB.out hbu); replace HO1 := hid (HO1.out.below hbu); replace HO2 := hid (HO2.out.below hbu); replace HO3 := hid (HO3.out.below hbu); replace HF := hid (HF.out.below hbu); replace HH := hid (HH.out.below hbu); replace HI := hid (HI.out.below hbu); clear hbu hb; clear x0 x1 x2 x3 x4 x5 y0 y1 y2 y3 y4 y5 z0 z1 z2 z3 z4 z5; obtain ⟨x0, x1, x2, x3, x4, x5⟩ := HO1.out.cells; obtain ⟨y0, y1, y2, y3, y4, y5⟩ := HO2.out.cells; obtain ⟨z0, z1, z2, z3, z4, z5⟩ := HO3.out.cells)
    go_ret
    exact ⟨rfl, HB.out⟩
  cases hl2 : lowB g
  · have HL1 := hid hl
    have HL2 := hid hl2
    clear hl hl2
    go_wp2_with (first | (go_at_call 5; (with_reducible refine (low_lit (f := f) true ?_ ?_).mono ?_); exact HL1.out; (first | exact HF.out | exact HF.out.below (by go_grown)); rintro e U ⟨rfl, hb⟩; have hbu := bel_of HG.out (by first | exact Below.refl _ _ | go_grown) hb; replace HG := hid (HG.out.nx hbu); replace HK := hid (HK.out.nx hbu); replace HB := hid (belNx HB.out hbu); replace HO1 := hid (HO1.out.below hbu); replace HO2 := hid (HO2.out.below hbu); replace HO3 := hid (HO3.out.below hbu); replace HF := hid (HF.out.below hbu); replace HH := hid (HH.out.below hbu); replace HI := hid (HI.out.below hbu); clear hbu hb; clear x0 x1 x2 x3 x4 x5 y0 y1 y2 y3 y4 y5 z0 z1 z2 z3 z4 z5; obtain ⟨x0, x1, x2, x3, x4, x5⟩ := HO1.out.cells; obtain ⟨y0, y1, y2, y3, y4, y5⟩ := HO2.out.cells; obtain ⟨z0, z1, z2, z3, z4, z5⟩ := HO3.out.cells) | (go_at_call 5; (with_reducible refine (low_lit (f := g) false ?_ ?_).mono ?_); exact HL2.out; (first | exact HH.out | exact HH.out.below (by go_grown)); rintro e U ⟨rfl, hb⟩; have hbu := bel_of HG.out (by first | exact Below.refl _ _ | go_grown) hb; replace HG := hid (HG.out.nx hbu); replace HK := hid (HK.out.nx hbu); replace HB := hid (belNx HB.out hbu); replace HO1 := hid (HO1.out.below hbu); replace HO2 := hid (HO2.out.below hbu); replace HO3 := hid (HO3.out.below hbu); replace HF := hid (HF.out.below hbu); replace HH := hid (HH.out.below hbu); replace HI := hid (HI.out.below hbu); clear hbu hb; clear x0 x1 x2 x3 x4 x5 y0 y1 y2 y3 y4 y5 z0 z1 z2 z3 z4 z5; obtain ⟨x0, x1, x2, x3, x4, x5⟩ := HO1.out.cells; obtain ⟨y0, y1, y2, y3, y4, y5⟩ := HO2.out.cells; obtain ⟨z0, z1, z2, z3, z4, z5⟩ := HO3.out.cells))
    go_ret
    exact ⟨rfl, HB.out⟩
  cases hl3 : lowB h
  · have HL1 := hid hl
    have HL2 := hid hl2
    have HL3 := hid hl3
    clear hl hl2 hl3
    go_wp2_with (first | (go_at_call 5; (with_reducible refine (low_lit (f := f) true ?_ ?_).mono ?_); exact HL1.out; (first | exact HF.out | exact HF.out.below (by go_grown)); rintro e U ⟨rfl, hb⟩; have hbu := bel_of HG.out (by first | exact Below.refl _ _ | go_grown) hb; replace HG := hid (HG.out.nx hbu); replace HK := hid (HK.out.nx hbu); replace HB := hid (belNx HB.out hbu); replace HO1 := hid (HO1.out.below hbu); replace HO2 := hid (HO2.out.below hbu); replace HO3 := hid (HO3.out.below hbu); replace HF := hid (HF.out.below hbu); replace HH := hid (HH.out.below hbu); replace HI := hid (HI.out.below hbu); clear hbu hb; clear x0 x1 x2 x3 x4 x5 y0 y1 y2 y3 y4 y5 z0 z1 z2 z3 z4 z5; obtain ⟨x0, x1, x2, x3, x4, x5⟩ := HO1.out.cells; obtain ⟨y0, y1, y2, y3, y4, y5⟩ := HO2.out.cells; obtain ⟨z0, z1, z2, z3, z4, z5⟩ := HO3.out.cells) | (go_at_call 5; (with_reducible refine (low_lit (f := g) true ?_ ?_).mono ?_); exact HL2.out; (first | exact HH.out | exact HH.out.below (by go_grown)); rintro e U ⟨rfl, hb⟩; have hbu := bel_of HG.out (by first | exact Below.refl _ _ | go_grown) hb; replace HG := hid (HG.out.nx hbu); replace HK := hid (HK.out.nx hbu); replace HB := hid (belNx HB.out hbu); replace HO1 := hid (HO1.out.below hbu); replace HO2 := hid (HO2.out.below hbu); replace HO3 := hid (HO3.out.below hbu); replace HF := hid (HF.out.below hbu); replace HH := hid (HH.out.below hbu); replace HI := hid (HI.out.below hbu); clear hbu hb; clear x0 x1 x2 x3 x4 x5 y0 y1 y2 y3 y4 y5 z0 z1 z2 z3 z4 z5; obtain ⟨x0, x1, x2, x3, x4, x5⟩ := HO1.out.cells; obtain ⟨y0, y1, y2, y3, y4, y5⟩ := HO2.out.cells; obtain ⟨z0, z1, z2, z3, z4, z5⟩ := HO3.out.cells) | (go_at_call 5; (with_reducible refine (low_lit (f := h) false ?_ ?_).mono ?_); exact HL3.out; (first | exact HI.out | exact HI.out.below (by go_grown)); rintro e U ⟨rfl, hb⟩; have hbu := bel_of HG.out (by first | exact Below.refl _ _ | go_grown) hb; replace HG := hid (HG.out.nx hbu); replace HK := hid (HK.out.nx hbu); replace HB := hid (belNx HB.out hbu); replace HO1 := hid (HO1.out.below hbu); replace HO2 := hid (HO2.out.below hbu); replace HO3 := hid (HO3.out.below hbu); replace HF := hid (HF.out.below hbu); replace HH := hid (HH.out.below hbu); replace HI := hid (HI.out.below hbu); clear hbu hb; clear x0 x1 x2 x3 x4 x5 y0 y1 y2 y3 y4 y5 z0 z1 z2 z3 z4 z5; obtain ⟨x0, x1, x2, x3, x4, x5⟩ := HO1.out.cells; obtain ⟨y0, y1, y2, y3, y4, y5⟩ := HO2.out.cells; obtain ⟨z0, z1, z2, z3, z4, z5⟩ := HO3.out.cells))
    go_ret
    exact ⟨rfl, HB.out⟩
  have HL1 := hid hl
  have HL2 := hid hl2
  have HL3 := hid hl3
  have HT5 := hid (latt_of (op := 5) (.inl rfl) hl hl2 hl3)
  have HT6 := hid (latt_of (op := 6) (.inr rfl) hl hl2 hl3)
  clear hl hl2 hl3
  obtain ⟨cc, hcc⟩ : ∃ q, canonicalZ f = q := ⟨_, rfl⟩
  rw [hcc] at HT5 HT6
  have HCC := hid hcc
  clear hcc
  obtain ⟨fg5, h5⟩ : ∃ q, connZ 5 [f, g] = q := ⟨_, rfl⟩
  obtain ⟨gh5, h5'⟩ : ∃ q, connZ 5 [g, h] = q := ⟨_, rfl⟩
  obtain ⟨fg6, h6⟩ : ∃ q, connZ 6 [f, g] = q := ⟨_, rfl⟩
  obtain ⟨gh6, h6'⟩ : ∃ q, connZ 6 [g, h] = q := ⟨_, rfl⟩
  rw [h5, h5'] at HT5
  rw [h6, h6'] at HT6
  clear h5 h5' h6 h6'
  obtain ⟨q5, hq5⟩ : ∃ q, connZ 5 [fg5, h] = q := ⟨_, rfl⟩
  obtain ⟨q6, hq6⟩ : ∃ q, connZ 6 [fg6, h] = q := ⟨_, rfl⟩
  have HQ5 := hid hq5
  have HQ6 := hid hq6
  have HQS5 := hid (show q5.size ≤ 1000000 by rw [← hq5]; exact Nat.le_trans (connZ_400 _ _) (by decide))
  have HQS6 := hid (show q6.size ≤ 1000000 by rw [← hq6]; exact Nat.le_trans (connZ_400 _ _) (by decide))
  have HP5 := hid (show connZ 5 [f, gh5] = q5 by rw [← hq5]; exact HT5.out.p1)
  have HP6 := hid (show connZ 6 [f, gh6] = q6 by rw [← hq6]; exact HT6.out.p1)
  have HR5 := hid (show connZ 5 [f, g, h] = q5 by rw [← hq5]; exact HT5.out.p2)
  have HR6 := hid (show connZ 6 [f, g, h] = q6 by rw [← hq6]; exact HT6.out.p2)
  clear hq5 hq6
  go_upto_region 4 with (first | (go_at_call 5; (with_reducible refine (low_lit (f := f) true ?_ ?_).mono ?_); exact HL1.out; (first | exact HF.out | exact HF.out.below (by go_grown)); rintro e U ⟨rfl, hb⟩; have hbu := bel_of HG.out (by first | exact Below.refl _ _ | go_grown) hb; replace HG := hid (HG.out.nx hbu); replace HK := hid (HK.out.nx hbu); replace HB := hid (belNx HB.out hbu); replace HO1 := hid (HO1.out.below hbu); replace HO2 := hid (HO2.out.below hbu); replace HO3 := hid (HO3.out.below hbu); replace HF := hid (HF.out.below hbu); replace HH := hid (HH.out.below hbu); replace HI := hid (HI.out.below hbu); clear hbu hb; clear x0 x1 x2 x3 x4 x5 y0 y1 y2 y3 y4 y5 z0 z1 z2 z3 z4 z5; obtain ⟨x0, x1, x2, x3, x4, x5⟩ := HO1.out.cells; obtain ⟨y0, y1, y2, y3, y4, y5⟩ := HO2.out.cells; obtain ⟨z0, z1, z2, z3, z4, z5⟩ := HO3.out.cells) | (go_at_call 5; (with_reducible refine (low_lit (f := g) true ?_ ?_).mono ?_); exact HL2.out; (first | exact HH.out | exact HH.out.below (by go_grown)); rintro e U ⟨rfl, hb⟩; have hbu := bel_of HG.out (by first | exact Below.refl _ _ | go_grown) hb; replace HG := hid (HG.out.nx hbu); replace HK := hid (HK.out.nx hbu); replace HB := hid (belNx HB.out hbu); replace HO1 := hid (HO1.out.below hbu); replace HO2 := hid (HO2.out.below hbu); replace HO3 := hid (HO3.out.below hbu); replace HF := hid (HF.out.below hbu); replace HH := hid (HH.out.below hbu); replace HI := hid (HI.out.below hbu); clear hbu hb; clear x0 x1 x2 x3 x4 x5 y0 y1 y2 y3 y4 y5 z0 z1 z2 z3 z4 z5; obtain ⟨x0, x1, x2, x3, x4, x5⟩ := HO1.out.cells; obtain ⟨y0, y1, y2, y3, y4, y5⟩ := HO2.out.cells; obtain ⟨z0, z1, z2, z3, z4, z5⟩ := HO3.out.cells) | (go_at_call 5; (with_reducible refine (low_lit (f := h) true ?_ ?_).mono ?_); exact HL3.out; (first | exact HI.out | exact HI.out.below (by go_grown)); rintro e U ⟨rfl, hb⟩; have hbu := bel_of HG.out (by first | exact Below.refl _ _ | go_grown) hb; replace HG := hid (HG.out.nx hbu); replace HK := hid (HK.out.nx hbu); replace HB := hid (belNx HB.out hbu); replace HO1 := hid (HO1.out.below hbu); replace HO2 := hid (HO2.out.below hbu); replace HO3 := hid (HO3.out.below hbu); replace HF := hid (HF.out.below hbu); replace HH := hid (HH.out.below hbu); replace HI := hid (HI.out.below hbu); clear hbu hb; clear x0 x1 x2 x3 x4 x5 y0 y1 y2 y3 y4 y5 z0 z1 z2 z3 z4 z5; obtain ⟨x0, x1, x2, x3, x4, x5⟩ := HO1.out.cells; obtain ⟨y0, y1, y2, y3, y4, y5⟩ := HO2.out.cells; obtain ⟨z0, z1, z2, z3, z4, z5⟩ := HO3.out.cells))
  clear x0 x1 x2 x3 x4 x5 y0 y1 y2 y3 y4 y5 z0 z1 z2 z3 z4 z5
  rename World => W
  clear HL1 HL2 HL3
  obtain ⟨x0, x1, x2, x3, x4, x5⟩ := HO1.out.cells
  go_upto_region 5 with (go_at_call 6; (with_reducible refine (canon_litc (f := f) (cc) ?_ ?_ ?_ ?_).mono ?_); exact HCC.out; (first | exact HF.out | exact HF.out.below (by go_grown)); (first | exact HG.out | exact HG.out.nx (by go_grown)); (first | exact HK.out | exact HK.out.nx (by go_grown)); rintro e U ⟨A8, c8, rfl, hv, hb⟩; have hbu := bel_of HG.out (by first | exact Below.refl _ _ | go_grown) hb; replace HG := hid (HG.out.nx hbu); replace HK := hid (HK.out.nx hbu); replace HB := hid (belNx HB.out hbu); replace HO1 := hid (HO1.out.below hbu); replace HO2 := hid (HO2.out.below hbu); replace HO3 := hid (HO3.out.below hbu); replace HF := hid (HF.out.below hbu); replace HH := hid (HH.out.below hbu); replace HI := hid (HI.out.below hbu); clear hbu hb; have HV8 := hid hv; clear hv; clear x0 x1 x2 x3 x4 x5; obtain ⟨x0, x1, x2, x3, x4, x5⟩ := HO1.out.cells)
  clear x0 x1 x2 x3 x4 x5
  refine wp_gen fun W hW => ?_
  obtain ⟨b8, hbn⟩ : ∃ b8, b8 = U.heap.size := ⟨_, rfl⟩
  rw [← hbn]
  have hb : Below U.heap.size U W := by rw [hW]; go_grown
  have HO8 := hid (show OB W b8 cc.op cc.name cc.val cc.bound A8 cc.args.length c8 by rw [hW]; exact at_new _ _ _ hbn)
  have hbu := hb
  replace HG := hid (HG.out.nx hbu)
  replace HK := hid (HK.out.nx hbu)
  replace HB := hid (belNx HB.out hbu)
  replace HO1 := hid (HO1.out.below hbu)
  replace HO2 := hid (HO2.out.below hbu)
  replace HO3 := hid (HO3.out.below hbu)
  replace HF := hid (HF.out.below hbu)
  replace HH := hid (HH.out.below hbu)
  replace HI := hid (HI.out.below hbu)
  replace HV8 := hid (HV8.out.below hbu)
  clear hW hbn hb hbu
  rename World => W
  obtain ⟨x0, x1, x2, x3, x4, x5⟩ := HO1.out.cells
  obtain ⟨y0, y1, y2, y3, y4, y5⟩ := HO2.out.cells
  obtain ⟨z0, z1, z2, z3, z4, z5⟩ := HO3.out.cells
  go_upto_region 6 with (go_at_call 7; (with_reducible refine (and_litL (l := [f, g]) (fg5) ?_ ?_ ?_ ?_ ?_ ?_).mono ?_); rfl; exact HT5.out.efg; (first | exact lit_slice2 ((HF.out.below (by go_grown))) ((HH.out.below (by go_grown))) (at_new _ _ _ rfl) | exact lit_slice2 ((HF.out.below (by go_grown))) ((HH.out.below (by go_grown))) (at_new _ _ _ (by (simp; done))) | exact lit_slice2 ((HF.out.below (by go_grown))) ((HH.out.below (by go_grown))) ((at_old _ _ _ (by (simp; done))).trans (at_new _ _ _ rfl)) | exact lit_slice2 ((HF.out.below (by go_grown))) ((HH.out.below (by go_grown))) ((at_old _ _ _ (by (simp; done))).trans (at_new _ _ _ (by (simp; done))))); exact HT5.out.s2; (first | exact HG.out | exact HG.out.nx (by go_grown)); (first | exact HK.out | exact HK.out.nx (by go_grown)); rintro e U ⟨A9, c9, rfl, hv, hb⟩; have hbu := bel_of HG.out (by first | exact Below.refl _ _ | go_grown) hb; replace HG := hid (HG.out.nx hbu); replace HK := hid (HK.out.nx hbu); replace HB := hid (belNx HB.out hbu); replace HO1 := hid (HO1.out.below hbu); replace HO2 := hid (HO2.out.below hbu); replace HO3 := hid (HO3.out.below hbu); replace HF := hid (HF.out.below hbu); replace HH := hid (HH.out.below hbu); replace HI := hid (HI.out.below hbu); replace HV8 := hid (HV8.out.below hbu); replace HO8 := hid (HO8.out.below hbu); clear hbu hb; have HV9 := hid hv; clear hv; clear x0 x1 x2 x3 x4 x5 y0 y1 y2 y3 y4 y5 z0 z1 z2 z3 z4 z5; obtain ⟨x0, x1, x2, x3, x4, x5⟩ := HO1.out.cells; obtain ⟨y0, y1, y2, y3, y4, y5⟩ := HO2.out.cells; obtain ⟨z0, z1, z2, z3, z4, z5⟩ := HO3.out.cells)
  clear x0 x1 x2 x3 x4 x5 y0 y1 y2 y3 y4 y5 z0 z1 z2 z3 z4 z5
  refine wp_gen fun W hW => ?_
  obtain ⟨b9, hbn⟩ : ∃ b9, b9 = U.heap.size := ⟨_, rfl⟩
  rw [← hbn]
  have hb : Below U.heap.size U W := by rw [hW]; go_grown
  have HO9 := hid (show OB W b9 fg5.op fg5.name fg5.val fg5.bound A9 fg5.args.length c9 by rw [hW]; exact at_new _ _ _ hbn)
  have hbu := hb
  replace HG := hid (HG.out.nx hbu)
  replace HK := hid (HK.out.nx hbu)
  replace HB := hid (belNx HB.out hbu)
  replace HO1 := hid (HO1.out.below hbu)
  replace HO2 := hid (HO2.out.below hbu)
  replace HO3 := hid (HO3.out.below hbu)
  replace HF := hid (HF.out.below hbu)
  replace HH := hid (HH.out.below hbu)
  replace HI := hid (HI.out.below hbu)
  replace HV8 := hid (HV8.out.below hbu)
  replace HO8 := hid (HO8.out.below hbu)
  replace HV9 := hid (HV9.out.below hbu)
  clear hW hbn hb hbu
  rename World => W
  obtain ⟨x0, x1, x2, x3, x4, x5⟩ := HO1.out.cells
  obtain ⟨y0, y1, y2, y3, y4, y5⟩ := HO2.out.cells
  obtain ⟨z0, z1, z2, z3, z4, z5⟩ := HO3.out.cells
  go_upto_region 7 with (go_at_call 7; (with_reducible refine (and_litL (l := [g, h]) (gh5) ?_ ?_ ?_ ?_ ?_ ?_).mono ?_); rfl; exact HT5.out.egh; (first | exact lit_slice2 ((HH.out.below (by go_grown))) ((HI.out.below (by go_grown))) (at_new _ _ _ rfl) | exact lit_slice2 ((HH.out.below (by go_grown))) ((HI.out.below (by go_grown))) (at_new _ _ _ (by (simp; done))) | exact lit_slice2 ((HH.out.below (by go_grown))) ((HI.out.below (by go_grown))) ((at_old _ _ _ (by (simp; done))).trans (at_new _ _ _ rfl)) | exact lit_slice2 ((HH.out.below (by go_grown))) ((HI.out.below (by go_grown))) ((at_old _ _ _ (by (simp; done))).trans (at_new _ _ _ (by (simp; done))))); exact HT5.out.s2'; (first | exact HG.out | exact HG.out.nx (by go_grown)); (first | exact HK.out | exact HK.out.nx (by go_grown)); rintro e U ⟨A10, c10, rfl, hv, hb⟩; have hbu := bel_of HG.out (by first | exact Below.refl _ _ | go_grown) hb; replace HG := hid (HG.out.nx hbu); replace HK := hid (HK.out.nx hbu); replace HB := hid (belNx HB.out hbu); replace HO1 := hid (HO1.out.below hbu); replace HO2 := hid (HO2.out.below hbu); replace HO3 := hid (HO3.out.below hbu); replace HF := hid (HF.out.below hbu); replace HH := hid (HH.out.below hbu); replace HI := hid (HI.out.below hbu); replace HV8 := hid (HV8.out.below hbu); replace HO8 := hid (HO8.out.below hbu); replace HV9 := hid (HV9.out.below hbu); replace HO9 := hid (HO9.out.below hbu); clear hbu hb; have HV10 := hid hv; clear hv; clear x0 x1 x2 x3 x4 x5 y0 y1 y2 y3 y4 y5 z0 z1 z2 z3 z4 z5; obtain ⟨x0, x1, x2, x3, x4, x5⟩ := HO1.out.cells; obtain ⟨y0, y1, y2, y3, y4, y5⟩ := HO2.out.cells; obtain ⟨z0, z1, z2, z3, z4, z5⟩ := HO3.out.cells)
  clear x0 x1 x2 x3 x4 x5 y0 y1 y2 y3 y4 y5 z0 z1 z2 z3 z4 z5
  refine wp_gen fun W hW => ?_
  obtain ⟨b10, hbn⟩ : ∃ b10, b10 = U.heap.size := ⟨_, rfl⟩
  rw [← hbn]
  have hb : Below U.heap.size U W := by rw [hW]; go_grown
  have HO10 := hid (show OB W b10 gh5.op gh5.name gh5.val gh5.bound A10 gh5.args.length c10 by rw [hW]; exact at_new _ _ _ hbn)
  have hbu := hb
  replace HG := hid (HG.out.nx hbu)
  replace HK := hid (HK.out.nx hbu)
  replace HB := hid (belNx HB.out hbu)
  replace HO1 := hid (HO1.out.below hbu)
  replace HO2 := hid (HO2.out.below hbu)
  replace HO3 := hid (HO3.out.below hbu)
  replace HF := hid (HF.out.below hbu)
  replace HH := hid (HH.out.below hbu)
  replace HI := hid (HI.out.below hbu)
  replace HV8 := hid (HV8.out.below hbu)
  replace HO8 := hid (HO8.out.below hbu)
  replace HV9 := hid (HV9.out.below hbu)
  replace HO9 := hid (HO9.out.below hbu)
  replace HV10 := hid (HV10.out.below hbu)
  clear hW hbn hb hbu
  rename World => W
  rename_i K hK
  refine wp_tail K (11 :: List.range' 41 32) (fun us W' => us 11 = .bool true ∧ Below W.heap.size W W') ?_ ?_
  rotate_left
  · intro HTAIL
    clear hK
    exact big5 HG HK HO9 HO1 HO2 HO3 HO10 HF HH HI HV9 HV10 HT5 HQ5 HQS5 HP5 HR5 (hid HTAIL)
  rintro us W1 ⟨hu, hbu⟩
  apply hK
  simp only [putAll, List.range', List.range'_succ, Act.put, List.setIfInBounds_toArray, List.set_cons_zero, List.set_cons_succ, Nat.reduceAdd]
  rw [hu]
  replace HG := hid (HG.out.nx hbu)
  replace HK := hid (HK.out.nx hbu)
  replace HB := hid (belNx HB.out hbu)
  replace HO1 := hid (HO1.out.below hbu)
  replace HO2 := hid (HO2.out.below hbu)
  replace HO3 := hid (HO3.out.below hbu)
  replace HF := hid (HF.out.below hbu)
  replace HH := hid (HH.out.below hbu)
  replace HI := hid (HI.out.below hbu)
  replace HV8 := hid (HV8.out.below hbu)
  replace HO8 := hid (HO8.out.below hbu)
  replace HV9 := hid (HV9.out.below hbu)
  replace HO9 := hid (HO9.out.below hbu)
  replace HV10 := hid (HV10.out.below hbu)
  replace HO10 := hid (HO10.out.below hbu)
  clear hK hu hbu
  rename World => W
  clear HO9 HO10 HV9 HV10
  go_upto_region 8 with (fail)
  obtain ⟨x0, x1, x2, x3, x4, x5⟩ := HO1.out.cells
  obtain ⟨y0, y1, y2, y3, y4, y5⟩ := HO2.out.cells
  obtain ⟨z0, z1, z2, z3, z4, z5⟩ := HO3.out.cells
  go_upto_region 9 with (go_at_call 9; (with_reducible refine (or_litL (l := [f, g]) (fg6) ?_ ?_ ?_ ?_ ?_ ?_).mono ?_); rfl; exact HT6.out.efg; (first | exact lit_slice2 ((HF.out.below (by go_grown))) ((HH.out.below (by go_grown))) (at_new _ _ _ rfl) | exact lit_slice2 ((HF.out.below (by go_grown))) ((HH.out.below (by go_grown))) (at_new _ _ _ (by (simp; done))) | exact lit_slice2 ((HF.out.below (by go_grown))) ((HH.out.below (by go_grown))) ((at_old _ _ _ (by (simp; done))).trans (at_new _ _ _ rfl)) | exact lit_slice2 ((HF.out.below (by go_grown))) ((HH.out.below (by go_grown))) ((at_old _ _ _ (by (simp; done))).trans (at_new _ _ _ (by (simp; done))))); exact HT6.out.s2; (first | exact HG.out | exact HG.out.nx (by go_grown)); (first | exact HK.out | exact HK.out.nx (by go_grown)); rintro e U ⟨A12, c12, rfl, hv, hb⟩; have hbu := bel_of HG.out (by first | exact Below.refl _ _ | go_grown) hb; replace HG := hid (HG.out.nx hbu); replace HK := hid (HK.out.nx hbu); replace HB := hid (belNx HB.out hbu); replace HO1 := hid (HO1.out.below hbu); replace HO2 := hid (HO2.out.below hbu); replace HO3 := hid (HO3.out.below hbu); replace HF := hid (HF.out.below hbu); replace HH := hid (HH.out.below hbu); replace HI := hid (HI.out.below hbu); replace HV8 := hid (HV8.out.below hbu); replace HO8 := hid (HO8.out.below hbu); clear hbu hb; have HV12 := hid hv; clear hv; clear x0 x1 x2 x3 x4 x5 y0 y1 y2 y3 y4 y5 z0 z1 z2 z3 z4 z5; obtain ⟨x0, x1, x2, x3, x4, x5⟩ := HO1.out.cells; obtain ⟨y0, y1, y2, y3, y4, y5⟩ := HO2.out.cells; obtain ⟨z0, z1, z2, z3, z4, z5⟩ := HO3.out.cells)
  clear x0 x1 x2 x3 x4 x5 y0 y1 y2 y3 y4 y5 z0 z1 z2 z3 z4 z5
  refine wp_gen fun W hW => ?_
  obtain ⟨b12, hbn⟩ : ∃ b12, b12 = U.heap.size := ⟨_, rfl⟩
  rw [← hbn]
  have hb : Below U.heap.size U W := by rw [hW]; go_grown
  have HO12 := hid (show OB W b12 fg6.op fg6.name fg6.val fg6.bound A12 fg6.args.length c12 by rw [hW]; exact at_new _ _ _ hbn)
  have hbu := hb
  replace HG := hid (HG.out.nx hbu)
  replace HK := hid (HK.out.nx hbu)
  replace HB := hid (belNx HB.out hbu)
  replace HO1 := hid (HO1.out.below hbu)
  replace HO2 := hid (HO2.out.below hbu)
  replace HO3 := hid (HO3.out.below hbu)
  replace HF := hid (HF.out.below hbu)
  replace HH := hid (HH.out.below hbu)
  replace HI := hid (HI.out.below hbu)
  replace HV8 := hid (HV8.out.below hbu)
  replace HO8 := hid (HO8.out.below hbu)
  replace HV12 := hid (HV12.out.below hbu)
  clear hW hbn hb hbu
  rename World => W
  obtain ⟨x0, x1, x2, x3, x4, x5⟩ := HO1.out.cells
  obtain ⟨y0, y1, y2, y3, y4, y5⟩ := HO2.out.cells
  obtain ⟨z0, z1, z2, z3, z4, z5⟩ := HO3.out.cells
  go_upto_region 10 with (go_at_call 9; (with_reducible refine (or_litL (l := [g, h]) (gh6) ?_ ?_ ?_ ?_ ?_ ?_).mono ?_); rfl; exact HT6.out.egh; (first | exact lit_slice2 ((HH.out.below (by go_grown))) ((HI.out.below (by go_grown))) (at_new _ _ _ rfl) | exact lit_slice2 ((HH.out.below (by go_grown))) ((HI.out.below (by go_grown))) (at_new _ _ _ (by (simp; done))) | exact lit_slice2 ((HH.out.below (by go_grown))) ((HI.out.below (by go_grown))) ((at_old _ _ _ (by (simp; done))).trans (at_new _ _ _ rfl)) | exact lit_slice2 ((HH.out.below (by go_grown))) ((HI.out.below (by go_grown))) ((at_old _ _ _ (by (simp; done))).trans (at_new _ _ _ (by (simp; done))))); exact HT6.out.s2'; (first | exact HG.out | exact HG.out.nx (by go_grown)); (first | exact HK.out | exact HK.out.nx (by go_grown)); rintro e U ⟨A13, c13, rfl, hv, hb⟩; have hbu := bel_of HG.out (by first | exact Below.refl _ _ | go_grown) hb; replace HG := hid (HG.out.nx hbu); replace HK := hid (HK.out.nx hbu); replace HB := hid (belNx HB.out hbu); replace HO1 := hid (HO1.out.below hbu); replace HO2 := hid (HO2.out.below hbu); replace HO3 := hid (HO3.out.below hbu); replace HF := hid (HF.out.below hbu); replace HH := hid (HH.out.below hbu); replace HI := hid (HI.out.below hbu); replace HV8 := hid (HV8.out.below hbu); replace HO8 := hid (HO8.out.below hbu); replace HV12 := hid (HV12.out.below hbu); replace HO12 := hid (HO12.out.below hbu); clear hbu hb; have HV13 := hid hv; clear hv; clear x0 x1 x2 x3 x4 x5 y0 y1 y2 y3 y4 y5 z0 z1 z2 z3 z4 z5; obtain ⟨x0, x1, x2, x3, x4, x5⟩ := HO1.out.cells; obtain ⟨y0, y1, y2, y3, y4, y5⟩ := HO2.out.cells; obtain ⟨z0, z1, z2, z3, z4, z5⟩ := HO3.out.cells)
  clear x0 x1 x2 x3 x4 x5 y0 y1 y2 y3 y4 y5 z0 z1 z2 z3 z4 z5
  refine wp_gen fun W hW => ?_
  obtain ⟨b13, hbn⟩ : ∃ b13, b13 = U.heap.size := ⟨_, rfl⟩
  rw [← hbn]
  have hb : Below U.heap.size U W := by rw [hW]; go_grown
  have HO13 := hid (show OB W b13 gh6.op gh6.name gh6.val gh6.bound A13 gh6.args.length c13 by rw [hW]; exact at_new _ _ _ hbn)
  have hbu := hb
  replace HG := hid (HG.out.nx hbu)
  replace HK := hid (HK.out.nx hbu)
  replace HB := hid (belNx HB.out hbu)
  replace HO1 := hid (HO1.out.below hbu)
  replace HO2 := hid (HO2.out.below hbu)
  replace HO3 := hid (HO3.out.below hbu)
  replace HF := hid (HF.out.below hbu)
  replace HH := hid (HH.out.below hbu)
  replace HI := hid (HI.out.below hbu)
  replace HV8 := hid (HV8.out.below hbu)
  replace HO8 := hid (HO8.out.below hbu)
  replace HV12 := hid (HV12.out.below hbu)
  replace HO12 := hid (HO12.out.below hbu)
  replace HV13 := hid (HV13.out.below hbu)
  clear hW hbn hb hbu
  rename World => W
  rename_i K hK
  refine wp_tail K (14 :: List.range' 81 32) (fun us W' => us 14 = .bool true ∧ Below W.heap.size W W') ?_ ?_
  rotate_left
  · intro HTAIL
    clear hK
    exact big6 HG HK HO12 HO1 HO2 HO3 HO13 HF HH HI HV12 HV13 HT6 HQ6 HQS6 HP6 HR6 (hid HTAIL)
  rintro us W1 ⟨hu, hbu⟩
  apply hK
  simp only [putAll, List.range', List.range'_succ, Act.put, List.setIfInBounds_toArray, List.set_cons_zero, List.set_cons_succ, Nat.reduceAdd]
  rw [hu]
  replace HG := hid (HG.out.nx hbu)
  replace HK := hid (HK.out.nx hbu)
  replace HB := hid (belNx HB.out hbu)
  replace HO1 := hid (HO1.out.below hbu)
  replace HO2 := hid (HO2.out.below hbu)
  replace HO3 := hid (HO3.out.below hbu)
  replace HF := hid (HF.out.below hbu)
  replace HH := hid (HH.out.below hbu)
  replace HI := hid (HI.out.below hbu)
  replace HV8 := hid (HV8.out.below hbu)
  replace HO8 := hid (HO8.out.below hbu)
  replace HV12 := hid (HV12.out.below hbu)
  replace HO12 := hid (HO12.out.below hbu)
  replace HV13 := hid (HV13.out.below hbu)
  replace HO13 := hid (HO13.out.below hbu)
  clear hK hu hbu
  rename World => W
  clear HO12 HO13 HV12 HV13 HO2 HO3 HH HI HQ5 HQ6 HQS5 HQS6 HP5 HP6 HR5 HR6
  go_upto_region 11 with (fail)
  rename_i K hK
  refine wp_tail K (15 :: List.range' 113 34) (fun us W' => us 15 = .bool true ∧ Below W.heap.size W W') ?_ ?_
  rotate_left
  · intro HTAIL
    have HTL := hid HTAIL
    clear HTAIL hK
    have HW := hid (Below.refl W.heap.size W)
    obtain ⟨x0, x1, x2, x3, x4, x5⟩ := HO1.out.cells
    obtain ⟨y0, y1, y2, y3, y4, y5⟩ := HO8.out.cells
    go_region_held3 (fun W' : World => W'.cell? ⟨b1, 0, none⟩ = some (.int .i64 (f.op)) ∧ W'.cell? ⟨b1, 1, none⟩ = some (.string f.name) ∧ W'.cell? ⟨b1, 2, none⟩ = some (.int .i64 (f.val)) ∧ W'.cell? ⟨b1, 3, none⟩ = some (.int .i64 (f.bound)) ∧ W'.cell? ⟨b1, 4, none⟩ = some (.slice A f.args.length c) ∧ W'.cell? ⟨b8, 0, none⟩ = some (.int .i64 (cc.op)) ∧ W'.cell? ⟨b8, 1, none⟩ = some (.string cc.name) ∧ W'.cell? ⟨b8, 2, none⟩ = some (.int .i64 (cc.val)) ∧ W'.cell? ⟨b8, 3, none⟩ = some (.int .i64 (cc.bound)) ∧ W'.cell? ⟨b8, 4, none⟩ = some (.slice A8 cc.args.length c8))
      (first | (with_reducible exact ⟨(HO1.out).cells.1, (HO1.out).cells.2.1, (HO1.out).cells.2.2.1, (HO1.out).cells.2.2.2.1, (HO1.out).cells.2.2.2.2.1, (HO8.out).cells.1, (HO8.out).cells.2.1, (HO8.out).cells.2.2.1, (HO8.out).cells.2.2.2.1, (HO8.out).cells.2.2.2.2.1⟩) | (with_reducible exact ⟨(HO1.out.alloc _).cells.1, (HO1.out.alloc _).cells.2.1, (HO1.out.alloc _).cells.2.2.1, (HO1.out.alloc _).cells.2.2.2.1, (HO1.out.alloc _).cells.2.2.2.2.1, (HO8.out.alloc _).cells.1, (HO8.out.alloc _).cells.2.1, (HO8.out.alloc _).cells.2.2.1, (HO8.out.alloc _).cells.2.2.2.1, (HO8.out.alloc _).cells.2.2.2.2.1⟩) | (with_reducible exact ⟨((HO1.out.alloc _).alloc _).cells.1, ((HO1.out.alloc _).alloc _).cells.2.1, ((HO1.out.alloc _).alloc _).cells.2.2.1, ((HO1.out.alloc _).alloc _).cells.2.2.2.1, ((HO1.out.alloc _).alloc _).cells.2.2.2.2.1, ((HO8.out.alloc _).alloc _).cells.1, ((HO8.out.alloc _).alloc _).cells.2.1, ((HO8.out.alloc _).alloc _).cells.2.2.1, ((HO8.out.alloc _).alloc _).cells.2.2.2.1, ((HO8.out.alloc _).alloc _).cells.2.2.2.2.1⟩) | (go_keep; done))
      (first | (go_at_call 7; (with_reducible refine (and_litL (l := [f, f]) (cc) ?_ ?_ ?_ ?_ ?_ ?_).mono ?_); rfl; exact HT5.out.ff; (first | exact lit_slice2 ((HF.out.below (by go_grown))) ((HF.out.below (by go_grown))) (at_new _ _ _ rfl) | exact lit_slice2 ((HF.out.below (by go_grown))) ((HF.out.below (by go_grown))) (at_new _ _ _ (by (simp; done))) | exact lit_slice2 ((HF.out.below (by go_grown))) ((HF.out.below (by go_grown))) ((at_old _ _ _ (by (simp; done))).trans (at_new _ _ _ rfl)) | exact lit_slice2 ((HF.out.below (by go_grown))) ((HF.out.below (by go_grown))) ((at_old _ _ _ (by (simp; done))).trans (at_new _ _ _ (by (simp; done))))); exact HT5.out.s6; (first | exact HG.out | exact HG.out.nx (by go_grown)); (first | exact HK.out | exact HK.out.nx (by go_grown)); rintro e U ⟨A', c', rfl, hv, hb⟩; have hbu := bel_of HG.out (by first | exact Below.refl _ _ | go_grown) hb; replace HG := hid (HG.out.nx hbu); replace HK := hid (HK.out.nx hbu); replace HB := hid (belNx HB.out hbu); replace HO1 := hid (HO1.out.below hbu); replace HF := hid (HF.out.below hbu); replace HV8 := hid (HV8.out.below hbu); replace HO8 := hid (HO8.out.below hbu); replace HW := hid (belNx HW.out hbu); (try (replace HC1 := hid (HC1.out.below hbu))); (try (replace HC2 := hid (HC2.out.below hbu))); (try (replace HC3 := hid (HC3.out.below hbu))); (try (replace HC4 := hid (HC4.out.below hbu))); (try (replace HT1 := hid (HT1.out.below hbu))); (try (replace HT2 := hid (HT2.out.below hbu))); clear hbu hb; have HC1 := hid hv; clear hv) | (go_at_call 8; (with_reducible refine (comparec_lit (f := cc) (f2 := cc) 0 ?_ ?_ ?_ ?_).mono ?_); exact cmp_self cc; exact HT5.out.cs; (first | exact HC1.out | exact HC1.out.below (by go_grown)); (first | exact HV8.out.vf | exact (HV8.out.below (by go_grown)).vf); rintro e U ⟨rfl, hb⟩; have hbu := bel_of HG.out (by first | exact Below.refl _ _ | go_grown) hb; replace HG := hid (HG.out.nx hbu); replace HK := hid (HK.out.nx hbu); replace HB := hid (belNx HB.out hbu); replace HO1 := hid (HO1.out.below hbu); replace HF := hid (HF.out.below hbu); replace HV8 := hid (HV8.out.below hbu); replace HO8 := hid (HO8.out.below hbu); replace HW := hid (belNx HW.out hbu); (try (replace HC1 := hid (HC1.out.below hbu))); (try (replace HC2 := hid (HC2.out.below hbu))); (try (replace HC3 := hid (HC3.out.below hbu))); (try (replace HC4 := hid (HC4.out.below hbu))); (try (replace HT1 := hid (HT1.out.below hbu))); (try (replace HT2 := hid (HT2.out.below hbu))); clear hbu hb) | (go_at_call 9; (with_reducible refine (or_litL (l := [f, f]) (cc) ?_ ?_ ?_ ?_ ?_ ?_).mono ?_); rfl; exact HT6.out.ff; (first | exact lit_slice2 ((HF.out.below (by go_grown))) ((HF.out.below (by go_grown))) (at_new _ _ _ rfl) | exact lit_slice2 ((HF.out.below (by go_grown))) ((HF.out.below (by go_grown))) (at_new _ _ _ (by (simp; done))) | exact lit_slice2 ((HF.out.below (by go_grown))) ((HF.out.below (by go_grown))) ((at_old _ _ _ (by (simp; done))).trans (at_new _ _ _ rfl)) | exact lit_slice2 ((HF.out.below (by go_grown))) ((HF.out.below (by go_grown))) ((at_old _ _ _ (by (simp; done))).trans (at_new _ _ _ (by (simp; done))))); exact HT6.out.s6; (first | exact HG.out | exact HG.out.nx (by go_grown)); (first | exact HK.out | exact HK.out.nx (by go_grown)); rintro e U ⟨A', c', rfl, hv, hb⟩; have hbu := bel_of HG.out (by first | exact Below.refl _ _ | go_grown) hb; replace HG := hid (HG.out.nx hbu); replace HK := hid (HK.out.nx hbu); replace HB := hid (belNx HB.out hbu); replace HO1 := hid (HO1.out.below hbu); replace HF := hid (HF.out.below hbu); replace HV8 := hid (HV8.out.below hbu); replace HO8 := hid (HO8.out.below hbu); replace HW := hid (belNx HW.out hbu); (try (replace HC1 := hid (HC1.out.below hbu))); (try (replace HC2 := hid (HC2.out.below hbu))); (try (replace HC3 := hid (HC3.out.below hbu))); (try (replace HC4 := hid (HC4.out.below hbu))); (try (replace HT1 := hid (HT1.out.below hbu))); (try (replace HT2 := hid (HT2.out.below hbu))); clear hbu hb; have HC1 := hid hv; clear hv) | (go_at_call 10; (with_reducible refine (true_lit _).mono ?_); rintro e U ⟨rfl, hv, hb⟩; have hbu := bel_of HG.out (by first | exact Below.refl _ _ | go_grown) hb; replace HG := hid (HG.out.nx hbu); replace HK := hid (HK.out.nx hbu); replace HB := hid (belNx HB.out hbu); replace HO1 := hid (HO1.out.below hbu); replace HF := hid (HF.out.below hbu); replace HV8 := hid (HV8.out.below hbu); replace HO8 := hid (HO8.out.below hbu); replace HW := hid (belNx HW.out hbu); (try (replace HC1 := hid (HC1.out.below hbu))); (try (replace HC2 := hid (HC2.out.below hbu))); (try (replace HC3 := hid (HC3.out.below hbu))); (try (replace HC4 := hid (HC4.out.below hbu))); (try (replace HT1 := hid (HT1.out.below hbu))); (try (replace HT2 := hid (HT2.out.below hbu))); clear hbu hb; have HT1 := hid hv; clear hv) | (go_at_call 7; (with_reducible refine (and_litL (l := [f, opF 1 []]) (cc) ?_ ?_ ?_ ?_ ?_ ?_).mono ?_); rfl; exact HT5.out.fu; (first | exact lit_slice2 ((HF.out.below (by go_grown))) ((HT1.out.below (by go_grown))) (at_new _ _ _ rfl) | exact lit_slice2 ((HF.out.below (by go_grown))) ((HT1.out.below (by go_grown))) (at_new _ _ _ (by (simp; done))) | exact lit_slice2 ((HF.out.below (by go_grown))) ((HT1.out.below (by go_grown))) ((at_old _ _ _ (by (simp; done))).trans (at_new _ _ _ rfl)) | exact lit_slice2 ((HF.out.below (by go_grown))) ((HT1.out.below (by go_grown))) ((at_old _ _ _ (by (simp; done))).trans (at_new _ _ _ (by (simp; done))))); exact HT5.out.s7 1; (first | exact HG.out | exact HG.out.nx (by go_grown)); (first | exact HK.out | exact HK.out.nx (by go_grown)); rintro e U ⟨A', c', rfl, hv, hb⟩; have hbu := bel_of HG.out (by first | exact Below.refl _ _ | go_grown) hb; replace HG := hid (HG.out.nx hbu); replace HK := hid (HK.out.nx hbu); replace HB := hid (belNx HB.out hbu); replace HO1 := hid (HO1.out.below hbu); replace HF := hid (HF.out.below hbu); replace HV8 := hid (HV8.out.below hbu); replace HO8 := hid (HO8.out.below hbu); replace HW := hid (belNx HW.out hbu); (try (replace HC1 := hid (HC1.out.below hbu))); (try (replace HC2 := hid (HC2.out.below hbu))); (try (replace HC3 := hid (HC3.out.below hbu))); (try (replace HC4 := hid (HC4.out.below hbu))); (try (replace HT1 := hid (HT1.out.below hbu))); (try (replace HT2 := hid (HT2.out.below hbu))); clear hbu hb; have HC1 := hid hv; clear hv) | (go_at_call 11; (with_reducible refine (false_lit _).mono ?_); rintro e U ⟨rfl, hv, hb⟩; have hbu := bel_of HG.out (by first | exact Below.refl _ _ | go_grown) hb; replace HG := hid (HG.out.nx hbu); replace HK := hid (HK.out.nx hbu); replace HB := hid (belNx HB.out hbu); replace HO1 := hid (HO1.out.below hbu); replace HF := hid (HF.out.below hbu); replace HV8 := hid (HV8.out.below hbu); replace HO8 := hid (HO8.out.below hbu); replace HW := hid (belNx HW.out hbu); (try (replace HC1 := hid (HC1.out.below hbu))); (try (replace HC2 := hid (HC2.out.below hbu))); (try (replace HC3 := hid (HC3.out.below hbu))); (try (replace HC4 := hid (HC4.out.below hbu))); (try (replace HT1 := hid (HT1.out.below hbu))); (try (replace HT2 := hid (HT2.out.below hbu))); clear hbu hb; have HT2 := hid hv; clear hv) | (go_at_call 9; (with_reducible refine (or_litL (l := [opF 2 [], f]) (cc) ?_ ?_ ?_ ?_ ?_ ?_).mono ?_); rfl; exact HT6.out.uf; (first | exact lit_slice2 ((HT2.out.below (by go_grown))) ((HF.out.below (by go_grown))) (at_new _ _ _ rfl) | exact lit_slice2 ((HT2.out.below (by go_grown))) ((HF.out.below (by go_grown))) (at_new _ _ _ (by (simp; done))) | exact lit_slice2 ((HT2.out.below (by go_grown))) ((HF.out.below (by go_grown))) ((at_old _ _ _ (by (simp; done))).trans (at_new _ _ _ rfl)) | exact lit_slice2 ((HT2.out.below (by go_grown))) ((HF.out.below (by go_grown))) ((at_old _ _ _ (by (simp; done))).trans (at_new _ _ _ (by (simp; done))))); exact HT6.out.s8 2; (first | exact HG.out | exact HG.out.nx (by go_grown)); (first | exact HK.out | exact HK.out.nx (by go_grown)); rintro e U ⟨A', c', rfl, hv, hb⟩; have hbu := bel_of HG.out (by first | exact Below.refl _ _ | go_grown) hb; replace HG := hid (HG.out.nx hbu); replace HK := hid (HK.out.nx hbu); replace HB := hid (belNx HB.out hbu); replace HO1 := hid (HO1.out.below hbu); replace HF := hid (HF.out.below hbu); replace HV8 := hid (HV8.out.below hbu); replace HO8 := hid (HO8.out.below hbu); replace HW := hid (belNx HW.out hbu); (try (replace HC1 := hid (HC1.out.below hbu))); (try (replace HC2 := hid (HC2.out.below hbu))); (try (replace HC3 := hid (HC3.out.below hbu))); (try (replace HC4 := hid (HC4.out.below hbu))); (try (replace HT1 := hid (HT1.out.below hbu))); (try (replace HT2 := hid (HT2.out.below hbu))); clear hbu hb; have HC1 := hid hv; clear hv))
    all_goals
      refine tail_close HTL.out ?_ ?_
      · first
          | exact ⟨rfl, (by first | exact HW.out | exact (Drawn.n _ _).below _ | exact belNx HW.out (by go_grown))⟩
      · kernel_rfl
  rintro us W1 ⟨hu, hbu⟩
  apply hK
  simp only [putAll, List.range', List.range'_succ, Act.put, List.setIfInBounds_toArray, List.set_cons_zero, List.set_cons_succ, Nat.reduceAdd]
  rw [hu]
  replace HG := hid (HG.out.nx hbu)
  replace HK := hid (HK.out.nx hbu)
  replace HB := hid (belNx HB.out hbu)
  replace HO1 := hid (HO1.out.below hbu)
  replace HF := hid (HF.out.below hbu)
  replace HV8 := hid (HV8.out.below hbu)
  replace HO8 := hid (HO8.out.below hbu)
  clear hK hu hbu
  rename World => W
  clear HO8 HV8 HCC
  go_upto_region 12 with (fail)
  obtain ⟨z5, hz5⟩ : ∃ q, connZ 5 [f, opF 2 []] = q := ⟨_, rfl⟩
  obtain ⟨z6, hz6⟩ : ∃ q, connZ 6 [opF 1 [], f] = q := ⟨_, rfl⟩
  obtain ⟨n5, hn5⟩ : ∃ q, connZ 5 [] = q := ⟨_, rfl⟩
  obtain ⟨n6, hn6⟩ : ∃ q, connZ 6 [] = q := ⟨_, rfl⟩
  have d1 : (z5.op == 2) = true := by rw [← hz5]; exact beq_iff_eq.2 HT5.out.fz
  have d2 : (z6.op == 1) = true := by rw [← hz6]; exact beq_iff_eq.2 HT6.out.zf
  have d3 : (n5.op == 1) = true := by rw [← hn5]; exact beq_iff_eq.2 (connZ_nil 5 (.inl rfl))
  have d4 : (n6.op == 2) = true := by rw [← hn6]; exact beq_iff_eq.2 (connZ_nil 6 (.inr rfl))
  have HZ5 := hid hz5
  have HZ6 := hid hz6
  have HN5 := hid hn5
  have HN6 := hid hn6
  clear hz5 hz6 hn5 hn6
  rename_i K hK
  refine wp_tail K (6 :: List.range' 147 36) (fun us W' => us 6 = .bool true ∧ Below W.heap.size W W') ?_ ?_
  rotate_left
  · intro HTAIL
    have HTL := hid HTAIL
    clear HTAIL hK
    have HW := hid (Below.refl W.heap.size W)
    obtain ⟨x0, x1, x2, x3, x4, x5⟩ := HO1.out.cells
    go_region_held3 (fun W' : World => W'.cell? ⟨b1, 0, none⟩ = some (.int .i64 (f.op)) ∧ W'.cell? ⟨b1, 1, none⟩ = some (.string f.name) ∧ W'.cell? ⟨b1, 2, none⟩ = some (.int .i64 (f.val)) ∧ W'.cell? ⟨b1, 3, none⟩ = some (.int .i64 (f.bound)) ∧ W'.cell? ⟨b1, 4, none⟩ = some (.slice A f.args.length c))
      (first | (with_reducible exact ⟨(HO1.out).cells.1, (HO1.out).cells.2.1, (HO1.out).cells.2.2.1, (HO1.out).cells.2.2.2.1, (HO1.out).cells.2.2.2.2.1⟩) | (with_reducible exact ⟨(HO1.out.alloc _).cells.1, (HO1.out.alloc _).cells.2.1, (HO1.out.alloc _).cells.2.2.1, (HO1.out.alloc _).cells.2.2.2.1, (HO1.out.alloc _).cells.2.2.2.2.1⟩) | (with_reducible exact ⟨((HO1.out.alloc _).alloc _).cells.1, ((HO1.out.alloc _).alloc _).cells.2.1, ((HO1.out.alloc _).alloc _).cells.2.2.1, ((HO1.out.alloc _).alloc _).cells.2.2.2.1, ((HO1.out.alloc _).alloc _).cells.2.2.2.2.1⟩) | (go_keep; done))
      (first | (go_at_call 11; (with_reducible refine (false_lit _).mono ?_); rintro e U ⟨rfl, hv, hb⟩; have hbu := bel_of HG.out (by first | exact Below.refl _ _ | go_grown) hb; replace HG := hid (HG.out.nx hbu); replace HK := hid (HK.out.nx hbu); replace HB := hid (belNx HB.out hbu); replace HO1 := hid (HO1.out.below hbu); replace HF := hid (HF.out.below hbu); replace HW := hid (belNx HW.out hbu); (try (replace HC1 := hid (HC1.out.below hbu))); (try (replace HT1 := hid (HT1.out.below hbu))); (try (replace HT2 := hid (HT2.out.below hbu))); clear hbu hb; have HT2 := hid hv; clear hv) | (go_at_call 7; (with_reducible refine (and_litL (l := [f, opF 2 []]) (z5) ?_ ?_ ?_ ?_ ?_ ?_).mono ?_); rfl; exact HZ5.out; (first | exact lit_slice2 ((HF.out.below (by go_grown))) ((HT2.out.below (by go_grown))) (at_new _ _ _ rfl) | exact lit_slice2 ((HF.out.below (by go_grown))) ((HT2.out.below (by go_grown))) (at_new _ _ _ (by (simp; done))) | exact lit_slice2 ((HF.out.below (by go_grown))) ((HT2.out.below (by go_grown))) ((at_old _ _ _ (by (simp; done))).trans (at_new _ _ _ rfl)) | exact lit_slice2 ((HF.out.below (by go_grown))) ((HT2.out.below (by go_grown))) ((at_old _ _ _ (by (simp; done))).trans (at_new _ _ _ (by (simp; done))))); exact HT5.out.s7 2; (first | exact HG.out | exact HG.out.nx (by go_grown)); (first | exact HK.out | exact HK.out.nx (by go_grown)); rintro e U ⟨A', c', rfl, hv, hb⟩; have hbu := bel_of HG.out (by first | exact Below.refl _ _ | go_grown) hb; replace HG := hid (HG.out.nx hbu); replace HK := hid (HK.out.nx hbu); replace HB := hid (belNx HB.out hbu); replace HO1 := hid (HO1.out.below hbu); replace HF := hid (HF.out.below hbu); replace HW := hid (belNx HW.out hbu); (try (replace HC1 := hid (HC1.out.below hbu))); (try (replace HT1 := hid (HT1.out.below hbu))); (try (replace HT2 := hid (HT2.out.below hbu))); clear hbu hb; have HC1 := hid hv; clear hv) | (go_at_call 10; (with_reducible refine (true_lit _).mono ?_); rintro e U ⟨rfl, hv, hb⟩; have hbu := bel_of HG.out (by first | exact Below.refl _ _ | go_grown) hb; replace HG := hid (HG.out.nx hbu); replace HK := hid (HK.out.nx hbu); replace HB := hid (belNx HB.out hbu); replace HO1 := hid (HO1.out.below hbu); replace HF := hid (HF.out.below hbu); replace HW := hid (belNx HW.out hbu); (try (replace HC1 := hid (HC1.out.below hbu))); (try (replace HT1 := hid (HT1.out.below hbu))); (try (replace HT2 := hid (HT2.out.below hbu))); clear hbu hb; have HT1 := hid hv; clear hv) | (go_at_call 9; (with_reducible refine (or_litL (l := [opF 1 [], f]) (z6) ?_ ?_ ?_ ?_ ?_ ?_).mono ?_); rfl; exact HZ6.out; (first | exact lit_slice2 ((HT1.out.below (by go_grown))) ((HF.out.below (by go_grown))) (at_new _ _ _ rfl) | exact lit_slice2 ((HT1.out.below (by go_grown))) ((HF.out.below (by go_grown))) (at_new _ _ _ (by (simp; done))) | exact lit_slice2 ((HT1.out.below (by go_grown))) ((HF.out.below (by go_grown))) ((at_old _ _ _ (by (simp; done))).trans (at_new _ _ _ rfl)) | exact lit_slice2 ((HT1.out.below (by go_grown))) ((HF.out.below (by go_grown))) ((at_old _ _ _ (by (simp; done))).trans (at_new _ _ _ (by (simp; done))))); exact HT6.out.s8 1; (first | exact HG.out | exact HG.out.nx (by go_grown)); (first | exact HK.out | exact HK.out.nx (by go_grown)); rintro e U ⟨A', c', rfl, hv, hb⟩; have hbu := bel_of HG.out (by first | exact Below.refl _ _ | go_grown) hb; replace HG := hid (HG.out.nx hbu); replace HK := hid (HK.out.nx hbu); replace HB := hid (belNx HB.out hbu); replace HO1 := hid (HO1.out.below hbu); replace HF := hid (HF.out.below hbu); replace HW := hid (belNx HW.out hbu); (try (replace HC1 := hid (HC1.out.below hbu))); (try (replace HT1 := hid (HT1.out.below hbu))); (try (replace HT2 := hid (HT2.out.below hbu))); clear hbu hb; have HC1 := hid hv; clear hv) | (go_at_call 7; (with_reducible refine (and_litL (l := []) (n5) ?_ ?_ ?_ ?_ ?_ ?_).mono ?_); rfl; exact HN5.out; exact RdA.nil _ _ _ (by omega); decide; (first | exact HG.out | exact HG.out.nx (by go_grown)); (first | exact HK.out | exact HK.out.nx (by go_grown)); rintro e U ⟨A', c', rfl, hv, hb⟩; have hbu := bel_of HG.out (by first | exact Below.refl _ _ | go_grown) hb; replace HG := hid (HG.out.nx hbu); replace HK := hid (HK.out.nx hbu); replace HB := hid (belNx HB.out hbu); replace HO1 := hid (HO1.out.below hbu); replace HF := hid (HF.out.below hbu); replace HW := hid (belNx HW.out hbu); (try (replace HC1 := hid (HC1.out.below hbu))); (try (replace HT1 := hid (HT1.out.below hbu))); (try (replace HT2 := hid (HT2.out.below hbu))); clear hbu hb; have HC1 := hid hv; clear hv) | (go_at_call 9; (with_reducible refine (or_litL (l := []) (n6) ?_ ?_ ?_ ?_ ?_ ?_).mono ?_); rfl; exact HN6.out; exact RdA.nil _ _ _ (by omega); decide; (first | exact HG.out | exact HG.out.nx (by go_grown)); (first | exact HK.out | exact HK.out.nx (by go_grown)); rintro e U ⟨A', c', rfl, hv, hb⟩; have hbu := bel_of HG.out (by first | exact Below.refl _ _ | go_grown) hb; replace HG := hid (HG.out.nx hbu); replace HK := hid (HK.out.nx hbu); replace HB := hid (belNx HB.out hbu); replace HO1 := hid (HO1.out.below hbu); replace HF := hid (HF.out.below hbu); replace HW := hid (belNx HW.out hbu); (try (replace HC1 := hid (HC1.out.below hbu))); (try (replace HT1 := hid (HT1.out.below hbu))); (try (replace HT2 := hid (HT2.out.below hbu))); clear hbu hb; have HC1 := hid hv; clear hv))
    all_goals
      refine tail_close HTL.out ?_ ?_
      · first
          | exact ⟨rfl, (by first | exact HW.out | exact (Drawn.n _ _).below _ | exact belNx HW.out (by go_grown))⟩
      · kernel_rfl
  rintro us W1 ⟨hu, hbu⟩
  apply hK
  simp only [putAll, List.range', List.range'_succ, Act.put, List.setIfInBounds_toArray, List.set_cons_zero, List.set_cons_succ, Nat.reduceAdd]
  rw [hu]
  replace HG := hid (HG.out.nx hbu)
  replace HK := hid (HK.out.nx hbu)
  replace HB := hid (belNx HB.out hbu)
  replace HO1 := hid (HO1.out.below hbu)
  replace HF := hid (HF.out.below hbu)
  clear hK hu hbu
  rename World => W
  go_wp2_with fail
  go_ret
  exact ⟨rfl, HB.out⟩
end Go.Proofs.YtahgbgniaiccbaaGreatDoor
