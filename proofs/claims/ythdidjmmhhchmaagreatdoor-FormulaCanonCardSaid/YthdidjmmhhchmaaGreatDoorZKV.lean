/-
  Walk of FormulaCanon.
-/
import Derived.Test.YthdidjmmhhchmaaGreatDoorZKH
import Derived.Test.YthdidjmmhhchmaaGreatDoorZKF
set_option linter.unusedVariables false
set_option linter.unusedSimpArgs false
namespace Go.Proofs.YthdidjmmhhchmaaGreatDoor
open Go.RowKit Go.Shelf
attribute [local go_sem] cell_alloc_old

theorem reversed_litc {w : World} {o : Int} {n : ByteArray} {v b : Int} {A : Option Addr} {k c : Nat} {f : Fm} (g : Fm) (hz : revZ f = g) (hb : allI bareQ false f) (hs : f.size ≤ 1000000) (h : VF w o n v b A k c f) :
    Calls Tryz.prog 23 #[.agg #[.int .i64 o, .string n, .int .i64 v, .int .i64 b, .slice A k c]] w fun e w' => ∃ A' c', e = .returned (.agg #[.int .i64 g.op, .string g.name, .int .i64 g.val, .int .i64 g.bound, .slice A' g.args.length c']) ∧ VC w' g.op g.name g.val g.bound A' g.args.length c' g ∧ Below w.heap.size w w' :=
  (reversed_any f _ w false h.rd hb hs).mono fun e w' ⟨x, e1, h1⟩ => by
    rw [hz] at h1
    obtain ⟨A', c', e2, h2⟩ := h1.litc rfl
    exact ⟨A', c', by rw [e1, e2], h2⟩
set_option maxRecDepth 100000 in
set_option maxHeartbeats 8000000 in
theorem canonlaw_any {D : Dom} (f : Fm) (v : Value) (w : World) (h : RdF3 w D v f) (hg : GF w) (hk : GK w) :
    Calls Tryz.prog 5 #[v] w fun e w' => e = .returned (.bool true) ∧ Below w.heap.size w w' := by
  obtain ⟨A, c, rfl, ha⟩ := h
  have HA := hid (VF.of ha)
  have HG0 := hid hg
  have HK0 := hid hk
  clear ha hg hk
  go_enter Tryz.func5, Tryz.ntmps5
  go_upto_region 1 with (fail)
  refine wp_gen fun W hW => ?_
  have HB := hid (show Below w.heap.size w W by rw [hW]; go_grown)
  have HO1 := hid (show OB W w.heap.size f.op f.name f.val f.bound A f.args.length c by rw [hW]; exact at_new _ _ _ rfl)
  have HF := hid (HA.out.below HB.out)
  have HG := hid (HG0.out.nx HB.out)
  have HK := hid (HK0.out.nx HB.out)
  clear hW HA HG0 HK0
  obtain ⟨b1, hb1⟩ : ∃ b1, b1 = w.heap.size := ⟨_, rfl⟩
  rw [← hb1] at HO1 ⊢
  clear hb1
  go_upto_region 2 with (go_at_call 9; (with_reducible refine (head_any _ ?_ ?_).mono ?_); (first | exact HG.out | exact HG.out.nx (by go_grown)); (first | exact HK.out | exact HK.out.nx (by go_grown)); rintro e U ⟨rfl, hb⟩; have hbu := bel_of HG.out (by first | exact Below.refl _ _ | go_grown) hb; replace HG := hid (HG.out.nx hbu); replace HK := hid (HK.out.nx hbu); replace HB := hid (belNx HB.out hbu); replace HO1 := hid (HO1.out.below hbu); replace HF := hid (HF.out.below hbu); clear hbu hb)
  obtain ⟨x0, x1, x2, x3, x4, x5⟩ := HO1.out.cells
  by_cases hs : f.size ≤ 420
  rotate_left
  · go_wp2_with (go_at_call 10; (with_reducible refine (small_lit (f := f) 420 420 rfl ?_ false ?_ ?_).mono ?_); decide; exact decide_eq_false hs; (first | exact HF.out | exact HF.out.below (by go_grown)); rintro e U ⟨rfl, hb⟩; have hbu := bel_of HG.out (by first | exact Below.refl _ _ | go_grown) hb; replace HG := hid (HG.out.nx hbu); replace HK := hid (HK.out.nx hbu); replace HB := hid (belNx HB.out hbu); replace HO1 := hid (HO1.out.below hbu); replace HF := hid (HF.out.below hbu); clear hbu hb; clear x0 x1 x2 x3 x4 x5; obtain ⟨x0, x1, x2, x3, x4, x5⟩ := HO1.out.cells)
    go_ret
    exact ⟨rfl, HB.out⟩
  have HS := hid (decide_eq_true hs)
  have HSZ := hid hs
  clear hs
  cases hl : looseB f
  · have HLO := hid hl
    clear hl
    go_wp2_with (first | (go_at_call 10; (with_reducible refine (small_lit (f := f) 420 420 rfl ?_ true ?_ ?_).mono ?_); decide; exact HS.out; (first | exact HF.out | exact HF.out.below (by go_grown)); rintro e U ⟨rfl, hb⟩; have hbu := bel_of HG.out (by first | exact Below.refl _ _ | go_grown) hb; replace HG := hid (HG.out.nx hbu); replace HK := hid (HK.out.nx hbu); replace HB := hid (belNx HB.out hbu); replace HO1 := hid (HO1.out.below hbu); replace HF := hid (HF.out.below hbu); clear hbu hb; clear x0 x1 x2 x3 x4 x5; obtain ⟨x0, x1, x2, x3, x4, x5⟩ := HO1.out.cells) | (go_at_call 18; (with_reducible refine (rloose_lit (f := f) false ?_ ?_).mono ?_); exact HLO.out; (first | exact HF.out | exact HF.out.below (by go_grown)); rintro e U ⟨rfl, hb⟩; have hbu := bel_of HG.out (by first | exact Below.refl _ _ | go_grown) hb; replace HG := hid (HG.out.nx hbu); replace HK := hid (HK.out.nx hbu); replace HB := hid (belNx HB.out hbu); replace HO1 := hid (HO1.out.below hbu); replace HF := hid (HF.out.below hbu); clear hbu hb; clear x0 x1 x2 x3 x4 x5; obtain ⟨x0, x1, x2, x3, x4, x5⟩ := HO1.out.cells))
    go_ret
    exact ⟨rfl, HB.out⟩
  have HLO := hid hl
  obtain ⟨cc, hcc⟩ : ∃ q, canonicalZ f = q := ⟨_, rfl⟩
  have e0 : canonZ f = cc := by rw [← hcc, canonical_loose hl]
  have HLC := hid (show looseB cc = true by rw [← e0]; exact loose_canon hl)
  have HC2 := hid (show canonicalZ cc = cc by rw [canonical_loose HLC.out, ← e0]; exact (loose_can hl).canonZ)
  have HKC := hid (show kernelB f = true → kernelB cc = true by rw [← e0]; exact kernel_canon)
  have HBR := hid (loose_out hl).2.2
  obtain ⟨rg, hrg⟩ : ∃ q, revZ f = q := ⟨_, rfl⟩
  have HRV := hid (show looseB rg = true → canonicalZ rg = cc from fun h => by rw [canonical_loose h, ← hrg, canonZ_rev f _ (loose_out hl).2.2]; exact e0)
  have hzz : cc.size ≤ f.size := by rw [← e0]; exact canonZ_size f
  obtain ⟨nf, hnf⟩ : ∃ q, f.size = q := ⟨_, rfl⟩
  obtain ⟨nc, hnc⟩ : ∃ q, cc.size = q := ⟨_, rfl⟩
  have hdn : nc ≤ nf := by omega
  have hdl : ¬ nf < nc := by omega
  have hdl2 : (nf < nc) = False := by simp; omega
  have hdl3 : decide (nf < nc) = false := decide_eq_false hdl
  have hdz : ¬ (nf : Int) < (nc : Int) := by omega
  have hdd : decide ((nf : Int) < (nc : Int)) = false := decide_eq_false hdz
  have HNF := hid (show (f.size : Int) = (nf : Int) by rw [hnf])
  have HNC := hid (show (cc.size : Int) = (nc : Int) by rw [hnc])
  have HDF := hid (show f.depth ≤ 5000 by have := (loose_out hl).2.1; omega)
  have HDC := hid (show cc.depth ≤ 5000 by have := (loose_out HLC.out).2.1; omega)
  have HSC := hid (show cc.size ≤ 1000000 by have := HSZ.out; omega)
  have HSF := hid (show f.size ≤ 1000000 by have := HSZ.out; omega)
  have HCC := hid hcc
  have HRG := hid hrg
  clear hl hcc hrg e0 hzz hnf hnc
  go_upto_region 4 with (first | (go_at_call 10; (with_reducible refine (small_lit (f := f) 420 420 rfl ?_ true ?_ ?_).mono ?_); decide; exact HS.out; (first | exact HF.out | exact HF.out.below (by go_grown)); rintro e U ⟨rfl, hb⟩; have hbu := bel_of HG.out (by first | exact Below.refl _ _ | go_grown) hb; replace HG := hid (HG.out.nx hbu); replace HK := hid (HK.out.nx hbu); replace HB := hid (belNx HB.out hbu); replace HO1 := hid (HO1.out.below hbu); replace HF := hid (HF.out.below hbu); clear hbu hb; clear x0 x1 x2 x3 x4 x5; obtain ⟨x0, x1, x2, x3, x4, x5⟩ := HO1.out.cells) | (go_at_call 18; (with_reducible refine (rloose_lit (f := f) true ?_ ?_).mono ?_); exact HLO.out; (first | exact HF.out | exact HF.out.below (by go_grown)); rintro e U ⟨rfl, hb⟩; have hbu := bel_of HG.out (by first | exact Below.refl _ _ | go_grown) hb; replace HG := hid (HG.out.nx hbu); replace HK := hid (HK.out.nx hbu); replace HB := hid (belNx HB.out hbu); replace HO1 := hid (HO1.out.below hbu); replace HF := hid (HF.out.below hbu); clear hbu hb; clear x0 x1 x2 x3 x4 x5; obtain ⟨x0, x1, x2, x3, x4, x5⟩ := HO1.out.cells))
  clear x0 x1 x2 x3 x4 x5
  rename World => W
  obtain ⟨x0, x1, x2, x3, x4, x5⟩ := HO1.out.cells
  go_upto_region 5 with (go_at_call 21; (with_reducible refine (canon_litc (f := f) (cc) ?_ ?_ ?_ ?_).mono ?_); exact HCC.out; (first | exact HF.out | exact HF.out.below (by go_grown)); (first | exact HG.out | exact HG.out.nx (by go_grown)); (first | exact HK.out | exact HK.out.nx (by go_grown)); rintro e U ⟨A4, c4, rfl, hv, hb⟩; have hbu := bel_of HG.out (by first | exact Below.refl _ _ | go_grown) hb; replace HG := hid (HG.out.nx hbu); replace HK := hid (HK.out.nx hbu); replace HB := hid (belNx HB.out hbu); replace HO1 := hid (HO1.out.below hbu); replace HF := hid (HF.out.below hbu); clear hbu hb; have HV4 := hid hv; clear hv; clear x0 x1 x2 x3 x4 x5; obtain ⟨x0, x1, x2, x3, x4, x5⟩ := HO1.out.cells)
  clear x0 x1 x2 x3 x4 x5
  refine wp_gen fun W hW => ?_
  obtain ⟨b4, hbn⟩ : ∃ b4, b4 = U.heap.size := ⟨_, rfl⟩
  rw [← hbn]
  have hb : Below U.heap.size U W := by rw [hW]; go_grown
  have HO4 := hid (show OB W b4 cc.op cc.name cc.val cc.bound A4 cc.args.length c4 by rw [hW]; exact at_new _ _ _ hbn)
  have hbu := hb
  replace HG := hid (HG.out.nx hbu)
  replace HK := hid (HK.out.nx hbu)
  replace HB := hid (belNx HB.out hbu)
  replace HO1 := hid (HO1.out.below hbu)
  replace HF := hid (HF.out.below hbu)
  replace HV4 := hid (HV4.out.below hbu)
  clear hW hbn hb hbu
  rename World => W
  rename_i K hK
  refine wp_tail K (List.range' 18 26) (fun us W' => us 43 = .bool false ∧ Below W.heap.size W W') ?_ ?_
  rotate_left
  · intro HTAIL
    have HTL := hid HTAIL
    clear HTAIL hK
    have HW := hid (Below.refl W.heap.size W)
    cases hk : kernelB f
    · have HKF := hid hk
      clear hk
      obtain ⟨x0, x1, x2, x3, x4, x5⟩ := HO4.out.cells
      obtain ⟨y0, y1, y2, y3, y4, y5⟩ := HO1.out.cells
      go_region_law (first | (go_simp; go_at_call 18; (with_reducible refine (rloose_lit (f := cc) true ?_ ?_).mono ?_); exact HLC.out; (first | exact HV4.out.vf | exact (HV4.out.below (by go_grown)).vf); rintro e U ⟨rfl, hb⟩; have hbu := bel_of HG.out (by first | exact Below.refl _ _ | go_grown) hb; replace HG := hid (HG.out.nx hbu); replace HK := hid (HK.out.nx hbu); replace HB := hid (belNx HB.out hbu); replace HO1 := hid (HO1.out.below hbu); replace HF := hid (HF.out.below hbu); replace HV4 := hid (HV4.out.below hbu); replace HO4 := hid (HO4.out.below hbu); replace HW := hid (belNx HW.out hbu); clear hbu hb; clear x0 x1 x2 x3 x4 x5 y0 y1 y2 y3 y4 y5; obtain ⟨x0, x1, x2, x3, x4, x5⟩ := HO4.out.cells; obtain ⟨y0, y1, y2, y3, y4, y5⟩ := HO1.out.cells) | (go_simp; go_at_call 22; (with_reducible refine (size_lit (f := cc) (nc : Int) ?_ ?_ ?_ ?_ ?_).mono ?_); exact HNC.out; exact HDC.out; exact HSC.out; (first | exact HV4.out.vf | exact (HV4.out.below (by go_grown)).vf); (first | exact HG.out | exact HG.out.nx (by go_grown)); rintro e U ⟨rfl, hb⟩; have hbu := bel_of HG.out (by first | exact Below.refl _ _ | go_grown) hb; replace HG := hid (HG.out.nx hbu); replace HK := hid (HK.out.nx hbu); replace HB := hid (belNx HB.out hbu); replace HO1 := hid (HO1.out.below hbu); replace HF := hid (HF.out.below hbu); replace HV4 := hid (HV4.out.below hbu); replace HO4 := hid (HO4.out.below hbu); replace HW := hid (belNx HW.out hbu); clear hbu hb; clear x0 x1 x2 x3 x4 x5 y0 y1 y2 y3 y4 y5; obtain ⟨x0, x1, x2, x3, x4, x5⟩ := HO4.out.cells; obtain ⟨y0, y1, y2, y3, y4, y5⟩ := HO1.out.cells) | (go_simp; go_at_call 22; (with_reducible refine (size_lit (f := f) (nf : Int) ?_ ?_ ?_ ?_ ?_).mono ?_); exact HNF.out; exact HDF.out; exact HSF.out; (first | exact HF.out | exact HF.out.below (by go_grown)); (first | exact HG.out | exact HG.out.nx (by go_grown)); rintro e U ⟨rfl, hb⟩; have hbu := bel_of HG.out (by first | exact Below.refl _ _ | go_grown) hb; replace HG := hid (HG.out.nx hbu); replace HK := hid (HK.out.nx hbu); replace HB := hid (belNx HB.out hbu); replace HO1 := hid (HO1.out.below hbu); replace HF := hid (HF.out.below hbu); replace HV4 := hid (HV4.out.below hbu); replace HO4 := hid (HO4.out.below hbu); replace HW := hid (belNx HW.out hbu); clear hbu hb; clear x0 x1 x2 x3 x4 x5 y0 y1 y2 y3 y4 y5; obtain ⟨x0, x1, x2, x3, x4, x5⟩ := HO4.out.cells; obtain ⟨y0, y1, y2, y3, y4, y5⟩ := HO1.out.cells) | (go_simp; go_at_call 21; (with_reducible refine (canon_litc (f := cc) (cc) ?_ ?_ ?_ ?_).mono ?_); exact HC2.out; (first | exact HV4.out.vf | exact (HV4.out.below (by go_grown)).vf); (first | exact HG.out | exact HG.out.nx (by go_grown)); (first | exact HK.out | exact HK.out.nx (by go_grown)); rintro e U ⟨A', c', rfl, hv, hb⟩; have hbu := bel_of HG.out (by first | exact Below.refl _ _ | go_grown) hb; replace HG := hid (HG.out.nx hbu); replace HK := hid (HK.out.nx hbu); replace HB := hid (belNx HB.out hbu); replace HO1 := hid (HO1.out.below hbu); replace HF := hid (HF.out.below hbu); replace HV4 := hid (HV4.out.below hbu); replace HO4 := hid (HO4.out.below hbu); replace HW := hid (belNx HW.out hbu); clear hbu hb; have HX1 := hid hv; clear hv; clear x0 x1 x2 x3 x4 x5 y0 y1 y2 y3 y4 y5; obtain ⟨x0, x1, x2, x3, x4, x5⟩ := HO4.out.cells; obtain ⟨y0, y1, y2, y3, y4, y5⟩ := HO1.out.cells) | (go_simp; go_at_call 15; (with_reducible refine (comparec_lit (f := cc) (f2 := cc) 0 ?_ ?_ ?_ ?_).mono ?_); exact cmp_self cc; exact HSC.out; (first | exact HX1.out | exact HX1.out.below (by go_grown)); (first | exact HV4.out.vf | exact (HV4.out.below (by go_grown)).vf); rintro e U ⟨rfl, hb⟩; have hbu := bel_of HG.out (by first | exact Below.refl _ _ | go_grown) hb; replace HG := hid (HG.out.nx hbu); replace HK := hid (HK.out.nx hbu); replace HB := hid (belNx HB.out hbu); replace HO1 := hid (HO1.out.below hbu); replace HF := hid (HF.out.below hbu); replace HV4 := hid (HV4.out.below hbu); replace HO4 := hid (HO4.out.below hbu); replace HW := hid (belNx HW.out hbu); clear hbu hb; clear x0 x1 x2 x3 x4 x5 y0 y1 y2 y3 y4 y5; obtain ⟨x0, x1, x2, x3, x4, x5⟩ := HO4.out.cells; obtain ⟨y0, y1, y2, y3, y4, y5⟩ := HO1.out.cells) | (go_simp; go_at_call 14; (with_reducible refine (iskernel_lit (f := f) false ?_ ?_ ?_ ?_).mono ?_); exact HKF.out; (first | exact HF.out | exact HF.out.below (by go_grown)); (first | exact HG.out | exact HG.out.nx (by go_grown)); (first | exact HK.out | exact HK.out.nx (by go_grown)); rintro e U ⟨rfl, hb⟩; have hbu := bel_of HG.out (by first | exact Below.refl _ _ | go_grown) hb; replace HG := hid (HG.out.nx hbu); replace HK := hid (HK.out.nx hbu); replace HB := hid (belNx HB.out hbu); replace HO1 := hid (HO1.out.below hbu); replace HF := hid (HF.out.below hbu); replace HV4 := hid (HV4.out.below hbu); replace HO4 := hid (HO4.out.below hbu); replace HW := hid (belNx HW.out hbu); (try (replace HX1 := hid (HX1.out.below hbu))); clear hbu hb; clear x0 x1 x2 x3 x4 x5 y0 y1 y2 y3 y4 y5; obtain ⟨x0, x1, x2, x3, x4, x5⟩ := HO4.out.cells; obtain ⟨y0, y1, y2, y3, y4, y5⟩ := HO1.out.cells))
      all_goals
        refine tail_close HTL.out ?_ ?_
        · first
            | exact ⟨rfl, (by first | exact HW.out | exact (Drawn.n _ _).below _ | exact belNx HW.out (by go_grown))⟩
        · kernel_rfl
    · have HKF := hid hk
      have HKG := hid (HKC.out hk)
      clear hk
      obtain ⟨x0, x1, x2, x3, x4, x5⟩ := HO4.out.cells
      obtain ⟨y0, y1, y2, y3, y4, y5⟩ := HO1.out.cells
      go_region_held3 (fun W' : World => W'.cell? ⟨b4, 0, none⟩ = some (.int .i64 (cc.op)) ∧ W'.cell? ⟨b4, 1, none⟩ = some (.string cc.name) ∧ W'.cell? ⟨b4, 2, none⟩ = some (.int .i64 (cc.val)) ∧ W'.cell? ⟨b4, 3, none⟩ = some (.int .i64 (cc.bound)) ∧ W'.cell? ⟨b4, 4, none⟩ = some (.slice A4 cc.args.length c4) ∧ W'.cell? ⟨b1, 0, none⟩ = some (.int .i64 (f.op)) ∧ W'.cell? ⟨b1, 1, none⟩ = some (.string f.name) ∧ W'.cell? ⟨b1, 2, none⟩ = some (.int .i64 (f.val)) ∧ W'.cell? ⟨b1, 3, none⟩ = some (.int .i64 (f.bound)) ∧ W'.cell? ⟨b1, 4, none⟩ = some (.slice A f.args.length c))
        (first | (with_reducible exact ⟨(HO4.out).cells.1, (HO4.out).cells.2.1, (HO4.out).cells.2.2.1, (HO4.out).cells.2.2.2.1, (HO4.out).cells.2.2.2.2.1, (HO1.out).cells.1, (HO1.out).cells.2.1, (HO1.out).cells.2.2.1, (HO1.out).cells.2.2.2.1, (HO1.out).cells.2.2.2.2.1⟩) | (with_reducible exact ⟨(HO4.out.alloc _).cells.1, (HO4.out.alloc _).cells.2.1, (HO4.out.alloc _).cells.2.2.1, (HO4.out.alloc _).cells.2.2.2.1, (HO4.out.alloc _).cells.2.2.2.2.1, (HO1.out.alloc _).cells.1, (HO1.out.alloc _).cells.2.1, (HO1.out.alloc _).cells.2.2.1, (HO1.out.alloc _).cells.2.2.2.1, (HO1.out.alloc _).cells.2.2.2.2.1⟩) | (with_reducible exact ⟨((HO4.out.alloc _).alloc _).cells.1, ((HO4.out.alloc _).alloc _).cells.2.1, ((HO4.out.alloc _).alloc _).cells.2.2.1, ((HO4.out.alloc _).alloc _).cells.2.2.2.1, ((HO4.out.alloc _).alloc _).cells.2.2.2.2.1, ((HO1.out.alloc _).alloc _).cells.1, ((HO1.out.alloc _).alloc _).cells.2.1, ((HO1.out.alloc _).alloc _).cells.2.2.1, ((HO1.out.alloc _).alloc _).cells.2.2.2.1, ((HO1.out.alloc _).alloc _).cells.2.2.2.2.1⟩) | (go_keep; done))
        (first | (go_at_call 18; (with_reducible refine (rloose_lit (f := cc) true ?_ ?_).mono ?_); exact HLC.out; (first | exact HV4.out.vf | exact (HV4.out.below (by go_grown)).vf); rintro e U ⟨rfl, hb⟩; have hbu := bel_of HG.out (by first | exact Below.refl _ _ | go_grown) hb; replace HG := hid (HG.out.nx hbu); replace HK := hid (HK.out.nx hbu); replace HB := hid (belNx HB.out hbu); replace HO1 := hid (HO1.out.below hbu); replace HF := hid (HF.out.below hbu); replace HV4 := hid (HV4.out.below hbu); replace HO4 := hid (HO4.out.below hbu); replace HW := hid (belNx HW.out hbu); clear hbu hb) | (go_at_call 22; (with_reducible refine (size_lit (f := cc) (nc : Int) ?_ ?_ ?_ ?_ ?_).mono ?_); exact HNC.out; exact HDC.out; exact HSC.out; (first | exact HV4.out.vf | exact (HV4.out.below (by go_grown)).vf); (first | exact HG.out | exact HG.out.nx (by go_grown)); rintro e U ⟨rfl, hb⟩; have hbu := bel_of HG.out (by first | exact Below.refl _ _ | go_grown) hb; replace HG := hid (HG.out.nx hbu); replace HK := hid (HK.out.nx hbu); replace HB := hid (belNx HB.out hbu); replace HO1 := hid (HO1.out.below hbu); replace HF := hid (HF.out.below hbu); replace HV4 := hid (HV4.out.below hbu); replace HO4 := hid (HO4.out.below hbu); replace HW := hid (belNx HW.out hbu); clear hbu hb) | (go_at_call 22; (with_reducible refine (size_lit (f := f) (nf : Int) ?_ ?_ ?_ ?_ ?_).mono ?_); exact HNF.out; exact HDF.out; exact HSF.out; (first | exact HF.out | exact HF.out.below (by go_grown)); (first | exact HG.out | exact HG.out.nx (by go_grown)); rintro e U ⟨rfl, hb⟩; have hbu := bel_of HG.out (by first | exact Below.refl _ _ | go_grown) hb; replace HG := hid (HG.out.nx hbu); replace HK := hid (HK.out.nx hbu); replace HB := hid (belNx HB.out hbu); replace HO1 := hid (HO1.out.below hbu); replace HF := hid (HF.out.below hbu); replace HV4 := hid (HV4.out.below hbu); replace HO4 := hid (HO4.out.below hbu); replace HW := hid (belNx HW.out hbu); clear hbu hb) | (go_at_call 21; (with_reducible refine (canon_litc (f := cc) (cc) ?_ ?_ ?_ ?_).mono ?_); exact HC2.out; (first | exact HV4.out.vf | exact (HV4.out.below (by go_grown)).vf); (first | exact HG.out | exact HG.out.nx (by go_grown)); (first | exact HK.out | exact HK.out.nx (by go_grown)); rintro e U ⟨A', c', rfl, hv, hb⟩; have hbu := bel_of HG.out (by first | exact Below.refl _ _ | go_grown) hb; replace HG := hid (HG.out.nx hbu); replace HK := hid (HK.out.nx hbu); replace HB := hid (belNx HB.out hbu); replace HO1 := hid (HO1.out.below hbu); replace HF := hid (HF.out.below hbu); replace HV4 := hid (HV4.out.below hbu); replace HO4 := hid (HO4.out.below hbu); replace HW := hid (belNx HW.out hbu); clear hbu hb; have HX1 := hid hv; clear hv) | (go_at_call 15; (with_reducible refine (comparec_lit (f := cc) (f2 := cc) 0 ?_ ?_ ?_ ?_).mono ?_); exact cmp_self cc; exact HSC.out; (first | exact HX1.out | exact HX1.out.below (by go_grown)); (first | exact HV4.out.vf | exact (HV4.out.below (by go_grown)).vf); rintro e U ⟨rfl, hb⟩; have hbu := bel_of HG.out (by first | exact Below.refl _ _ | go_grown) hb; replace HG := hid (HG.out.nx hbu); replace HK := hid (HK.out.nx hbu); replace HB := hid (belNx HB.out hbu); replace HO1 := hid (HO1.out.below hbu); replace HF := hid (HF.out.below hbu); replace HV4 := hid (HV4.out.below hbu); replace HO4 := hid (HO4.out.below hbu); replace HW := hid (belNx HW.out hbu); clear hbu hb) | (go_at_call 14; (with_reducible refine (iskernel_lit (f := f) true ?_ ?_ ?_ ?_).mono ?_); exact HKF.out; (first | exact HF.out | exact HF.out.below (by go_grown)); (first | exact HG.out | exact HG.out.nx (by go_grown)); (first | exact HK.out | exact HK.out.nx (by go_grown)); rintro e U ⟨rfl, hb⟩; have hbu := bel_of HG.out (by first | exact Below.refl _ _ | go_grown) hb; replace HG := hid (HG.out.nx hbu); replace HK := hid (HK.out.nx hbu); replace HB := hid (belNx HB.out hbu); replace HO1 := hid (HO1.out.below hbu); replace HF := hid (HF.out.below hbu); replace HV4 := hid (HV4.out.below hbu); replace HO4 := hid (HO4.out.below hbu); replace HW := hid (belNx HW.out hbu); (try (replace HX1 := hid (HX1.out.below hbu))); clear hbu hb) | (go_at_call 14; (with_reducible refine (iskernel_lit (f := cc) true ?_ ?_ ?_ ?_).mono ?_); exact HKG.out; (first | exact HV4.out.vf | exact (HV4.out.below (by go_grown)).vf); (first | exact HG.out | exact HG.out.nx (by go_grown)); (first | exact HK.out | exact HK.out.nx (by go_grown)); rintro e U ⟨rfl, hb⟩; have hbu := bel_of HG.out (by first | exact Below.refl _ _ | go_grown) hb; replace HG := hid (HG.out.nx hbu); replace HK := hid (HK.out.nx hbu); replace HB := hid (belNx HB.out hbu); replace HO1 := hid (HO1.out.below hbu); replace HF := hid (HF.out.below hbu); replace HV4 := hid (HV4.out.below hbu); replace HO4 := hid (HO4.out.below hbu); replace HW := hid (belNx HW.out hbu); (try (replace HX1 := hid (HX1.out.below hbu))); clear hbu hb))
      all_goals
        refine tail_close HTL.out ?_ ?_
        · first
            | exact ⟨rfl, (by first | exact HW.out | exact (Drawn.n _ _).below _ | exact belNx HW.out (by go_grown))⟩
        · kernel_rfl
  rintro us W1 ⟨hu, hbu⟩
  apply hK
  simp only [putAll, List.range', List.range'_succ, Act.put, List.setIfInBounds_toArray, List.set_cons_zero, List.set_cons_succ, Nat.reduceAdd]
  rw [hu]
  replace HG := hid (HG.out.nx hbu)
  replace HK := hid (HK.out.nx hbu)
  replace HB := hid (belNx HB.out hbu)
  replace HO1 := hid (HO1.out.below hbu)
  replace HF := hid (HF.out.below hbu)
  replace HV4 := hid (HV4.out.below hbu)
  replace HO4 := hid (HO4.out.below hbu)
  clear hK hu hbu
  rename World => W
  go_upto_region 7 with (fail)
  obtain ⟨x0, x1, x2, x3, x4, x5⟩ := HO1.out.cells
  go_upto_region 8 with (go_at_call 23; (with_reducible refine (reversed_litc (f := f) (rg) ?_ ?_ ?_ ?_).mono ?_); exact HRG.out; exact HBR.out; exact HSF.out; (first | exact HF.out | exact HF.out.below (by go_grown)); rintro e U ⟨A5, c5, rfl, hv, hb⟩; have hbu := bel_of HG.out (by first | exact Below.refl _ _ | go_grown) hb; replace HG := hid (HG.out.nx hbu); replace HK := hid (HK.out.nx hbu); replace HB := hid (belNx HB.out hbu); replace HO1 := hid (HO1.out.below hbu); replace HF := hid (HF.out.below hbu); replace HV4 := hid (HV4.out.below hbu); replace HO4 := hid (HO4.out.below hbu); clear hbu hb; have HV5 := hid hv; clear hv; clear x0 x1 x2 x3 x4 x5; obtain ⟨x0, x1, x2, x3, x4, x5⟩ := HO1.out.cells)
  clear x0 x1 x2 x3 x4 x5
  refine wp_gen fun W hW => ?_
  obtain ⟨b5, hbn⟩ : ∃ b5, b5 = U.heap.size := ⟨_, rfl⟩
  rw [← hbn]
  have hb : Below U.heap.size U W := by rw [hW]; go_grown
  have HO5 := hid (show OB W b5 rg.op rg.name rg.val rg.bound A5 rg.args.length c5 by rw [hW]; exact at_new _ _ _ hbn)
  have hbu := hb
  replace HG := hid (HG.out.nx hbu)
  replace HK := hid (HK.out.nx hbu)
  replace HB := hid (belNx HB.out hbu)
  replace HO1 := hid (HO1.out.below hbu)
  replace HF := hid (HF.out.below hbu)
  replace HV4 := hid (HV4.out.below hbu)
  replace HO4 := hid (HO4.out.below hbu)
  replace HV5 := hid (HV5.out.below hbu)
  clear hW hbn hb hbu
  rename World => W
  rename_i K hK
  refine wp_tail K (2 :: List.range' 46 13) (fun us W' => us 2 = .bool true ∧ Below W.heap.size W W') ?_ ?_
  rotate_left
  · intro HTAIL
    have HTL := hid HTAIL
    clear HTAIL hK
    have HW := hid (Below.refl W.heap.size W)
    cases hk : looseB rg
    · have HLR := hid hk
      clear hk
      obtain ⟨x0, x1, x2, x3, x4, x5⟩ := HO5.out.cells
      obtain ⟨y0, y1, y2, y3, y4, y5⟩ := HO4.out.cells
      go_region_law (go_simp; go_at_call 18; (with_reducible refine (rloose_lit (f := rg) false ?_ ?_).mono ?_); exact HLR.out; (first | exact HV5.out.vf | exact (HV5.out.below (by go_grown)).vf); rintro e U ⟨rfl, hb⟩; have hbu := bel_of HG.out (by first | exact Below.refl _ _ | go_grown) hb; replace HG := hid (HG.out.nx hbu); replace HK := hid (HK.out.nx hbu); replace HB := hid (belNx HB.out hbu); replace HO1 := hid (HO1.out.below hbu); replace HF := hid (HF.out.below hbu); replace HV4 := hid (HV4.out.below hbu); replace HO4 := hid (HO4.out.below hbu); replace HV5 := hid (HV5.out.below hbu); replace HO5 := hid (HO5.out.below hbu); replace HW := hid (belNx HW.out hbu); clear hbu hb; clear x0 x1 x2 x3 x4 x5 y0 y1 y2 y3 y4 y5; obtain ⟨x0, x1, x2, x3, x4, x5⟩ := HO5.out.cells; obtain ⟨y0, y1, y2, y3, y4, y5⟩ := HO4.out.cells)
      all_goals
        refine tail_close HTL.out ?_ ?_
        · first
            | exact ⟨rfl, (by first | exact HW.out | exact (Drawn.n _ _).below _ | exact belNx HW.out (by go_grown))⟩
        · kernel_rfl
    · have HLR := hid hk
      have HRC := hid (HRV.out hk)
      clear hk
      obtain ⟨x0, x1, x2, x3, x4, x5⟩ := HO5.out.cells
      obtain ⟨y0, y1, y2, y3, y4, y5⟩ := HO4.out.cells
      go_region_held3 (fun W' : World => W'.cell? ⟨b5, 0, none⟩ = some (.int .i64 (rg.op)) ∧ W'.cell? ⟨b5, 1, none⟩ = some (.string rg.name) ∧ W'.cell? ⟨b5, 2, none⟩ = some (.int .i64 (rg.val)) ∧ W'.cell? ⟨b5, 3, none⟩ = some (.int .i64 (rg.bound)) ∧ W'.cell? ⟨b5, 4, none⟩ = some (.slice A5 rg.args.length c5) ∧ W'.cell? ⟨b4, 0, none⟩ = some (.int .i64 (cc.op)) ∧ W'.cell? ⟨b4, 1, none⟩ = some (.string cc.name) ∧ W'.cell? ⟨b4, 2, none⟩ = some (.int .i64 (cc.val)) ∧ W'.cell? ⟨b4, 3, none⟩ = some (.int .i64 (cc.bound)) ∧ W'.cell? ⟨b4, 4, none⟩ = some (.slice A4 cc.args.length c4))
        (first | (with_reducible exact ⟨(HO5.out).cells.1, (HO5.out).cells.2.1, (HO5.out).cells.2.2.1, (HO5.out).cells.2.2.2.1, (HO5.out).cells.2.2.2.2.1, (HO4.out).cells.1, (HO4.out).cells.2.1, (HO4.out).cells.2.2.1, (HO4.out).cells.2.2.2.1, (HO4.out).cells.2.2.2.2.1⟩) | (with_reducible exact ⟨(HO5.out.alloc _).cells.1, (HO5.out.alloc _).cells.2.1, (HO5.out.alloc _).cells.2.2.1, (HO5.out.alloc _).cells.2.2.2.1, (HO5.out.alloc _).cells.2.2.2.2.1, (HO4.out.alloc _).cells.1, (HO4.out.alloc _).cells.2.1, (HO4.out.alloc _).cells.2.2.1, (HO4.out.alloc _).cells.2.2.2.1, (HO4.out.alloc _).cells.2.2.2.2.1⟩) | (with_reducible exact ⟨((HO5.out.alloc _).alloc _).cells.1, ((HO5.out.alloc _).alloc _).cells.2.1, ((HO5.out.alloc _).alloc _).cells.2.2.1, ((HO5.out.alloc _).alloc _).cells.2.2.2.1, ((HO5.out.alloc _).alloc _).cells.2.2.2.2.1, ((HO4.out.alloc _).alloc _).cells.1, ((HO4.out.alloc _).alloc _).cells.2.1, ((HO4.out.alloc _).alloc _).cells.2.2.1, ((HO4.out.alloc _).alloc _).cells.2.2.2.1, ((HO4.out.alloc _).alloc _).cells.2.2.2.2.1⟩) | (go_keep; done))
        (first | (go_at_call 18; (with_reducible refine (rloose_lit (f := rg) true ?_ ?_).mono ?_); exact HLR.out; (first | exact HV5.out.vf | exact (HV5.out.below (by go_grown)).vf); rintro e U ⟨rfl, hb⟩; have hbu := bel_of HG.out (by first | exact Below.refl _ _ | go_grown) hb; replace HG := hid (HG.out.nx hbu); replace HK := hid (HK.out.nx hbu); replace HB := hid (belNx HB.out hbu); replace HO1 := hid (HO1.out.below hbu); replace HF := hid (HF.out.below hbu); replace HV4 := hid (HV4.out.below hbu); replace HO4 := hid (HO4.out.below hbu); replace HV5 := hid (HV5.out.below hbu); replace HO5 := hid (HO5.out.below hbu); replace HW := hid (belNx HW.out hbu); (try (replace HX1 := hid (HX1.out.below hbu))); clear hbu hb) | (go_at_call 21; (with_reducible refine (canon_litc (f := rg) (cc) ?_ ?_ ?_ ?_).mono ?_); exact HRC.out; (first | exact HV5.out.vf | exact (HV5.out.below (by go_grown)).vf); (first | exact HG.out | exact HG.out.nx (by go_grown)); (first | exact HK.out | exact HK.out.nx (by go_grown)); rintro e U ⟨A', c', rfl, hv, hb⟩; have hbu := bel_of HG.out (by first | exact Below.refl _ _ | go_grown) hb; replace HG := hid (HG.out.nx hbu); replace HK := hid (HK.out.nx hbu); replace HB := hid (belNx HB.out hbu); replace HO1 := hid (HO1.out.below hbu); replace HF := hid (HF.out.below hbu); replace HV4 := hid (HV4.out.below hbu); replace HO4 := hid (HO4.out.below hbu); replace HV5 := hid (HV5.out.below hbu); replace HO5 := hid (HO5.out.below hbu); replace HW := hid (belNx HW.out hbu); (try (replace HX1 := hid (HX1.out.below hbu))); clear hbu hb; have HX1 := hid hv; clear hv) | (go_at_call 15; (with_reducible refine (comparec_lit (f := cc) (f2 := cc) 0 ?_ ?_ ?_ ?_).mono ?_); exact cmp_self cc; exact HSC.out; (first | exact HX1.out | exact HX1.out.below (by go_grown)); (first | exact HV4.out.vf | exact (HV4.out.below (by go_grown)).vf); rintro e U ⟨rfl, hb⟩; have hbu := bel_of HG.out (by first | exact Below.refl _ _ | go_grown) hb; replace HG := hid (HG.out.nx hbu); replace HK := hid (HK.out.nx hbu); replace HB := hid (belNx HB.out hbu); replace HO1 := hid (HO1.out.below hbu); replace HF := hid (HF.out.below hbu); replace HV4 := hid (HV4.out.below hbu); replace HO4 := hid (HO4.out.below hbu); replace HV5 := hid (HV5.out.below hbu); replace HO5 := hid (HO5.out.below hbu); replace HW := hid (belNx HW.out hbu); (try (replace HX1 := hid (HX1.out.below hbu))); clear hbu hb))
      all_goals
        refine tail_close HTL.out ?_ ?_
        · first
            | exact ⟨rfl, (by first | exact HW.out | exact (Drawn.n _ _).below _ | exact belNx HW.out (by go_grown))⟩
        · kernel_rfl
  rintro us W1 ⟨hu, hbu⟩
  apply hK
  simp only [putAll, List.range', List.range'_succ, Act.put, List.setIfInBounds_toArray, List.set_cons_zero, List.set_cons_succ, Nat.reduceAdd]
  rw [hu]
  replace HG := hid (HG.out.nx hbu)
  replace HK := hid (HK.out.nx hbu)
  replace HB := hid (belNx HB.out hbu)
  replace HO1 := hid (HO1.out.below hbu)
  replace HF := hid (HF.out.below hbu)
  replace HV4 := hid (HV4.out.below hbu)
  replace HO4 := hid (HO4.out.below hbu)
  replace HV5 := hid (HV5.out.below hbu)
  replace HO5 := hid (HO5.out.below hbu)
  clear hK hu hbu
  rename World => W
  go_wp2_with fail
  go_ret
  exact ⟨rfl, HB.out⟩
end Go.Proofs.YthdidjmmhhchmaaGreatDoor
