/-
  Walk of FormulaDuality.
-/
import Derived.Test.YthdidjmmhhchmaaGreatDoorZKF
set_option linter.unusedVariables false
set_option linter.unusedSimpArgs false
namespace Go.Proofs.YthdidjmmhhchmaaGreatDoor
open Go.RowKit Go.Shelf
attribute [local go_sem] cell_alloc_old

set_option maxRecDepth 100000 in
set_option maxHeartbeats 8000000 in
theorem duality_any {D E : Dom} (f g : Fm) (v v2 : Value) (w : World) (h : RdF3 w D v f) (h2 : RdF3 w E v2 g) (hg : GF w) (hk : GK w) :
    Calls Tryz.prog 8 #[v, v2] w fun e w' => e = .returned (.bool true) ∧ Below w.heap.size w w' := by
  obtain ⟨A, c, rfl, ha⟩ := h
  obtain ⟨A2, c2, rfl, ha2⟩ := h2
  have HA := hid (VF.of ha)
  have HA2 := hid (VF.of ha2)
  have HG0 := hid hg
  have HK0 := hid hk
  clear ha ha2 hg hk
  go_enter Tryz.func8, Tryz.ntmps8
  go_upto_region 1 with (fail)
  refine wp_gen fun W hW => ?_
  have HB := hid (show Below w.heap.size w W by rw [hW]; go_grown)
  have HO1 := hid (show OB W w.heap.size f.op f.name f.val f.bound A f.args.length c by
    show W.heap[_]? = _
    rw [hW, at_old _ _ _ (by simp)]; exact at_new _ _ _ rfl)
  have HO2 := hid (show OB W (w.heap.size + 1) g.op g.name g.val g.bound A2 g.args.length c2 by rw [hW]; exact at_new _ _ _ (by simp))
  have HF := hid (HA.out.below HB.out)
  have HH := hid (HA2.out.below HB.out)
  have HG := hid (HG0.out.nx HB.out)
  have HK := hid (HK0.out.nx HB.out)
  clear hW HA HA2 HG0 HK0
  obtain ⟨b1, hb1⟩ : ∃ b1, b1 = w.heap.size := ⟨_, rfl⟩
  obtain ⟨b2, hb2⟩ : ∃ b2, b2 = w.heap.size + 1 := ⟨_, rfl⟩
  rw [← hb2] at HO2 ⊢
  rw [← hb1] at HO1 ⊢
  clear hb1 hb2
  go_upto_region 2 with (go_at_call 9; (with_reducible refine (head_any _ ?_ ?_).mono ?_); (first | exact HG.out | exact HG.out.nx (by go_grown)); (first | exact HK.out | exact HK.out.nx (by go_grown)); rintro e U ⟨rfl, hb⟩; have hbu := bel_of HG.out (by first | exact Below.refl _ _ | go_grown) hb; replace HG := hid (HG.out.nx hbu); replace HK := hid (HK.out.nx hbu); replace HB := hid (belNx HB.out hbu); replace HO1 := hid (HO1.out.below hbu); replace HO2 := hid (HO2.out.below hbu); replace HF := hid (HF.out.below hbu); replace HH := hid (HH.out.below hbu); clear hbu hb)
  obtain ⟨x0, x1, x2, x3, x4, x5⟩ := HO1.out.cells
  obtain ⟨y0, y1, y2, y3, y4, y5⟩ := HO2.out.cells
  cases hl : lowB f
  · have HL1 := hid hl
    clear hl
    go_wp2_with (go_at_call 41; (with_reducible refine (low_lit (f := f) false ?_ ?_).mono ?_); exact HL1.out; (first | exact HF.out | exact HF.out.below (by go_grown)); rintro e U ⟨rfl, hb⟩; have hbu := bel_of HG.out (by first | exact Below.refl _ _ | go_grown) hb; replace HG := hid (HG.out.nx hbu); replace HK := hid (HK.out.nx hbu); replace HB := hid (belNx HB.out hbu); replace HO1 := hid (HO1.out.below hbu); replace HO2 := hid (HO2.out.below hbu); replace HF := hid (HF.out.below hbu); replace HH := hid (HH.out.below hbu); clear hbu hb; clear x0 x1 x2 x3 x4 x5 y0 y1 y2 y3 y4 y5; obtain ⟨x0, x1, x2, x3, x4, x5⟩ := HO1.out.cells; obtain ⟨y0, y1, y2, y3, y4, y5⟩ := HO2.out.cells)
    go_ret
    exact ⟨rfl, HB.out⟩
  cases hl2 : lowB g
  · have HL1 := hid hl
    have HL2 := hid hl2
    clear hl hl2
    go_wp2_with (first | (go_at_call 41; (with_reducible refine (low_lit (f := f) true ?_ ?_).mono ?_); exact HL1.out; (first | exact HF.out | exact HF.out.below (by go_grown)); rintro e U ⟨rfl, hb⟩; have hbu := bel_of HG.out (by first | exact Below.refl _ _ | go_grown) hb; replace HG := hid (HG.out.nx hbu); replace HK := hid (HK.out.nx hbu); replace HB := hid (belNx HB.out hbu); replace HO1 := hid (HO1.out.below hbu); replace HO2 := hid (HO2.out.below hbu); replace HF := hid (HF.out.below hbu); replace HH := hid (HH.out.below hbu); clear hbu hb; clear x0 x1 x2 x3 x4 x5 y0 y1 y2 y3 y4 y5; obtain ⟨x0, x1, x2, x3, x4, x5⟩ := HO1.out.cells; obtain ⟨y0, y1, y2, y3, y4, y5⟩ := HO2.out.cells) | (go_at_call 41; (with_reducible refine (low_lit (f := g) false ?_ ?_).mono ?_); exact HL2.out; (first | exact HH.out | exact HH.out.below (by go_grown)); rintro e U ⟨rfl, hb⟩; have hbu := bel_of HG.out (by first | exact Below.refl _ _ | go_grown) hb; replace HG := hid (HG.out.nx hbu); replace HK := hid (HK.out.nx hbu); replace HB := hid (belNx HB.out hbu); replace HO1 := hid (HO1.out.below hbu); replace HO2 := hid (HO2.out.below hbu); replace HF := hid (HF.out.below hbu); replace HH := hid (HH.out.below hbu); clear hbu hb; clear x0 x1 x2 x3 x4 x5 y0 y1 y2 y3 y4 y5; obtain ⟨x0, x1, x2, x3, x4, x5⟩ := HO1.out.cells; obtain ⟨y0, y1, y2, y3, y4, y5⟩ := HO2.out.cells))
    go_ret
    exact ⟨rfl, HB.out⟩
  have HL1 := hid hl
  have HL2 := hid hl2
  have HD := hid (dual_not hl)
  have HJ5 := hid (dual_join (op := 5) (.inl rfl) hl hl2)
  have HJ6 := hid (dual_join (op := 6) (.inr rfl) hl hl2)
  have HSF := hid (show sizes [f, g] ≤ 1000000 by have := (low_out hl).1; have := (low_out hl2).1; simp only [sizes]; omega)
  have HSN := hid (show sizes [notZ f, notZ g] ≤ 1000000 by have := (low_not hl).2.2.1; have := (low_not hl2).2.2.1; rw [(low_not hl).1, (low_not hl2).1]; simp only [sizes]; omega)
  have HSC := hid (canonicalZ_size (notZ f))
  have HS5 := hid (connZ_size 5 [notZ f, notZ g])
  have HS6 := hid (connZ_size 6 [notZ f, notZ g])
  clear hl hl2
  obtain ⟨n, hn⟩ : ∃ q, notZ f = q := ⟨_, rfl⟩
  obtain ⟨m, hm⟩ : ∃ q, notZ g = q := ⟨_, rfl⟩
  obtain ⟨cf, hcf⟩ : ∃ q, canonicalZ f = q := ⟨_, rfl⟩
  obtain ⟨nf, hnf⟩ : ∃ q, notZ cf = q := ⟨_, rfl⟩
  rw [hn, hcf, hnf] at HD
  rw [hn, hm] at HJ5 HJ6 HSN HS5 HS6
  rw [hn] at HSC
  obtain ⟨fg, hfg⟩ : ∃ q, connZ 5 [f, g] = q := ⟨_, rfl⟩
  obtain ⟨og, hog⟩ : ∃ q, connZ 6 [f, g] = q := ⟨_, rfl⟩
  obtain ⟨bo, hbo⟩ : ∃ q, notZ fg = q := ⟨_, rfl⟩
  obtain ⟨on, hon⟩ : ∃ q, notZ og = q := ⟨_, rfl⟩
  rw [hfg, hbo] at HJ5
  rw [hog, hon] at HJ6
  obtain ⟨x, hx⟩ : ∃ q, connZ 6 [n, m] = q := ⟨_, rfl⟩
  obtain ⟨y, hy⟩ : ∃ q, connZ 5 [n, m] = q := ⟨_, rfl⟩
  have HJ5' := hid (show canonicalZ bo = x by rw [← hx]; exact HJ5.out)
  have HJ6' := hid (show canonicalZ on = y by rw [← hy]; exact HJ6.out)
  rw [hx] at HS6
  rw [hy] at HS5
  obtain ⟨cc, hcc⟩ : ∃ q, canonicalZ n = q := ⟨_, rfl⟩
  rw [hcc] at HD HSC
  have HD' := hid HD.out.symm
  have HN := hid hn
  have HM := hid hm
  have HCF := hid hcf
  have HNF := hid hnf
  have HFG := hid hfg
  have HOG := hid hog
  have HBO := hid hbo
  have HON := hid hon
  have HX := hid hx
  have HY := hid hy
  have HCC := hid hcc
  clear hn hm hcf hnf hfg hog hbo hon hx hy hcc HD HJ5 HJ6
  go_upto_region 4 with (first | (go_at_call 41; (with_reducible refine (low_lit (f := f) true ?_ ?_).mono ?_); exact HL1.out; (first | exact HF.out | exact HF.out.below (by go_grown)); rintro e U ⟨rfl, hb⟩; have hbu := bel_of HG.out (by first | exact Below.refl _ _ | go_grown) hb; replace HG := hid (HG.out.nx hbu); replace HK := hid (HK.out.nx hbu); replace HB := hid (belNx HB.out hbu); replace HO1 := hid (HO1.out.below hbu); replace HO2 := hid (HO2.out.below hbu); replace HF := hid (HF.out.below hbu); replace HH := hid (HH.out.below hbu); clear hbu hb; clear x0 x1 x2 x3 x4 x5 y0 y1 y2 y3 y4 y5; obtain ⟨x0, x1, x2, x3, x4, x5⟩ := HO1.out.cells; obtain ⟨y0, y1, y2, y3, y4, y5⟩ := HO2.out.cells) | (go_at_call 41; (with_reducible refine (low_lit (f := g) true ?_ ?_).mono ?_); exact HL2.out; (first | exact HH.out | exact HH.out.below (by go_grown)); rintro e U ⟨rfl, hb⟩; have hbu := bel_of HG.out (by first | exact Below.refl _ _ | go_grown) hb; replace HG := hid (HG.out.nx hbu); replace HK := hid (HK.out.nx hbu); replace HB := hid (belNx HB.out hbu); replace HO1 := hid (HO1.out.below hbu); replace HO2 := hid (HO2.out.below hbu); replace HF := hid (HF.out.below hbu); replace HH := hid (HH.out.below hbu); clear hbu hb; clear x0 x1 x2 x3 x4 x5 y0 y1 y2 y3 y4 y5; obtain ⟨x0, x1, x2, x3, x4, x5⟩ := HO1.out.cells; obtain ⟨y0, y1, y2, y3, y4, y5⟩ := HO2.out.cells))
  clear x0 x1 x2 x3 x4 x5 y0 y1 y2 y3 y4 y5
  rename World => W
  obtain ⟨x0, x1, x2, x3, x4, x5⟩ := HO1.out.cells
  go_upto_region 5 with (go_at_call 19; (with_reducible refine (not_litc (f := f) (n) ?_ ?_ ?_ ?_).mono ?_); exact HN.out; (first | exact HF.out | exact HF.out.below (by go_grown)); (first | exact HG.out | exact HG.out.nx (by go_grown)); (first | exact HK.out | exact HK.out.nx (by go_grown)); rintro e U ⟨A6, c6, rfl, hv, hb⟩; have hbu := bel_of HG.out (by first | exact Below.refl _ _ | go_grown) hb; replace HG := hid (HG.out.nx hbu); replace HK := hid (HK.out.nx hbu); replace HB := hid (belNx HB.out hbu); replace HO1 := hid (HO1.out.below hbu); replace HO2 := hid (HO2.out.below hbu); replace HF := hid (HF.out.below hbu); replace HH := hid (HH.out.below hbu); clear hbu hb; have HV6 := hid hv; clear hv; clear x0 x1 x2 x3 x4 x5; obtain ⟨x0, x1, x2, x3, x4, x5⟩ := HO1.out.cells)
  clear x0 x1 x2 x3 x4 x5
  refine wp_gen fun W hW => ?_
  obtain ⟨b6, hbn⟩ : ∃ b6, b6 = U.heap.size := ⟨_, rfl⟩
  rw [← hbn]
  have hb : Below U.heap.size U W := by rw [hW]; go_grown
  have HO6 := hid (show OB W b6 n.op n.name n.val n.bound A6 n.args.length c6 by rw [hW]; exact at_new _ _ _ hbn)
  have hbu := hb
  replace HG := hid (HG.out.nx hbu)
  replace HK := hid (HK.out.nx hbu)
  replace HB := hid (belNx HB.out hbu)
  replace HO1 := hid (HO1.out.below hbu)
  replace HO2 := hid (HO2.out.below hbu)
  replace HF := hid (HF.out.below hbu)
  replace HH := hid (HH.out.below hbu)
  replace HV6 := hid (HV6.out.below hbu)
  clear hW hbn hb hbu
  rename World => W
  obtain ⟨x0, x1, x2, x3, x4, x5⟩ := HO2.out.cells
  go_upto_region 6 with (go_at_call 19; (with_reducible refine (not_litc (f := g) (m) ?_ ?_ ?_ ?_).mono ?_); exact HM.out; (first | exact HH.out | exact HH.out.below (by go_grown)); (first | exact HG.out | exact HG.out.nx (by go_grown)); (first | exact HK.out | exact HK.out.nx (by go_grown)); rintro e U ⟨A7, c7, rfl, hv, hb⟩; have hbu := bel_of HG.out (by first | exact Below.refl _ _ | go_grown) hb; replace HG := hid (HG.out.nx hbu); replace HK := hid (HK.out.nx hbu); replace HB := hid (belNx HB.out hbu); replace HO1 := hid (HO1.out.below hbu); replace HO2 := hid (HO2.out.below hbu); replace HF := hid (HF.out.below hbu); replace HH := hid (HH.out.below hbu); replace HV6 := hid (HV6.out.below hbu); replace HO6 := hid (HO6.out.below hbu); clear hbu hb; have HV7 := hid hv; clear hv; clear x0 x1 x2 x3 x4 x5; obtain ⟨x0, x1, x2, x3, x4, x5⟩ := HO2.out.cells)
  clear x0 x1 x2 x3 x4 x5
  refine wp_gen fun W hW => ?_
  obtain ⟨b7, hbn⟩ : ∃ b7, b7 = U.heap.size := ⟨_, rfl⟩
  rw [← hbn]
  have hb : Below U.heap.size U W := by rw [hW]; go_grown
  have HO7 := hid (show OB W b7 m.op m.name m.val m.bound A7 m.args.length c7 by rw [hW]; exact at_new _ _ _ hbn)
  have hbu := hb
  replace HG := hid (HG.out.nx hbu)
  replace HK := hid (HK.out.nx hbu)
  replace HB := hid (belNx HB.out hbu)
  replace HO1 := hid (HO1.out.below hbu)
  replace HO2 := hid (HO2.out.below hbu)
  replace HF := hid (HF.out.below hbu)
  replace HH := hid (HH.out.below hbu)
  replace HV6 := hid (HV6.out.below hbu)
  replace HO6 := hid (HO6.out.below hbu)
  replace HV7 := hid (HV7.out.below hbu)
  clear hW hbn hb hbu
  rename World => W
  obtain ⟨x0, x1, x2, x3, x4, x5⟩ := HO6.out.cells
  go_upto_region 7 with (go_at_call 21; (with_reducible refine (canon_litc (f := n) (cc) ?_ ?_ ?_ ?_).mono ?_); exact HCC.out; (first | exact HV6.out.vf | exact (HV6.out.below (by go_grown)).vf); (first | exact HG.out | exact HG.out.nx (by go_grown)); (first | exact HK.out | exact HK.out.nx (by go_grown)); rintro e U ⟨A8, c8, rfl, hv, hb⟩; have hbu := bel_of HG.out (by first | exact Below.refl _ _ | go_grown) hb; replace HG := hid (HG.out.nx hbu); replace HK := hid (HK.out.nx hbu); replace HB := hid (belNx HB.out hbu); replace HO1 := hid (HO1.out.below hbu); replace HO2 := hid (HO2.out.below hbu); replace HF := hid (HF.out.below hbu); replace HH := hid (HH.out.below hbu); replace HV6 := hid (HV6.out.below hbu); replace HO6 := hid (HO6.out.below hbu); replace HV7 := hid (HV7.out.below hbu); replace HO7 := hid (HO7.out.below hbu); clear hbu hb; have HV8 := hid hv; clear hv; clear x0 x1 x2 x3 x4 x5; obtain ⟨x0, x1, x2, x3, x4, x5⟩ := HO6.out.cells)
  clear x0 x1 x2 x3 x4 x5
  refine wp_gen fun W hW => ?_
  obtain ⟨b8, hbn⟩ : ∃ b8, b8 = U.heap.size := ⟨_, rfl⟩
  rw [← hbn]
  have hb : Below U.heap.size U W := by rw [hW]; go_grown
  have HO8 := hid (show OB W b8 cc.op cc.name cc.val cc.bound A8 cc.args.length c8 by rw [hW]; exact at_new _ _ _ hbn)
  have hbu := hb
  replace HG := hid (HG.out.nx hbu)
  replace HK := hid (HK.out.nx hbu)
  replace HB := hid (belNx HB.out hbu)
  replace HO1 := hid (HO1.out.below hbu)
  replace HO2 := hid (HO2.out.below hbu)
  replace HF := hid (HF.out.below hbu)
  replace HH := hid (HH.out.below hbu)
  replace HV6 := hid (HV6.out.below hbu)
  replace HO6 := hid (HO6.out.below hbu)
  replace HV7 := hid (HV7.out.below hbu)
  replace HO7 := hid (HO7.out.below hbu)
  replace HV8 := hid (HV8.out.below hbu)
  clear hW hbn hb hbu
  rename World => W
  rename_i K hK
  refine wp_tail K (List.range' 27 7) (fun us W' => us 33 = .bool false ∧ Below W.heap.size W W') ?_ ?_
  rotate_left
  · intro HTAIL
    have HTL := hid HTAIL
    clear HTAIL hK
    have HW := hid (Below.refl W.heap.size W)
    obtain ⟨x0, x1, x2, x3, x4, x5⟩ := HO8.out.cells
    obtain ⟨y0, y1, y2, y3, y4, y5⟩ := HO1.out.cells
    go_region_held3 (fun W' : World => W'.cell? ⟨b8, 0, none⟩ = some (.int .i64 (cc.op)) ∧ W'.cell? ⟨b8, 1, none⟩ = some (.string cc.name) ∧ W'.cell? ⟨b8, 2, none⟩ = some (.int .i64 (cc.val)) ∧ W'.cell? ⟨b8, 3, none⟩ = some (.int .i64 (cc.bound)) ∧ W'.cell? ⟨b8, 4, none⟩ = some (.slice A8 cc.args.length c8) ∧ W'.cell? ⟨b1, 0, none⟩ = some (.int .i64 (f.op)) ∧ W'.cell? ⟨b1, 1, none⟩ = some (.string f.name) ∧ W'.cell? ⟨b1, 2, none⟩ = some (.int .i64 (f.val)) ∧ W'.cell? ⟨b1, 3, none⟩ = some (.int .i64 (f.bound)) ∧ W'.cell? ⟨b1, 4, none⟩ = some (.slice A f.args.length c))
      (first | (with_reducible exact ⟨(HO8.out).cells.1, (HO8.out).cells.2.1, (HO8.out).cells.2.2.1, (HO8.out).cells.2.2.2.1, (HO8.out).cells.2.2.2.2.1, (HO1.out).cells.1, (HO1.out).cells.2.1, (HO1.out).cells.2.2.1, (HO1.out).cells.2.2.2.1, (HO1.out).cells.2.2.2.2.1⟩) | (with_reducible exact ⟨(HO8.out.alloc _).cells.1, (HO8.out.alloc _).cells.2.1, (HO8.out.alloc _).cells.2.2.1, (HO8.out.alloc _).cells.2.2.2.1, (HO8.out.alloc _).cells.2.2.2.2.1, (HO1.out.alloc _).cells.1, (HO1.out.alloc _).cells.2.1, (HO1.out.alloc _).cells.2.2.1, (HO1.out.alloc _).cells.2.2.2.1, (HO1.out.alloc _).cells.2.2.2.2.1⟩) | (with_reducible exact ⟨((HO8.out.alloc _).alloc _).cells.1, ((HO8.out.alloc _).alloc _).cells.2.1, ((HO8.out.alloc _).alloc _).cells.2.2.1, ((HO8.out.alloc _).alloc _).cells.2.2.2.1, ((HO8.out.alloc _).alloc _).cells.2.2.2.2.1, ((HO1.out.alloc _).alloc _).cells.1, ((HO1.out.alloc _).alloc _).cells.2.1, ((HO1.out.alloc _).alloc _).cells.2.2.1, ((HO1.out.alloc _).alloc _).cells.2.2.2.1, ((HO1.out.alloc _).alloc _).cells.2.2.2.2.1⟩) | (go_keep; done))
      (first | (go_at_call 21; (with_reducible refine (canon_litc (f := f) (cf) ?_ ?_ ?_ ?_).mono ?_); exact HCF.out; (first | exact HF.out | exact HF.out.below (by go_grown)); (first | exact HG.out | exact HG.out.nx (by go_grown)); (first | exact HK.out | exact HK.out.nx (by go_grown)); rintro e U ⟨A', c', rfl, hv, hb⟩; have hbu := bel_of HG.out (by first | exact Below.refl _ _ | go_grown) hb; replace HG := hid (HG.out.nx hbu); replace HK := hid (HK.out.nx hbu); replace HB := hid (belNx HB.out hbu); replace HO1 := hid (HO1.out.below hbu); replace HO2 := hid (HO2.out.below hbu); replace HF := hid (HF.out.below hbu); replace HH := hid (HH.out.below hbu); replace HV6 := hid (HV6.out.below hbu); replace HO6 := hid (HO6.out.below hbu); replace HV7 := hid (HV7.out.below hbu); replace HO7 := hid (HO7.out.below hbu); replace HV8 := hid (HV8.out.below hbu); replace HO8 := hid (HO8.out.below hbu); replace HW := hid (belNx HW.out hbu); (try (replace HC1 := hid (HC1.out.below hbu))); (try (replace HC2 := hid (HC2.out.below hbu))); (try (replace HC3 := hid (HC3.out.below hbu))); clear hbu hb; have HC1 := hid hv; clear hv) | (go_at_call 19; (with_reducible refine (not_litc (f := cf) (nf) ?_ ?_ ?_ ?_).mono ?_); exact HNF.out; (first | exact HC1.out.vf | exact (HC1.out.below (by go_grown)).vf); (first | exact HG.out | exact HG.out.nx (by go_grown)); (first | exact HK.out | exact HK.out.nx (by go_grown)); rintro e U ⟨A', c', rfl, hv, hb⟩; have hbu := bel_of HG.out (by first | exact Below.refl _ _ | go_grown) hb; replace HG := hid (HG.out.nx hbu); replace HK := hid (HK.out.nx hbu); replace HB := hid (belNx HB.out hbu); replace HO1 := hid (HO1.out.below hbu); replace HO2 := hid (HO2.out.below hbu); replace HF := hid (HF.out.below hbu); replace HH := hid (HH.out.below hbu); replace HV6 := hid (HV6.out.below hbu); replace HO6 := hid (HO6.out.below hbu); replace HV7 := hid (HV7.out.below hbu); replace HO7 := hid (HO7.out.below hbu); replace HV8 := hid (HV8.out.below hbu); replace HO8 := hid (HO8.out.below hbu); replace HW := hid (belNx HW.out hbu); (try (replace HC1 := hid (HC1.out.below hbu))); (try (replace HC2 := hid (HC2.out.below hbu))); (try (replace HC3 := hid (HC3.out.below hbu))); clear hbu hb; have HC2 := hid hv; clear hv) | (go_at_call 21; (with_reducible refine (canon_litc (f := nf) (cc) ?_ ?_ ?_ ?_).mono ?_); exact HD'.out; (first | exact HC2.out.vf | exact (HC2.out.below (by go_grown)).vf); (first | exact HG.out | exact HG.out.nx (by go_grown)); (first | exact HK.out | exact HK.out.nx (by go_grown)); rintro e U ⟨A', c', rfl, hv, hb⟩; have hbu := bel_of HG.out (by first | exact Below.refl _ _ | go_grown) hb; replace HG := hid (HG.out.nx hbu); replace HK := hid (HK.out.nx hbu); replace HB := hid (belNx HB.out hbu); replace HO1 := hid (HO1.out.below hbu); replace HO2 := hid (HO2.out.below hbu); replace HF := hid (HF.out.below hbu); replace HH := hid (HH.out.below hbu); replace HV6 := hid (HV6.out.below hbu); replace HO6 := hid (HO6.out.below hbu); replace HV7 := hid (HV7.out.below hbu); replace HO7 := hid (HO7.out.below hbu); replace HV8 := hid (HV8.out.below hbu); replace HO8 := hid (HO8.out.below hbu); replace HW := hid (belNx HW.out hbu); (try (replace HC1 := hid (HC1.out.below hbu))); (try (replace HC2 := hid (HC2.out.below hbu))); (try (replace HC3 := hid (HC3.out.below hbu))); clear hbu hb; have HC3 := hid hv; clear hv) | (go_at_call 15; (with_reducible refine (comparec_lit (f := cc) (f2 := cc) 0 ?_ ?_ ?_ ?_).mono ?_); exact cmp_self cc; exact HSC.out; (first | exact HV8.out | exact HV8.out.below (by go_grown)); (first | exact HC3.out.vf | exact (HC3.out.below (by go_grown)).vf); rintro e U ⟨rfl, hb⟩; have hbu := bel_of HG.out (by first | exact Below.refl _ _ | go_grown) hb; replace HG := hid (HG.out.nx hbu); replace HK := hid (HK.out.nx hbu); replace HB := hid (belNx HB.out hbu); replace HO1 := hid (HO1.out.below hbu); replace HO2 := hid (HO2.out.below hbu); replace HF := hid (HF.out.below hbu); replace HH := hid (HH.out.below hbu); replace HV6 := hid (HV6.out.below hbu); replace HO6 := hid (HO6.out.below hbu); replace HV7 := hid (HV7.out.below hbu); replace HO7 := hid (HO7.out.below hbu); replace HV8 := hid (HV8.out.below hbu); replace HO8 := hid (HO8.out.below hbu); replace HW := hid (belNx HW.out hbu); (try (replace HC1 := hid (HC1.out.below hbu))); (try (replace HC2 := hid (HC2.out.below hbu))); (try (replace HC3 := hid (HC3.out.below hbu))); clear hbu hb))
    all_goals
      refine tail_close HTL.out ?_ ?_
      · first
          | exact ⟨rfl, (by first | exact HW.out | exact (Drawn.n _ _).below _ | exact belNx HW.out (by go_grown))⟩
      · kernel_rfl
  rintro us W1 ⟨hu, hbu⟩
  apply hK
  simp only [putAll, List.range', List.range'_succ, Act.put, List.setIfInBounds_toArray, List.set_cons_zero, List.set_cons_succ, Nat.reduceAdd]
  rw [hu]
  replace HG := hid (HG.out.nx hbu)
  replace HK := hid (HK.out.nx hbu)
  replace HB := hid (belNx HB.out hbu)
  replace HO1 := hid (HO1.out.below hbu)
  replace HO2 := hid (HO2.out.below hbu)
  replace HF := hid (HF.out.below hbu)
  replace HH := hid (HH.out.below hbu)
  replace HV6 := hid (HV6.out.below hbu)
  replace HO6 := hid (HO6.out.below hbu)
  replace HV7 := hid (HV7.out.below hbu)
  replace HO7 := hid (HO7.out.below hbu)
  replace HV8 := hid (HV8.out.below hbu)
  replace HO8 := hid (HO8.out.below hbu)
  clear hK hu hbu
  rename World => W
  clear HO8 HV8 HD' HSC HCC HCF HNF
  go_upto_region 9 with (fail)
  obtain ⟨x0, x1, x2, x3, x4, x5⟩ := HO1.out.cells
  obtain ⟨y0, y1, y2, y3, y4, y5⟩ := HO2.out.cells
  go_upto_region 10 with (first | (go_at_call 37; (with_reducible refine (and_litc (l := [f, g]) (fg) ?_ ?_ ?_ ?_ ?_ ?_).mono ?_); exact HFG.out; (first | (with_reducible exact HSL.out) | exact lit_slice2 ((HF.out.below (by go_grown))) ((HH.out.below (by go_grown))) (at_new _ _ _ rfl) | exact lit_slice2 ((HF.out.below (by go_grown))) ((HH.out.below (by go_grown))) (at_new _ _ _ (by (simp; done))) | exact lit_slice2 ((HF.out.below (by go_grown))) ((HH.out.below (by go_grown))) ((at_old _ _ _ (by (simp; done))).trans (at_new _ _ _ rfl)) | exact lit_slice2 ((HF.out.below (by go_grown))) ((HH.out.below (by go_grown))) ((at_old _ _ _ (by (simp; done))).trans (at_new _ _ _ (by (simp; done))))); rfl; exact HSF.out; (first | exact HG.out | exact HG.out.nx (by go_grown)); (first | exact HK.out | exact HK.out.nx (by go_grown)); rintro e U ⟨A', c', rfl, hv, hb⟩; have hbu := bel_of HG.out (by first | exact Below.refl _ _ | go_grown) hb; replace HG := hid (HG.out.nx hbu); replace HK := hid (HK.out.nx hbu); replace HB := hid (belNx HB.out hbu); replace HO1 := hid (HO1.out.below hbu); replace HO2 := hid (HO2.out.below hbu); replace HF := hid (HF.out.below hbu); replace HH := hid (HH.out.below hbu); replace HV6 := hid (HV6.out.below hbu); replace HO6 := hid (HO6.out.below hbu); replace HV7 := hid (HV7.out.below hbu); replace HO7 := hid (HO7.out.below hbu); clear hbu hb; have HC1 := hid hv; clear hv; clear x0 x1 x2 x3 x4 x5 y0 y1 y2 y3 y4 y5; obtain ⟨x0, x1, x2, x3, x4, x5⟩ := HO1.out.cells; obtain ⟨y0, y1, y2, y3, y4, y5⟩ := HO2.out.cells) | (go_at_call 19; (with_reducible refine (not_litc (f := fg) (bo) ?_ ?_ ?_ ?_).mono ?_); exact HBO.out; (first | exact HC1.out.vf | exact (HC1.out.below (by go_grown)).vf); (first | exact HG.out | exact HG.out.nx (by go_grown)); (first | exact HK.out | exact HK.out.nx (by go_grown)); rintro e U ⟨A9, c9, rfl, hv, hb⟩; have hbu := bel_of HG.out (by first | exact Below.refl _ _ | go_grown) hb; replace HG := hid (HG.out.nx hbu); replace HK := hid (HK.out.nx hbu); replace HB := hid (belNx HB.out hbu); replace HO1 := hid (HO1.out.below hbu); replace HO2 := hid (HO2.out.below hbu); replace HF := hid (HF.out.below hbu); replace HH := hid (HH.out.below hbu); replace HV6 := hid (HV6.out.below hbu); replace HO6 := hid (HO6.out.below hbu); replace HV7 := hid (HV7.out.below hbu); replace HO7 := hid (HO7.out.below hbu); clear hbu hb; have HV9 := hid hv; clear hv; clear x0 x1 x2 x3 x4 x5 y0 y1 y2 y3 y4 y5; obtain ⟨x0, x1, x2, x3, x4, x5⟩ := HO1.out.cells; obtain ⟨y0, y1, y2, y3, y4, y5⟩ := HO2.out.cells))
  clear x0 x1 x2 x3 x4 x5 y0 y1 y2 y3 y4 y5
  try clear HC1
  refine wp_gen fun W hW => ?_
  obtain ⟨b9, hbn⟩ : ∃ b9, b9 = U.heap.size := ⟨_, rfl⟩
  rw [← hbn]
  have hb : Below U.heap.size U W := by rw [hW]; go_grown
  have HO9 := hid (show OB W b9 bo.op bo.name bo.val bo.bound A9 bo.args.length c9 by rw [hW]; exact at_new _ _ _ hbn)
  have hbu := hb
  replace HG := hid (HG.out.nx hbu)
  replace HK := hid (HK.out.nx hbu)
  replace HB := hid (belNx HB.out hbu)
  replace HO1 := hid (HO1.out.below hbu)
  replace HO2 := hid (HO2.out.below hbu)
  replace HF := hid (HF.out.below hbu)
  replace HH := hid (HH.out.below hbu)
  replace HV6 := hid (HV6.out.below hbu)
  replace HO6 := hid (HO6.out.below hbu)
  replace HV7 := hid (HV7.out.below hbu)
  replace HO7 := hid (HO7.out.below hbu)
  replace HV9 := hid (HV9.out.below hbu)
  clear hW hbn hb hbu
  rename World => W
  obtain ⟨x0, x1, x2, x3, x4, x5⟩ := HO1.out.cells
  obtain ⟨y0, y1, y2, y3, y4, y5⟩ := HO2.out.cells
  go_upto_region 11 with (first | (go_at_call 39; (with_reducible refine (or_litc (l := [f, g]) (og) ?_ ?_ ?_ ?_ ?_ ?_).mono ?_); exact HOG.out; (first | (with_reducible exact HSL.out) | exact lit_slice2 ((HF.out.below (by go_grown))) ((HH.out.below (by go_grown))) (at_new _ _ _ rfl) | exact lit_slice2 ((HF.out.below (by go_grown))) ((HH.out.below (by go_grown))) (at_new _ _ _ (by (simp; done))) | exact lit_slice2 ((HF.out.below (by go_grown))) ((HH.out.below (by go_grown))) ((at_old _ _ _ (by (simp; done))).trans (at_new _ _ _ rfl)) | exact lit_slice2 ((HF.out.below (by go_grown))) ((HH.out.below (by go_grown))) ((at_old _ _ _ (by (simp; done))).trans (at_new _ _ _ (by (simp; done))))); rfl; exact HSF.out; (first | exact HG.out | exact HG.out.nx (by go_grown)); (first | exact HK.out | exact HK.out.nx (by go_grown)); rintro e U ⟨A', c', rfl, hv, hb⟩; have hbu := bel_of HG.out (by first | exact Below.refl _ _ | go_grown) hb; replace HG := hid (HG.out.nx hbu); replace HK := hid (HK.out.nx hbu); replace HB := hid (belNx HB.out hbu); replace HO1 := hid (HO1.out.below hbu); replace HO2 := hid (HO2.out.below hbu); replace HF := hid (HF.out.below hbu); replace HH := hid (HH.out.below hbu); replace HV6 := hid (HV6.out.below hbu); replace HO6 := hid (HO6.out.below hbu); replace HV7 := hid (HV7.out.below hbu); replace HO7 := hid (HO7.out.below hbu); replace HV9 := hid (HV9.out.below hbu); replace HO9 := hid (HO9.out.below hbu); clear hbu hb; have HC1 := hid hv; clear hv; clear x0 x1 x2 x3 x4 x5 y0 y1 y2 y3 y4 y5; obtain ⟨x0, x1, x2, x3, x4, x5⟩ := HO1.out.cells; obtain ⟨y0, y1, y2, y3, y4, y5⟩ := HO2.out.cells) | (go_at_call 19; (with_reducible refine (not_litc (f := og) (on) ?_ ?_ ?_ ?_).mono ?_); exact HON.out; (first | exact HC1.out.vf | exact (HC1.out.below (by go_grown)).vf); (first | exact HG.out | exact HG.out.nx (by go_grown)); (first | exact HK.out | exact HK.out.nx (by go_grown)); rintro e U ⟨A10, c10, rfl, hv, hb⟩; have hbu := bel_of HG.out (by first | exact Below.refl _ _ | go_grown) hb; replace HG := hid (HG.out.nx hbu); replace HK := hid (HK.out.nx hbu); replace HB := hid (belNx HB.out hbu); replace HO1 := hid (HO1.out.below hbu); replace HO2 := hid (HO2.out.below hbu); replace HF := hid (HF.out.below hbu); replace HH := hid (HH.out.below hbu); replace HV6 := hid (HV6.out.below hbu); replace HO6 := hid (HO6.out.below hbu); replace HV7 := hid (HV7.out.below hbu); replace HO7 := hid (HO7.out.below hbu); replace HV9 := hid (HV9.out.below hbu); replace HO9 := hid (HO9.out.below hbu); clear hbu hb; have HV10 := hid hv; clear hv; clear x0 x1 x2 x3 x4 x5 y0 y1 y2 y3 y4 y5; obtain ⟨x0, x1, x2, x3, x4, x5⟩ := HO1.out.cells; obtain ⟨y0, y1, y2, y3, y4, y5⟩ := HO2.out.cells))
  clear x0 x1 x2 x3 x4 x5 y0 y1 y2 y3 y4 y5
  try clear HC1
  refine wp_gen fun W hW => ?_
  obtain ⟨b10, hbn⟩ : ∃ b10, b10 = U.heap.size := ⟨_, rfl⟩
  rw [← hbn]
  have hb : Below U.heap.size U W := by rw [hW]; go_grown
  have HO10 := hid (show OB W b10 on.op on.name on.val on.bound A10 on.args.length c10 by rw [hW]; exact at_new _ _ _ hbn)
  have hbu := hb
  replace HG := hid (HG.out.nx hbu)
  replace HK := hid (HK.out.nx hbu)
  replace HB := hid (belNx HB.out hbu)
  replace HO1 := hid (HO1.out.below hbu)
  replace HO2 := hid (HO2.out.below hbu)
  replace HF := hid (HF.out.below hbu)
  replace HH := hid (HH.out.below hbu)
  replace HV6 := hid (HV6.out.below hbu)
  replace HO6 := hid (HO6.out.below hbu)
  replace HV7 := hid (HV7.out.below hbu)
  replace HO7 := hid (HO7.out.below hbu)
  replace HV9 := hid (HV9.out.below hbu)
  replace HO9 := hid (HO9.out.below hbu)
  replace HV10 := hid (HV10.out.below hbu)
  clear hW hbn hb hbu
  rename World => W
  rename_i K hK
  refine wp_tail K (4 :: List.range' 44 21) (fun us W' => us 4 = .bool true ∧ Below W.heap.size W W') ?_ ?_
  rotate_left
  · intro HTAIL
    have HTL := hid HTAIL
    clear HTAIL hK
    have HW := hid (Below.refl W.heap.size W)
    obtain ⟨x0, x1, x2, x3, x4, x5⟩ := HO9.out.cells
    obtain ⟨y0, y1, y2, y3, y4, y5⟩ := HO6.out.cells
    obtain ⟨z0, z1, z2, z3, z4, z5⟩ := HO7.out.cells
    obtain ⟨s0, s1, s2, s3, s4, s5⟩ := HO10.out.cells
    go_region_held3 (fun W' : World => W'.cell? ⟨b9, 0, none⟩ = some (.int .i64 (bo.op)) ∧ W'.cell? ⟨b9, 1, none⟩ = some (.string bo.name) ∧ W'.cell? ⟨b9, 2, none⟩ = some (.int .i64 (bo.val)) ∧ W'.cell? ⟨b9, 3, none⟩ = some (.int .i64 (bo.bound)) ∧ W'.cell? ⟨b9, 4, none⟩ = some (.slice A9 bo.args.length c9) ∧ W'.cell? ⟨b6, 0, none⟩ = some (.int .i64 (n.op)) ∧ W'.cell? ⟨b6, 1, none⟩ = some (.string n.name) ∧ W'.cell? ⟨b6, 2, none⟩ = some (.int .i64 (n.val)) ∧ W'.cell? ⟨b6, 3, none⟩ = some (.int .i64 (n.bound)) ∧ W'.cell? ⟨b6, 4, none⟩ = some (.slice A6 n.args.length c6) ∧ W'.cell? ⟨b7, 0, none⟩ = some (.int .i64 (m.op)) ∧ W'.cell? ⟨b7, 1, none⟩ = some (.string m.name) ∧ W'.cell? ⟨b7, 2, none⟩ = some (.int .i64 (m.val)) ∧ W'.cell? ⟨b7, 3, none⟩ = some (.int .i64 (m.bound)) ∧ W'.cell? ⟨b7, 4, none⟩ = some (.slice A7 m.args.length c7) ∧ W'.cell? ⟨b10, 0, none⟩ = some (.int .i64 (on.op)) ∧ W'.cell? ⟨b10, 1, none⟩ = some (.string on.name) ∧ W'.cell? ⟨b10, 2, none⟩ = some (.int .i64 (on.val)) ∧ W'.cell? ⟨b10, 3, none⟩ = some (.int .i64 (on.bound)) ∧ W'.cell? ⟨b10, 4, none⟩ = some (.slice A10 on.args.length c10))
      (first | (with_reducible exact ⟨(HO9.out).cells.1, (HO9.out).cells.2.1, (HO9.out).cells.2.2.1, (HO9.out).cells.2.2.2.1, (HO9.out).cells.2.2.2.2.1, (HO6.out).cells.1, (HO6.out).cells.2.1, (HO6.out).cells.2.2.1, (HO6.out).cells.2.2.2.1, (HO6.out).cells.2.2.2.2.1, (HO7.out).cells.1, (HO7.out).cells.2.1, (HO7.out).cells.2.2.1, (HO7.out).cells.2.2.2.1, (HO7.out).cells.2.2.2.2.1, (HO10.out).cells.1, (HO10.out).cells.2.1, (HO10.out).cells.2.2.1, (HO10.out).cells.2.2.2.1, (HO10.out).cells.2.2.2.2.1⟩) | (with_reducible exact ⟨(HO9.out.alloc _).cells.1, (HO9.out.alloc _).cells.2.1, (HO9.out.alloc _).cells.2.2.1, (HO9.out.alloc _).cells.2.2.2.1, (HO9.out.alloc _).cells.2.2.2.2.1, (HO6.out.alloc _).cells.1, (HO6.out.alloc _).cells.2.1, (HO6.out.alloc _).cells.2.2.1, (HO6.out.alloc _).cells.2.2.2.1, (HO6.out.alloc _).cells.2.2.2.2.1, (HO7.out.alloc _).cells.1, (HO7.out.alloc _).cells.2.1, (HO7.out.alloc _).cells.2.2.1, (HO7.out.alloc _).cells.2.2.2.1, (HO7.out.alloc _).cells.2.2.2.2.1, (HO10.out.alloc _).cells.1, (HO10.out.alloc _).cells.2.1, (HO10.out.alloc _).cells.2.2.1, (HO10.out.alloc _).cells.2.2.2.1, (HO10.out.alloc _).cells.2.2.2.2.1⟩) | (with_reducible exact ⟨((HO9.out.alloc _).alloc _).cells.1, ((HO9.out.alloc _).alloc _).cells.2.1, ((HO9.out.alloc _).alloc _).cells.2.2.1, ((HO9.out.alloc _).alloc _).cells.2.2.2.1, ((HO9.out.alloc _).alloc _).cells.2.2.2.2.1, ((HO6.out.alloc _).alloc _).cells.1, ((HO6.out.alloc _).alloc _).cells.2.1, ((HO6.out.alloc _).alloc _).cells.2.2.1, ((HO6.out.alloc _).alloc _).cells.2.2.2.1, ((HO6.out.alloc _).alloc _).cells.2.2.2.2.1, ((HO7.out.alloc _).alloc _).cells.1, ((HO7.out.alloc _).alloc _).cells.2.1, ((HO7.out.alloc _).alloc _).cells.2.2.1, ((HO7.out.alloc _).alloc _).cells.2.2.2.1, ((HO7.out.alloc _).alloc _).cells.2.2.2.2.1, ((HO10.out.alloc _).alloc _).cells.1, ((HO10.out.alloc _).alloc _).cells.2.1, ((HO10.out.alloc _).alloc _).cells.2.2.1, ((HO10.out.alloc _).alloc _).cells.2.2.2.1, ((HO10.out.alloc _).alloc _).cells.2.2.2.2.1⟩) | (go_keep; done))
      (first | (go_at_call 21; (with_reducible refine (canon_litc (f := bo) (x) ?_ ?_ ?_ ?_).mono ?_); exact HJ5'.out; (first | exact HV9.out.vf | exact (HV9.out.below (by go_grown)).vf); (first | exact HG.out | exact HG.out.nx (by go_grown)); (first | exact HK.out | exact HK.out.nx (by go_grown)); rintro e U ⟨A', c', rfl, hv, hb⟩; have hbu := bel_of HG.out (by first | exact Below.refl _ _ | go_grown) hb; (first | (replace HSL := hid (HSL.out.any hbu)) | (have HSL := hid (sl2_ofd hb (((HV6.out.below (by first | exact Below.refl _ _ | go_grown))).vf) (((HV7.out.below (by first | exact Below.refl _ _ | go_grown))).vf) (at_new _ _ _ rfl))) | (have HSL := hid (sl2_ofd hb (((HV6.out.below (by first | exact Below.refl _ _ | go_grown))).vf) (((HV7.out.below (by first | exact Below.refl _ _ | go_grown))).vf) ((at_old _ _ _ (by (simp; done))).trans (at_new _ _ _ rfl)))) | (have HSL := hid (sl2_ofd hb (((HV6.out.below (by first | exact Below.refl _ _ | go_grown))).vf) (((HV7.out.below (by first | exact Below.refl _ _ | go_grown))).vf) ((at_old _ _ _ (by (simp; done))).trans (at_new _ _ _ (by (simp; done)))))) | (have HSL := hid (sl2_of hb (((HV6.out.below (by first | exact Below.refl _ _ | go_grown))).vf) (((HV7.out.below (by first | exact Below.refl _ _ | go_grown))).vf) (at_new _ _ _ rfl))) | (have HSL := hid (sl2_of hb (((HV6.out.below (by first | exact Below.refl _ _ | go_grown))).vf) (((HV7.out.below (by first | exact Below.refl _ _ | go_grown))).vf) ((at_old _ _ _ (by (simp; done))).trans (at_new _ _ _ rfl)))) | (have HSL := hid (sl2_of hb (((HV6.out.below (by first | exact Below.refl _ _ | go_grown))).vf) (((HV7.out.below (by first | exact Below.refl _ _ | go_grown))).vf) ((at_old _ _ _ (by (simp; done))).trans (at_new _ _ _ (by (simp; done)))))) | skip); replace HG := hid (HG.out.nx hbu); replace HK := hid (HK.out.nx hbu); replace HB := hid (belNx HB.out hbu); replace HO1 := hid (HO1.out.below hbu); replace HO2 := hid (HO2.out.below hbu); replace HF := hid (HF.out.below hbu); replace HH := hid (HH.out.below hbu); replace HV6 := hid (HV6.out.below hbu); replace HO6 := hid (HO6.out.below hbu); replace HV7 := hid (HV7.out.below hbu); replace HO7 := hid (HO7.out.below hbu); replace HV9 := hid (HV9.out.below hbu); replace HO9 := hid (HO9.out.below hbu); replace HV10 := hid (HV10.out.below hbu); replace HO10 := hid (HO10.out.below hbu); replace HW := hid (belNx HW.out hbu); (try (replace HC1 := hid (HC1.out.below hbu))); (try (replace HC2 := hid (HC2.out.below hbu))); (try (replace HC3 := hid (HC3.out.below hbu))); (try (replace HC4 := hid (HC4.out.below hbu))); clear hbu hb; have HC1 := hid hv; clear hv) | (go_at_call 39; (with_reducible refine (or_litc (l := [n, m]) (x) ?_ ?_ ?_ ?_ ?_ ?_).mono ?_); exact HX.out; (first | (with_reducible exact HSL.out) | exact lit_slice2 ((HV6.out.below (by go_grown)).vf) ((HV7.out.below (by go_grown)).vf) (at_new _ _ _ rfl) | exact lit_slice2 ((HV6.out.below (by go_grown)).vf) ((HV7.out.below (by go_grown)).vf) (at_new _ _ _ (by (simp; done))) | exact lit_slice2 ((HV6.out.below (by go_grown)).vf) ((HV7.out.below (by go_grown)).vf) ((at_old _ _ _ (by (simp; done))).trans (at_new _ _ _ rfl)) | exact lit_slice2 ((HV6.out.below (by go_grown)).vf) ((HV7.out.below (by go_grown)).vf) ((at_old _ _ _ (by (simp; done))).trans (at_new _ _ _ (by (simp; done))))); rfl; exact HSN.out; (first | exact HG.out | exact HG.out.nx (by go_grown)); (first | exact HK.out | exact HK.out.nx (by go_grown)); rintro e U ⟨A', c', rfl, hv, hb⟩; have hbu := bel_of HG.out (by first | exact Below.refl _ _ | go_grown) hb; replace HG := hid (HG.out.nx hbu); replace HK := hid (HK.out.nx hbu); replace HB := hid (belNx HB.out hbu); replace HO1 := hid (HO1.out.below hbu); replace HO2 := hid (HO2.out.below hbu); replace HF := hid (HF.out.below hbu); replace HH := hid (HH.out.below hbu); replace HV6 := hid (HV6.out.below hbu); replace HO6 := hid (HO6.out.below hbu); replace HV7 := hid (HV7.out.below hbu); replace HO7 := hid (HO7.out.below hbu); replace HV9 := hid (HV9.out.below hbu); replace HO9 := hid (HO9.out.below hbu); replace HV10 := hid (HV10.out.below hbu); replace HO10 := hid (HO10.out.below hbu); replace HW := hid (belNx HW.out hbu); (try (replace HC1 := hid (HC1.out.below hbu))); (try (replace HC2 := hid (HC2.out.below hbu))); (try (replace HC3 := hid (HC3.out.below hbu))); (try (replace HC4 := hid (HC4.out.below hbu))); clear hbu hb; have HC2 := hid hv; clear hv; (try clear HSL)) | (go_at_call 15; (with_reducible refine (comparec_lit (f := x) (f2 := x) 0 ?_ ?_ ?_ ?_).mono ?_); exact cmp_self x; exact HS6.out; (first | exact HC1.out | exact HC1.out.below (by go_grown)); (first | exact HC2.out.vf | exact (HC2.out.below (by go_grown)).vf); rintro e U ⟨rfl, hb⟩; have hbu := bel_of HG.out (by first | exact Below.refl _ _ | go_grown) hb; replace HG := hid (HG.out.nx hbu); replace HK := hid (HK.out.nx hbu); replace HB := hid (belNx HB.out hbu); replace HO1 := hid (HO1.out.below hbu); replace HO2 := hid (HO2.out.below hbu); replace HF := hid (HF.out.below hbu); replace HH := hid (HH.out.below hbu); replace HV6 := hid (HV6.out.below hbu); replace HO6 := hid (HO6.out.below hbu); replace HV7 := hid (HV7.out.below hbu); replace HO7 := hid (HO7.out.below hbu); replace HV9 := hid (HV9.out.below hbu); replace HO9 := hid (HO9.out.below hbu); replace HV10 := hid (HV10.out.below hbu); replace HO10 := hid (HO10.out.below hbu); replace HW := hid (belNx HW.out hbu); (try (replace HC1 := hid (HC1.out.below hbu))); (try (replace HC2 := hid (HC2.out.below hbu))); (try (replace HC3 := hid (HC3.out.below hbu))); (try (replace HC4 := hid (HC4.out.below hbu))); clear hbu hb) | (go_at_call 21; (with_reducible refine (canon_litc (f := on) (y) ?_ ?_ ?_ ?_).mono ?_); exact HJ6'.out; (first | exact HV10.out.vf | exact (HV10.out.below (by go_grown)).vf); (first | exact HG.out | exact HG.out.nx (by go_grown)); (first | exact HK.out | exact HK.out.nx (by go_grown)); rintro e U ⟨A', c', rfl, hv, hb⟩; have hbu := bel_of HG.out (by first | exact Below.refl _ _ | go_grown) hb; (first | (replace HSL := hid (HSL.out.any hbu)) | (have HSL := hid (sl2_ofd hb (((HV6.out.below (by first | exact Below.refl _ _ | go_grown))).vf) (((HV7.out.below (by first | exact Below.refl _ _ | go_grown))).vf) (at_new _ _ _ rfl))) | (have HSL := hid (sl2_ofd hb (((HV6.out.below (by first | exact Below.refl _ _ | go_grown))).vf) (((HV7.out.below (by first | exact Below.refl _ _ | go_grown))).vf) ((at_old _ _ _ (by (simp; done))).trans (at_new _ _ _ rfl)))) | (have HSL := hid (sl2_ofd hb (((HV6.out.below (by first | exact Below.refl _ _ | go_grown))).vf) (((HV7.out.below (by first | exact Below.refl _ _ | go_grown))).vf) ((at_old _ _ _ (by (simp; done))).trans (at_new _ _ _ (by (simp; done)))))) | (have HSL := hid (sl2_of hb (((HV6.out.below (by first | exact Below.refl _ _ | go_grown))).vf) (((HV7.out.below (by first | exact Below.refl _ _ | go_grown))).vf) (at_new _ _ _ rfl))) | (have HSL := hid (sl2_of hb (((HV6.out.below (by first | exact Below.refl _ _ | go_grown))).vf) (((HV7.out.below (by first | exact Below.refl _ _ | go_grown))).vf) ((at_old _ _ _ (by (simp; done))).trans (at_new _ _ _ rfl)))) | (have HSL := hid (sl2_of hb (((HV6.out.below (by first | exact Below.refl _ _ | go_grown))).vf) (((HV7.out.below (by first | exact Below.refl _ _ | go_grown))).vf) ((at_old _ _ _ (by (simp; done))).trans (at_new _ _ _ (by (simp; done)))))) | skip); replace HG := hid (HG.out.nx hbu); replace HK := hid (HK.out.nx hbu); replace HB := hid (belNx HB.out hbu); replace HO1 := hid (HO1.out.below hbu); replace HO2 := hid (HO2.out.below hbu); replace HF := hid (HF.out.below hbu); replace HH := hid (HH.out.below hbu); replace HV6 := hid (HV6.out.below hbu); replace HO6 := hid (HO6.out.below hbu); replace HV7 := hid (HV7.out.below hbu); replace HO7 := hid (HO7.out.below hbu); replace HV9 := hid (HV9.out.below hbu); replace HO9 := hid (HO9.out.below hbu); replace HV10 := hid (HV10.out.below hbu); replace HO10 := hid (HO10.out.below hbu); replace HW := hid (belNx HW.out hbu); (try (replace HC1 := hid (HC1.out.below hbu))); (try (replace HC2 := hid (HC2.out.below hbu))); (try (replace HC3 := hid (HC3.out.below hbu))); (try (replace HC4 := hid (HC4.out.below hbu))); clear hbu hb; have HC3 := hid hv; clear hv) | (go_at_call 37; (with_reducible refine (and_litc (l := [n, m]) (y) ?_ ?_ ?_ ?_ ?_ ?_).mono ?_); exact HY.out; (first | (with_reducible exact HSL.out) | exact lit_slice2 ((HV6.out.below (by go_grown)).vf) ((HV7.out.below (by go_grown)).vf) (at_new _ _ _ rfl) | exact lit_slice2 ((HV6.out.below (by go_grown)).vf) ((HV7.out.below (by go_grown)).vf) (at_new _ _ _ (by (simp; done))) | exact lit_slice2 ((HV6.out.below (by go_grown)).vf) ((HV7.out.below (by go_grown)).vf) ((at_old _ _ _ (by (simp; done))).trans (at_new _ _ _ rfl)) | exact lit_slice2 ((HV6.out.below (by go_grown)).vf) ((HV7.out.below (by go_grown)).vf) ((at_old _ _ _ (by (simp; done))).trans (at_new _ _ _ (by (simp; done))))); rfl; exact HSN.out; (first | exact HG.out | exact HG.out.nx (by go_grown)); (first | exact HK.out | exact HK.out.nx (by go_grown)); rintro e U ⟨A', c', rfl, hv, hb⟩; have hbu := bel_of HG.out (by first | exact Below.refl _ _ | go_grown) hb; replace HG := hid (HG.out.nx hbu); replace HK := hid (HK.out.nx hbu); replace HB := hid (belNx HB.out hbu); replace HO1 := hid (HO1.out.below hbu); replace HO2 := hid (HO2.out.below hbu); replace HF := hid (HF.out.below hbu); replace HH := hid (HH.out.below hbu); replace HV6 := hid (HV6.out.below hbu); replace HO6 := hid (HO6.out.below hbu); replace HV7 := hid (HV7.out.below hbu); replace HO7 := hid (HO7.out.below hbu); replace HV9 := hid (HV9.out.below hbu); replace HO9 := hid (HO9.out.below hbu); replace HV10 := hid (HV10.out.below hbu); replace HO10 := hid (HO10.out.below hbu); replace HW := hid (belNx HW.out hbu); (try (replace HC1 := hid (HC1.out.below hbu))); (try (replace HC2 := hid (HC2.out.below hbu))); (try (replace HC3 := hid (HC3.out.below hbu))); (try (replace HC4 := hid (HC4.out.below hbu))); clear hbu hb; have HC4 := hid hv; clear hv; (try clear HSL)) | (go_at_call 15; (with_reducible refine (comparec_lit (f := y) (f2 := y) 0 ?_ ?_ ?_ ?_).mono ?_); exact cmp_self y; exact HS5.out; (first | exact HC3.out | exact HC3.out.below (by go_grown)); (first | exact HC4.out.vf | exact (HC4.out.below (by go_grown)).vf); rintro e U ⟨rfl, hb⟩; have hbu := bel_of HG.out (by first | exact Below.refl _ _ | go_grown) hb; replace HG := hid (HG.out.nx hbu); replace HK := hid (HK.out.nx hbu); replace HB := hid (belNx HB.out hbu); replace HO1 := hid (HO1.out.below hbu); replace HO2 := hid (HO2.out.below hbu); replace HF := hid (HF.out.below hbu); replace HH := hid (HH.out.below hbu); replace HV6 := hid (HV6.out.below hbu); replace HO6 := hid (HO6.out.below hbu); replace HV7 := hid (HV7.out.below hbu); replace HO7 := hid (HO7.out.below hbu); replace HV9 := hid (HV9.out.below hbu); replace HO9 := hid (HO9.out.below hbu); replace HV10 := hid (HV10.out.below hbu); replace HO10 := hid (HO10.out.below hbu); replace HW := hid (belNx HW.out hbu); (try (replace HC1 := hid (HC1.out.below hbu))); (try (replace HC2 := hid (HC2.out.below hbu))); (try (replace HC3 := hid (HC3.out.below hbu))); (try (replace HC4 := hid (HC4.out.below hbu))); clear hbu hb))
    all_goals
      refine tail_close HTL.out ?_ ?_
      · first
          | exact ⟨rfl, (by first | exact HW.out | exact (Drawn.n _ _).below _ | exact belNx HW.out (by go_grown))⟩
      · kernel_rfl
  rintro us W1 ⟨hu, hbu⟩
  apply hK
  simp only [putAll, List.range', List.range'_succ, Act.put, List.setIfInBounds_toArray, List.set_cons_zero, List.set_cons_succ, Nat.reduceAdd]
  rw [hu]
  replace HG := hid (HG.out.nx hbu)
  replace HK := hid (HK.out.nx hbu)
  replace HB := hid (belNx HB.out hbu)
  replace HO1 := hid (HO1.out.below hbu)
  replace HO2 := hid (HO2.out.below hbu)
  replace HF := hid (HF.out.below hbu)
  replace HH := hid (HH.out.below hbu)
  replace HV6 := hid (HV6.out.below hbu)
  replace HO6 := hid (HO6.out.below hbu)
  replace HV7 := hid (HV7.out.below hbu)
  replace HO7 := hid (HO7.out.below hbu)
  replace HV9 := hid (HV9.out.below hbu)
  replace HO9 := hid (HO9.out.below hbu)
  replace HV10 := hid (HV10.out.below hbu)
  replace HO10 := hid (HO10.out.below hbu)
  clear hK hu hbu
  rename World => W
  go_wp2_with fail
  go_ret
  exact ⟨rfl, HB.out⟩
end Go.Proofs.YthdidjmmhhchmaaGreatDoor
