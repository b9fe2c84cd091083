/-
  Walk of FormulaNegation.
-/
import Derived.Test.YthdidjmmhhchmaaGreatDoorZKE
set_option linter.unusedVariables false
set_option linter.unusedSimpArgs false
namespace Go.Proofs.YthdidjmmhhchmaaGreatDoor
open Go.RowKit Go.Shelf
attribute [local go_sem] cell_alloc_old

set_option maxRecDepth 100000 in
set_option maxHeartbeats 8000000 in
theorem negation_any {D : Dom} (f : Fm) (v : Value) (w : World) (h : RdF3 w D v f) (hg : GF w) (hk : GK w) :
    Calls Tryz.prog 4 #[v] w fun e w' => e = .returned (.bool true) ∧ Below w.heap.size w w' := by
  obtain ⟨A, c, rfl, ha⟩ := h
  have HA := hid (VF.of ha)
  have HG0 := hid hg
  have HK0 := hid hk
  clear ha hg hk
  go_enter Tryz.func4, Tryz.ntmps4
  go_upto_region 1 with (fail)
  refine wp_gen fun W hW => ?_
  have HB := hid (show Below w.heap.size w W by rw [hW]; go_grown)
  have HO1 := hid (show OB W w.heap.size f.op f.name f.val f.bound A f.args.length c by rw [hW]; exact at_new _ _ _ rfl)
  have HF := hid (HA.out.below HB.out)
  have HG := hid (HG0.out.nx HB.out)
  have HK := hid (HK0.out.nx HB.out)
  clear hW HA HG0 HK0
  obtain ⟨b1, hb1⟩ : ∃ b1, b1 = w.heap.size := ⟨_, rfl⟩
  rw [← hb1] at HO1 ⊢
  clear hb1
  go_upto_region 2 with (go_at_call 9; (with_reducible refine (head_any _ ?_ ?_).mono ?_); (first | exact HG.out | exact HG.out.nx (by go_grown)); (first | exact HK.out | exact HK.out.nx (by go_grown)); rintro e U ⟨rfl, hb⟩; have hbu := bel_of HG.out (by first | exact Below.refl _ _ | go_grown) hb; replace HG := hid (HG.out.nx hbu); replace HK := hid (HK.out.nx hbu); replace HB := hid (belNx HB.out hbu); replace HO1 := hid (HO1.out.below hbu); replace HF := hid (HF.out.below hbu); clear hbu hb)
  obtain ⟨x0, x1, x2, x3, x4, x5⟩ := HO1.out.cells
  by_cases hs : f.size ≤ 420
  rotate_left
  · go_wp2_with (go_at_call 10; (with_reducible refine (small_lit (f := f) 420 420 rfl ?_ false ?_ ?_).mono ?_); decide; exact decide_eq_false hs; (first | exact HF.out | exact HF.out.below (by go_grown)); rintro e U ⟨rfl, hb⟩; have hbu := bel_of HG.out (by first | exact Below.refl _ _ | go_grown) hb; replace HG := hid (HG.out.nx hbu); replace HK := hid (HK.out.nx hbu); replace HB := hid (belNx HB.out hbu); replace HO1 := hid (HO1.out.below hbu); replace HF := hid (HF.out.below hbu); clear hbu hb; clear x0 x1 x2 x3 x4 x5; obtain ⟨x0, x1, x2, x3, x4, x5⟩ := HO1.out.cells)
    go_ret
    exact ⟨rfl, HB.out⟩
  have HS := hid (decide_eq_true hs)
  have HSZ := hid hs
  clear hs
  go_upto_region 4 with (go_at_call 10; (with_reducible refine (small_lit (f := f) 420 420 rfl ?_ true ?_ ?_).mono ?_); decide; exact HS.out; (first | exact HF.out | exact HF.out.below (by go_grown)); rintro e U ⟨rfl, hb⟩; have hbu := bel_of HG.out (by first | exact Below.refl _ _ | go_grown) hb; replace HG := hid (HG.out.nx hbu); replace HK := hid (HK.out.nx hbu); replace HB := hid (belNx HB.out hbu); replace HO1 := hid (HO1.out.below hbu); replace HF := hid (HF.out.below hbu); clear hbu hb; clear x0 x1 x2 x3 x4 x5; obtain ⟨x0, x1, x2, x3, x4, x5⟩ := HO1.out.cells)
  clear x0 x1 x2 x3 x4 x5
  rename World => W
  have HLAW := hid (neg_kern f)
  have HKS := hid (kernZ_size (opF 4 [f]))
  obtain ⟨⟨k, ek⟩, hke⟩ : ∃ q, kernZ f = q := ⟨_, rfl⟩
  obtain ⟨⟨m, em⟩, hme⟩ : ∃ q, kernZ (opF 4 [f]) = q := ⟨_, rfl⟩
  rw [hke, hme] at HLAW
  rw [hme] at HKS
  simp only at HLAW HKS
  have HKE := hid hke
  have HME := hid hme
  clear hke hme
  cases hl : looseB f
  · have HLO := hid hl
    clear hl
    obtain ⟨x0, x1, x2, x3, x4, x5⟩ := HO1.out.cells
    go_upto_region 8 with (go_at_call 18; (with_reducible refine (rloose_lit (f := f) false ?_ ?_).mono ?_); exact HLO.out; (first | exact HF.out | exact HF.out.below (by go_grown)); rintro e U ⟨rfl, hb⟩; have hbu := bel_of HG.out (by first | exact Below.refl _ _ | go_grown) hb; replace HG := hid (HG.out.nx hbu); replace HK := hid (HK.out.nx hbu); replace HB := hid (belNx HB.out hbu); replace HO1 := hid (HO1.out.below hbu); replace HF := hid (HF.out.below hbu); clear hbu hb; clear x0 x1 x2 x3 x4 x5; obtain ⟨x0, x1, x2, x3, x4, x5⟩ := HO1.out.cells)
    clear x0 x1 x2 x3 x4 x5
    rename World => W
    obtain ⟨x0, x1, x2, x3, x4, x5⟩ := HO1.out.cells
    go_upto_region 9 with (go_at_call 13; (with_reducible refine (kernel_litc (f := f) (k) ek ?_ ?_ ?_ ?_).mono ?_); exact HKE.out; (first | exact HF.out | exact HF.out.below (by go_grown)); (first | exact HG.out | exact HG.out.nx (by go_grown)); (first | exact HK.out | exact HK.out.nx (by go_grown)); rintro e U ⟨A5, c5, rfl, hv, hb⟩; have hbu := bel_of HG.out (by first | exact Below.refl _ _ | go_grown) hb; replace HG := hid (HG.out.nx hbu); replace HK := hid (HK.out.nx hbu); replace HB := hid (belNx HB.out hbu); replace HO1 := hid (HO1.out.below hbu); replace HF := hid (HF.out.below hbu); clear hbu hb; have HV5 := hid hv; clear hv; clear x0 x1 x2 x3 x4 x5; obtain ⟨x0, x1, x2, x3, x4, x5⟩ := HO1.out.cells)
    clear x0 x1 x2 x3 x4 x5
    refine wp_gen fun W hW => ?_
    obtain ⟨b5, hbn⟩ : ∃ b5, b5 = U.heap.size := ⟨_, rfl⟩
    rw [← hbn]
    have hb : Below U.heap.size U W := by rw [hW]; go_grown
    have HO5 := hid (show OB W b5 k.op k.name k.val k.bound A5 k.args.length c5 by rw [hW]; exact at_new _ _ _ hbn)
    have hbu := hb
    replace HG := hid (HG.out.nx hbu)
    replace HK := hid (HK.out.nx hbu)
    replace HB := hid (belNx HB.out hbu)
    replace HO1 := hid (HO1.out.below hbu)
    replace HF := hid (HF.out.below hbu)
    replace HV5 := hid (HV5.out.below hbu)
    clear hW hbn hb hbu
    obtain ⟨x0, x1, x2, x3, x4, x5⟩ := HO1.out.cells
    go_upto_region 10 with (first | (go_at_call 20; (with_reducible refine (one_lit 4 (opF 4 [f]) rfl ?_).mono ?_); (first | exact HF.out | exact HF.out.below (by go_grown)); rintro e U ⟨A', c', rfl, hv, hb⟩; have hbu := bel_of HG.out (by first | exact Below.refl _ _ | go_grown) hb; replace HG := hid (HG.out.nx hbu); replace HK := hid (HK.out.nx hbu); replace HB := hid (belNx HB.out hbu); replace HO1 := hid (HO1.out.below hbu); replace HF := hid (HF.out.below hbu); replace HV5 := hid (HV5.out.below hbu); replace HO5 := hid (HO5.out.below hbu); clear hbu hb; have HN9 := hid hv; clear hv; clear x0 x1 x2 x3 x4 x5; obtain ⟨x0, x1, x2, x3, x4, x5⟩ := HO1.out.cells) | (go_at_call 13; (with_reducible refine (kernel_litc (f := opF 4 [f]) (m) em ?_ ?_ ?_ ?_).mono ?_); exact HME.out; (first | exact HN9.out | exact HN9.out.below (by go_grown)); (first | exact HG.out | exact HG.out.nx (by go_grown)); (first | exact HK.out | exact HK.out.nx (by go_grown)); rintro e U ⟨A7, c7, rfl, hv, hb⟩; have hbu := bel_of HG.out (by first | exact Below.refl _ _ | go_grown) hb; replace HG := hid (HG.out.nx hbu); replace HK := hid (HK.out.nx hbu); replace HB := hid (belNx HB.out hbu); replace HO1 := hid (HO1.out.below hbu); replace HF := hid (HF.out.below hbu); replace HV5 := hid (HV5.out.below hbu); replace HO5 := hid (HO5.out.below hbu); clear hbu hb; have HV7 := hid hv; clear hv; clear x0 x1 x2 x3 x4 x5; obtain ⟨x0, x1, x2, x3, x4, x5⟩ := HO1.out.cells))
    clear x0 x1 x2 x3 x4 x5
    try clear HN9
    refine wp_gen fun W hW => ?_
    obtain ⟨b7, hbn⟩ : ∃ b7, b7 = U.heap.size := ⟨_, rfl⟩
    rw [← hbn]
    have hb : Below U.heap.size U W := by rw [hW]; go_grown
    have HO7 := hid (show OB W b7 m.op m.name m.val m.bound A7 m.args.length c7 by rw [hW]; exact at_new _ _ _ hbn)
    have hbu := hb
    replace HG := hid (HG.out.nx hbu)
    replace HK := hid (HK.out.nx hbu)
    replace HB := hid (belNx HB.out hbu)
    replace HO1 := hid (HO1.out.below hbu)
    replace HF := hid (HF.out.below hbu)
    replace HV5 := hid (HV5.out.below hbu)
    replace HO5 := hid (HO5.out.below hbu)
    replace HV7 := hid (HV7.out.below hbu)
    clear hW hbn hb hbu
    rename World => W
    rename_i K hK
    refine wp_tail K (2 :: List.range' 39 16) (fun us W' => us 2 = .bool true ∧ Below W.heap.size W W') ?_ ?_
    rotate_left
    · intro HTAIL
      have HTL := hid HTAIL
      clear HTAIL hK
      have HW := hid (Below.refl W.heap.size W)
      by_cases e1 : ek = 0
      rotate_left
      · have e1' := bne_true_of e1
        clear e1
        go_quiet (fail)
        all_goals
          refine tail_close HTL.out ?_ ?_
          · first
              | exact ⟨rfl, (by first | exact HW.out | exact (Drawn.n _ _).below _ | exact belNx HW.out (by go_grown))⟩
          · kernel_rfl
      have e1' : (ek != 0) = false := by simp [e1]
      by_cases e2 : em = 0
      rotate_left
      · have e2' := bne_true_of e2
        clear e1 e2
        go_quiet (fail)
        all_goals
          refine tail_close HTL.out ?_ ?_
          · first
              | exact ⟨rfl, (by first | exact HW.out | exact (Drawn.n _ _).below _ | exact belNx HW.out (by go_grown))⟩
          · kernel_rfl
      have e2' : (em != 0) = false := by simp [e2]
      have HEQ := hid (show m = notZ k by rcases HLAW.out with h | h | h; exact absurd e1 h; exact absurd e2 h; exact h)
      clear e1 e2
      obtain ⟨x0, x1, x2, x3, x4, x5⟩ := HO5.out.cells
      obtain ⟨y0, y1, y2, y3, y4, y5⟩ := HO7.out.cells
      go_region_held3 (fun W' : World => W'.cell? ⟨b5, 0, none⟩ = some (.int .i64 (k.op)) ∧ W'.cell? ⟨b5, 1, none⟩ = some (.string k.name) ∧ W'.cell? ⟨b5, 2, none⟩ = some (.int .i64 (k.val)) ∧ W'.cell? ⟨b5, 3, none⟩ = some (.int .i64 (k.bound)) ∧ W'.cell? ⟨b5, 4, none⟩ = some (.slice A5 k.args.length c5) ∧ W'.cell? ⟨b7, 0, none⟩ = some (.int .i64 (m.op)) ∧ W'.cell? ⟨b7, 1, none⟩ = some (.string m.name) ∧ W'.cell? ⟨b7, 2, none⟩ = some (.int .i64 (m.val)) ∧ W'.cell? ⟨b7, 3, none⟩ = some (.int .i64 (m.bound)) ∧ W'.cell? ⟨b7, 4, none⟩ = some (.slice A7 m.args.length c7))
        (first | (with_reducible exact ⟨(HO5.out).cells.1, (HO5.out).cells.2.1, (HO5.out).cells.2.2.1, (HO5.out).cells.2.2.2.1, (HO5.out).cells.2.2.2.2.1, (HO7.out).cells.1, (HO7.out).cells.2.1, (HO7.out).cells.2.2.1, (HO7.out).cells.2.2.2.1, (HO7.out).cells.2.2.2.2.1⟩) | (with_reducible exact ⟨(HO5.out.alloc _).cells.1, (HO5.out.alloc _).cells.2.1, (HO5.out.alloc _).cells.2.2.1, (HO5.out.alloc _).cells.2.2.2.1, (HO5.out.alloc _).cells.2.2.2.2.1, (HO7.out.alloc _).cells.1, (HO7.out.alloc _).cells.2.1, (HO7.out.alloc _).cells.2.2.1, (HO7.out.alloc _).cells.2.2.2.1, (HO7.out.alloc _).cells.2.2.2.2.1⟩) | (with_reducible exact ⟨((HO5.out.alloc _).alloc _).cells.1, ((HO5.out.alloc _).alloc _).cells.2.1, ((HO5.out.alloc _).alloc _).cells.2.2.1, ((HO5.out.alloc _).alloc _).cells.2.2.2.1, ((HO5.out.alloc _).alloc _).cells.2.2.2.2.1, ((HO7.out.alloc _).alloc _).cells.1, ((HO7.out.alloc _).alloc _).cells.2.1, ((HO7.out.alloc _).alloc _).cells.2.2.1, ((HO7.out.alloc _).alloc _).cells.2.2.2.1, ((HO7.out.alloc _).alloc _).cells.2.2.2.2.1⟩) | (go_keep; done))
        (first | (go_at_call 19; (with_reducible refine (not_litc (f := k) (m) ?_ ?_ ?_ ?_).mono ?_); exact HEQ.out.symm; (first | exact HV5.out.vf | exact (HV5.out.below (by go_grown)).vf); (first | exact HG.out | exact HG.out.nx (by go_grown)); (first | exact HK.out | exact HK.out.nx (by go_grown)); rintro e U ⟨A', c', rfl, hv, hb⟩; have hbu := bel_of HG.out (by first | exact Below.refl _ _ | go_grown) hb; replace HG := hid (HG.out.nx hbu); replace HK := hid (HK.out.nx hbu); replace HB := hid (belNx HB.out hbu); replace HO1 := hid (HO1.out.below hbu); replace HF := hid (HF.out.below hbu); replace HV5 := hid (HV5.out.below hbu); replace HO5 := hid (HO5.out.below hbu); replace HV7 := hid (HV7.out.below hbu); replace HO7 := hid (HO7.out.below hbu); replace HW := hid (belNx HW.out hbu); clear hbu hb; have HV9 := hid hv; clear hv) | (go_at_call 15; (with_reducible refine (comparec_lit (f := m) (f2 := m) 0 ?_ ?_ ?_ ?_).mono ?_); exact cmp_self m; exact HKS.out; (first | exact HV7.out | exact HV7.out.below (by go_grown)); (first | exact HV9.out.vf | exact (HV9.out.below (by go_grown)).vf); rintro e U ⟨rfl, hb⟩; have hbu := bel_of HG.out (by first | exact Below.refl _ _ | go_grown) hb; replace HG := hid (HG.out.nx hbu); replace HK := hid (HK.out.nx hbu); replace HB := hid (belNx HB.out hbu); replace HO1 := hid (HO1.out.below hbu); replace HF := hid (HF.out.below hbu); replace HV5 := hid (HV5.out.below hbu); replace HO5 := hid (HO5.out.below hbu); replace HV7 := hid (HV7.out.below hbu); replace HO7 := hid (HO7.out.below hbu); replace HW := hid (belNx HW.out hbu); clear hbu hb))
      all_goals
        refine tail_close HTL.out ?_ ?_
        · first
            | exact ⟨rfl, (by first | exact HW.out | exact (Drawn.n _ _).below _ | exact belNx HW.out (by go_grown))⟩
        · kernel_rfl
    rintro us W1 ⟨hu, hbu⟩
    apply hK
    simp only [putAll, List.range', List.range'_succ, Act.put, List.setIfInBounds_toArray, List.set_cons_zero, List.set_cons_succ, Nat.reduceAdd]
    rw [hu]
    replace HG := hid (HG.out.nx hbu)
    replace HK := hid (HK.out.nx hbu)
    replace HB := hid (belNx HB.out hbu)
    replace HO1 := hid (HO1.out.below hbu)
    replace HF := hid (HF.out.below hbu)
    replace HV5 := hid (HV5.out.below hbu)
    replace HO5 := hid (HO5.out.below hbu)
    replace HV7 := hid (HV7.out.below hbu)
    replace HO7 := hid (HO7.out.below hbu)
    clear hK hu hbu
    rename World => W
    go_wp2_with fail
    go_ret
    exact ⟨rfl, HB.out⟩
  · have HLO := hid hl
    have HNL := hid (neg_law hl)
    have HNS := hid (notZ_size f)
    clear hl
    obtain ⟨n, hn⟩ : ∃ n, notZ f = n := ⟨_, rfl⟩
    rw [hn] at HNL
    have HN := hid hn
    clear hn
    obtain ⟨x0, x1, x2, x3, x4, x5⟩ := HO1.out.cells
    go_upto_region 5 with (go_at_call 18; (with_reducible refine (rloose_lit (f := f) true ?_ ?_).mono ?_); exact HLO.out; (first | exact HF.out | exact HF.out.below (by go_grown)); rintro e U ⟨rfl, hb⟩; have hbu := bel_of HG.out (by first | exact Below.refl _ _ | go_grown) hb; replace HG := hid (HG.out.nx hbu); replace HK := hid (HK.out.nx hbu); replace HB := hid (belNx HB.out hbu); replace HO1 := hid (HO1.out.below hbu); replace HF := hid (HF.out.below hbu); clear hbu hb; clear x0 x1 x2 x3 x4 x5; obtain ⟨x0, x1, x2, x3, x4, x5⟩ := HO1.out.cells)
    go_upto_region 6 with (go_at_call 19; (with_reducible refine (not_litc (f := f) (n) ?_ ?_ ?_ ?_).mono ?_); exact HN.out; (first | exact HF.out | exact HF.out.below (by go_grown)); (first | exact HG.out | exact HG.out.nx (by go_grown)); (first | exact HK.out | exact HK.out.nx (by go_grown)); rintro e U ⟨A4, c4, rfl, hv, hb⟩; have hbu := bel_of HG.out (by first | exact Below.refl _ _ | go_grown) hb; replace HG := hid (HG.out.nx hbu); replace HK := hid (HK.out.nx hbu); replace HB := hid (belNx HB.out hbu); replace HO1 := hid (HO1.out.below hbu); replace HF := hid (HF.out.below hbu); clear hbu hb; have HV4 := hid hv; clear hv; clear x0 x1 x2 x3 x4 x5; obtain ⟨x0, x1, x2, x3, x4, x5⟩ := HO1.out.cells)
    clear x0 x1 x2 x3 x4 x5
    refine wp_gen fun W hW => ?_
    obtain ⟨b4, hbn⟩ : ∃ b4, b4 = U.heap.size := ⟨_, rfl⟩
    rw [← hbn]
    have hb : Below U.heap.size U W := by rw [hW]; go_grown
    have HO4 := hid (show OB W b4 n.op n.name n.val n.bound A4 n.args.length c4 by rw [hW]; exact at_new _ _ _ hbn)
    have hbu := hb
    replace HG := hid (HG.out.nx hbu)
    replace HK := hid (HK.out.nx hbu)
    replace HB := hid (belNx HB.out hbu)
    replace HO1 := hid (HO1.out.below hbu)
    replace HF := hid (HF.out.below hbu)
    replace HV4 := hid (HV4.out.below hbu)
    clear hW hbn hb hbu
    rename World => W
    rename_i K hK
    refine wp_tail K (List.range' 18 10) (fun us W' => us 27 = .bool false ∧ Below W.heap.size W W') ?_ ?_
    rotate_left
    · intro HTAIL
      have HTL := hid HTAIL
      clear HTAIL hK
      have HW := hid (Below.refl W.heap.size W)
      by_cases e1 : n.op = 0
      · have e1' : (n.op != 0) = false := by simp [e1]
        clear e1
        obtain ⟨y0, y1, y2, y3, y4, y5⟩ := HO4.out.cells
        go_quiet (fail)
        all_goals
          refine tail_close HTL.out ?_ ?_
          · first
              | exact ⟨rfl, (by first | exact HW.out | exact (Drawn.n _ _).below _ | exact belNx HW.out (by go_grown))⟩
          · kernel_rfl
      have e1' := bne_true_of e1
      have HEQ := hid (show notZ n = f by rcases HNL.out with h | h; exact absurd (by rw [h]; rfl) e1; exact h)
      clear e1
      obtain ⟨x0, x1, x2, x3, x4, x5⟩ := HO4.out.cells
      obtain ⟨y0, y1, y2, y3, y4, y5⟩ := HO1.out.cells
      go_region_held3 (fun W' : World => W'.cell? ⟨b4, 0, none⟩ = some (.int .i64 (n.op)) ∧ W'.cell? ⟨b4, 1, none⟩ = some (.string n.name) ∧ W'.cell? ⟨b4, 2, none⟩ = some (.int .i64 (n.val)) ∧ W'.cell? ⟨b4, 3, none⟩ = some (.int .i64 (n.bound)) ∧ W'.cell? ⟨b4, 4, none⟩ = some (.slice A4 n.args.length c4) ∧ W'.cell? ⟨b1, 0, none⟩ = some (.int .i64 (f.op)) ∧ W'.cell? ⟨b1, 1, none⟩ = some (.string f.name) ∧ W'.cell? ⟨b1, 2, none⟩ = some (.int .i64 (f.val)) ∧ W'.cell? ⟨b1, 3, none⟩ = some (.int .i64 (f.bound)) ∧ W'.cell? ⟨b1, 4, none⟩ = some (.slice A f.args.length c))
        (first | (with_reducible exact ⟨(HO4.out).cells.1, (HO4.out).cells.2.1, (HO4.out).cells.2.2.1, (HO4.out).cells.2.2.2.1, (HO4.out).cells.2.2.2.2.1, (HO1.out).cells.1, (HO1.out).cells.2.1, (HO1.out).cells.2.2.1, (HO1.out).cells.2.2.2.1, (HO1.out).cells.2.2.2.2.1⟩) | (with_reducible exact ⟨(HO4.out.alloc _).cells.1, (HO4.out.alloc _).cells.2.1, (HO4.out.alloc _).cells.2.2.1, (HO4.out.alloc _).cells.2.2.2.1, (HO4.out.alloc _).cells.2.2.2.2.1, (HO1.out.alloc _).cells.1, (HO1.out.alloc _).cells.2.1, (HO1.out.alloc _).cells.2.2.1, (HO1.out.alloc _).cells.2.2.2.1, (HO1.out.alloc _).cells.2.2.2.2.1⟩) | (with_reducible exact ⟨((HO4.out.alloc _).alloc _).cells.1, ((HO4.out.alloc _).alloc _).cells.2.1, ((HO4.out.alloc _).alloc _).cells.2.2.1, ((HO4.out.alloc _).alloc _).cells.2.2.2.1, ((HO4.out.alloc _).alloc _).cells.2.2.2.2.1, ((HO1.out.alloc _).alloc _).cells.1, ((HO1.out.alloc _).alloc _).cells.2.1, ((HO1.out.alloc _).alloc _).cells.2.2.1, ((HO1.out.alloc _).alloc _).cells.2.2.2.1, ((HO1.out.alloc _).alloc _).cells.2.2.2.2.1⟩) | (go_keep; done))
        (first | (go_at_call 19; (with_reducible refine (not_litc (f := n) (f) ?_ ?_ ?_ ?_).mono ?_); exact HEQ.out; (first | exact HV4.out.vf | exact (HV4.out.below (by go_grown)).vf); (first | exact HG.out | exact HG.out.nx (by go_grown)); (first | exact HK.out | exact HK.out.nx (by go_grown)); rintro e U ⟨A', c', rfl, hv, hb⟩; have hbu := bel_of HG.out (by first | exact Below.refl _ _ | go_grown) hb; replace HG := hid (HG.out.nx hbu); replace HK := hid (HK.out.nx hbu); replace HB := hid (belNx HB.out hbu); replace HO1 := hid (HO1.out.below hbu); replace HF := hid (HF.out.below hbu); replace HV4 := hid (HV4.out.below hbu); replace HO4 := hid (HO4.out.below hbu); replace HW := hid (belNx HW.out hbu); clear hbu hb; have HV9 := hid hv; clear hv) | (go_at_call 15; (with_reducible refine (comparec_lit (f := f) (f2 := f) 0 ?_ ?_ ?_ ?_).mono ?_); exact cmp_self f; (have := HSZ.out; omega); (first | exact HV9.out | exact HV9.out.below (by go_grown)); (first | exact HF.out | exact HF.out.below (by go_grown)); rintro e U ⟨rfl, hb⟩; have hbu := bel_of HG.out (by first | exact Below.refl _ _ | go_grown) hb; replace HG := hid (HG.out.nx hbu); replace HK := hid (HK.out.nx hbu); replace HB := hid (belNx HB.out hbu); replace HO1 := hid (HO1.out.below hbu); replace HF := hid (HF.out.below hbu); replace HV4 := hid (HV4.out.below hbu); replace HO4 := hid (HO4.out.below hbu); replace HW := hid (belNx HW.out hbu); clear hbu hb))
      all_goals
        refine tail_close HTL.out ?_ ?_
        · first
            | exact ⟨rfl, (by first | exact HW.out | exact (Drawn.n _ _).below _ | exact belNx HW.out (by go_grown))⟩
        · kernel_rfl
    rintro us W1 ⟨hu, hbu⟩
    apply hK
    simp only [putAll, List.range', List.range'_succ, Act.put, List.setIfInBounds_toArray, List.set_cons_zero, List.set_cons_succ, Nat.reduceAdd]
    rw [hu]
    replace HG := hid (HG.out.nx hbu)
    replace HK := hid (HK.out.nx hbu)
    replace HB := hid (belNx HB.out hbu)
    replace HO1 := hid (HO1.out.below hbu)
    replace HF := hid (HF.out.below hbu)
    replace HV4 := hid (HV4.out.below hbu)
    replace HO4 := hid (HO4.out.below hbu)
    clear hK hu hbu
    rename World => W
    go_upto_region 8 with (fail)
    obtain ⟨x0, x1, x2, x3, x4, x5⟩ := HO1.out.cells
    go_upto_region 9 with (go_at_call 13; (with_reducible refine (kernel_litc (f := f) (k) ek ?_ ?_ ?_ ?_).mono ?_); exact HKE.out; (first | exact HF.out | exact HF.out.below (by go_grown)); (first | exact HG.out | exact HG.out.nx (by go_grown)); (first | exact HK.out | exact HK.out.nx (by go_grown)); rintro e U ⟨A5, c5, rfl, hv, hb⟩; have hbu := bel_of HG.out (by first | exact Below.refl _ _ | go_grown) hb; replace HG := hid (HG.out.nx hbu); replace HK := hid (HK.out.nx hbu); replace HB := hid (belNx HB.out hbu); replace HO1 := hid (HO1.out.below hbu); replace HF := hid (HF.out.below hbu); clear hbu hb; have HV5 := hid hv; clear hv; clear x0 x1 x2 x3 x4 x5; obtain ⟨x0, x1, x2, x3, x4, x5⟩ := HO1.out.cells)
    clear x0 x1 x2 x3 x4 x5
    refine wp_gen fun W hW => ?_
    obtain ⟨b5, hbn⟩ : ∃ b5, b5 = U.heap.size := ⟨_, rfl⟩
    rw [← hbn]
    have hb : Below U.heap.size U W := by rw [hW]; go_grown
    have HO5 := hid (show OB W b5 k.op k.name k.val k.bound A5 k.args.length c5 by rw [hW]; exact at_new _ _ _ hbn)
    have hbu := hb
    replace HG := hid (HG.out.nx hbu)
    replace HK := hid (HK.out.nx hbu)
    replace HB := hid (belNx HB.out hbu)
    replace HO1 := hid (HO1.out.below hbu)
    replace HF := hid (HF.out.below hbu)
    replace HV5 := hid (HV5.out.below hbu)
    clear hW hbn hb hbu
    obtain ⟨x0, x1, x2, x3, x4, x5⟩ := HO1.out.cells
    go_upto_region 10 with (first | (go_at_call 20; (with_reducible refine (one_lit 4 (opF 4 [f]) rfl ?_).mono ?_); (first | exact HF.out | exact HF.out.below (by go_grown)); rintro e U ⟨A', c', rfl, hv, hb⟩; have hbu := bel_of HG.out (by first | exact Below.refl _ _ | go_grown) hb; replace HG := hid (HG.out.nx hbu); replace HK := hid (HK.out.nx hbu); replace HB := hid (belNx HB.out hbu); replace HO1 := hid (HO1.out.below hbu); replace HF := hid (HF.out.below hbu); replace HV5 := hid (HV5.out.below hbu); replace HO5 := hid (HO5.out.below hbu); clear hbu hb; have HN9 := hid hv; clear hv; clear x0 x1 x2 x3 x4 x5; obtain ⟨x0, x1, x2, x3, x4, x5⟩ := HO1.out.cells) | (go_at_call 13; (with_reducible refine (kernel_litc (f := opF 4 [f]) (m) em ?_ ?_ ?_ ?_).mono ?_); exact HME.out; (first | exact HN9.out | exact HN9.out.below (by go_grown)); (first | exact HG.out | exact HG.out.nx (by go_grown)); (first | exact HK.out | exact HK.out.nx (by go_grown)); rintro e U ⟨A7, c7, rfl, hv, hb⟩; have hbu := bel_of HG.out (by first | exact Below.refl _ _ | go_grown) hb; replace HG := hid (HG.out.nx hbu); replace HK := hid (HK.out.nx hbu); replace HB := hid (belNx HB.out hbu); replace HO1 := hid (HO1.out.below hbu); replace HF := hid (HF.out.below hbu); replace HV5 := hid (HV5.out.below hbu); replace HO5 := hid (HO5.out.below hbu); clear hbu hb; have HV7 := hid hv; clear hv; clear x0 x1 x2 x3 x4 x5; obtain ⟨x0, x1, x2, x3, x4, x5⟩ := HO1.out.cells))
    clear x0 x1 x2 x3 x4 x5
    try clear HN9
    refine wp_gen fun W hW => ?_
    obtain ⟨b7, hbn⟩ : ∃ b7, b7 = U.heap.size := ⟨_, rfl⟩
    rw [← hbn]
    have hb : Below U.heap.size U W := by rw [hW]; go_grown
    have HO7 := hid (show OB W b7 m.op m.name m.val m.bound A7 m.args.length c7 by rw [hW]; exact at_new _ _ _ hbn)
    have hbu := hb
    replace HG := hid (HG.out.nx hbu)
    replace HK := hid (HK.out.nx hbu)
    replace HB := hid (belNx HB.out hbu)
    replace HO1 := hid (HO1.out.below hbu)
    replace HF := hid (HF.out.below hbu)
    replace HV5 := hid (HV5.out.below hbu)
    replace HO5 := hid (HO5.out.below hbu)
    replace HV7 := hid (HV7.out.below hbu)
    clear hW hbn hb hbu
    rename World => W
    rename_i K hK
    refine wp_tail K (2 :: List.range' 39 16) (fun us W' => us 2 = .bool true ∧ Below W.heap.size W W') ?_ ?_
    rotate_left
    · intro HTAIL
      have HTL := hid HTAIL
      clear HTAIL hK
      have HW := hid (Below.refl W.heap.size W)
      by_cases e1 : ek = 0
      rotate_left
      · have e1' := bne_true_of e1
        clear e1
        go_quiet (fail)
        all_goals
          refine tail_close HTL.out ?_ ?_
          · first
              | exact ⟨rfl, (by first | exact HW.out | exact (Drawn.n _ _).below _ | exact belNx HW.out (by go_grown))⟩
          · kernel_rfl
      have e1' : (ek != 0) = false := by simp [e1]
      by_cases e2 : em = 0
      rotate_left
      · have e2' := bne_true_of e2
        clear e1 e2
        go_quiet (fail)
        all_goals
          refine tail_close HTL.out ?_ ?_
          · first
              | exact ⟨rfl, (by first | exact HW.out | exact (Drawn.n _ _).below _ | exact belNx HW.out (by go_grown))⟩
          · kernel_rfl
      have e2' : (em != 0) = false := by simp [e2]
      have HEQ := hid (show m = notZ k by rcases HLAW.out with h | h | h; exact absurd e1 h; exact absurd e2 h; exact h)
      clear e1 e2
      obtain ⟨x0, x1, x2, x3, x4, x5⟩ := HO5.out.cells
      obtain ⟨y0, y1, y2, y3, y4, y5⟩ := HO7.out.cells
      go_region_held3 (fun W' : World => W'.cell? ⟨b5, 0, none⟩ = some (.int .i64 (k.op)) ∧ W'.cell? ⟨b5, 1, none⟩ = some (.string k.name) ∧ W'.cell? ⟨b5, 2, none⟩ = some (.int .i64 (k.val)) ∧ W'.cell? ⟨b5, 3, none⟩ = some (.int .i64 (k.bound)) ∧ W'.cell? ⟨b5, 4, none⟩ = some (.slice A5 k.args.length c5) ∧ W'.cell? ⟨b7, 0, none⟩ = some (.int .i64 (m.op)) ∧ W'.cell? ⟨b7, 1, none⟩ = some (.string m.name) ∧ W'.cell? ⟨b7, 2, none⟩ = some (.int .i64 (m.val)) ∧ W'.cell? ⟨b7, 3, none⟩ = some (.int .i64 (m.bound)) ∧ W'.cell? ⟨b7, 4, none⟩ = some (.slice A7 m.args.length c7))
        (first | (with_reducible exact ⟨(HO5.out).cells.1, (HO5.out).cells.2.1, (HO5.out).cells.2.2.1, (HO5.out).cells.2.2.2.1, (HO5.out).cells.2.2.2.2.1, (HO7.out).cells.1, (HO7.out).cells.2.1, (HO7.out).cells.2.2.1, (HO7.out).cells.2.2.2.1, (HO7.out).cells.2.2.2.2.1⟩) | (with_reducible exact ⟨(HO5.out.alloc _).cells.1, (HO5.out.alloc _).cells.2.1, (HO5.out.alloc _).cells.2.2.1, (HO5.out.alloc _).cells.2.2.2.1, (HO5.out.alloc _).cells.2.2.2.2.1, (HO7.out.alloc _).cells.1, (HO7.out.alloc _).cells.2.1, (HO7.out.alloc _).cells.2.2.1, (HO7.out.alloc _).cells.2.2.2.1, (HO7.out.alloc _).cells.2.2.2.2.1⟩) | (with_reducible exact ⟨((HO5.out.alloc _).alloc _).cells.1, ((HO5.out.alloc _).alloc _).cells.2.1, ((HO5.out.alloc _).alloc _).cells.2.2.1, ((HO5.out.alloc _).alloc _).cells.2.2.2.1, ((HO5.out.alloc _).alloc _).cells.2.2.2.2.1, ((HO7.out.alloc _).alloc _).cells.1, ((HO7.out.alloc _).alloc _).cells.2.1, ((HO7.out.alloc _).alloc _).cells.2.2.1, ((HO7.out.alloc _).alloc _).cells.2.2.2.1, ((HO7.out.alloc _).alloc _).cells.2.2.2.2.1⟩) | (go_keep; done))
        (first | (go_at_call 19; (with_reducible refine (not_litc (f := k) (m) ?_ ?_ ?_ ?_).mono ?_); exact HEQ.out.symm; (first | exact HV5.out.vf | exact (HV5.out.below (by go_grown)).vf); (first | exact HG.out | exact HG.out.nx (by go_grown)); (first | exact HK.out | exact HK.out.nx (by go_grown)); rintro e U ⟨A', c', rfl, hv, hb⟩; have hbu := bel_of HG.out (by first | exact Below.refl _ _ | go_grown) hb; replace HG := hid (HG.out.nx hbu); replace HK := hid (HK.out.nx hbu); replace HB := hid (belNx HB.out hbu); replace HO1 := hid (HO1.out.below hbu); replace HF := hid (HF.out.below hbu); replace HV5 := hid (HV5.out.below hbu); replace HO5 := hid (HO5.out.below hbu); replace HV7 := hid (HV7.out.below hbu); replace HO7 := hid (HO7.out.below hbu); replace HW := hid (belNx HW.out hbu); clear hbu hb; have HV9 := hid hv; clear hv) | (go_at_call 15; (with_reducible refine (comparec_lit (f := m) (f2 := m) 0 ?_ ?_ ?_ ?_).mono ?_); exact cmp_self m; exact HKS.out; (first | exact HV7.out | exact HV7.out.below (by go_grown)); (first | exact HV9.out.vf | exact (HV9.out.below (by go_grown)).vf); rintro e U ⟨rfl, hb⟩; have hbu := bel_of HG.out (by first | exact Below.refl _ _ | go_grown) hb; replace HG := hid (HG.out.nx hbu); replace HK := hid (HK.out.nx hbu); replace HB := hid (belNx HB.out hbu); replace HO1 := hid (HO1.out.below hbu); replace HF := hid (HF.out.below hbu); replace HV5 := hid (HV5.out.below hbu); replace HO5 := hid (HO5.out.below hbu); replace HV7 := hid (HV7.out.below hbu); replace HO7 := hid (HO7.out.below hbu); replace HW := hid (belNx HW.out hbu); clear hbu hb))
      all_goals
        refine tail_close HTL.out ?_ ?_
        · first
            | exact ⟨rfl, (by first | exact HW.out | exact (Drawn.n _ _).below _ | exact belNx HW.out (by go_grown))⟩
        · kernel_rfl
    rintro us W1 ⟨hu, hbu⟩
    apply hK
    simp only [putAll, List.range', List.range'_succ, Act.put, List.setIfInBounds_toArray, List.set_cons_zero, List.set_cons_succ, Nat.reduceAdd]
    rw [hu]
    replace HG := hid (HG.out.nx hbu)
    replace HK := hid (HK.out.nx hbu)
    replace HB := hid (belNx HB.out hbu)
    replace HO1 := hid (HO1.out.below hbu)
    replace HF := hid (HF.out.below hbu)
    replace HV5 := hid (HV5.out.below hbu)
    replace HO5 := hid (HO5.out.below hbu)
    replace HV7 := hid (HV7.out.below hbu)
    replace HO7 := hid (HO7.out.below hbu)
    clear hK hu hbu
    rename World => W
    go_wp2_with fail
    go_ret
    exact ⟨rfl, HB.out⟩
end Go.Proofs.YthdidjmmhhchmaaGreatDoor
