/-
  Walks of the reference: Depth, Past, Layered, core.
-/
import Derived.Test.YtahgbgniaiccbaaGreatDoorZKA
set_option linter.unusedVariables false
set_option linter.unusedSimpArgs false
namespace Go.Proofs.YtahgbgniaiccbaaGreatDoor
open Go.RowKit Go.Shelf
attribute [local go_sem] cell_alloc_old

theorem nodes_arg {f : Fm} (h : nodesA f = true) {i : Nat} (hi : i < f.args.length) : nodesA (f.args.getD i default) = true := by
  unfold nodesA at h
  rw [allB_flat, Bool.and_eq_true] at h
  exact allN_true.1 h.2 i hi
set_option maxRecDepth 100000 in
set_option maxHeartbeats 4000000 in
theorem rdepth_any (f : Fm) : ∀ {D : Dom} (v : Value) (w : World) (h : RdF3 w D v f) (hd : f.depth ≤ 1000000), Calls Tryz.prog 28 #[v] w fun e w' => e = .returned (.int .i64 (f.depth : Int)) ∧ Below w.heap.size w w' := by
  refine Fm.induct (P := fun f => ∀ {D : Dom} (v : Value) (w : World) (h : RdF3 w D v f) (hd : f.depth ≤ 1000000), Calls Tryz.prog 28 #[v] w fun e w' => e = .returned (.int .i64 (f.depth : Int)) ∧ Below w.heap.size w w') ?_ f
  intro f ih D v w h hd
  have HIH := hid ih
  obtain ⟨A, c, rfl, ha⟩ := h
  have HA := hid ha.old
  have hal := ha.len.1
  clear ih ha
  go_enter Tryz.func28, Tryz.ntmps28
  go_upto_region 1 with (fail)
  refine wp_gen fun W hW => ?_
  have hbx : Box5 W w.heap.size f A c := by rw [hW]; exact Box5.new w f A c
  have HBX := hid hbx
  have HBW := hid (show Below w.heap.size w W by rw [hW]; go_grown)
  obtain ⟨x0, x1, x2, x3, x4, xl⟩ := hbx.cells
  clear hW hbx
  have HD := hid hd
  have HFL := hid (Fm.depth_eq f)
  clear hd
  go_wp2_with fail
  go_loopw [3, 4] (fun s q wr => ∃ (i n : Nat), i ≤ f.args.length ∧ n = depths (f.args.take i) ∧ s = .int .i64 (n : Int) ∧ q = .int .i64 (i : Int) ∧ Below W.heap.size W wr) (fun _ q _ => f.args.length - (intOf q).toNat)
  case atStart => exact ⟨0, 0, Nat.zero_le _, by simp [depths], rfl, rfl, Below.refl _ _⟩
  case round =>
    obtain ⟨i, n, hi, hn, rfl, rfl, hb⟩ := hrel
    obtain ⟨x0, x1, x2, x3, x4, xl⟩ := (HBX.out.below hb).cells
    have HB := hid hb
    have HBR := hid (HBW.out.trans (hb.mono HBW.out.size))
    have HN := hid hn
    clear hb hn
    by_cases hlt : i < f.args.length
    · have hii : (i : Int) < f.args.length := by omega
      obtain ⟨b, o, A', c', g, heq, HG, hg⟩ := (HA.out.keep (Keeps.of_below HBR.out fun _ h => h)).get hlt
      cases heq
      obtain ⟨gd, gl, g0, g1, g2, g3, g4, ga⟩ := hg
      have hsn := depths_snoc f.args hlt
      have hgd := arg_depth hlt
      rw [HG.out] at hsn hgd
      have hcall := HIH.out i hlt (D := (· < w.heap.size)) (.agg #[.int .i64 g.op, .string g.name, .int .i64 g.val, .int .i64 g.bound, .slice A' g.args.length c']) wr (by rw [HG.out]; exact ⟨A', c', rfl, ga⟩) (by rw [HG.out]; have := HD.out; omega)
      rw [HG.out] at hcall
      have HCALL := hid hcall
      have HSN := hid hsn
      obtain ⟨m, hm⟩ : ∃ m, m = g.depth := ⟨_, rfl⟩
      have HM := hid hm
      clear hcall ga hsn hgd hm
      go_wp2_with fail
      refine HCALL.out.mono ?_
      rintro e w1 ⟨rfl, hb1⟩
      have HB1 := hid (HB.out.trans (hb1.mono HB.out.size))
      rw [← HM.out]
      clear hb1
      by_cases hmn : n < m
      · have h1 : (n : Int) < (m : Int) := by omega
        have h2 : ¬ (m : Int) < (n : Int) := by omega
        go_wp2_with fail
        go_roundw
        case rel => exact ⟨i + 1, m, by omega, by rw [HSN.out, ← HN.out, ← HM.out]; omega, by go_num, by go_num, HB1.out⟩
        case measure => simp [intOf]; omega
      · have h1 : ¬ (n : Int) < (m : Int) := by omega
        go_wp2_with fail
        go_roundw
        case rel => exact ⟨i + 1, n, by omega, by rw [HSN.out, ← HN.out, ← HM.out]; omega, by go_num, by go_num, HB1.out⟩
        case measure => simp [intOf]; omega
    · have hie : f.args.take i = f.args := List.take_of_length_le (by omega)
      have hres : f.depth = n + 1 := by have := HN.out; rw [hie] at this; have := HFL.out; omega
      have HRES := hid hres
      have hnd : n ≤ 1000000 := by have := HD.out; omega
      clear hie hres
      go_wp2_with fail
      go_ret
      exact ⟨ret_int (by rw [HRES.out]; simp; try omega), HBR.out⟩
set_option maxRecDepth 100000 in
set_option maxHeartbeats 4000000 in
theorem rpast_any (f : Fm) : ∀ {D : Dom} (v : Value) (w : World) (h : RdF3 w D v f), Calls Tryz.prog 65 #[v] w fun e w' => e = .returned (.bool (pastA f)) ∧ Below w.heap.size w w' := by
  refine Fm.induct (P := fun f => ∀ {D : Dom} (v : Value) (w : World) (h : RdF3 w D v f), Calls Tryz.prog 65 #[v] w fun e w' => e = .returned (.bool (pastA f)) ∧ Below w.heap.size w w') ?_ f
  intro f ih D v w h 
  have HIH := hid ih
  have HFL := hid (show pastA f = (pastP f && allN f.args.length fun i => pastA (f.args.getD i default)) from allB_flat pastP f)
  obtain ⟨A, c, rfl, ha⟩ := h
  have HA := hid ha.old
  have hal := ha.len.1
  clear ih ha
  go_enter Tryz.func65, Tryz.ntmps65
  go_upto_region 1 with (fail)
  refine wp_gen fun W hW => ?_
  have hbx : Box5 W w.heap.size f A c := by rw [hW]; exact Box5.new w f A c
  have HBX := hid hbx
  have HBW := hid (show Below w.heap.size w W by rw [hW]; go_grown)
  obtain ⟨x0, x1, x2, x3, x4, xl⟩ := hbx.cells
  clear hW hbx
  by_cases h1 : 8 ≤ f.op
  · have d1 : decide (8 ≤ f.op) = true := decide_eq_true h1
    by_cases h2 : f.op ≤ 14
    · have d2 : decide (f.op ≤ 14) = true := decide_eq_true h2
      have HR := hid (show pastA f = false by rw [HFL.out]; unfold pastP futO; rw [d1, d2]; rfl)
      go_wp2_with fail
      go_ret
      exact ⟨ret_bool HR.out.symm, HBW.out⟩
    · have d2 : decide (f.op ≤ 14) = false := decide_eq_false h2
      have HP := hid (show pastP f = true by unfold pastP futO; rw [d1, d2]; rfl)
      go_wp2_with fail
      go_loopw [3] (fun q wr => ∃ i : Nat, i ≤ f.args.length ∧ q = .int .i64 (i : Int) ∧ Below W.heap.size W wr ∧ SoFar i (fun j => pastA (f.args.getD j default))) (fun q _ => f.args.length - (intOf q).toNat)
      case atStart => exact ⟨0, Nat.zero_le _, rfl, Below.refl _ _, SoFar.zero _⟩
      case round =>
        obtain ⟨i, hi, rfl, hb, hsf⟩ := hrel
        obtain ⟨x0, x1, x2, x3, x4, xl⟩ := (HBX.out.below hb).cells
        have HB := hid hb
        have HBR := hid (HBW.out.trans (hb.mono HBW.out.size))
        have HSF := hid hsf
        clear hb hsf
        by_cases hlt : i < f.args.length
        · have hii : (i : Int) < f.args.length := by omega
          obtain ⟨b, o, A', c', g, heq, HG, hg⟩ := (HA.out.keep (Keeps.of_below HBR.out fun _ h => h)).get hlt
          cases heq
          obtain ⟨gd, gl, g0, g1, g2, g3, g4, ga⟩ := hg
          have hcall := HIH.out i hlt (D := (· < w.heap.size)) (.agg #[.int .i64 g.op, .string g.name, .int .i64 g.val, .int .i64 g.bound, .slice A' g.args.length c']) wr (by rw [HG.out]; exact ⟨A', c', rfl, ga⟩)
          rw [HG.out] at hcall
          cases hq : pastA g
          · rw [hq] at hcall
            have HR := hid (show pastA f = false by rw [HFL.out]; rw [allN_false (j := i) hlt (by rw [HG.out]; exact hq), Bool.and_false])
            have HCALL := hid hcall
            clear hcall ga hq
            go_wp2_with fail
            refine HCALL.out.mono ?_
            rintro e w1 ⟨rfl, hb1⟩
            have HB1 := hid (HBR.out.trans (hb1.mono HBR.out.size))
            clear hb1
            go_wp2_with fail
            go_ret
            exact ⟨ret_bool HR.out.symm, HB1.out⟩
          · rw [hq] at hcall
            have HQ := hid (show pastA (f.args.getD i default) = true by rw [HG.out]; exact hq)
            have HCALL := hid hcall
            clear hcall ga hq
            go_wp2_with fail
            refine HCALL.out.mono ?_
            rintro e w1 ⟨rfl, hb1⟩
            have HB1 := hid (HB.out.trans (hb1.mono HB.out.size))
            clear hb1
            go_wp2_with fail
            go_roundw
            case rel => exact ⟨i + 1, by omega, by go_num, HB1.out, HSF.out.succ HQ.out⟩
            case measure => simp [intOf]; omega
        · have hii : ¬ (i : Int) < f.args.length := by omega
          have HR := hid (show pastA f = true by rw [HFL.out]; rw [HP.out, Bool.true_and]; exact HSF.out.all (by omega))
          go_wp2_with fail
          go_ret
          exact ⟨ret_bool HR.out.symm, HBR.out⟩
  · have d1 : decide (8 ≤ f.op) = false := decide_eq_false h1
    have HP := hid (show pastP f = true by unfold pastP futO; rw [d1]; rfl)
    go_wp2_with fail
    go_loopw [3] (fun q wr => ∃ i : Nat, i ≤ f.args.length ∧ q = .int .i64 (i : Int) ∧ Below W.heap.size W wr ∧ SoFar i (fun j => pastA (f.args.getD j default))) (fun q _ => f.args.length - (intOf q).toNat)
    case atStart => exact ⟨0, Nat.zero_le _, rfl, Below.refl _ _, SoFar.zero _⟩
    case round =>
      obtain ⟨i, hi, rfl, hb, hsf⟩ := hrel
      obtain ⟨x0, x1, x2, x3, x4, xl⟩ := (HBX.out.below hb).cells
      have HB := hid hb
      have HBR := hid (HBW.out.trans (hb.mono HBW.out.size))
      have HSF := hid hsf
      clear hb hsf
      by_cases hlt : i < f.args.length
      · have hii : (i : Int) < f.args.length := by omega
        obtain ⟨b, o, A', c', g, heq, HG, hg⟩ := (HA.out.keep (Keeps.of_below HBR.out fun _ h => h)).get hlt
        cases heq
        obtain ⟨gd, gl, g0, g1, g2, g3, g4, ga⟩ := hg
        have hcall := HIH.out i hlt (D := (· < w.heap.size)) (.agg #[.int .i64 g.op, .string g.name, .int .i64 g.val, .int .i64 g.bound, .slice A' g.args.length c']) wr (by rw [HG.out]; exact ⟨A', c', rfl, ga⟩)
        rw [HG.out] at hcall
        cases hq : pastA g
        · rw [hq] at hcall
          have HR := hid (show pastA f = false by rw [HFL.out]; rw [allN_false (j := i) hlt (by rw [HG.out]; exact hq), Bool.and_false])
          have HCALL := hid hcall
          clear hcall ga hq
          go_wp2_with fail
          refine HCALL.out.mono ?_
          rintro e w1 ⟨rfl, hb1⟩
          have HB1 := hid (HBR.out.trans (hb1.mono HBR.out.size))
          clear hb1
          go_wp2_with fail
          go_ret
          exact ⟨ret_bool HR.out.symm, HB1.out⟩
        · rw [hq] at hcall
          have HQ := hid (show pastA (f.args.getD i default) = true by rw [HG.out]; exact hq)
          have HCALL := hid hcall
          clear hcall ga hq
          go_wp2_with fail
          refine HCALL.out.mono ?_
          rintro e w1 ⟨rfl, hb1⟩
          have HB1 := hid (HB.out.trans (hb1.mono HB.out.size))
          clear hb1
          go_wp2_with fail
          go_roundw
          case rel => exact ⟨i + 1, by omega, by go_num, HB1.out, HSF.out.succ HQ.out⟩
          case measure => simp [intOf]; omega
      · have hii : ¬ (i : Int) < f.args.length := by omega
        have HR := hid (show pastA f = true by rw [HFL.out]; rw [HP.out, Bool.true_and]; exact HSF.out.all (by omega))
        go_wp2_with fail
        go_ret
        exact ⟨ret_bool HR.out.symm, HBR.out⟩
set_option maxRecDepth 100000 in
set_option maxHeartbeats 4000000 in
theorem rlayered_any (f : Fm) : ∀ {D : Dom} (v : Value) (w : World) (h : RdF3 w D v f), Calls Tryz.prog 47 #[v] w fun e w' => e = .returned (.bool (layL f)) ∧ Below w.heap.size w w' := by
  refine Fm.induct (P := fun f => ∀ {D : Dom} (v : Value) (w : World) (h : RdF3 w D v f), Calls Tryz.prog 47 #[v] w fun e w' => e = .returned (.bool (layL f)) ∧ Below w.heap.size w w') ?_ f
  intro f ih D v w h 
  have HIH := hid ih
  have HFL := hid (layL_flat f)
  obtain ⟨A, c, rfl, ha⟩ := h
  have HA := hid ha.old
  have hal := ha.len.1
  clear ih ha
  go_enter Tryz.func47, Tryz.ntmps47
  go_upto_region 1 with (fail)
  refine wp_gen fun W hW => ?_
  have hbx : Box5 W w.heap.size f A c := by rw [hW]; exact Box5.new w f A c
  have HBX := hid hbx
  have HBW := hid (show Below w.heap.size w W by rw [hW]; go_grown)
  obtain ⟨x0, x1, x2, x3, x4, xl⟩ := hbx.cells
  clear hW hbx
  go_wp2_with fail
  go_loopw [3] (fun q wr => ∃ i : Nat, i ≤ f.args.length ∧ q = .int .i64 (i : Int) ∧ Below W.heap.size W wr ∧ SoFar i (fun j => layL (f.args.getD j default) && (!pastO f.op || pastA (f.args.getD j default)))) (fun q _ => f.args.length - (intOf q).toNat)
  case atStart => exact ⟨0, Nat.zero_le _, rfl, Below.refl _ _, SoFar.zero _⟩
  case round =>
    obtain ⟨i, hi, rfl, hb, hsf⟩ := hrel
    obtain ⟨x0, x1, x2, x3, x4, xl⟩ := (HBX.out.below hb).cells
    have HB := hid hb
    have HBR := hid (HBW.out.trans (hb.mono HBW.out.size))
    have HSF := hid hsf
    clear hb hsf
    by_cases hlt : i < f.args.length
    · have hii : (i : Int) < f.args.length := by omega
      obtain ⟨b, o, A', c', g, heq, HG, hg⟩ := (HA.out.keep (Keeps.of_below HBR.out fun _ h => h)).get hlt
      cases heq
      have HGF := hid hg.old
      obtain ⟨gd, gl, g0, g1, g2, g3, g4, ga⟩ := hg
      have hcall := HIH.out i hlt (D := (· < w.heap.size)) (.agg #[.int .i64 g.op, .string g.name, .int .i64 g.val, .int .i64 g.bound, .slice A' g.args.length c']) wr (by rw [HG.out]; exact ⟨A', c', rfl, ga⟩)
      rw [HG.out] at hcall
      cases hq : layL g
      · rw [hq] at hcall
        have HR := hid (show layL f = false by rw [HFL.out, allN_false (j := i) hlt (by rw [HG.out, hq]; rfl)])
        have HCALL := hid hcall
        clear hcall ga hq
        go_wp2_with fail
        refine HCALL.out.mono ?_
        rintro e w1 ⟨rfl, hb1⟩
        have HB1 := hid (HBR.out.trans (hb1.mono HBR.out.size))
        clear hb1
        go_wp2_with fail
        go_ret
        exact ⟨ret_bool HR.out.symm, HB1.out⟩
      · rw [hq] at hcall
        have HCALL := hid hcall
        have HQ := hid hq
        have HGA := hid ga
        clear hcall ga hq
        have CLS := hid (show (decide (15 ≤ f.op) = true ∧ decide (f.op ≤ 19) = true ∧ pastO f.op = true) ∨ (decide (15 ≤ f.op) = true ∧ decide (f.op ≤ 19) = false ∧ pastO f.op = false) ∨ (decide (15 ≤ f.op) = false ∧ pastO f.op = false) by
          unfold pastO; cases decide (15 ≤ f.op) <;> cases decide (f.op ≤ 19) <;> simp)
        rcases CLS.out with ⟨d1, d2, hp⟩ | ⟨d1, d2, hp⟩ | ⟨d1, hp⟩
        · cases hq2 : pastA g
          · have HR := hid (show layL f = false by rw [HFL.out, allN_false (j := i) hlt (by rw [HG.out, HQ.out, hp, hq2]; rfl)])
            have HQ2 := hid hq2
            clear hq2 hp
            go_wp2_with fail
            refine HCALL.out.mono ?_
            rintro e w1 ⟨rfl, hb1⟩
            have HB1 := hid (HBR.out.trans (hb1.mono HBR.out.size))
            have HC2 := hid (rpast_any g (.agg #[.int .i64 g.op, .string g.name, .int .i64 g.val, .int .i64 g.bound, .slice A' g.args.length c']) w1 ⟨A', c', rfl, HGA.out.any hb1⟩)
            clear x0 x1 x2 x3 x4 g0 g1 g2 g3 g4
            obtain ⟨x0, x1, x2, x3, x4, xl1⟩ := ((HBX.out.below HB.out).below hb1).cells
            have gl1 := Nat.lt_of_lt_of_le gl hb1.size
            obtain ⟨_, _, g0, g1, g2, g3, g4, _⟩ := HGF.out.keep (Keeps.of_below hb1 fun _ h => h)
            clear hb1
            go_wp2_with fail
            refine HC2.out.mono ?_
            rw [HQ2.out]
            rintro e w2 ⟨rfl, hb2⟩
            have HB2 := hid (HB1.out.trans (hb2.mono HB1.out.size))
            clear hb2
            go_wp2_with fail
            go_ret
            exact ⟨ret_bool HR.out.symm, HB2.out⟩
          · have HQ3 := hid (show (layL (f.args.getD i default) && (!pastO f.op || pastA (f.args.getD i default))) = true by rw [HG.out, HQ.out, hp, hq2]; rfl)
            have HQ2 := hid hq2
            clear hq2 hp
            go_wp2_with fail
            refine HCALL.out.mono ?_
            rintro e w1 ⟨rfl, hb1⟩
            have HB1 := hid (HB.out.trans (hb1.mono HB.out.size))
            have HC2 := hid (rpast_any g (.agg #[.int .i64 g.op, .string g.name, .int .i64 g.val, .int .i64 g.bound, .slice A' g.args.length c']) w1 ⟨A', c', rfl, HGA.out.any hb1⟩)
            clear x0 x1 x2 x3 x4 g0 g1 g2 g3 g4
            obtain ⟨x0, x1, x2, x3, x4, xl1⟩ := ((HBX.out.below HB.out).below hb1).cells
            have gl1 := Nat.lt_of_lt_of_le gl hb1.size
            obtain ⟨_, _, g0, g1, g2, g3, g4, _⟩ := HGF.out.keep (Keeps.of_below hb1 fun _ h => h)
            clear hb1
            go_wp2_with fail
            refine HC2.out.mono ?_
            rw [HQ2.out]
            rintro e w2 ⟨rfl, hb2⟩
            have HB2 := hid (HB1.out.trans (hb2.mono HB1.out.size))
            clear hb2
            go_wp2_with fail
            go_roundw
            case rel => exact ⟨i + 1, by omega, by go_num, HB2.out, HSF.out.succ HQ3.out⟩
            case measure => simp [intOf]; omega
        · have HQ3 := hid (show (layL (f.args.getD i default) && (!pastO f.op || pastA (f.args.getD i default))) = true by rw [HG.out, HQ.out, hp]; rfl)
          clear hp
          go_wp2_with fail
          refine HCALL.out.mono ?_
          rintro e w1 ⟨rfl, hb1⟩
          have HB1 := hid (HB.out.trans (hb1.mono HB.out.size))
          clear x0 x1 x2 x3 x4 g0 g1 g2 g3 g4
          obtain ⟨x0, x1, x2, x3, x4, xl1⟩ := ((HBX.out.below HB.out).below hb1).cells
          have gl1 := Nat.lt_of_lt_of_le gl hb1.size
          obtain ⟨_, _, g0, g1, g2, g3, g4, _⟩ := HGF.out.keep (Keeps.of_below hb1 fun _ h => h)
          clear hb1
          go_wp2_with fail
          go_roundw
          case rel => exact ⟨i + 1, by omega, by go_num, HB1.out, HSF.out.succ HQ3.out⟩
          case measure => simp [intOf]; omega
        · have HQ3 := hid (show (layL (f.args.getD i default) && (!pastO f.op || pastA (f.args.getD i default))) = true by rw [HG.out, HQ.out, hp]; rfl)
          clear hp
          go_wp2_with fail
          refine HCALL.out.mono ?_
          rintro e w1 ⟨rfl, hb1⟩
          have HB1 := hid (HB.out.trans (hb1.mono HB.out.size))
          clear x0 x1 x2 x3 x4 g0 g1 g2 g3 g4
          obtain ⟨x0, x1, x2, x3, x4, xl1⟩ := ((HBX.out.below HB.out).below hb1).cells
          have gl1 := Nat.lt_of_lt_of_le gl hb1.size
          obtain ⟨_, _, g0, g1, g2, g3, g4, _⟩ := HGF.out.keep (Keeps.of_below hb1 fun _ h => h)
          clear hb1
          go_wp2_with fail
          go_roundw
          case rel => exact ⟨i + 1, by omega, by go_num, HB1.out, HSF.out.succ HQ3.out⟩
          case measure => simp [intOf]; omega
    · have hii : ¬ (i : Int) < f.args.length := by omega
      have HR := hid (show layL f = true by rw [HFL.out]; exact HSF.out.all (by omega))
      go_wp2_with fail
      go_ret
      exact ⟨ret_bool HR.out.symm, HBR.out⟩
set_option maxRecDepth 100000 in
set_option maxHeartbeats 4000000 in
theorem rcore_any (f : Fm) : ∀ {D : Dom} (v : Value) (w : World) (h : RdF3 w D v f) (hn : nodesA f = true), Calls Tryz.prog 46 #[v] w fun e w' => e = .returned (.bool (coreA f)) ∧ Below w.heap.size w w' := by
  refine Fm.induct (P := fun f => ∀ {D : Dom} (v : Value) (w : World) (h : RdF3 w D v f) (hn : nodesA f = true), Calls Tryz.prog 46 #[v] w fun e w' => e = .returned (.bool (coreA f)) ∧ Below w.heap.size w w') ?_ f
  intro f ih D v w h hn
  have HIH := hid ih
  have HFL := hid (show coreA f = (coreP f && allN f.args.length fun i => coreA (f.args.getD i default)) from allB_flat coreP f)
  obtain ⟨A, c, rfl, ha⟩ := h
  have HA := hid ha.old
  have hal := ha.len.1
  clear ih ha
  go_enter Tryz.func46, Tryz.ntmps46
  go_upto_region 1 with (fail)
  refine wp_gen fun W hW => ?_
  have hbx : Box5 W w.heap.size f A c := by rw [hW]; exact Box5.new w f A c
  have HBX := hid hbx
  have HBW := hid (show Below w.heap.size w W by rw [hW]; go_grown)
  obtain ⟨x0, x1, x2, x3, x4, xl⟩ := hbx.cells
  clear hW hbx
  have HN := hid hn
  have h40 := fun h4 => core_arg hn h4
  clear hn
  by_cases h4 : f.op = 4
  · have hlen := h40 h4
    have hlen' : (0 : Int) < f.args.length := by omega
    obtain ⟨b, o, A', c', g, rfl, HG, hg⟩ := (HA.out.keep (Keeps.of_below HBW.out fun _ h => h)).get hlen
    obtain ⟨gd, gl, g0, g1, g2, g3, g4, ga⟩ := hg
    simp only [Nat.zero_mul, Nat.add_zero] at g0 g1 g2 g3 g4
    by_cases h3 : g.op = 3
    · have HP := hid (show coreP f = true by unfold coreP notQ looseO; rw [HG.out, h4, h3]; rfl)
      have d1 : decide (1 ≤ f.op) = true := decide_eq_true (by omega)
      have d2 : decide (f.op ≤ 6) = true := decide_eq_true (by omega)
      have d4 : (f.op == 4) = true := by rw [h4]; rfl
      have d3 : (g.op != 3) = false := by rw [h3]; rfl
      clear h40 ga h4 h3
      go_wp2_with fail
      go_loopw [4] (fun q wr => ∃ i : Nat, i ≤ f.args.length ∧ q = .int .i64 (i : Int) ∧ Below W.heap.size W wr ∧ SoFar i (fun j => coreA (f.args.getD j default))) (fun q _ => f.args.length - (intOf q).toNat)
      case atStart => exact ⟨0, Nat.zero_le _, rfl, Below.refl _ _, SoFar.zero _⟩
      case round =>
        obtain ⟨i, hi, rfl, hb, hsf⟩ := hrel
        obtain ⟨x0, x1, x2, x3, x4, xl⟩ := (HBX.out.below hb).cells
        have HB := hid hb
        have HBR := hid (HBW.out.trans (hb.mono HBW.out.size))
        have HSF := hid hsf
        clear hb hsf
        by_cases hlt : i < f.args.length
        · have hii : (i : Int) < f.args.length := by omega
          obtain ⟨b, o, A', c', g, heq, HG, hg⟩ := (HA.out.keep (Keeps.of_below HBR.out fun _ h => h)).get hlt
          cases heq
          obtain ⟨gd, gl, g0, g1, g2, g3, g4, ga⟩ := hg
          have hcall := HIH.out i hlt (D := (· < w.heap.size)) (.agg #[.int .i64 g.op, .string g.name, .int .i64 g.val, .int .i64 g.bound, .slice A' g.args.length c']) wr (by rw [HG.out]; exact ⟨A', c', rfl, ga⟩) (nodes_arg HN.out hlt)
          rw [HG.out] at hcall
          cases hq : coreA g
          · rw [hq] at hcall
            have HR := hid (show coreA f = false by rw [HFL.out]; rw [allN_false (j := i) hlt (by rw [HG.out]; exact hq), Bool.and_false])
            have HCALL := hid hcall
            clear hcall ga hq
            go_wp2_with fail
            refine HCALL.out.mono ?_
            rintro e w1 ⟨rfl, hb1⟩
            have HB1 := hid (HBR.out.trans (hb1.mono HBR.out.size))
            clear hb1
            go_wp2_with fail
            go_ret
            exact ⟨ret_bool HR.out.symm, HB1.out⟩
          · rw [hq] at hcall
            have HQ := hid (show coreA (f.args.getD i default) = true by rw [HG.out]; exact hq)
            have HCALL := hid hcall
            clear hcall ga hq
            go_wp2_with fail
            refine HCALL.out.mono ?_
            rintro e w1 ⟨rfl, hb1⟩
            have HB1 := hid (HB.out.trans (hb1.mono HB.out.size))
            clear hb1
            go_wp2_with fail
            go_roundw
            case rel => exact ⟨i + 1, by omega, by go_num, HB1.out, HSF.out.succ HQ.out⟩
            case measure => simp [intOf]; omega
        · have hii : ¬ (i : Int) < f.args.length := by omega
          have HR := hid (show coreA f = true by rw [HFL.out]; rw [HP.out, Bool.true_and]; exact HSF.out.all (by omega))
          go_wp2_with fail
          go_ret
          exact ⟨ret_bool HR.out.symm, HBR.out⟩
    · have HP := hid (show coreP f = false by unfold coreP notQ looseO; rw [HG.out, h4, decide_eq_false h3]; rfl)
      have HR := hid (show coreA f = false by rw [HFL.out, HP.out]; rfl)
      have d1 : decide (1 ≤ f.op) = true := decide_eq_true (by omega)
      have d2 : decide (f.op ≤ 6) = true := decide_eq_true (by omega)
      have d4 : (f.op == 4) = true := by rw [h4]; rfl
      have d3 : (g.op != 3) = true := by simpa using h3
      go_wp2_with fail
      go_ret
      exact ⟨ret_bool HR.out.symm, HBW.out⟩
  · have d4 : (f.op == 4) = false := beq_false_of h4
    have HNQ := hid (show notQ f = true by unfold notQ; rw [decide_eq_false h4]; rfl)
    cases hl : looseO f.op
    · have HR := hid (show coreA f = false by rw [HFL.out]; unfold coreP; rw [hl]; rfl)
      have hl' := hl
      unfold looseO at hl'
      simp only [Bool.or_eq_false_iff] at hl'
      obtain ⟨⟨⟨⟨⟨⟨l0, l1⟩, l2⟩, l3⟩, l4⟩, l5⟩, l6⟩ := hl'
      clear h40 hl
      by_cases h1 : 1 ≤ f.op
      · have d1 : decide (1 ≤ f.op) = true := decide_eq_true h1
        rw [d1, Bool.true_and] at l0
        go_wp2_with fail
        go_ret
        exact ⟨ret_bool HR.out.symm, HBW.out⟩
      · have d1 : decide (1 ≤ f.op) = false := decide_eq_false h1
        clear l0
        go_wp2_with fail
        go_ret
        exact ⟨ret_bool HR.out.symm, HBW.out⟩
    · have HP := hid (show coreP f = true by unfold coreP; rw [hl, HNQ.out]; rfl)
      unfold looseO at hl
      simp only [Bool.or_eq_true] at hl
      clear h40
      have HL := hid hl
      clear hl
      by_cases h6 : 1 ≤ f.op ∧ f.op ≤ 6
      · have d1 : decide (1 ≤ f.op) = true := decide_eq_true h6.1
        have d2 : decide (f.op ≤ 6) = true := decide_eq_true h6.2
        go_wp2_with fail
        go_loopw [4] (fun q wr => ∃ i : Nat, i ≤ f.args.length ∧ q = .int .i64 (i : Int) ∧ Below W.heap.size W wr ∧ SoFar i (fun j => coreA (f.args.getD j default))) (fun q _ => f.args.length - (intOf q).toNat)
        case atStart => exact ⟨0, Nat.zero_le _, rfl, Below.refl _ _, SoFar.zero _⟩
        case round =>
          obtain ⟨i, hi, rfl, hb, hsf⟩ := hrel
          obtain ⟨x0, x1, x2, x3, x4, xl⟩ := (HBX.out.below hb).cells
          have HB := hid hb
          have HBR := hid (HBW.out.trans (hb.mono HBW.out.size))
          have HSF := hid hsf
          clear hb hsf
          by_cases hlt : i < f.args.length
          · have hii : (i : Int) < f.args.length := by omega
            obtain ⟨b, o, A', c', g, heq, HG, hg⟩ := (HA.out.keep (Keeps.of_below HBR.out fun _ h => h)).get hlt
            cases heq
            obtain ⟨gd, gl, g0, g1, g2, g3, g4, ga⟩ := hg
            have hcall := HIH.out i hlt (D := (· < w.heap.size)) (.agg #[.int .i64 g.op, .string g.name, .int .i64 g.val, .int .i64 g.bound, .slice A' g.args.length c']) wr (by rw [HG.out]; exact ⟨A', c', rfl, ga⟩) (nodes_arg HN.out hlt)
            rw [HG.out] at hcall
            cases hq : coreA g
            · rw [hq] at hcall
              have HR := hid (show coreA f = false by rw [HFL.out]; rw [allN_false (j := i) hlt (by rw [HG.out]; exact hq), Bool.and_false])
              have HCALL := hid hcall
              clear hcall ga hq
              go_wp2_with fail
              refine HCALL.out.mono ?_
              rintro e w1 ⟨rfl, hb1⟩
              have HB1 := hid (HBR.out.trans (hb1.mono HBR.out.size))
              clear hb1
              go_wp2_with fail
              go_ret
              exact ⟨ret_bool HR.out.symm, HB1.out⟩
            · rw [hq] at hcall
              have HQ := hid (show coreA (f.args.getD i default) = true by rw [HG.out]; exact hq)
              have HCALL := hid hcall
              clear hcall ga hq
              go_wp2_with fail
              refine HCALL.out.mono ?_
              rintro e w1 ⟨rfl, hb1⟩
              have HB1 := hid (HB.out.trans (hb1.mono HB.out.size))
              clear hb1
              go_wp2_with fail
              go_roundw
              case rel => exact ⟨i + 1, by omega, by go_num, HB1.out, HSF.out.succ HQ.out⟩
              case measure => simp [intOf]; omega
          · have hii : ¬ (i : Int) < f.args.length := by omega
            have HR := hid (show coreA f = true by rw [HFL.out]; rw [HP.out, Bool.true_and]; exact HSF.out.all (by omega))
            go_wp2_with fail
            go_ret
            exact ⟨ret_bool HR.out.symm, HBR.out⟩
      by_cases h8 : f.op = 8
      · have d1 : decide (1 ≤ f.op) = true := decide_eq_true (by omega)
        have d2 : decide (f.op ≤ 6) = false := decide_eq_false (by omega)
        have e8 : (f.op == 8) = true := beq_iff_eq.2 h8
        clear h8
        go_wp2_with fail
        go_loopw [4] (fun q wr => ∃ i : Nat, i ≤ f.args.length ∧ q = .int .i64 (i : Int) ∧ Below W.heap.size W wr ∧ SoFar i (fun j => coreA (f.args.getD j default))) (fun q _ => f.args.length - (intOf q).toNat)
        case atStart => exact ⟨0, Nat.zero_le _, rfl, Below.refl _ _, SoFar.zero _⟩
        case round =>
          obtain ⟨i, hi, rfl, hb, hsf⟩ := hrel
          obtain ⟨x0, x1, x2, x3, x4, xl⟩ := (HBX.out.below hb).cells
          have HB := hid hb
          have HBR := hid (HBW.out.trans (hb.mono HBW.out.size))
          have HSF := hid hsf
          clear hb hsf
          by_cases hlt : i < f.args.length
          · have hii : (i : Int) < f.args.length := by omega
            obtain ⟨b, o, A', c', g, heq, HG, hg⟩ := (HA.out.keep (Keeps.of_below HBR.out fun _ h => h)).get hlt
            cases heq
            obtain ⟨gd, gl, g0, g1, g2, g3, g4, ga⟩ := hg
            have hcall := HIH.out i hlt (D := (· < w.heap.size)) (.agg #[.int .i64 g.op, .string g.name, .int .i64 g.val, .int .i64 g.bound, .slice A' g.args.length c']) wr (by rw [HG.out]; exact ⟨A', c', rfl, ga⟩) (nodes_arg HN.out hlt)
            rw [HG.out] at hcall
            cases hq : coreA g
            · rw [hq] at hcall
              have HR := hid (show coreA f = false by rw [HFL.out]; rw [allN_false (j := i) hlt (by rw [HG.out]; exact hq), Bool.and_false])
              have HCALL := hid hcall
              clear hcall ga hq
              go_wp2_with fail
              refine HCALL.out.mono ?_
              rintro e w1 ⟨rfl, hb1⟩
              have HB1 := hid (HBR.out.trans (hb1.mono HBR.out.size))
              clear hb1
              go_wp2_with fail
              go_ret
              exact ⟨ret_bool HR.out.symm, HB1.out⟩
            · rw [hq] at hcall
              have HQ := hid (show coreA (f.args.getD i default) = true by rw [HG.out]; exact hq)
              have HCALL := hid hcall
              clear hcall ga hq
              go_wp2_with fail
              refine HCALL.out.mono ?_
              rintro e w1 ⟨rfl, hb1⟩
              have HB1 := hid (HB.out.trans (hb1.mono HB.out.size))
              clear hb1
              go_wp2_with fail
              go_roundw
              case rel => exact ⟨i + 1, by omega, by go_num, HB1.out, HSF.out.succ HQ.out⟩
              case measure => simp [intOf]; omega
          · have hii : ¬ (i : Int) < f.args.length := by omega
            have HR := hid (show coreA f = true by rw [HFL.out]; rw [HP.out, Bool.true_and]; exact HSF.out.all (by omega))
            go_wp2_with fail
            go_ret
            exact ⟨ret_bool HR.out.symm, HBR.out⟩
      by_cases h9 : f.op = 9
      · have d1 : decide (1 ≤ f.op) = true := decide_eq_true (by omega)
        have d2 : decide (f.op ≤ 6) = false := decide_eq_false (by omega)
        have e8 : (f.op == 8) = false := beq_false_of (by omega)
        have e9 : (f.op == 9) = true := beq_iff_eq.2 h9
        clear h9
        go_wp2_with fail
        go_loopw [4] (fun q wr => ∃ i : Nat, i ≤ f.args.length ∧ q = .int .i64 (i : Int) ∧ Below W.heap.size W wr ∧ SoFar i (fun j => coreA (f.args.getD j default))) (fun q _ => f.args.length - (intOf q).toNat)
        case atStart => exact ⟨0, Nat.zero_le _, rfl, Below.refl _ _, SoFar.zero _⟩
        case round =>
          obtain ⟨i, hi, rfl, hb, hsf⟩ := hrel
          obtain ⟨x0, x1, x2, x3, x4, xl⟩ := (HBX.out.below hb).cells
          have HB := hid hb
          have HBR := hid (HBW.out.trans (hb.mono HBW.out.size))
          have HSF := hid hsf
          clear hb hsf
          by_cases hlt : i < f.args.length
          · have hii : (i : Int) < f.args.length := by omega
            obtain ⟨b, o, A', c', g, heq, HG, hg⟩ := (HA.out.keep (Keeps.of_below HBR.out fun _ h => h)).get hlt
            cases heq
            obtain ⟨gd, gl, g0, g1, g2, g3, g4, ga⟩ := hg
            have hcall := HIH.out i hlt (D := (· < w.heap.size)) (.agg #[.int .i64 g.op, .string g.name, .int .i64 g.val, .int .i64 g.bound, .slice A' g.args.length c']) wr (by rw [HG.out]; exact ⟨A', c', rfl, ga⟩) (nodes_arg HN.out hlt)
            rw [HG.out] at hcall
            cases hq : coreA g
            · rw [hq] at hcall
              have HR := hid (show coreA f = false by rw [HFL.out]; rw [allN_false (j := i) hlt (by rw [HG.out]; exact hq), Bool.and_false])
              have HCALL := hid hcall
              clear hcall ga hq
              go_wp2_with fail
              refine HCALL.out.mono ?_
              rintro e w1 ⟨rfl, hb1⟩
              have HB1 := hid (HBR.out.trans (hb1.mono HBR.out.size))
              clear hb1
              go_wp2_with fail
              go_ret
              exact ⟨ret_bool HR.out.symm, HB1.out⟩
            · rw [hq] at hcall
              have HQ := hid (show coreA (f.args.getD i default) = true by rw [HG.out]; exact hq)
              have HCALL := hid hcall
              clear hcall ga hq
              go_wp2_with fail
              refine HCALL.out.mono ?_
              rintro e w1 ⟨rfl, hb1⟩
              have HB1 := hid (HB.out.trans (hb1.mono HB.out.size))
              clear hb1
              go_wp2_with fail
              go_roundw
              case rel => exact ⟨i + 1, by omega, by go_num, HB1.out, HSF.out.succ HQ.out⟩
              case measure => simp [intOf]; omega
          · have hii : ¬ (i : Int) < f.args.length := by omega
            have HR := hid (show coreA f = true by rw [HFL.out]; rw [HP.out, Bool.true_and]; exact HSF.out.all (by omega))
            go_wp2_with fail
            go_ret
            exact ⟨ret_bool HR.out.symm, HBR.out⟩
      by_cases h10 : f.op = 10
      · have d1 : decide (1 ≤ f.op) = true := decide_eq_true (by omega)
        have d2 : decide (f.op ≤ 6) = false := decide_eq_false (by omega)
        have e8 : (f.op == 8) = false := beq_false_of (by omega)
        have e9 : (f.op == 9) = false := beq_false_of (by omega)
        have e10 : (f.op == 10) = true := beq_iff_eq.2 h10
        clear h10
        go_wp2_with fail
        go_loopw [4] (fun q wr => ∃ i : Nat, i ≤ f.args.length ∧ q = .int .i64 (i : Int) ∧ Below W.heap.size W wr ∧ SoFar i (fun j => coreA (f.args.getD j default))) (fun q _ => f.args.length - (intOf q).toNat)
        case atStart => exact ⟨0, Nat.zero_le _, rfl, Below.refl _ _, SoFar.zero _⟩
        case round =>
          obtain ⟨i, hi, rfl, hb, hsf⟩ := hrel
          obtain ⟨x0, x1, x2, x3, x4, xl⟩ := (HBX.out.below hb).cells
          have HB := hid hb
          have HBR := hid (HBW.out.trans (hb.mono HBW.out.size))
          have HSF := hid hsf
          clear hb hsf
          by_cases hlt : i < f.args.length
          · have hii : (i : Int) < f.args.length := by omega
            obtain ⟨b, o, A', c', g, heq, HG, hg⟩ := (HA.out.keep (Keeps.of_below HBR.out fun _ h => h)).get hlt
            cases heq
            obtain ⟨gd, gl, g0, g1, g2, g3, g4, ga⟩ := hg
            have hcall := HIH.out i hlt (D := (· < w.heap.size)) (.agg #[.int .i64 g.op, .string g.name, .int .i64 g.val, .int .i64 g.bound, .slice A' g.args.length c']) wr (by rw [HG.out]; exact ⟨A', c', rfl, ga⟩) (nodes_arg HN.out hlt)
            rw [HG.out] at hcall
            cases hq : coreA g
            · rw [hq] at hcall
              have HR := hid (show coreA f = false by rw [HFL.out]; rw [allN_false (j := i) hlt (by rw [HG.out]; exact hq), Bool.and_false])
              have HCALL := hid hcall
              clear hcall ga hq
              go_wp2_with fail
              refine HCALL.out.mono ?_
              rintro e w1 ⟨rfl, hb1⟩
              have HB1 := hid (HBR.out.trans (hb1.mono HBR.out.size))
              clear hb1
              go_wp2_with fail
              go_ret
              exact ⟨ret_bool HR.out.symm, HB1.out⟩
            · rw [hq] at hcall
              have HQ := hid (show coreA (f.args.getD i default) = true by rw [HG.out]; exact hq)
              have HCALL := hid hcall
              clear hcall ga hq
              go_wp2_with fail
              refine HCALL.out.mono ?_
              rintro e w1 ⟨rfl, hb1⟩
              have HB1 := hid (HB.out.trans (hb1.mono HB.out.size))
              clear hb1
              go_wp2_with fail
              go_roundw
              case rel => exact ⟨i + 1, by omega, by go_num, HB1.out, HSF.out.succ HQ.out⟩
              case measure => simp [intOf]; omega
          · have hii : ¬ (i : Int) < f.args.length := by omega
            have HR := hid (show coreA f = true by rw [HFL.out]; rw [HP.out, Bool.true_and]; exact HSF.out.all (by omega))
            go_wp2_with fail
            go_ret
            exact ⟨ret_bool HR.out.symm, HBR.out⟩
      by_cases h15 : f.op = 15
      · have d1 : decide (1 ≤ f.op) = true := decide_eq_true (by omega)
        have d2 : decide (f.op ≤ 6) = false := decide_eq_false (by omega)
        have e8 : (f.op == 8) = false := beq_false_of (by omega)
        have e9 : (f.op == 9) = false := beq_false_of (by omega)
        have e10 : (f.op == 10) = false := beq_false_of (by omega)
        have e15 : (f.op == 15) = true := beq_iff_eq.2 h15
        clear h15
        go_wp2_with fail
        go_loopw [4] (fun q wr => ∃ i : Nat, i ≤ f.args.length ∧ q = .int .i64 (i : Int) ∧ Below W.heap.size W wr ∧ SoFar i (fun j => coreA (f.args.getD j default))) (fun q _ => f.args.length - (intOf q).toNat)
        case atStart => exact ⟨0, Nat.zero_le _, rfl, Below.refl _ _, SoFar.zero _⟩
        case round =>
          obtain ⟨i, hi, rfl, hb, hsf⟩ := hrel
          obtain ⟨x0, x1, x2, x3, x4, xl⟩ := (HBX.out.below hb).cells
          have HB := hid hb
          have HBR := hid (HBW.out.trans (hb.mono HBW.out.size))
          have HSF := hid hsf
          clear hb hsf
          by_cases hlt : i < f.args.length
          · have hii : (i : Int) < f.args.length := by omega
            obtain ⟨b, o, A', c', g, heq, HG, hg⟩ := (HA.out.keep (Keeps.of_below HBR.out fun _ h => h)).get hlt
            cases heq
            obtain ⟨gd, gl, g0, g1, g2, g3, g4, ga⟩ := hg
            have hcall := HIH.out i hlt (D := (· < w.heap.size)) (.agg #[.int .i64 g.op, .string g.name, .int .i64 g.val, .int .i64 g.bound, .slice A' g.args.length c']) wr (by rw [HG.out]; exact ⟨A', c', rfl, ga⟩) (nodes_arg HN.out hlt)
            rw [HG.out] at hcall
            cases hq : coreA g
            · rw [hq] at hcall
              have HR := hid (show coreA f = false by rw [HFL.out]; rw [allN_false (j := i) hlt (by rw [HG.out]; exact hq), Bool.and_false])
              have HCALL := hid hcall
              clear hcall ga hq
              go_wp2_with fail
              refine HCALL.out.mono ?_
              rintro e w1 ⟨rfl, hb1⟩
              have HB1 := hid (HBR.out.trans (hb1.mono HBR.out.size))
              clear hb1
              go_wp2_with fail
              go_ret
              exact ⟨ret_bool HR.out.symm, HB1.out⟩
            · rw [hq] at hcall
              have HQ := hid (show coreA (f.args.getD i default) = true by rw [HG.out]; exact hq)
              have HCALL := hid hcall
              clear hcall ga hq
              go_wp2_with fail
              refine HCALL.out.mono ?_
              rintro e w1 ⟨rfl, hb1⟩
              have HB1 := hid (HB.out.trans (hb1.mono HB.out.size))
              clear hb1
              go_wp2_with fail
              go_roundw
              case rel => exact ⟨i + 1, by omega, by go_num, HB1.out, HSF.out.succ HQ.out⟩
              case measure => simp [intOf]; omega
          · have hii : ¬ (i : Int) < f.args.length := by omega
            have HR := hid (show coreA f = true by rw [HFL.out]; rw [HP.out, Bool.true_and]; exact HSF.out.all (by omega))
            go_wp2_with fail
            go_ret
            exact ⟨ret_bool HR.out.symm, HBR.out⟩
      by_cases h16 : f.op = 16
      · have d1 : decide (1 ≤ f.op) = true := decide_eq_true (by omega)
        have d2 : decide (f.op ≤ 6) = false := decide_eq_false (by omega)
        have e8 : (f.op == 8) = false := beq_false_of (by omega)
        have e9 : (f.op == 9) = false := beq_false_of (by omega)
        have e10 : (f.op == 10) = false := beq_false_of (by omega)
        have e15 : (f.op == 15) = false := beq_false_of (by omega)
        have e16 : (f.op == 16) = true := beq_iff_eq.2 h16
        clear h16
        go_wp2_with fail
        go_loopw [4] (fun q wr => ∃ i : Nat, i ≤ f.args.length ∧ q = .int .i64 (i : Int) ∧ Below W.heap.size W wr ∧ SoFar i (fun j => coreA (f.args.getD j default))) (fun q _ => f.args.length - (intOf q).toNat)
        case atStart => exact ⟨0, Nat.zero_le _, rfl, Below.refl _ _, SoFar.zero _⟩
        case round =>
          obtain ⟨i, hi, rfl, hb, hsf⟩ := hrel
          obtain ⟨x0, x1, x2, x3, x4, xl⟩ := (HBX.out.below hb).cells
          have HB := hid hb
          have HBR := hid (HBW.out.trans (hb.mono HBW.out.size))
          have HSF := hid hsf
          clear hb hsf
          by_cases hlt : i < f.args.length
          · have hii : (i : Int) < f.args.length := by omega
            obtain ⟨b, o, A', c', g, heq, HG, hg⟩ := (HA.out.keep (Keeps.of_below HBR.out fun _ h => h)).get hlt
            cases heq
            obtain ⟨gd, gl, g0, g1, g2, g3, g4, ga⟩ := hg
            have hcall := HIH.out i hlt (D := (· < w.heap.size)) (.agg #[.int .i64 g.op, .string g.name, .int .i64 g.val, .int .i64 g.bound, .slice A' g.args.length c']) wr (by rw [HG.out]; exact ⟨A', c', rfl, ga⟩) (nodes_arg HN.out hlt)
            rw [HG.out] at hcall
            cases hq : coreA g
            · rw [hq] at hcall
              have HR := hid (show coreA f = false by rw [HFL.out]; rw [allN_false (j := i) hlt (by rw [HG.out]; exact hq), Bool.and_false])
              have HCALL := hid hcall
              clear hcall ga hq
              go_wp2_with fail
              refine HCALL.out.mono ?_
              rintro e w1 ⟨rfl, hb1⟩
              have HB1 := hid (HBR.out.trans (hb1.mono HBR.out.size))
              clear hb1
              go_wp2_with fail
              go_ret
              exact ⟨ret_bool HR.out.symm, HB1.out⟩
            · rw [hq] at hcall
              have HQ := hid (show coreA (f.args.getD i default) = true by rw [HG.out]; exact hq)
              have HCALL := hid hcall
              clear hcall ga hq
              go_wp2_with fail
              refine HCALL.out.mono ?_
              rintro e w1 ⟨rfl, hb1⟩
              have HB1 := hid (HB.out.trans (hb1.mono HB.out.size))
              clear hb1
              go_wp2_with fail
              go_roundw
              case rel => exact ⟨i + 1, by omega, by go_num, HB1.out, HSF.out.succ HQ.out⟩
              case measure => simp [intOf]; omega
          · have hii : ¬ (i : Int) < f.args.length := by omega
            have HR := hid (show coreA f = true by rw [HFL.out]; rw [HP.out, Bool.true_and]; exact HSF.out.all (by omega))
            go_wp2_with fail
            go_ret
            exact ⟨ret_bool HR.out.symm, HBR.out⟩
      by_cases h17 : f.op = 17
      · have d1 : decide (1 ≤ f.op) = true := decide_eq_true (by omega)
        have d2 : decide (f.op ≤ 6) = false := decide_eq_false (by omega)
        have e8 : (f.op == 8) = false := beq_false_of (by omega)
        have e9 : (f.op == 9) = false := beq_false_of (by omega)
        have e10 : (f.op == 10) = false := beq_false_of (by omega)
        have e15 : (f.op == 15) = false := beq_false_of (by omega)
        have e16 : (f.op == 16) = false := beq_false_of (by omega)
        have e17 : (f.op == 17) = true := beq_iff_eq.2 h17
        clear h17
        go_wp2_with fail
        go_loopw [4] (fun q wr => ∃ i : Nat, i ≤ f.args.length ∧ q = .int .i64 (i : Int) ∧ Below W.heap.size W wr ∧ SoFar i (fun j => coreA (f.args.getD j default))) (fun q _ => f.args.length - (intOf q).toNat)
        case atStart => exact ⟨0, Nat.zero_le _, rfl, Below.refl _ _, SoFar.zero _⟩
        case round =>
          obtain ⟨i, hi, rfl, hb, hsf⟩ := hrel
          obtain ⟨x0, x1, x2, x3, x4, xl⟩ := (HBX.out.below hb).cells
          have HB := hid hb
          have HBR := hid (HBW.out.trans (hb.mono HBW.out.size))
          have HSF := hid hsf
          clear hb hsf
          by_cases hlt : i < f.args.length
          · have hii : (i : Int) < f.args.length := by omega
            obtain ⟨b, o, A', c', g, heq, HG, hg⟩ := (HA.out.keep (Keeps.of_below HBR.out fun _ h => h)).get hlt
            cases heq
            obtain ⟨gd, gl, g0, g1, g2, g3, g4, ga⟩ := hg
            have hcall := HIH.out i hlt (D := (· < w.heap.size)) (.agg #[.int .i64 g.op, .string g.name, .int .i64 g.val, .int .i64 g.bound, .slice A' g.args.length c']) wr (by rw [HG.out]; exact ⟨A', c', rfl, ga⟩) (nodes_arg HN.out hlt)
            rw [HG.out] at hcall
            cases hq : coreA g
            · rw [hq] at hcall
              have HR := hid (show coreA f = false by rw [HFL.out]; rw [allN_false (j := i) hlt (by rw [HG.out]; exact hq), Bool.and_false])
              have HCALL := hid hcall
              clear hcall ga hq
              go_wp2_with fail
              refine HCALL.out.mono ?_
              rintro e w1 ⟨rfl, hb1⟩
              have HB1 := hid (HBR.out.trans (hb1.mono HBR.out.size))
              clear hb1
              go_wp2_with fail
              go_ret
              exact ⟨ret_bool HR.out.symm, HB1.out⟩
            · rw [hq] at hcall
              have HQ := hid (show coreA (f.args.getD i default) = true by rw [HG.out]; exact hq)
              have HCALL := hid hcall
              clear hcall ga hq
              go_wp2_with fail
              refine HCALL.out.mono ?_
              rintro e w1 ⟨rfl, hb1⟩
              have HB1 := hid (HB.out.trans (hb1.mono HB.out.size))
              clear hb1
              go_wp2_with fail
              go_roundw
              case rel => exact ⟨i + 1, by omega, by go_num, HB1.out, HSF.out.succ HQ.out⟩
              case measure => simp [intOf]; omega
          · have hii : ¬ (i : Int) < f.args.length := by omega
            have HR := hid (show coreA f = true by rw [HFL.out]; rw [HP.out, Bool.true_and]; exact HSF.out.all (by omega))
            go_wp2_with fail
            go_ret
            exact ⟨ret_bool HR.out.symm, HBR.out⟩
      exfalso
      have := HL.out
      simp only [Bool.and_eq_true, decide_eq_true_eq, beq_iff_eq] at this
      omega
end Go.Proofs.YtahgbgniaiccbaaGreatDoor
