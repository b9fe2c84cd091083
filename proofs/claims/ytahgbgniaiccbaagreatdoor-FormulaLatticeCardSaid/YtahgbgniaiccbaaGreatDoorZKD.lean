/-
  Walks of the reference: nodes, Valid, Loose; low.
-/
import Derived.Test.YtahgbgniaiccbaaGreatDoorZKC
set_option linter.unusedVariables false
set_option linter.unusedSimpArgs false
namespace Go.Proofs.YtahgbgniaiccbaaGreatDoor
open Go.RowKit Go.Shelf
attribute [local go_sem] cell_alloc_old

set_option maxRecDepth 100000 in
set_option maxHeartbeats 4000000 in
theorem rnodes_any (f : Fm) : ∀ {D : Dom} (v : Value) (w : World) (h : RdF3 w D v f) (hz : f.size ≤ 1000000), Calls Tryz.prog 45 #[v] w fun e w' => e = .returned (.bool (nodesA f)) ∧ Below w.heap.size w w' := by
  refine Fm.induct (P := fun f => ∀ {D : Dom} (v : Value) (w : World) (h : RdF3 w D v f) (hz : f.size ≤ 1000000), Calls Tryz.prog 45 #[v] w fun e w' => e = .returned (.bool (nodesA f)) ∧ Below w.heap.size w w') ?_ f
  intro f ih D v w h hz
  have HIH := hid ih
  have HFL := hid (show nodesA f = (shapedB f && allN f.args.length fun i => nodesA (f.args.getD i default)) from allB_flat shapedB f)
  obtain ⟨A, c, rfl, ha⟩ := h
  have HA := hid ha.old
  have hal := ha.len.1
  clear ih ha
  go_enter Tryz.func45, Tryz.ntmps45
  go_upto_region 1 with (fail)
  refine wp_gen fun W hW => ?_
  have hbx : Box5 W w.heap.size f A c := by rw [hW]; exact Box5.new w f A c
  have HBX := hid hbx
  have HBW := hid (show Below w.heap.size w W by rw [hW]; go_grown)
  obtain ⟨x0, x1, x2, x3, x4, xl⟩ := hbx.cells
  clear hW hbx
  have HZ := hid hz
  have HND := hid (rnode_any f (.agg #[.int .i64 f.op, .string f.name, .int .i64 f.val, .int .i64 f.bound, .slice A f.args.length c]) W ⟨A, c, rfl, HA.out.keep (Keeps.of_below HBW.out fun _ h => h)⟩ (by have := args_sizes f.args; have := Fm.size_eq f; unfold manyN; omega))
  clear hz
  cases hs : shapedB f
  · have HR := hid (show nodesA f = false by rw [HFL.out, hs]; rfl)
    rw [hs] at HND
    clear hs
    go_wp2_with (first | (go_at_call 64; (with_reducible refine HND.out.mono ?_); rintro e w1 ⟨rfl, hb⟩))
    go_ret
    exact ⟨ret_bool HR.out.symm, HBW.out.trans (hb.mono HBW.out.size)⟩
  have HP := hid hs
  rw [hs] at HND
  clear hs
  go_upto_region 3 with (first | (go_at_call 64; (with_reducible refine HND.out.mono ?_); rintro e W1 ⟨rfl, hb⟩))
  replace HBX := hid (HBX.out.below hb)
  replace HBW := hid (HBW.out.trans (hb.mono HBW.out.size))
  clear hb HND x0 x1 x2 x3 x4 xl
  rename World => W
  go_wp2_with fail
  go_loopw [3] (fun q wr => ∃ i : Nat, i ≤ f.args.length ∧ q = .int .i64 (i : Int) ∧ Below W.heap.size W wr ∧ SoFar i (fun j => nodesA (f.args.getD j default))) (fun q _ => f.args.length - (intOf q).toNat)
  case atStart => exact ⟨0, Nat.zero_le _, rfl, Below.refl _ _, SoFar.zero _⟩
  case round =>
    obtain ⟨i, hi, rfl, hb, hsf⟩ := hrel
    obtain ⟨x0, x1, x2, x3, x4, xl⟩ := (HBX.out.below hb).cells
    have HB := hid hb
    have HBR := hid (HBW.out.trans (hb.mono HBW.out.size))
    have HSF := hid hsf
    clear hb hsf
    by_cases hlt : i < f.args.length
    · have hii : (i : Int) < f.args.length := by omega
      obtain ⟨b, o, A', c', g, heq, HG, hg⟩ := (HA.out.keep (Keeps.of_below HBR.out fun _ h => h)).get hlt
      cases heq
      obtain ⟨gd, gl, g0, g1, g2, g3, g4, ga⟩ := hg
      have hcall := HIH.out i hlt (D := (· < w.heap.size)) (.agg #[.int .i64 g.op, .string g.name, .int .i64 g.val, .int .i64 g.bound, .slice A' g.args.length c']) wr (by rw [HG.out]; exact ⟨A', c', rfl, ga⟩) (by have := arg_size hlt; have := HZ.out; omega)
      rw [HG.out] at hcall
      cases hq : nodesA g
      · rw [hq] at hcall
        have HR := hid (show nodesA f = false by rw [HFL.out]; rw [allN_false (j := i) hlt (by rw [HG.out]; exact hq), Bool.and_false])
        have HCALL := hid hcall
        clear hcall ga hq
        go_wp2_with fail
        refine HCALL.out.mono ?_
        rintro e w1 ⟨rfl, hb1⟩
        have HB1 := hid (HBR.out.trans (hb1.mono HBR.out.size))
        clear hb1
        go_wp2_with fail
        go_ret
        exact ⟨ret_bool HR.out.symm, HB1.out⟩
      · rw [hq] at hcall
        have HQ := hid (show nodesA (f.args.getD i default) = true by rw [HG.out]; exact hq)
        have HCALL := hid hcall
        clear hcall ga hq
        go_wp2_with fail
        refine HCALL.out.mono ?_
        rintro e w1 ⟨rfl, hb1⟩
        have HB1 := hid (HB.out.trans (hb1.mono HB.out.size))
        clear hb1
        go_wp2_with fail
        go_roundw
        case rel => exact ⟨i + 1, by omega, by go_num, HB1.out, HSF.out.succ HQ.out⟩
        case measure => simp [intOf]; omega
    · have hii : ¬ (i : Int) < f.args.length := by omega
      have HR := hid (show nodesA f = true by rw [HFL.out]; rw [HP.out, Bool.true_and]; exact HSF.out.all (by omega))
      go_wp2_with fail
      go_ret
      exact ⟨ret_bool HR.out.symm, HBR.out⟩
section
variable {D : Dom} {v : Value} {f : Fm} {w : World}
theorem rsmall_r (m : Nat) (l : Int) (hl : l = (m : Int)) (hm : m ≤ 1000000) (r : Bool) (hr : decide (f.size ≤ m) = r) (h : RdF3 w D v f) : Calls Tryz.prog 27 #[v, .int .i64 l] w fun e w' => e = .returned (.bool r) ∧ Below w.heap.size w w' := by
  subst hl
  rw [← hr]; exact rsmall_any f _ m w h hm
theorem rnodes_r (r : Bool) (hr : nodesA f = r) (hz : f.size ≤ 1000000) (h : RdF3 w D v f) : Calls Tryz.prog 45 #[v] w fun e w' => e = .returned (.bool r) ∧ Below w.heap.size w w' := by
  rw [← hr]; exact rnodes_any f v w h hz
theorem rcore_r (r : Bool) (hr : coreA f = r) (hn : nodesA f = true) (h : RdF3 w D v f) : Calls Tryz.prog 46 #[v] w fun e w' => e = .returned (.bool r) ∧ Below w.heap.size w w' := by
  rw [← hr]; exact rcore_any f v w h hn
theorem rlay_r (r : Bool) (hr : layL f = r) (h : RdF3 w D v f) : Calls Tryz.prog 47 #[v] w fun e w' => e = .returned (.bool r) ∧ Below w.heap.size w w' := by
  rw [← hr]; exact rlayered_any f v w h
end
def looseR (f : Fm) : Bool := decide (f.size ≤ 400) && decide (f.depth ≤ 60) && nodesA f && coreA f && layL f
def validR (f : Fm) : Bool := decide (f.size ≤ 60) && decide (f.depth ≤ 20) && nodesA f
def lowR (f : Fm) : Bool := decide (f.size ≤ 100) && decide (f.depth ≤ 50) && looseR f
set_option maxRecDepth 100000 in
set_option maxHeartbeats 4000000 in
theorem rloose_any {D : Dom} (f : Fm) (v : Value) (w : World) (h : RdF3 w D v f) : Calls Tryz.prog 29 #[v] w fun e w' => e = .returned (.bool (looseR f)) ∧ Below w.heap.size w w' := by
  obtain ⟨A, c, rfl, ha⟩ := h
  have HA := hid ha.old
  clear ha
  go_enter Tryz.func29, Tryz.ntmps29
  go_upto_region 1 with (fail)
  refine wp_gen fun W hW => ?_
  have hbx : Box5 W w.heap.size f A c := by rw [hW]; exact Box5.new w f A c
  have HBX := hid hbx
  have HBW := hid (show Below w.heap.size w W by rw [hW]; go_grown)
  have HV : Hid (RdF3 W AnyD (.agg #[.int .i64 f.op, .string f.name, .int .i64 f.val, .int .i64 f.bound, .slice A f.args.length c]) f) := hid ⟨A, c, rfl, (HA.out.keep (Keeps.of_below HBW.out fun _ h => h)).mono fun _ _ _ => trivial⟩
  obtain ⟨x0, x1, x2, x3, x4, xl⟩ := hbx.cells
  clear hW hbx HA
  by_cases c0 : f.size ≤ 400
  rotate_left
  · have hc0 := hid (decide_eq_false c0)
    have HR := hid (show looseR f = false by unfold looseR; rw [hc0.out]; rfl)
    go_wp2_with (go_at_call 27; (with_reducible refine (rsmall_r (D := AnyD) (f := f) 400 400 rfl ?_ false ?_ ?_).mono ?_); decide; exact hc0.out; exact HV.out; rintro e U ⟨rfl, hb⟩; clear x0 x1 x2 x3 x4 xl; replace HV := hid (HV.out.any hb); replace HBX := hid (HBX.out.below hb); replace HBW := hid (HBW.out.trans (hb.mono HBW.out.size)); obtain ⟨x0, x1, x2, x3, x4, xl⟩ := HBX.out.cells; clear hb)
    go_ret
    exact ⟨ret_bool HR.out.symm, HBW.out⟩
  have hc0 := hid (decide_eq_true c0)
  have HSZ := hid c0
  by_cases c1 : f.depth ≤ 60
  rotate_left
  · have hc1 := hid (decide_eq_false c1)
    have e1 : decide ((f.depth : Int) ≤ 60) = false := decide_eq_false (by omega)
    have k1 : ¬ (f.depth : Int) ≤ 60 := by omega
    clear c0 c1
    have HR := hid (show looseR f = false by unfold looseR; rw [hc0.out, hc1.out]; rfl)
    go_wp2_with (first | (go_at_call 27; (with_reducible refine (rsmall_r (D := AnyD) (f := f) 400 400 rfl ?_ true ?_ ?_).mono ?_); decide; exact hc0.out; exact HV.out; rintro e U ⟨rfl, hb⟩; clear x0 x1 x2 x3 x4 xl; replace HV := hid (HV.out.any hb); replace HBX := hid (HBX.out.below hb); replace HBW := hid (HBW.out.trans (hb.mono HBW.out.size)); obtain ⟨x0, x1, x2, x3, x4, xl⟩ := HBX.out.cells; clear hb) | (go_at_call 28; (with_reducible refine (rdepth_any f _ _ HV.out ?_).mono ?_); (have := depth_size f; have := HSZ.out; omega); rintro e U ⟨rfl, hb⟩; clear x0 x1 x2 x3 x4 xl; replace HV := hid (HV.out.any hb); replace HBX := hid (HBX.out.below hb); replace HBW := hid (HBW.out.trans (hb.mono HBW.out.size)); obtain ⟨x0, x1, x2, x3, x4, xl⟩ := HBX.out.cells; clear hb))
    go_ret
    exact ⟨ret_bool HR.out.symm, HBW.out⟩
  have hc1 := hid (decide_eq_true c1)
  have e1 : decide ((f.depth : Int) ≤ 60) = true := decide_eq_true (by omega)
  have k1 : (f.depth : Int) ≤ 60 := by omega
  clear c0 c1
  cases c2 : nodesA f
  · have hc2 := hid c2
    clear c2
    have HR := hid (show looseR f = false by unfold looseR; rw [hc0.out, hc1.out, hc2.out]; rfl)
    go_wp2_with (first | (go_at_call 27; (with_reducible refine (rsmall_r (D := AnyD) (f := f) 400 400 rfl ?_ true ?_ ?_).mono ?_); decide; exact hc0.out; exact HV.out; rintro e U ⟨rfl, hb⟩; clear x0 x1 x2 x3 x4 xl; replace HV := hid (HV.out.any hb); replace HBX := hid (HBX.out.below hb); replace HBW := hid (HBW.out.trans (hb.mono HBW.out.size)); obtain ⟨x0, x1, x2, x3, x4, xl⟩ := HBX.out.cells; clear hb) | (go_at_call 28; (with_reducible refine (rdepth_any f _ _ HV.out ?_).mono ?_); (have := depth_size f; have := HSZ.out; omega); rintro e U ⟨rfl, hb⟩; clear x0 x1 x2 x3 x4 xl; replace HV := hid (HV.out.any hb); replace HBX := hid (HBX.out.below hb); replace HBW := hid (HBW.out.trans (hb.mono HBW.out.size)); obtain ⟨x0, x1, x2, x3, x4, xl⟩ := HBX.out.cells; clear hb) | (go_at_call 45; (with_reducible refine (rnodes_r (D := AnyD) (f := f) false ?_ ?_ ?_).mono ?_); exact hc2.out; (have := HSZ.out; omega); exact HV.out; rintro e U ⟨rfl, hb⟩; clear x0 x1 x2 x3 x4 xl; replace HV := hid (HV.out.any hb); replace HBX := hid (HBX.out.below hb); replace HBW := hid (HBW.out.trans (hb.mono HBW.out.size)); obtain ⟨x0, x1, x2, x3, x4, xl⟩ := HBX.out.cells; clear hb))
    go_ret
    exact ⟨ret_bool HR.out.symm, HBW.out⟩
  have hc2 := hid c2
  clear c2
  cases c3 : coreA f
  · have hc3 := hid c3
    clear c3
    have HR := hid (show looseR f = false by unfold looseR; rw [hc0.out, hc1.out, hc2.out, hc3.out]; rfl)
    go_wp2_with (first | (go_at_call 27; (with_reducible refine (rsmall_r (D := AnyD) (f := f) 400 400 rfl ?_ true ?_ ?_).mono ?_); decide; exact hc0.out; exact HV.out; rintro e U ⟨rfl, hb⟩; clear x0 x1 x2 x3 x4 xl; replace HV := hid (HV.out.any hb); replace HBX := hid (HBX.out.below hb); replace HBW := hid (HBW.out.trans (hb.mono HBW.out.size)); obtain ⟨x0, x1, x2, x3, x4, xl⟩ := HBX.out.cells; clear hb) | (go_at_call 28; (with_reducible refine (rdepth_any f _ _ HV.out ?_).mono ?_); (have := depth_size f; have := HSZ.out; omega); rintro e U ⟨rfl, hb⟩; clear x0 x1 x2 x3 x4 xl; replace HV := hid (HV.out.any hb); replace HBX := hid (HBX.out.below hb); replace HBW := hid (HBW.out.trans (hb.mono HBW.out.size)); obtain ⟨x0, x1, x2, x3, x4, xl⟩ := HBX.out.cells; clear hb) | (go_at_call 45; (with_reducible refine (rnodes_r (D := AnyD) (f := f) true ?_ ?_ ?_).mono ?_); exact hc2.out; (have := HSZ.out; omega); exact HV.out; rintro e U ⟨rfl, hb⟩; clear x0 x1 x2 x3 x4 xl; replace HV := hid (HV.out.any hb); replace HBX := hid (HBX.out.below hb); replace HBW := hid (HBW.out.trans (hb.mono HBW.out.size)); obtain ⟨x0, x1, x2, x3, x4, xl⟩ := HBX.out.cells; clear hb) | (go_at_call 46; (with_reducible refine (rcore_r (D := AnyD) (f := f) false ?_ ?_ ?_).mono ?_); exact hc3.out; exact hc2.out; exact HV.out; rintro e U ⟨rfl, hb⟩; clear x0 x1 x2 x3 x4 xl; replace HV := hid (HV.out.any hb); replace HBX := hid (HBX.out.below hb); replace HBW := hid (HBW.out.trans (hb.mono HBW.out.size)); obtain ⟨x0, x1, x2, x3, x4, xl⟩ := HBX.out.cells; clear hb))
    go_ret
    exact ⟨ret_bool HR.out.symm, HBW.out⟩
  have hc3 := hid c3
  clear c3
  cases c4 : layL f
  · have hc4 := hid c4
    clear c4
    have HR := hid (show looseR f = false by unfold looseR; rw [hc0.out, hc1.out, hc2.out, hc3.out, hc4.out]; rfl)
    go_wp2_with (first | (go_at_call 27; (with_reducible refine (rsmall_r (D := AnyD) (f := f) 400 400 rfl ?_ true ?_ ?_).mono ?_); decide; exact hc0.out; exact HV.out; rintro e U ⟨rfl, hb⟩; clear x0 x1 x2 x3 x4 xl; replace HV := hid (HV.out.any hb); replace HBX := hid (HBX.out.below hb); replace HBW := hid (HBW.out.trans (hb.mono HBW.out.size)); obtain ⟨x0, x1, x2, x3, x4, xl⟩ := HBX.out.cells; clear hb) | (go_at_call 28; (with_reducible refine (rdepth_any f _ _ HV.out ?_).mono ?_); (have := depth_size f; have := HSZ.out; omega); rintro e U ⟨rfl, hb⟩; clear x0 x1 x2 x3 x4 xl; replace HV := hid (HV.out.any hb); replace HBX := hid (HBX.out.below hb); replace HBW := hid (HBW.out.trans (hb.mono HBW.out.size)); obtain ⟨x0, x1, x2, x3, x4, xl⟩ := HBX.out.cells; clear hb) | (go_at_call 45; (with_reducible refine (rnodes_r (D := AnyD) (f := f) true ?_ ?_ ?_).mono ?_); exact hc2.out; (have := HSZ.out; omega); exact HV.out; rintro e U ⟨rfl, hb⟩; clear x0 x1 x2 x3 x4 xl; replace HV := hid (HV.out.any hb); replace HBX := hid (HBX.out.below hb); replace HBW := hid (HBW.out.trans (hb.mono HBW.out.size)); obtain ⟨x0, x1, x2, x3, x4, xl⟩ := HBX.out.cells; clear hb) | (go_at_call 46; (with_reducible refine (rcore_r (D := AnyD) (f := f) true ?_ ?_ ?_).mono ?_); exact hc3.out; exact hc2.out; exact HV.out; rintro e U ⟨rfl, hb⟩; clear x0 x1 x2 x3 x4 xl; replace HV := hid (HV.out.any hb); replace HBX := hid (HBX.out.below hb); replace HBW := hid (HBW.out.trans (hb.mono HBW.out.size)); obtain ⟨x0, x1, x2, x3, x4, xl⟩ := HBX.out.cells; clear hb) | (go_at_call 47; (with_reducible refine (rlay_r (D := AnyD) (f := f) false ?_ ?_).mono ?_); exact hc4.out; exact HV.out; rintro e U ⟨rfl, hb⟩; clear x0 x1 x2 x3 x4 xl; replace HV := hid (HV.out.any hb); replace HBX := hid (HBX.out.below hb); replace HBW := hid (HBW.out.trans (hb.mono HBW.out.size)); obtain ⟨x0, x1, x2, x3, x4, xl⟩ := HBX.out.cells; clear hb))
    go_ret
    exact ⟨ret_bool HR.out.symm, HBW.out⟩
  have hc4 := hid c4
  clear c4
  have HR := hid (show looseR f = true by unfold looseR; rw [hc0.out, hc1.out, hc2.out, hc3.out, hc4.out]; rfl)
  go_wp2_with (first | (go_at_call 27; (with_reducible refine (rsmall_r (D := AnyD) (f := f) 400 400 rfl ?_ true ?_ ?_).mono ?_); decide; exact hc0.out; exact HV.out; rintro e U ⟨rfl, hb⟩; clear x0 x1 x2 x3 x4 xl; replace HV := hid (HV.out.any hb); replace HBX := hid (HBX.out.below hb); replace HBW := hid (HBW.out.trans (hb.mono HBW.out.size)); obtain ⟨x0, x1, x2, x3, x4, xl⟩ := HBX.out.cells; clear hb) | (go_at_call 28; (with_reducible refine (rdepth_any f _ _ HV.out ?_).mono ?_); (have := depth_size f; have := HSZ.out; omega); rintro e U ⟨rfl, hb⟩; clear x0 x1 x2 x3 x4 xl; replace HV := hid (HV.out.any hb); replace HBX := hid (HBX.out.below hb); replace HBW := hid (HBW.out.trans (hb.mono HBW.out.size)); obtain ⟨x0, x1, x2, x3, x4, xl⟩ := HBX.out.cells; clear hb) | (go_at_call 45; (with_reducible refine (rnodes_r (D := AnyD) (f := f) true ?_ ?_ ?_).mono ?_); exact hc2.out; (have := HSZ.out; omega); exact HV.out; rintro e U ⟨rfl, hb⟩; clear x0 x1 x2 x3 x4 xl; replace HV := hid (HV.out.any hb); replace HBX := hid (HBX.out.below hb); replace HBW := hid (HBW.out.trans (hb.mono HBW.out.size)); obtain ⟨x0, x1, x2, x3, x4, xl⟩ := HBX.out.cells; clear hb) | (go_at_call 46; (with_reducible refine (rcore_r (D := AnyD) (f := f) true ?_ ?_ ?_).mono ?_); exact hc3.out; exact hc2.out; exact HV.out; rintro e U ⟨rfl, hb⟩; clear x0 x1 x2 x3 x4 xl; replace HV := hid (HV.out.any hb); replace HBX := hid (HBX.out.below hb); replace HBW := hid (HBW.out.trans (hb.mono HBW.out.size)); obtain ⟨x0, x1, x2, x3, x4, xl⟩ := HBX.out.cells; clear hb) | (go_at_call 47; (with_reducible refine (rlay_r (D := AnyD) (f := f) true ?_ ?_).mono ?_); exact hc4.out; exact HV.out; rintro e U ⟨rfl, hb⟩; clear x0 x1 x2 x3 x4 xl; replace HV := hid (HV.out.any hb); replace HBX := hid (HBX.out.below hb); replace HBW := hid (HBW.out.trans (hb.mono HBW.out.size)); obtain ⟨x0, x1, x2, x3, x4, xl⟩ := HBX.out.cells; clear hb))
  go_ret
  exact ⟨ret_bool HR.out.symm, HBW.out⟩
theorem rloose_r {D : Dom} {v : Value} {f : Fm} {w : World} (r : Bool) (hr : looseR f = r) (h : RdF3 w D v f) : Calls Tryz.prog 29 #[v] w fun e w' => e = .returned (.bool r) ∧ Below w.heap.size w w' := by
  rw [← hr]; exact rloose_any f v w h
set_option maxRecDepth 100000 in
set_option maxHeartbeats 4000000 in
theorem low_any {D : Dom} (f : Fm) (v : Value) (w : World) (h : RdF3 w D v f) : Calls Tryz.prog 5 #[v] w fun e w' => e = .returned (.bool (lowR f)) ∧ Below w.heap.size w w' := by
  obtain ⟨A, c, rfl, ha⟩ := h
  have HA := hid ha.old
  clear ha
  go_enter Tryz.func5, Tryz.ntmps5
  go_upto_region 1 with (fail)
  refine wp_gen fun W hW => ?_
  have hbx : Box5 W w.heap.size f A c := by rw [hW]; exact Box5.new w f A c
  have HBX := hid hbx
  have HBW := hid (show Below w.heap.size w W by rw [hW]; go_grown)
  have HV : Hid (RdF3 W AnyD (.agg #[.int .i64 f.op, .string f.name, .int .i64 f.val, .int .i64 f.bound, .slice A f.args.length c]) f) := hid ⟨A, c, rfl, (HA.out.keep (Keeps.of_below HBW.out fun _ h => h)).mono fun _ _ _ => trivial⟩
  obtain ⟨x0, x1, x2, x3, x4, xl⟩ := hbx.cells
  clear hW hbx HA
  by_cases c0 : f.size ≤ 100
  rotate_left
  · have hc0 := hid (decide_eq_false c0)
    have HR := hid (show lowR f = false by unfold lowR; rw [hc0.out]; rfl)
    go_wp2_with (go_at_call 27; (with_reducible refine (rsmall_r (D := AnyD) (f := f) 100 100 rfl ?_ false ?_ ?_).mono ?_); decide; exact hc0.out; exact HV.out; rintro e U ⟨rfl, hb⟩; clear x0 x1 x2 x3 x4 xl; replace HV := hid (HV.out.any hb); replace HBX := hid (HBX.out.below hb); replace HBW := hid (HBW.out.trans (hb.mono HBW.out.size)); obtain ⟨x0, x1, x2, x3, x4, xl⟩ := HBX.out.cells; clear hb)
    go_ret
    exact ⟨ret_bool HR.out.symm, HBW.out⟩
  have hc0 := hid (decide_eq_true c0)
  have HSZ := hid c0
  by_cases c1 : f.depth ≤ 50
  rotate_left
  · have hc1 := hid (decide_eq_false c1)
    have e1 : decide ((f.depth : Int) ≤ 50) = false := decide_eq_false (by omega)
    have k1 : ¬ (f.depth : Int) ≤ 50 := by omega
    clear c0 c1
    have HR := hid (show lowR f = false by unfold lowR; rw [hc0.out, hc1.out]; rfl)
    go_wp2_with (first | (go_at_call 27; (with_reducible refine (rsmall_r (D := AnyD) (f := f) 100 100 rfl ?_ true ?_ ?_).mono ?_); decide; exact hc0.out; exact HV.out; rintro e U ⟨rfl, hb⟩; clear x0 x1 x2 x3 x4 xl; replace HV := hid (HV.out.any hb); replace HBX := hid (HBX.out.below hb); replace HBW := hid (HBW.out.trans (hb.mono HBW.out.size)); obtain ⟨x0, x1, x2, x3, x4, xl⟩ := HBX.out.cells; clear hb) | (go_at_call 28; (with_reducible refine (rdepth_any f _ _ HV.out ?_).mono ?_); (have := depth_size f; have := HSZ.out; omega); rintro e U ⟨rfl, hb⟩; clear x0 x1 x2 x3 x4 xl; replace HV := hid (HV.out.any hb); replace HBX := hid (HBX.out.below hb); replace HBW := hid (HBW.out.trans (hb.mono HBW.out.size)); obtain ⟨x0, x1, x2, x3, x4, xl⟩ := HBX.out.cells; clear hb))
    go_ret
    exact ⟨ret_bool HR.out.symm, HBW.out⟩
  have hc1 := hid (decide_eq_true c1)
  have e1 : decide ((f.depth : Int) ≤ 50) = true := decide_eq_true (by omega)
  have k1 : (f.depth : Int) ≤ 50 := by omega
  clear c0 c1
  cases c2 : looseR f
  · have hc2 := hid c2
    clear c2
    have HR := hid (show lowR f = false by unfold lowR; rw [hc0.out, hc1.out, hc2.out]; rfl)
    go_wp2_with (first | (go_at_call 27; (with_reducible refine (rsmall_r (D := AnyD) (f := f) 100 100 rfl ?_ true ?_ ?_).mono ?_); decide; exact hc0.out; exact HV.out; rintro e U ⟨rfl, hb⟩; clear x0 x1 x2 x3 x4 xl; replace HV := hid (HV.out.any hb); replace HBX := hid (HBX.out.below hb); replace HBW := hid (HBW.out.trans (hb.mono HBW.out.size)); obtain ⟨x0, x1, x2, x3, x4, xl⟩ := HBX.out.cells; clear hb) | (go_at_call 28; (with_reducible refine (rdepth_any f _ _ HV.out ?_).mono ?_); (have := depth_size f; have := HSZ.out; omega); rintro e U ⟨rfl, hb⟩; clear x0 x1 x2 x3 x4 xl; replace HV := hid (HV.out.any hb); replace HBX := hid (HBX.out.below hb); replace HBW := hid (HBW.out.trans (hb.mono HBW.out.size)); obtain ⟨x0, x1, x2, x3, x4, xl⟩ := HBX.out.cells; clear hb) | (go_at_call 29; (with_reducible refine (rloose_r (D := AnyD) (f := f) false ?_ ?_).mono ?_); exact hc2.out; exact HV.out; rintro e U ⟨rfl, hb⟩; clear x0 x1 x2 x3 x4 xl; replace HV := hid (HV.out.any hb); replace HBX := hid (HBX.out.below hb); replace HBW := hid (HBW.out.trans (hb.mono HBW.out.size)); obtain ⟨x0, x1, x2, x3, x4, xl⟩ := HBX.out.cells; clear hb))
    go_ret
    exact ⟨ret_bool HR.out.symm, HBW.out⟩
  have hc2 := hid c2
  clear c2
  have HR := hid (show lowR f = true by unfold lowR; rw [hc0.out, hc1.out, hc2.out]; rfl)
  go_wp2_with (first | (go_at_call 27; (with_reducible refine (rsmall_r (D := AnyD) (f := f) 100 100 rfl ?_ true ?_ ?_).mono ?_); decide; exact hc0.out; exact HV.out; rintro e U ⟨rfl, hb⟩; clear x0 x1 x2 x3 x4 xl; replace HV := hid (HV.out.any hb); replace HBX := hid (HBX.out.below hb); replace HBW := hid (HBW.out.trans (hb.mono HBW.out.size)); obtain ⟨x0, x1, x2, x3, x4, xl⟩ := HBX.out.cells; clear hb) | (go_at_call 28; (with_reducible refine (rdepth_any f _ _ HV.out ?_).mono ?_); (have := depth_size f; have := HSZ.out; omega); rintro e U ⟨rfl, hb⟩; clear x0 x1 x2 x3 x4 xl; replace HV := hid (HV.out.any hb); replace HBX := hid (HBX.out.below hb); replace HBW := hid (HBW.out.trans (hb.mono HBW.out.size)); obtain ⟨x0, x1, x2, x3, x4, xl⟩ := HBX.out.cells; clear hb) | (go_at_call 29; (with_reducible refine (rloose_r (D := AnyD) (f := f) true ?_ ?_).mono ?_); exact hc2.out; exact HV.out; rintro e U ⟨rfl, hb⟩; clear x0 x1 x2 x3 x4 xl; replace HV := hid (HV.out.any hb); replace HBX := hid (HBX.out.below hb); replace HBW := hid (HBW.out.trans (hb.mono HBW.out.size)); obtain ⟨x0, x1, x2, x3, x4, xl⟩ := HBX.out.cells; clear hb))
  go_ret
  exact ⟨ret_bool HR.out.symm, HBW.out⟩
end Go.Proofs.YtahgbgniaiccbaaGreatDoor
