/-
  Walks: Run of circuits in the reference.
-/
import Derived.Test.YtfabdpnjjondaaaA11
set_option linter.unusedVariables false
set_option linter.unusedSimpArgs false
namespace Go.Proofs.Ytfabdpnjjondaaa
open Go.RowKit
attribute [local go_sem] cell_alloc_old

set_option maxHeartbeats 4000000 in
theorem rrun_any {D E : Dom} (v : Value) (c : Cir) (A : Option Addr) (ca : Nat) (ins : List Int) (w : World) (h : RdC w D v c) (hins : RdI w E A ca ins) (hmil : ins.length ≤ 1000000) :
    Calls Try.prog 17 #[v, .slice A ins.length ca] w fun e w' =>
      ∃ A' c', e = .returned (.slice A' (runZ c ins).length c') ∧ Below w.heap.size w w' ∧ RdI w' (fun b => w.heap.size ≤ b) A' c' (runZ c ins) := by
  obtain ⟨i0, hi, hz0, hz1, hz2⟩ := info_parts int_info
  have hz2' : i0.bytes = 8 := hz2
  have HV := hid h.old
  have HI := hid hins.old
  have hni := hins.len.1
  obtain ⟨Ag, cg, Al, cl, Ao, co, rfl, hg, hl, ho⟩ := h
  have hn := hg.len.1
  clear hg hl ho hins
  by_cases hv : validB c = true
  · have HVB := hid hv
    simp only [validB, Bool.and_eq_true, decide_eq_true_eq] at hv
    obtain ⟨⟨⟨⟨⟨⟨⟨h1, h2⟩, h3⟩, h4⟩, h5⟩, h6⟩, h7⟩, h8⟩ := hv
    clear h6 h7 h8
    have PW2 : Hid (∀ W, Calls Try.prog 30 #[.int .i64 c.ib] W fun e w' => e = .returned (.int .i64 (pow2 c.ib.toNat)) ∧ w' = W) := hid fun W => by
      obtain ⟨j, hj⟩ := Int.eq_ofNat_of_zero_le h1
      rw [hj]; exact power_any j W (by omega)
    go_enter Try.func17, Try.ntmps17
    go_wp2_with fail
    refine (rvalid_any _ c _ (HV.out.keep ((Keeps.refl _ w).alloc _))).mono ?_
    rintro e w1 ⟨rfl, hb1⟩
    rw [HVB.out]
    have hbx : Box w1 w.heap.size #[.int .i64 c.ib, .slice Ag c.gates.length cg, .slice Al c.lat.length cl, .slice Ao c.outs.length co] := (Box.new _ _ _ rfl).below hb1 (Nat.le_refl _)
    have HBX := hid hbx
    have hw1 : w.heap.size < w1.heap.size := World.block_lt_of_cell? w1 _ (hbx 0 _ rfl)
    have hbw : Below w.heap.size w w1 := ((Below.refl _ _).alloc (Nat.le_refl _) _).trans (hb1.mono (by simp))
    clear hbx hb1
    go_wp2_with fail
    go_loopw [5] (fun t wr => ∃ k : Nat, k ≤ ins.length ∧ t = .int .i64 k ∧ SoFar k (fun j => decide (0 ≤ ins.getD j 0) && decide (ins.getD j 0 < pow2 c.ib.toNat)) ∧ Drawn w1 wr) (fun t _ => ins.length - (intOf t).toNat)
    case atStart => exact ⟨0, Nat.zero_le _, rfl, SoFar.zero _, Drawn.refl _⟩
    case round =>
      obtain ⟨k, hk, rfl, hso, hd⟩ := hrel
      have HSO := hid hso
      have hbx := HBX.out.below (hd.below w1.heap.size) (Nat.le_refl _)
      have x0 := hbx 0 _ rfl
      have x1 := hbx 1 _ rfl
      have x2 := hbx 2 _ rfl
      have x3 := hbx 3 _ rfl
      have HB := hid hbx
      have hbr := hbw.trans (hd.below _)
      have HI1 := hid (HI.out.keep (Keeps.of_below hbr fun _ h => h))
      have hwr : w.heap.size < wr.heap.size := World.block_lt_of_cell? wr _ x0
      clear hso hbx
      by_cases hlt : k < ins.length
      · obtain ⟨b, o, x, rfl, _, had, HX, hc⟩ := HI1.out.get hlt
        have hi1 : (k : Int) < ins.length := by omega
        obtain ⟨p, hp⟩ : ∃ p, p = pow2 c.ib.toNat := ⟨_, rfl⟩
        rw [← hp] at PW2
        have HP := hid hp
        clear hp
        by_cases hx0 : 0 ≤ x
        · have hd0 : decide (x < 0) = false := decide_eq_false (by omega)
          by_cases hx1 : x < p
          · have hd1 : decide (p ≤ x) = false := decide_eq_false (by omega)
            go_wp2_with fail
            go_quiet ((go_at_call 30; exact Calls.quiet_of_same (PW2.out _)))
            go_wp2_with fail
            go_roundw
            case rel => exact ⟨k + 1, by omega, by go_num, HSO.out.succ (by rw [HX.out, ← HP.out]; simp; omega), hd.drewN _⟩
            case measure => simp [intOf]; omega
          · have hd1 : decide (p ≤ x) = true := decide_eq_true (by omega)
            have HRUN : Hid (runZ c ins = []) := hid (by unfold runZ belowB; rw [allN_false hlt (by rw [HX.out, ← HP.out]; simp; omega)]; simp)
            go_wp2_with fail
            go_quiet ((go_at_call 30; exact Calls.quiet_of_same (PW2.out _)))
            go_wp2_with fail
            go_ret
            exact ⟨none, 0, ret_sl (by rw [HRUN.out]; rfl), below_drewN hbr _, by rw [HRUN.out]; exact RdI.nil _ _ _ (by omega)⟩
        · have hd0 : decide (x < 0) = true := decide_eq_true (by omega)
          have HRUN : Hid (runZ c ins = []) := hid (by unfold runZ belowB; rw [allN_false hlt (by rw [HX.out]; simp; omega)]; simp)
          go_wp2_with fail
          go_quiet (fail)
          go_wp2_with fail
          go_ret
          exact ⟨none, 0, ret_sl (by rw [HRUN.out]; rfl), below_drewN hbr _, by rw [HRUN.out]; exact RdI.nil _ _ _ (by omega)⟩
      · have HF : Hid (belowB (pow2 c.ib.toNat) ins = true) := hid (by unfold belowB; exact HSO.out.all (by omega))
        have HRUN : Hid (runZ c ins = outsTo c ins ins.length) := hid (by unfold runZ; rw [HVB.out, HF.out]; rfl)
        obtain ⟨W, hW⟩ : ∃ W, W = wr := ⟨_, rfl⟩
        rw [← hW] at hbr HB HI1 hwr x0 x1 x2 x3 ⊢
        clear hW hd HSO
        go_wp2_with fail
        go_loopw [6, 7, 8] (fun o l t wr => ∃ (k : Nat) (A2 : Option Addr) (c2 : Nat), k ≤ ins.length ∧ t = .int .i64 k ∧ l = .int .i64 (latTo c ins k) ∧ o = .slice A2 k c2 ∧ wr.ownsRow (w.heap.size + 1) 3 1 o k ((outsTo c ins k).map (.int .i64)) ∧
          Below w.heap.size w wr ∧ Box wr w.heap.size #[.int .i64 c.ib, .slice Ag c.gates.length cg, .slice Al c.lat.length cl, .slice Ao c.outs.length co]) (fun _ _ t _ => ins.length - (intOf t).toNat)
        case atStart => exact ⟨0, some ⟨W.heap.size, 0, none⟩, 0, Nat.zero_le _, rfl, rfl, rfl, by simpa [outsTo] using World.ownsRow_lit (base := w.heap.size + 1) (e := 3) (size := 1) W #[] 0 hwr (Nat.zero_le _) (by simp), hbr.alloc hbr.size _, HB.out.alloc _⟩
        case round =>
          obtain ⟨j, A2, c2, hj, rfl, rfl, rfl, hown, hb2, hbx2⟩ := hrel
          have HOWN := hid hown
          have HB2 := hid hb2
          have HBX2 := hid hbx2
          have y0 := hbx2 0 _ rfl
          have y1 := hbx2 1 _ rfl
          have y2 := hbx2 2 _ rfl
          have y3 := hbx2 3 _ rfl
          have hw2 : w.heap.size < wr.heap.size := World.block_lt_of_cell? wr _ y0
          have HI2 := hid (HI.out.keep (Keeps.of_below hb2 fun _ h => h))
          have HV2 := hid (HV.out.keep (Keeps.of_below hb2 fun _ h => h))
          clear hown hb2 hbx2 x0 x1 x2 x3
          by_cases hlt2 : j < ins.length
          · obtain ⟨b, o, x, rfl, _, had, HX, hc⟩ := HI2.out.get hlt2
            have hi1 : (j : Int) < ins.length := by omega
            have HFI : Hid (fitsB c (latTo c ins j) x = true) := hid (by rw [← HX.out]; exact fits_run HF.out hlt2)
            have HSZ : Hid (stepZ c (latTo c ins j) x = stepC c (latTo c ins j) x) := hid (by unfold stepZ; rw [HVB.out, HFI.out]; rfl)
            have KEEP : Hid (∀ w4, Below wr.heap.size wr.drew w4 → w4.cell? ⟨w.heap.size, 0, none⟩ = some (.int .i64 c.ib) ∧ w4.cell? ⟨w.heap.size, 1, none⟩ = some (.slice Ag c.gates.length cg) ∧ w4.cell? ⟨w.heap.size, 2, none⟩ = some (.slice Al c.lat.length cl) ∧ w4.cell? ⟨w.heap.size, 3, none⟩ = some (.slice Ao c.outs.length co) ∧ w4.cell? ⟨b, o + j, none⟩ = some (.int .i64 x)) := hid fun w4 hg => by
              have hb := HBX2.out.drew.below hg (Nat.le_refl _)
              exact ⟨hb 0 _ rfl, hb 1 _ rfl, hb 2 _ rfl, hb 3 _ rfl, by rw [hg.cell (p := ⟨b, o + j, none⟩) had]; exact hc⟩
            go_wp2_with fail
            go_region_held3 (fun w' => w'.cell? ⟨w.heap.size, 0, none⟩ = some (.int .i64 c.ib) ∧ w'.cell? ⟨w.heap.size, 1, none⟩ = some (.slice Ag c.gates.length cg) ∧ w'.cell? ⟨w.heap.size, 2, none⟩ = some (.slice Al c.lat.length cl) ∧ w'.cell? ⟨w.heap.size, 3, none⟩ = some (.slice Ao c.outs.length co) ∧ w'.cell? ⟨b, o + j, none⟩ = some (.int .i64 x))
              (first
                | go_keep
                | exact KEEP.out _ hb4)
              ((go_at_call 12
                refine (rstep_any _ c (latTo c ins j) x _ (HV2.out.keep (Keeps.refl _ wr).drew)).mono ?_
                rw [HSZ.out]
                rintro e w4 ⟨rfl, hb4⟩))
            have hb4' : Below wr.heap.size wr w4 := ((Below.refl _ _).drew).trans hb4
            have HOW4 := hid (own_below HOWN.out hb4')
            have HBX4 := hid (HBX2.out.below hb4' (Nat.le_refl _))
            have hsz4 := hb4'.size
            have HB4 := hid (HB2.out.trans (hb4'.mono (Nat.le_of_lt hw2)))
            clear hb4 hb4' y0 y1 y2 y3
            go_wp2_with (at_builtin; refine wpList_append_rd _ rfl (.tmp 52) (.tmp 54) 23 rfl (w.heap.size + 1) 3 i0 _ 1 8 Try.underlying23 hi hz0 hz1 hz2 rfl (by omega) (.slice A2 j c2) j _ rfl (HOW4.out.alloc _) _ (some ⟨w4.heap.size, 0, none⟩) 1 1 _ rfl (Rd.cell1 (cell_new w4 _ _ _ _ _ rfl rfl)) (by simp [Value.oneCell']) (by omega) (maxLen_le (by omega)) (by simp; omega) ?_; intro A5 c5 w5 hown5 hg5 hat5)
            go_roundw
            case rel =>
              have hlo := HOW4.out.lt
              refine ⟨j + 1, A5, c5, by omega, by go_num, by rw [latTo, HX.out], rfl, ?_, (HB4.out.alloc HB4.out.size _).grown hg5 (by simp; omega) (fun i hi => by have := (hlo i hi).1; omega), (HBX4.out.alloc _).grown hg5 (fun e => by have := (hlo _ e.symm).1; omega)⟩
              rw [outsTo, HX.out, List.map_append]
              exact hown5
            case measure => simp [intOf]; omega
          · obtain rfl : j = ins.length := by omega
            have hfin : RdI wr (fun b => w.heap.size ≤ b) A2 c2 (outsTo c ins ins.length) := by
              unfold RdI; rw [outsTo_len]
              exact Rd.own HOWN.out (by omega) (fun g hg => by omega)
            have HFIN := hid hfin
            clear hfin
            go_wp2_with fail
            go_ret
            exact ⟨A2, c2, ret_sl (by rw [HRUN.out, outsTo_len]), HB2.out, by rw [HRUN.out]; exact HFIN.out⟩
  · have HVB := hid (Bool.eq_false_iff.2 hv)
    clear hv
    have HRUN : Hid (runZ c ins = []) := hid (by unfold runZ; rw [HVB.out]; simp)
    go_enter Try.func17, Try.ntmps17
    go_wp2_with fail
    refine (rvalid_any _ c _ (HV.out.keep ((Keeps.refl _ w).alloc _))).mono ?_
    rintro e w1 ⟨rfl, hb1⟩
    rw [HVB.out]
    go_wp2_with fail
    go_ret
    exact ⟨none, 0, ret_sl (by rw [HRUN.out]; rfl), ((Below.refl _ _).alloc (Nat.le_refl _) _).trans (hb1.mono (by simp)), by rw [HRUN.out]; exact RdI.nil _ _ _ (by omega)⟩
end Go.Proofs.Ytfabdpnjjondaaa
