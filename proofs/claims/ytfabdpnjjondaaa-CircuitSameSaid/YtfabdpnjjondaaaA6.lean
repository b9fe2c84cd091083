/-
  Walks: Valid of circuits, in the program and in the reference.
-/
import Derived.Test.YtfabdpnjjondaaaA5
set_option linter.unusedVariables false
set_option linter.unusedSimpArgs false
namespace Go.Proofs.Ytfabdpnjjondaaa
open Go.RowKit

set_option maxHeartbeats 2000000 in
theorem valid_any {D : Dom} (v : Value) (c : Cir) (w : World) (h : RdC w D v c) :
    Calls Try.prog 13 #[v] w fun e w' => e = .returned (.bool (validB c)) ∧ Below w.heap.size w w' := by
  have HV := hid h
  obtain ⟨Ag, cg, Al, cl, Ao, co, rfl, hg, hl, ho⟩ := h
  have hn := hg.len.1
  have hn2 := hl.len.1
  have hn3 := ho.len.1
  have HG := hid hg
  have HL := hid hl
  have HO := hid ho
  clear hg hl ho
  by_cases hs : 0 ≤ c.ib ∧ c.ib < 7 ∧ c.lat.length ≤ 12 ∧ c.outs.length ≤ 6 ∧ c.gates.length ≤ 20000
  · obtain ⟨h1, h2, h3, h4, h5⟩ := hs
    go_enter Try.func13, Try.ntmps13
    go_wp2_with (go_at_call 28; refine (below_new _ _ _ _ (by simp)).mono ?_; rintro e w' ⟨rfl, rfl⟩)
    go_loopw [3, 30] (fun _ t wr => ∃ k : Nat, k ≤ c.gates.length ∧ t = .int .i64 k ∧ SoFar k (fun i => gateB c.ib c.lat.length i (c.gates.getD i default)) ∧
        Box wr w.heap.size #[.int .i64 c.ib, .slice Ag c.gates.length cg, .slice Al c.lat.length cl, .slice Ao c.outs.length co] ∧ Below w.heap.size w wr) (fun _ t _ => c.gates.length - (intOf t).toNat)
    case atStart => exact ⟨0, Nat.zero_le _, rfl, SoFar.zero _, (Box.new _ _ _ rfl).alloc _, by go_grown⟩
    case round =>
      obtain ⟨k, hk, rfl, hb, hbox, hbw⟩ := hrel
      have HB := hid hb
      have HBX := hid hbox
      have x0 := hbox 0 _ rfl
      have x1 := hbox 1 _ rfl
      have x2 := hbox 2 _ rfl
      have x3 := hbox 3 _ rfl
      clear hb hbox
      have HVr := hid (HV.out.keep ((Keeps.refl D w).belowLe hbw (Nat.le_refl _)))
      have HLr := hid (HL.out.keep ((Keeps.refl D w).belowLe hbw (Nat.le_refl _)))
      have HOr := hid (HO.out.keep ((Keeps.refl D w).belowLe hbw (Nat.le_refl _)))
      by_cases hlt : k < c.gates.length
      · by_cases hg : gateB c.ib c.lat.length k (c.gates.getD k default) = true
        · have HGB := hid hg
          clear hg
          go_wp2_with (go_at_call 33; refine (formed_any _ c k _ HVr.out hlt).mono ?_; rintro e w1 ⟨rfl, hb1⟩; rw [HGB.out])
          go_roundw
          case rel => exact ⟨k + 1, by omega, by go_num, HB.out.succ HGB.out, HBX.out.below hb1 (Nat.le_refl _), hbw.trans (hb1.mono hbw.size)⟩
          case measure => simp [intOf]; omega
        · have HGB := hid (Bool.eq_false_iff.2 hg)
          clear hg
          go_wp2_with (go_at_call 33; refine (formed_any _ c k _ HVr.out hlt).mono ?_; rintro e w1 ⟨rfl, hb1⟩; rw [HGB.out])
          go_ret
          exact ⟨ret_bool (by unfold validB; rw [allN_false hlt HGB.out]; simp), hbw.trans (hb1.mono hbw.size)⟩
      · have HAL : Hid (allN c.gates.length (fun i => gateB c.ib c.lat.length i (c.gates.getD i default)) = true) := hid (HB.out.all (by omega))
        have hlt' : c.gates.length ≤ k := by omega
        by_cases hl : belowB c.gates.length c.lat = true
        · have HBL := hid hl
          clear hl
          go_wp2_with fail
          refine (below_any _ _ _ c.lat _ HLr.out).mono ?_
          rintro e w1 ⟨rfl, rfl⟩
          rw [HBL.out]
          go_wp2_with fail
          refine (below_any _ _ _ c.outs _ HOr.out).mono ?_
          rintro e w1 ⟨rfl, rfl⟩
          go_wp2_with fail
          go_ret
          exact ⟨ret_bool (by unfold validB; rw [HAL.out, HBL.out]; simp; omega), hbw⟩
        · have HBL := hid (Bool.eq_false_iff.2 hl)
          clear hl
          go_wp2_with (go_at_call 28; refine (below_any _ _ _ c.lat _ HLr.out).mono ?_; rintro e w1 ⟨rfl, rfl⟩; rw [HBL.out])
          go_ret
          exact ⟨ret_bool (by unfold validB; rw [HBL.out]; simp), hbw⟩
  · go_enter Try.func13, Try.ntmps13
    go_wp2_with (go_at_call 28; refine (below_new _ _ _ _ (by simp)).mono ?_; rintro e w' ⟨rfl, rfl⟩)
    all_goals
      go_ret
      exact ⟨ret_bool (by
        symm; unfold validB; simp only [Bool.and_eq_false_iff, decide_eq_false_iff_not]; omega), by go_grown⟩
end Go.Proofs.Ytfabdpnjjondaaa
