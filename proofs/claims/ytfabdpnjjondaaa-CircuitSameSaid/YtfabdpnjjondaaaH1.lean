/-
  Walks: FewMealy, right.
-/
import Derived.Test.YtfabdpnjjondaaaA13
set_option linter.unusedVariables false
set_option linter.unusedSimpArgs false
namespace Go.Proofs.Ytfabdpnjjondaaa
open Go.RowKit
attribute [local go_sem] cell_alloc_old

set_option maxHeartbeats 4000000 in
theorem fewm_any {D : Dom} (v : Value) (m : Mly) (w : World) (h : RdM w D v m) :
    Calls Try.prog 24 #[v] w fun e w' => e = .returned (.bool (fewM m)) ∧ Below w.heap.size w w' := by
  obtain ⟨Ao, co, An, cn, rfl, ho, hn⟩ := h
  have HO := hid ho
  have HN := hid hn
  have hlo := ho.len.1
  have hln := hn.len.1
  clear ho hn
  by_cases hs : m.out.length ≤ 12 ∧ m.next.length ≤ 12 ∧ m.ins ≤ 20
  · have HS := hid hs
    obtain ⟨s1, s2, s3⟩ := hs
    go_enter Try.func24, Try.ntmps24
    go_wp2_with fail
    go_loop [2, 3] (fun r t => ∃ k : Nat, k ≤ m.out.length ∧ t = .int .i64 k ∧ r = .bool false ∧ SoFar k (fun j => decide ((m.out.getD j []).length ≤ 20))) (fun _ t => m.out.length - (intOf t).toNat)
    case atStart => exact ⟨0, Nat.zero_le _, rfl, rfl, SoFar.zero _⟩
    case round =>
      obtain ⟨k, hk, rfl, rfl, hb⟩ := hrel
      have HB := hid hb
      clear hb
      by_cases hlt : k < m.out.length
      · obtain ⟨b, o, A', c', r, rfl, _, _, HX, hr, hc⟩ := HO.out.get hlt
        have hmr := hr.len.1
        clear hr
        by_cases hl : r.length ≤ 20
        · go_wp2_with fail
          go_round
          case rel => exact ⟨k + 1, by omega, by go_num, rfl, HB.out.succ (by rw [HX.out]; simp; omega)⟩
          case measure => simp [intOf]; omega
        · go_wp2_with fail
          go_ret
          exact ⟨ret_bool (by unfold fewM; rw [allN_false hlt (by rw [HX.out]; simp; omega)]; simp), by go_grown⟩
      · have HA := hid (HB.out.all (n := m.out.length) (by omega))
        clear HB
        go_wp2_with fail
        go_loop [2, 4] (fun r t => ∃ k : Nat, k ≤ m.next.length ∧ t = .int .i64 k ∧ r = .bool false ∧ SoFar k (fun j => decide ((m.next.getD j []).length ≤ 20))) (fun _ t => m.next.length - (intOf t).toNat)
        case atStart => exact ⟨0, Nat.zero_le _, rfl, rfl, SoFar.zero _⟩
        case round =>
          obtain ⟨k2, hk2, rfl, rfl, hb⟩ := hrel
          have HB := hid hb
          clear hb
          by_cases hlt2 : k2 < m.next.length
          · obtain ⟨b, o, A', c', r, rfl, _, _, HX, hr, hc⟩ := HN.out.get hlt2
            have hmr := hr.len.1
            clear hr
            by_cases hl : r.length ≤ 20
            · go_wp2_with fail
              go_round
              case rel => exact ⟨k2 + 1, by omega, by go_num, rfl, HB.out.succ (by rw [HX.out]; simp; omega)⟩
              case measure => simp [intOf]; omega
            · go_wp2_with fail
              go_ret
              exact ⟨ret_bool (by unfold fewM; rw [allN_false hlt2 (by rw [HX.out]; simp; omega)]; simp), by go_grown⟩
          · go_wp2_with fail
            go_ret
            exact ⟨ret_bool (by unfold fewM; have := HS.out; rw [HA.out, HB.out.all (by omega)]; simp; omega), by go_grown⟩
  · have HS := hid hs
    clear hs
    go_enter Try.func24, Try.ntmps24
    go_wp2_with fail
    all_goals first
      | (exfalso; have := HS.out; omega)
      | (go_ret; refine ⟨ret_bool ?_, by go_grown⟩; symm; unfold fewM; have := HS.out; simp only [Bool.and_eq_false_iff, decide_eq_false_iff_not]; omega)

set_option maxHeartbeats 4000000 in
theorem right_any {D E : Dom} (v : Value) (m : Mly) (A : Option Addr) (ca : Nat) (ins : List Int) (w : World) (h : RdM w D v m) (hi : RdI w E A ca ins) :
    Calls Try.prog 18 #[v, .slice A ins.length ca] w fun e w' => e = .returned (.bool (rightB m ins)) ∧ Below w.heap.size w w' := by
  have HV := hid h.old
  have HI := hid hi.old
  have hni := hi.len.1
  obtain ⟨Ao, co, An, cn, rfl, ho, hn⟩ := h
  have hlo := ho.len.1
  have hln := hn.len.1
  clear ho hn hi
  go_enter Try.func18, Try.ntmps18
  go_wp2_with fail
  refine (fewm_any _ m _ (HV.out.keep ((Keeps.refl _ w).alloc _))).mono ?_
  rintro e w1 ⟨rfl, hb1⟩
  have hbx : Box w1 w.heap.size #[.int .i64 m.ins, .int .i64 m.outs, .int .i64 m.start, .slice Ao m.out.length co, .slice An m.next.length cn] := (Box.new _ _ _ rfl).below hb1 (Nat.le_refl _)
  have HBX := hid hbx
  have hbw : Below w.heap.size w w1 := ((Below.refl _ _).alloc (Nat.le_refl _) _).trans (hb1.mono (by simp))
  have x0 := hbx 0 _ rfl
  have x1 := hbx 1 _ rfl
  have x2 := hbx 2 _ rfl
  have x3 := hbx 3 _ rfl
  have x4 := hbx 4 _ rfl
  have hw1 : w.heap.size < w1.heap.size := World.block_lt_of_cell? w1 _ x0
  have HBW := hid hbw
  clear hbx hb1 hbw
  cases hf : fewM m
  · have HF := hid hf
    clear hf
    go_wp2_with fail
    go_ret
    exact ⟨ret_bool (by unfold rightB; rw [HF.out]; rfl), HBW.out⟩
  have HF := hid hf
  clear hf
  go_wp2_with fail
  refine (rmvalid_any _ m w1 (HV.out.keep (Keeps.of_below HBW.out (fun _ h => h)))).mono ?_
  rintro e w2 ⟨rfl, hb2⟩
  have hbx := HBX.out.below hb2 (Nat.le_refl _)
  have HBX := hid hbx
  have HBW := hid (HBW.out.trans (hb2.mono (Nat.le_of_lt hw1)))
  have hsz := hb2.size
  have x0 := hbx 0 _ rfl
  have x1 := hbx 1 _ rfl
  have x2 := hbx 2 _ rfl
  have x3 := hbx 3 _ rfl
  have x4 := hbx 4 _ rfl
  have hw2 : w.heap.size < w2.heap.size := by omega
  clear hbx hb2 hsz hw1
  cases hf : mealyB m
  · have HM := hid hf
    clear hf
    go_wp2_with fail
    go_ret
    exact ⟨ret_bool (by unfold rightB; rw [HM.out, Bool.and_false]; rfl), HBW.out⟩
  have HM := hid hf
  clear hf
  by_cases hl24 : ins.length ≤ 24
  · have hd24 : decide ((24 : Int) < (ins.length : Int)) = false := decide_eq_false (by omega)
    go_wp2_with fail
    go_loopw [4, 5] (fun r t wr => ∃ k : Nat, k ≤ ins.length ∧ t = .int .i64 k ∧ r = .bool false ∧ SoFar k (fun j => decide (0 ≤ ins.getD j 0) && decide (ins.getD j 0 < m.ins)) ∧ Drawn w2 wr) (fun _ t _ => ins.length - (intOf t).toNat)
    case atStart => exact ⟨0, Nat.zero_le _, rfl, rfl, SoFar.zero _, Drawn.refl _⟩
    case round =>
      obtain ⟨k, hk, rfl, rfl, hso, hd⟩ := hrel
      have HSO := hid hso
      have hbx := HBX.out.below (hd.below w2.heap.size) (Nat.le_refl _)
      have x0 := hbx 0 _ rfl
      have x1 := hbx 1 _ rfl
      have x2 := hbx 2 _ rfl
      have x3 := hbx 3 _ rfl
      have x4 := hbx 4 _ rfl
      have hbr := HBW.out.trans (hd.below _)
      have HI1 := hid (HI.out.keep (Keeps.of_below hbr fun _ h => h))
      have hwr : w.heap.size < wr.heap.size := World.block_lt_of_cell? wr _ x0
      clear hso hbx
      by_cases hlt : k < ins.length
      · obtain ⟨b, o, x, rfl, _, had, HX, hc⟩ := HI1.out.get hlt
        have hi1 : (k : Int) < ins.length := by omega
        by_cases hx0 : x < 0
        · have hd0 : decide (x < 0) = true := decide_eq_true (by omega)
          go_wp2_with fail
          go_quiet (fail)
          go_wp2_with fail
          go_ret
          exact ⟨ret_bool (by unfold rightB belowB; rw [allN_false hlt (by rw [HX.out]; simp; omega)]; simp), below_drewN hbr _⟩
        · have hd0 : decide (x < 0) = false := decide_eq_false (by omega)
          by_cases hx1 : x < m.ins
          · have hd1 : decide (m.ins ≤ x) = false := decide_eq_false (by omega)
            go_wp2_with fail
            go_quiet (fail)
            go_wp2_with fail
            go_roundw
            case rel => exact ⟨k + 1, by omega, by go_num, rfl, HSO.out.succ (by rw [HX.out]; simp; omega), hd.drewN _⟩
            case measure => simp [intOf]; omega
          · have hd1 : decide (m.ins ≤ x) = true := decide_eq_true (by omega)
            go_wp2_with fail
            go_quiet (fail)
            go_wp2_with fail
            go_ret
            exact ⟨ret_bool (by unfold rightB belowB; rw [allN_false hlt (by rw [HX.out]; simp; omega)]; simp), below_drewN hbr _⟩
      · go_wp2_with fail
        go_ret
        exact ⟨ret_bool (by unfold rightB belowB; rw [HF.out, HM.out, HSO.out.all (by omega)]; simp; omega), hbr⟩
  · have hd24 : decide ((24 : Int) < (ins.length : Int)) = true := decide_eq_true (by omega)
    go_wp2_with fail
    go_ret
    exact ⟨ret_bool (by unfold rightB; rw [decide_eq_false (p := ins.length ≤ 24) hl24]; simp), HBW.out⟩
end Go.Proofs.Ytfabdpnjjondaaa
