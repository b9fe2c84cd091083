/-
  Walks: the controllers' functions.
-/
import Derived.Test.YtfabdpnjjondaaaA12
set_option linter.unusedVariables false
set_option linter.unusedSimpArgs false
namespace Go.Proofs.Ytfabdpnjjondaaa
open Go.RowKit
attribute [local go_sem] cell_alloc_old

set_option maxHeartbeats 2000000 in
theorem mvalid_any {D : Dom} (v : Value) (m : Mly) (w : World) (h : RdM w D v m) :
    Calls Try.prog 36 #[v] w fun e w' => e = .returned (.bool (mealyB m)) ∧ Below w.heap.size w w' := by
  obtain ⟨Ao, co, An, cn, rfl, ho, hn⟩ := h
  have HO := hid ho
  have HN := hid hn
  have hlo := ho.len.1
  have hln := hn.len.1
  clear ho hn
  by_cases hs : (decide (1 ≤ m.ins) && decide (m.ins ≤ 64) && decide (1 ≤ m.outs) && decide (m.outs ≤ 64) && decide ((m.out.length : Int) ≤ 3000) && decide (0 ≤ m.start) && decide (m.start < (m.out.length : Int))) = true
  · have HS := hid hs
    clear hs
    by_cases he : m.next.length = m.out.length
    · have heq : ((m.next.length : Int) == (m.out.length : Int)) = true := beq_iff_eq.2 (by omega)
      have HE := hid he
      clear he
      by_cases hr : rowsB m.ins m.outs m.out = true
      · have HR := hid hr
        clear hr
        go_enter Try.func36, Try.ntmps36
        go_wp2_with fail
        refine (sizes_any _ _ _ _ _).mono ?_
        rintro e w1 ⟨rfl, rfl⟩
        rw [HS.out]
        go_wp2_with fail
        refine (rows_any _ _ _ _ m.out _ (HO.out.keep ((Keeps.refl _ w).alloc _))).mono ?_
        rintro e w1 ⟨rfl, rfl⟩
        rw [HR.out]
        go_wp2_with fail
        refine (rows_any _ _ _ _ m.next _ (HN.out.keep ((Keeps.refl _ w).alloc _))).mono ?_
        rintro e w1 ⟨rfl, rfl⟩
        go_wp2_with fail
        go_ret
        refine ⟨ret_bool ?_, by go_grown⟩
        have h1 := HS.out
        unfold mealyB
        rw [HR.out, HE.out]
        simp only [Bool.and_eq_true, decide_eq_true_eq] at h1 ⊢
        rw [Bool.eq_iff_iff]
        simp only [Bool.and_eq_true, decide_eq_true_eq]
        constructor
        · intro h; exact ⟨⟨⟨by omega, trivial⟩, trivial⟩, h⟩
        · intro h; exact h.2
      · have HR := hid (Bool.eq_false_iff.2 hr)
        clear hr
        go_enter Try.func36, Try.ntmps36
        go_wp2_with fail
        refine (sizes_any _ _ _ _ _).mono ?_
        rintro e w1 ⟨rfl, rfl⟩
        rw [HS.out]
        go_wp2_with fail
        refine (rows_any _ _ _ _ m.out _ (HO.out.keep ((Keeps.refl _ w).alloc _))).mono ?_
        rintro e w1 ⟨rfl, rfl⟩
        rw [HR.out]
        go_wp2_with fail
        go_ret
        exact ⟨ret_bool (by unfold mealyB; rw [HR.out]; simp), by go_grown⟩
    · have heq : ((m.next.length : Int) == (m.out.length : Int)) = false := beq_eq_false_iff_ne.2 (by omega)
      have HE := hid he
      clear he
      go_enter Try.func36, Try.ntmps36
      go_wp2_with fail
      refine (sizes_any _ _ _ _ _).mono ?_
      rintro e w1 ⟨rfl, rfl⟩
      rw [HS.out]
      go_wp2_with fail
      go_ret
      exact ⟨ret_bool (by unfold mealyB; rw [decide_eq_false HE.out]; simp), by go_grown⟩
  · have HS := hid (Bool.eq_false_iff.2 hs)
    clear hs
    go_enter Try.func36, Try.ntmps36
    go_wp2_with fail
    refine (sizes_any _ _ _ _ _).mono ?_
    rintro e w1 ⟨rfl, rfl⟩
    rw [HS.out]
    go_wp2_with fail
    go_ret
    refine ⟨ret_bool ?_, by go_grown⟩
    have h1 := HS.out
    symm
    unfold mealyB
    simp only [Bool.and_eq_false_iff, decide_eq_false_iff_not] at h1 ⊢
    omega

set_option maxHeartbeats 4000000 in
theorem rmvalid_any {D : Dom} (v : Value) (m : Mly) (w : World) (h : RdM w D v m) :
    Calls Try.prog 35 #[v] w fun e w' => e = .returned (.bool (mealyB m)) ∧ Below w.heap.size w w' := by
  obtain ⟨Ao, co, An, cn, rfl, ho, hn⟩ := h
  have HO := hid ho
  have HN := hid hn
  have hlo := ho.len.1
  have hln := hn.len.1
  clear ho hn
  by_cases hs : 1 ≤ m.ins ∧ m.ins ≤ 64 ∧ 1 ≤ m.outs ∧ m.outs ≤ 64 ∧ 1 ≤ m.next.length ∧ m.next.length ≤ 3000 ∧ m.out.length = m.next.length
  · obtain ⟨h1, h2, h3, h4, h5, h6, h7⟩ := hs
    have heq : ((m.out.length : Int) != (m.next.length : Int)) = false := by rw [bne_eq_false_iff_eq]; omega
    have HE := hid h7
    clear h7
    by_cases hst : (decide (0 ≤ m.start) && decide (m.start < (m.next.length : Int))) = true
    · have HS := hid hst
      clear hst
      go_enter Try.func35, Try.ntmps35
      go_wp2_with fail
      refine (within_any _ _ _).mono ?_
      rintro e w1 ⟨rfl, rfl⟩
      rw [HS.out]
      go_wp2_with fail
      obtain ⟨W, hW⟩ : ∃ W, W = w.alloc (.cells #[.int .i64 m.ins, .int .i64 m.outs, .int .i64 m.start, .slice Ao m.out.length co, .slice An m.next.length cn] 35) := ⟨_, rfl⟩
      rw [← hW]
      have hbx : Box W w.heap.size #[.int .i64 m.ins, .int .i64 m.outs, .int .i64 m.start, .slice Ao m.out.length co, .slice An m.next.length cn] := by rw [hW]; exact Box.new _ _ _ rfl
      have hbW : Below w.heap.size w W := by rw [hW]; go_grown
      have hO := HO.out.keep (show Keeps D w W by rw [hW]; exact (Keeps.refl _ _).alloc _)
      have hN := HN.out.keep (show Keeps D w W by rw [hW]; exact (Keeps.refl _ _).alloc _)
      have HBX := hid hbx
      have HBW := hid hbW
      have HO2 := hid hO
      have HN2 := hid hN
      clear hW hbx hbW hO hN
      go_loopw [4] (fun t wr => ∃ k : Nat, k ≤ m.next.length ∧ t = .int .i64 k ∧ SoFar k (fun j => rowB m.ins m.outs (m.out.getD j []) && rowB m.ins m.next.length (m.next.getD j [])) ∧ Drawn W wr) (fun t _ => m.next.length - (intOf t).toNat)
      case atStart => exact ⟨0, Nat.zero_le _, rfl, SoFar.zero _, Drawn.refl _⟩
      case round =>
        obtain ⟨k, hk, rfl, hso, hd⟩ := hrel
        have HSO := hid hso
        have hbx := HBX.out.below (hd.below W.heap.size) (Nat.le_refl _)
        have x0 := hbx 0 _ rfl
        have x1 := hbx 1 _ rfl
        have x2 := hbx 2 _ rfl
        have x3 := hbx 3 _ rfl
        have x4 := hbx 4 _ rfl
        clear hso hbx
        by_cases hlt : k < m.next.length
        · obtain ⟨b, o, A1, c1, r1, rfl, _, had, HX, hr1, hc⟩ := (HO2.out.keep hd.keeps).get (k := k) (by rw [HE.out]; exact hlt)
          obtain ⟨b2, o2, A2, c2, r2, rfl, _, had2, HX2, hr2, hc2⟩ := (HN2.out.keep hd.keeps).get hlt
          have hi1 : (k : Int) < m.next.length := by omega
          have hi2 : (k : Int) < m.out.length := by have := HE.out; omega
          have R1 : Hid (∀ n, Calls Try.prog 48 #[.slice A1 r1.length c1, .int .i64 m.ins, .int .i64 m.outs] (wr.drewN n) fun e w' => e = .returned (.bool (rowB m.ins m.outs r1)) ∧ w' = wr.drewN n) := hid fun n => row_any _ _ _ _ _ _ (hr1.keep (Drawn.n _ _).keeps)
          have R2 : Hid (∀ n, Calls Try.prog 48 #[.slice A2 r2.length c2, .int .i64 m.ins, .int .i64 m.next.length] (wr.drewN n) fun e w' => e = .returned (.bool (rowB m.ins m.next.length r2)) ∧ w' = wr.drewN n) := hid fun n => row_any _ _ _ _ _ _ (hr2.keep (Drawn.n _ _).keeps)
          clear hr1 hr2
          obtain ⟨p1, hp1⟩ : ∃ p, p = rowB m.ins m.outs r1 := ⟨_, rfl⟩
          obtain ⟨p2, hp2⟩ : ∃ p, p = rowB m.ins m.next.length r2 := ⟨_, rfl⟩
          rw [← hp1] at R1
          rw [← hp2] at R2
          have HP1 := hid hp1
          have HP2 := hid hp2
          clear hp1 hp2
          have hfalse : (p1 && p2) = false → Hid (mealyB m = false) := fun h => hid (by
            have hh : (rowB m.ins m.outs (m.out.getD k []) && rowB m.ins m.next.length (m.next.getD k [])) = false := by rw [HX.out, HX2.out, ← HP1.out, ← HP2.out]; exact h
            unfold mealyB rowsB
            rcases Bool.and_eq_false_iff.1 hh with h1 | h1
            · rw [allN_false (n := m.out.length) (j := k) (by rw [HE.out]; exact hlt) h1]; simp
            · rw [allN_false (n := m.next.length) (j := k) (p := fun j => rowB m.ins m.out.length (m.next.getD j [])) hlt (by rw [HE.out]; exact h1)]; simp)
          cases p1
          · have HF := hfalse rfl
            clear hfalse
            go_wp2_with fail
            go_quiet ((go_at_call 48; with_reducible exact Calls.quiet_of_same (R1.out _)))
            go_wp2_with fail
            go_ret
            exact ⟨ret_bool HF.out.symm, below_drewN (HBW.out.trans (hd.below _)) _⟩
          · cases p2
            · have HF := hfalse rfl
              clear hfalse
              go_wp2_with fail
              go_quiet ((go_at_call 48; first | with_reducible exact Calls.quiet_of_same (R1.out _) | with_reducible exact Calls.quiet_of_same (R2.out _)))
              go_wp2_with fail
              go_ret
              exact ⟨ret_bool HF.out.symm, below_drewN (HBW.out.trans (hd.below _)) _⟩
            · clear hfalse
              go_wp2_with fail
              go_quiet ((go_at_call 48; first | with_reducible exact Calls.quiet_of_same (R1.out _) | with_reducible exact Calls.quiet_of_same (R2.out _)))
              go_wp2_with fail
              go_roundw
              case rel => exact ⟨k + 1, by omega, by go_num, HSO.out.succ (by rw [HX.out, HX2.out, ← HP1.out, ← HP2.out]; rfl), hd.drewN _⟩
              case measure => simp [intOf]; omega
        · go_wp2_with fail
          go_ret
          refine ⟨ret_bool ?_, HBW.out.trans (hd.below _)⟩
          have hs := HS.out
          have hall : ∀ j, j < m.next.length → (rowB m.ins m.outs (m.out.getD j []) && rowB m.ins m.next.length (m.next.getD j [])) = true := fun j hj => HSO.out j (by omega)
          unfold mealyB rowsB
          rw [HE.out, allN_of (fun j hj => (Bool.and_eq_true _ _ ▸ hall j hj).1), allN_of (fun j hj => (Bool.and_eq_true _ _ ▸ hall j hj).2)]
          simp only [Bool.and_eq_true, decide_eq_true_eq] at hs
          symm
          simp only [Bool.and_eq_true, decide_eq_true_eq]
          exact ⟨⟨⟨⟨⟨⟨⟨⟨⟨h1, h2⟩, h3⟩, h4⟩, h6⟩, hs.1⟩, hs.2⟩, trivial⟩, trivial⟩, trivial⟩
    · have HS := hid (Bool.eq_false_iff.2 hst)
      clear hst
      go_enter Try.func35, Try.ntmps35
      go_wp2_with fail
      refine (within_any _ _ _).mono ?_
      rintro e w1 ⟨rfl, rfl⟩
      rw [HS.out]
      go_wp2_with fail
      go_ret
      refine ⟨ret_bool ?_, by go_grown⟩
      have h1 := HS.out
      symm
      unfold mealyB
      rw [HE.out]
      simp only [Bool.and_eq_false_iff, decide_eq_false_iff_not] at h1 ⊢
      omega
  · go_enter Try.func35, Try.ntmps35
    go_wp2_with fail
    all_goals
      go_ret
      refine ⟨ret_bool ?_, by go_grown⟩
      symm
      unfold mealyB
      simp only [Bool.and_eq_false_iff, decide_eq_false_iff_not]
      omega

set_option maxHeartbeats 2000000 in
theorem compiled_any {D : Dom} (v : Value) (m : Mly) (w : World) (h : RdM w D v m) (hm3 : m.next.length ≤ 1000000) :
    Calls Try.prog 25 #[v] w fun e w' => e = .returned (.int .i64 (compiledZ m)) ∧ Below w.heap.size w w' := by
  have HV := hid h.old
  obtain ⟨Ao, co, An, cn, rfl, ho, hn⟩ := h
  clear ho hn
  cases hm : mealyB m
  · have HM := hid hm
    clear hm
    go_enter Try.func25, Try.ntmps25
    go_wp2_with fail
    refine (rmvalid_any _ m _ (HV.out.keep ((Keeps.refl _ w).alloc _))).mono ?_
    rintro e w1 ⟨rfl, hb1⟩
    rw [HM.out]
    go_wp2_with fail
    go_ret
    exact ⟨ret_int (by unfold compiledZ; rw [HM.out]; rfl), ((Below.refl _ _).alloc (Nat.le_refl _) _).trans (hb1.mono (by simp))⟩
  · have HM := hid hm
    simp only [mealyB, Bool.and_eq_true, decide_eq_true_eq] at hm
    have hp0 : 1 ≤ m.ins := hm.1.1.1.1.1.1.1.1.1
    have hp1 : m.ins ≤ 64 := hm.1.1.1.1.1.1.1.1.2
    have hq : 0 ≤ (m.next.length : Int) * m.ins := Int.mul_nonneg (by omega) (by omega)
    have hq2 : (m.next.length : Int) * m.ins ≤ 64000000 := by
      have : (m.next.length : Int) * m.ins ≤ 1000000 * 64 := Int.mul_le_mul (by omega) hp1 (by omega) (by omega)
      omega
    clear hm
    go_enter Try.func25, Try.ntmps25
    go_wp2_with fail
    refine (rmvalid_any _ m _ (HV.out.keep ((Keeps.refl _ w).alloc _))).mono ?_
    rintro e w1 ⟨rfl, hb1⟩
    rw [HM.out]
    have hbx : Box w1 w.heap.size #[.int .i64 m.ins, .int .i64 m.outs, .int .i64 m.start, .slice Ao m.out.length co, .slice An m.next.length cn] := (Box.new _ _ _ rfl).below hb1 (Nat.le_refl _)
    have x0 := hbx 0 _ rfl
    have x1 := hbx 1 _ rfl
    have x2 := hbx 2 _ rfl
    have x3 := hbx 3 _ rfl
    have x4 := hbx 4 _ rfl
    have hbw : Below w.heap.size w w1 := ((Below.refl _ _).alloc (Nat.le_refl _) _).trans (hb1.mono (by simp))
    clear hbx hb1
    by_cases hc : 512 < (m.next.length : Int) * m.ins
    · go_wp2_with fail
      go_ret
      exact ⟨ret_int (by unfold compiledZ; rw [HM.out, if_pos rfl, if_pos hc]), hbw⟩
    · go_wp2_with fail
      go_ret
      exact ⟨ret_int (by unfold compiledZ; rw [HM.out, if_pos rfl, if_neg (by omega)]), hbw⟩
end Go.Proofs.Ytfabdpnjjondaaa
