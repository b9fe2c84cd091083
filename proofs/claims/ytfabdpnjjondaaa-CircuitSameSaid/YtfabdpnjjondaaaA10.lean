/-
  Walks: Step of circuits, in the program and in the reference.
-/
import Derived.Test.YtfabdpnjjondaaaA9
set_option linter.unusedVariables false
set_option linter.unusedSimpArgs false
namespace Go.Proofs.Ytfabdpnjjondaaa
open Go.RowKit

theorem wrap_pow (n : Nat) (h : n ≤ 62) : wrap64 (2 ^ n) = pow2 n := by
  have h1 := pow2_pos n
  have h2 := pow2_lt h
  rw [← pow2_eq]
  exact IntWalk.wrap64_in _ (by omega)

set_option maxHeartbeats 2000000 in
theorem cstep_any {D : Dom} (v : Value) (c : Cir) (lat inp : Int) (w : World) (h : RdC w D v c) :
    Calls Try.prog 11 #[v, .int .i64 lat, .int .i64 inp] w fun e w' =>
      e = .returned (.tuple #[.int .i64 (stepZ c lat inp).1, .int .i64 (stepZ c lat inp).2]) ∧ Below w.heap.size w w' := by
  obtain ⟨i0, hi, hz0, hz1, hz2⟩ := info_parts int_info
  have HV := hid h.old
  obtain ⟨Ag, cg, Al, cl, Ao, co, rfl, hg, hl, ho⟩ := h
  have hn := hg.len.1
  have hn2 := hl.len.1
  have hn3 := ho.len.1
  clear hg hl ho
  by_cases hv : validB c = true
  · have HVB := hid hv
    simp only [validB, Bool.and_eq_true, decide_eq_true_eq] at hv
    obtain ⟨⟨⟨⟨⟨⟨⟨h1, h2⟩, h3⟩, h4⟩, h5⟩, h6⟩, h7⟩, h8⟩ := hv
    clear h6 h7 h8
    have P1 := hid (wrap_pow c.lat.length (by omega))
    have P2 := hid (wrap_pow c.ib.toNat (by omega))
    go_enter Try.func11, Try.ntmps11
    go_wp2_with fail
    refine (valid_any _ c _ (HV.out.keep ((Keeps.refl _ w).alloc _))).mono ?_
    rintro e w1 ⟨rfl, hb1⟩
    rw [HVB.out]
    have hbx : Box w1 w.heap.size #[.int .i64 c.ib, .slice Ag c.gates.length cg, .slice Al c.lat.length cl, .slice Ao c.outs.length co] := (Box.new _ _ _ rfl).below hb1 (Nat.le_refl _)
    have x0 := hbx 0 _ rfl
    have x1 := hbx 1 _ rfl
    have x2 := hbx 2 _ rfl
    have x3 := hbx 3 _ rfl
    have HBX := hid hbx
    have hw1 : w.heap.size < w1.heap.size := World.block_lt_of_cell? w1 _ x0
    have hbw : Below w.heap.size w w1 := ((Below.refl _ _).alloc (Nat.le_refl _) _).trans (hb1.mono (by simp))
    clear hbx
    by_cases hf1 : (decide (0 ≤ lat) && decide (lat < wrap64 (2 ^ c.lat.length))) = true
    · have F1 := hid hf1
      clear hf1
      by_cases hf2 : (decide (0 ≤ inp) && decide (inp < wrap64 (2 ^ c.ib.toNat))) = true
      · have F2 := hid hf2
        clear hf2
        have HF : Hid (fitsB c lat inp = true) := hid (by
          have e1 := F1.out; have e2 := F2.out
          rw [P1.out] at e1; rw [P2.out] at e2
          unfold fitsB; simp only [Bool.and_eq_true, decide_eq_true_eq] at e1 e2 ⊢
          exact ⟨⟨e1, e2.1⟩, e2.2⟩)
        go_wp2_with fail
        refine (below_new _ _ _ _ (by simp)).mono ?_
        rintro e w2 ⟨rfl, rfl⟩
        rw [F1.out]
        go_wp2_with fail
        refine (below_new _ _ _ _ (by simp)).mono ?_
        rintro e w2 ⟨rfl, rfl⟩
        rw [F2.out]
        go_wp2_with fail
        refine wp_gen fun W hW => ?_
        have hbW : Below w1.heap.size w1 W := by rw [hW]; go_grown
        have hsz := hbW.size
        have hBX : Box W w.heap.size #[.int .i64 c.ib, .slice Ag c.gates.length cg, .slice Al c.lat.length cl, .slice Ao c.outs.length co] := HBX.out.below hbW (Nat.le_refl _)
        have HBW := hid hbW
        have HVW := hid (HV.out.keep (Keeps.of_below (hbw.trans (hbW.mono hbw.size)) fun _ h => h))
        have HBX2 := hid hBX
        have y0 := hBX 0 _ rfl
        have y1 := hBX 1 _ rfl
        have y2 := hBX 2 _ rfl
        have y3 := hBX 3 _ rfl
        clear hW hbW hBX x0 x1 x2 x3 HBX
        have hmk := run_make_zrow (P := Try.prog) 23 3 i0 (.int .i64 0) 8 Try.underlying23 hi hz0 hz1 hz2 rfl .i64 .i64 c.gates.length (by omega) (by omega)
        have KEEP : Hid (∀ w4, (W.alloc (zrow (.int .i64 0) c.gates.length 3)).drew.grownBy w4 (some W.heap.size) → w4.cell? ⟨w.heap.size, 0, none⟩ = some (.int .i64 c.ib) ∧ w4.cell? ⟨w.heap.size, 1, none⟩ = some (.slice Ag c.gates.length cg) ∧ w4.cell? ⟨w.heap.size, 2, none⟩ = some (.slice Al c.lat.length cl) ∧ w4.cell? ⟨w.heap.size, 3, none⟩ = some (.slice Ao c.outs.length co)) := hid fun w4 hg => by
          have hne : some w.heap.size ≠ some W.heap.size := by simp; omega
          have hb := (HBX2.out.alloc (zrow (.int .i64 0) c.gates.length 3)).drew.grown hg hne
          exact ⟨hb 0 _ rfl, hb 1 _ rfl, hb 2 _ rfl, hb 3 _ rfl⟩
        go_region_held3 (fun w' => w'.cell? ⟨w.heap.size, 0, none⟩ = some (.int .i64 c.ib) ∧ w'.cell? ⟨w.heap.size, 1, none⟩ = some (.slice Ag c.gates.length cg) ∧ w'.cell? ⟨w.heap.size, 2, none⟩ = some (.slice Al c.lat.length cl) ∧ w'.cell? ⟨w.heap.size, 3, none⟩ = some (.slice Ao c.outs.length co))
          (first
            | go_keep
            | exact KEEP.out _ hg2)
          ((go_at_call 29
            refine (step_any (D := (· < w.heap.size)) _ c W.heap.size (List.replicate c.gates.length 0) lat inp _ (HVW.out.keep ((Keeps.refl _ W).alloc _).drew) HVB.out HF.out (by omega) (by simp) (by rw [List.map_replicate]; exact own_zrow W 0 (.int .i64 0) c.gates.length 3 (Nat.zero_le _) (maxLen_le (by omega)))).mono ?_
            rintro e w4 ⟨rfl, hg2, _⟩))
        go_wp2_with fail
        go_ret2
        refine ⟨by unfold stepZ; rw [HVB.out, HF.out]; rfl, ?_⟩
        have h3 : Below w.heap.size w W := hbw.trans (HBW.out.mono hbw.size)
        exact ((h3.alloc h3.size _).drew).grown hg2 (by simp; have := h3.size; omega) (by simp; omega)
      · have F2 := hid (Bool.eq_false_iff.2 hf2)
        clear hf2
        have HF : Hid (fitsB c lat inp = false) := hid (by
          have e2 := F2.out
          rw [P2.out] at e2
          unfold fitsB; rw [Bool.and_assoc, e2]; simp)
        go_wp2_with fail
        refine (below_new _ _ _ _ (by simp)).mono ?_
        rintro e w2 ⟨rfl, rfl⟩
        rw [F1.out]
        go_wp2_with fail
        refine (below_new _ _ _ _ (by simp)).mono ?_
        rintro e w2 ⟨rfl, rfl⟩
        rw [F2.out]
        go_wp2_with fail
        go_ret2
        exact ⟨by unfold stepZ; rw [HF.out]; simp, (hbw.alloc hbw.size _).alloc (by have := hbw.size; simp; omega) _⟩
    · have F1 := hid (Bool.eq_false_iff.2 hf1)
      clear hf1
      have HF : Hid (fitsB c lat inp = false) := hid (by
        have e2 := F1.out
        rw [P1.out] at e2
        unfold fitsB; rw [e2]; simp)
      go_wp2_with fail
      refine (below_new _ _ _ _ (by simp)).mono ?_
      rintro e w2 ⟨rfl, rfl⟩
      rw [F1.out]
      go_wp2_with fail
      go_ret2
      exact ⟨by unfold stepZ; rw [HF.out]; simp, hbw.alloc hbw.size _⟩
  · have HVB := hid (Bool.eq_false_iff.2 hv)
    clear hv
    go_enter Try.func11, Try.ntmps11
    go_wp2_with fail
    refine (valid_any _ c _ (HV.out.keep ((Keeps.refl _ w).alloc _))).mono ?_
    rintro e w1 ⟨rfl, hb1⟩
    rw [HVB.out]
    go_wp2_with fail
    go_ret2
    exact ⟨by unfold stepZ; rw [HVB.out]; simp, ((Below.refl _ _).alloc (Nat.le_refl _) _).trans (hb1.mono (by simp))⟩

set_option maxHeartbeats 2000000 in
theorem rstep_any {D : Dom} (v : Value) (c : Cir) (lat inp : Int) (w : World) (h : RdC w D v c) :
    Calls Try.prog 12 #[v, .int .i64 lat, .int .i64 inp] w fun e w' =>
      e = .returned (.tuple #[.int .i64 (stepZ c lat inp).1, .int .i64 (stepZ c lat inp).2]) ∧ Below w.heap.size w w' := by
  have HV := hid h.old
  obtain ⟨Ag, cg, Al, cl, Ao, co, rfl, hg, hl, ho⟩ := h
  have HL := hid hl.old
  have HO := hid ho.old
  have hn := hg.len.1
  have hn2 := hl.len.1
  have hn3 := ho.len.1
  clear hg hl ho
  by_cases hv : validB c = true
  · have HVB := hid hv
    simp only [validB, Bool.and_eq_true, decide_eq_true_eq] at hv
    obtain ⟨⟨⟨⟨⟨⟨⟨h1, h2⟩, h3⟩, h4⟩, h5⟩, h6⟩, h7⟩, h8⟩ := hv
    have h7' := hid (allN_true.1 h7)
    have h8' := hid (allN_true.1 h8)
    clear h6 h7 h8
    have PW1 : Hid (∀ W, Calls Try.prog 30 #[.int .i64 c.lat.length] W fun e w' => e = .returned (.int .i64 (pow2 c.lat.length)) ∧ w' = W) := hid fun W => power_any _ W (by omega)
    have PW2 : Hid (∀ W, Calls Try.prog 30 #[.int .i64 c.ib] W fun e w' => e = .returned (.int .i64 (pow2 c.ib.toNat)) ∧ w' = W) := hid fun W => by
      obtain ⟨j, hj⟩ := Int.eq_ofNat_of_zero_le h1
      rw [hj]; exact power_any j W (by omega)
    go_enter Try.func12, Try.ntmps12
    go_wp2_with fail
    refine (rvalid_any _ c _ (HV.out.keep ((Keeps.refl _ w).alloc _))).mono ?_
    rintro e w1 ⟨rfl, hb1⟩
    rw [HVB.out]
    have hbx : Box w1 w.heap.size #[.int .i64 c.ib, .slice Ag c.gates.length cg, .slice Al c.lat.length cl, .slice Ao c.outs.length co] := (Box.new _ _ _ rfl).below hb1 (Nat.le_refl _)
    have x0 := hbx 0 _ rfl
    have x1 := hbx 1 _ rfl
    have x2 := hbx 2 _ rfl
    have x3 := hbx 3 _ rfl
    have HBX := hid hbx
    have hw1 : w.heap.size < w1.heap.size := World.block_lt_of_cell? w1 _ x0
    have hbw : Below w.heap.size w w1 := ((Below.refl _ _).alloc (Nat.le_refl _) _).trans (hb1.mono (by simp))
    clear hbx
    have HVW := hid (HV.out.keep (Keeps.of_below hbw fun _ h => h))
    have HLW := hid (HL.out.keep (Keeps.of_below hbw fun _ h => h))
    have HOW := hid (HO.out.keep (Keeps.of_below hbw fun _ h => h))
    by_cases hf : fitsB c lat inp = true
    · have HF := hid hf
      simp only [fitsB, Bool.and_eq_true, decide_eq_true_eq] at hf
      obtain ⟨⟨⟨f1, f2⟩, f3⟩, f4⟩ := hf
      have d1 : decide (lat < 0) = false := decide_eq_false (by omega)
      have d2 : decide (pow2 c.lat.length ≤ lat) = false := decide_eq_false (by omega)
      have d3 : decide (inp < 0) = false := decide_eq_false (by omega)
      have d4 : decide (pow2 c.ib.toNat ≤ inp) = false := decide_eq_false (by omega)
      clear f2 f4
      go_wp2_with fail
      refine (PW1.out _).mono ?_
      rintro e w2 ⟨rfl, rfl⟩
      go_wp2_with fail
      refine (PW2.out _).mono ?_
      rintro e w2 ⟨rfl, rfl⟩
      go_wp2_with fail
      refine (values_any _ c lat inp _ HVW.out HVB.out HF.out).mono ?_
      rintro e w3 ⟨A, c', rfl, hb3, hrv⟩
      have hbx3 := HBX.out.below hb3 (Nat.le_refl _)
      have y0 := hbx3 0 _ rfl
      have y1 := hbx3 1 _ rfl
      have y2 := hbx3 2 _ rfl
      have y3 := hbx3 3 _ rfl
      have hlen : (valsZ c lat inp).length = c.gates.length := valsTo_len _ _ _ _
      have n1 : Hid (∀ n, Calls Try.prog 32 #[.slice A (valsZ c lat inp).length c', .slice Ao c.outs.length co] (w3.drewN n) fun e w' => e = .returned (.int .i64 (stepC c lat inp).1) ∧ ∃ m, w' = w3.drewN m) := hid fun n => by
        refine (refnumber_any A Ao c' co (valsZ c lat inp) c.outs _ (hrv.keep (Drawn.n _ _).keeps) ((HOW.out.keep ((Keeps.refl _ _).below hb3)).keep (Drawn.n _ _).keeps) (by omega) (fun j => valsTo_01 _ _ _ _ _) (fun j hj => by
          rw [hlen]; simpa using h8'.out j hj)).mono ?_
        rintro e w' ⟨rfl, h⟩
        exact ⟨rfl, (Drawn.n _ _).trans h⟩
      have n2 : Hid (∀ n, Calls Try.prog 32 #[.slice A (valsZ c lat inp).length c', .slice Al c.lat.length cl] (w3.drewN n) fun e w' => e = .returned (.int .i64 (stepC c lat inp).2) ∧ ∃ m, w' = w3.drewN m) := hid fun n => by
        refine (refnumber_any A Al c' cl (valsZ c lat inp) c.lat _ (hrv.keep (Drawn.n _ _).keeps) ((HLW.out.keep ((Keeps.refl _ _).below hb3)).keep (Drawn.n _ _).keeps) (by omega) (fun j => valsTo_01 _ _ _ _ _) (fun j hj => by
          rw [hlen]; simpa using h7'.out j hj)).mono ?_
        rintro e w' ⟨rfl, h⟩
        exact ⟨rfl, (Drawn.n _ _).trans h⟩
      have HB3 := hid hb3
      clear hrv hlen hbx3 hb3 x0 x1 x2 x3
      go_wp2_with fail
      go_quiet ((go_at_call 32; first | with_reducible exact n1.out _ | with_reducible exact n2.out _))
      go_wp2_with fail
      go_ret2
      exact ⟨by unfold stepZ; rw [HVB.out, HF.out]; rfl, below_drewN (hbw.trans (HB3.out.mono hbw.size)) _⟩
    · have HF := hid (Bool.eq_false_iff.2 hf)
      have hf' : ¬ (((0 ≤ lat ∧ lat < pow2 c.lat.length) ∧ 0 ≤ inp) ∧ inp < pow2 c.ib.toNat) := by
        simpa only [fitsB, Bool.and_eq_true, decide_eq_true_eq] using hf
      have fin : Hid (stepZ c lat inp = (0, 0)) := hid (by unfold stepZ; rw [HF.out]; simp)
      clear hf
      by_cases f1 : 0 ≤ lat
      · have d1 : decide (lat < 0) = false := decide_eq_false (by omega)
        by_cases f2 : lat < pow2 c.lat.length
        · have d2 : decide (pow2 c.lat.length ≤ lat) = false := decide_eq_false (by omega)
          by_cases f3 : 0 ≤ inp
          · have d3 : decide (inp < 0) = false := decide_eq_false (by omega)
            have d4 : decide (pow2 c.ib.toNat ≤ inp) = true := decide_eq_true (by
              rcases Int.lt_or_le inp (pow2 c.ib.toNat) with h | h
              · exact absurd ⟨⟨⟨f1, f2⟩, f3⟩, h⟩ hf'
              · exact h)
            clear f2 hf'
            go_wp2_with fail
            refine (PW1.out _).mono ?_
            rintro e w2 ⟨rfl, rfl⟩
            go_wp2_with fail
            refine (PW2.out _).mono ?_
            rintro e w2 ⟨rfl, rfl⟩
            go_wp2_with fail
            go_ret2
            exact ⟨by rw [fin.out]; rfl, hbw⟩
          · have d3 : decide (inp < 0) = true := decide_eq_true (by omega)
            clear f2 hf'
            go_wp2_with fail
            refine (PW1.out _).mono ?_
            rintro e w2 ⟨rfl, rfl⟩
            go_wp2_with fail
            go_ret2
            exact ⟨by rw [fin.out]; rfl, hbw⟩
        · have d2 : decide (pow2 c.lat.length ≤ lat) = true := decide_eq_true (by omega)
          clear f2 hf'
          go_wp2_with fail
          refine (PW1.out _).mono ?_
          rintro e w2 ⟨rfl, rfl⟩
          go_wp2_with fail
          go_ret2
          exact ⟨by rw [fin.out]; rfl, hbw⟩
      · have d1 : decide (lat < 0) = true := decide_eq_true (by omega)
        clear hf'
        go_wp2_with fail
        go_ret2
        exact ⟨by rw [fin.out]; rfl, hbw⟩
  · have HVB := hid (Bool.eq_false_iff.2 hv)
    clear hv
    go_enter Try.func12, Try.ntmps12
    go_wp2_with fail
    refine (rvalid_any _ c _ (HV.out.keep ((Keeps.refl _ w).alloc _))).mono ?_
    rintro e w1 ⟨rfl, hb1⟩
    rw [HVB.out]
    go_wp2_with fail
    go_ret2
    exact ⟨by unfold stepZ; rw [HVB.out]; simp, ((Below.refl _ _).alloc (Nat.le_refl _) _).trans (hb1.mono (by simp))⟩
end Go.Proofs.Ytfabdpnjjondaaa
