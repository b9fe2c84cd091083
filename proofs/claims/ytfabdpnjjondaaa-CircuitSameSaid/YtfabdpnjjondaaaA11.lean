/-
  Walks: Run of circuits, in the program and in the reference.
-/
import Derived.Test.YtfabdpnjjondaaaA10
set_option linter.unusedVariables false
set_option linter.unusedSimpArgs false
namespace Go.Proofs.Ytfabdpnjjondaaa
open Go.RowKit
attribute [local go_sem] cell_alloc_old

theorem latTo_range (c : Cir) (ins : List Int) (k : Nat) : 0 ≤ latTo c ins k ∧ latTo c ins k < pow2 c.lat.length := by
  cases k with
  | zero => exact ⟨Int.le_refl _, by have := pow2_pos c.lat.length; simp only [latTo]; omega⟩
  | succ k => exact numTo_lt _ _ _ (fun j _ => valsTo_01 _ _ _ _ _)
theorem fits_run {c : Cir} {ins : List Int} (hb : belowB (pow2 c.ib.toNat) ins = true) {k : Nat} (hk : k < ins.length) : fitsB c (latTo c ins k) (ins.getD k 0) = true := by
  have h1 := latTo_range c ins k
  have h2 := allN_true.1 hb k hk
  simp only [Bool.and_eq_true, decide_eq_true_eq] at h2
  simp only [fitsB, Bool.and_eq_true, decide_eq_true_eq]
  exact ⟨⟨h1, h2.1⟩, h2.2⟩

structure RunRel (c : Cir) (ins : List Int) (w : World) (vb ob k : Nat) (wr : World) : Prop where
  below : Below w.heap.size w wr
  val : ∃ zs : List Int, zs.length = c.gates.length ∧ wr.ownsRow 0 3 1 (.slice (some ⟨vb, 0, none⟩) c.gates.length c.gates.length) c.gates.length (zs.map (.int .i64))
  out : ∃ ys : List Int, ys.length = ins.length ∧ ys.take k = outsTo c ins k ∧ wr.ownsRow 0 3 1 (.slice (some ⟨ob, 0, none⟩) ins.length ins.length) ins.length (ys.map (.int .i64))

theorem RunRel.next {c : Cir} {ins : List Int} {w wr w2 : World} {vb ob k : Nat} (h : RunRel c ins w vb ob k wr) (hk : k < ins.length) (hv : w.heap.size ≤ vb) (ho : w.heap.size ≤ ob) (hne : vb ≠ ob) (hg : wr.grownBy w2 (some vb))
    (hrow : w2.ownsRow 0 3 1 (.slice (some ⟨vb, 0, none⟩) c.gates.length c.gates.length) c.gates.length ((valsZ c (latTo c ins k) (ins.getD k 0)).map (.int .i64))) :
    RunRel c ins w vb ob (k + 1) (w2.setCell ⟨ob, k, none⟩ (.int .i64 (stepC c (latTo c ins k) (ins.getD k 0)).1)) := by
  obtain ⟨ys, h1, h2, h3⟩ := h.out
  have h4 := h3.kept hg (.inr (by simp [Value.ownBlock]; exact fun e => hne e.symm))
  have h5 := h4.stored k (.int .i64 (stepC c (latTo c ins k) (ins.getD k 0)).1)
  refine ⟨((h.below).grown hg h.below.size (by rintro j ⟨⟩; exact hv)).setCell (p := ⟨ob, k, none⟩) ho _, ⟨valsZ c (latTo c ins k) (ins.getD k 0), valsTo_len _ _ _ _, ?_⟩, ys.set k (stepC c (latTo c ins k) (ins.getD k 0)).1, by simpa using h1, ?_, ?_⟩
  · exact ownsRow_setCell_other hrow (by simp [Value.ownBlock]; exact hne) _
  · rw [outsTo, ← h2]
    have hk' : k < (ys.set k (stepC c (latTo c ins k) (ins.getD k 0)).1).length := by simpa [h1] using hk
    rw [List.take_succ_eq_append_getElem hk', List.take_set_of_le (Nat.le_refl k)]
    simp
  · rw [List.map_set]; exact h5.1

set_option maxHeartbeats 2000000 in
theorem run_any {D E : Dom} (v : Value) (c : Cir) (A : Option Addr) (ca : Nat) (ins : List Int) (w : World) (h : RdC w D v c) (hins : RdI w E A ca ins) (hmil : ins.length ≤ 1000000) :
    Calls Try.prog 16 #[v, .slice A ins.length ca] w fun e w' =>
      ∃ A' c', e = .returned (.slice A' (runZ c ins).length c') ∧ Below w.heap.size w w' ∧ RdI w' (fun b => w.heap.size ≤ b) A' c' (runZ c ins) := by
  obtain ⟨i0, hi, hz0, hz1, hz2⟩ := info_parts int_info
  have HV := hid h.old
  have HI := hid hins.old
  have hni := hins.len.1
  obtain ⟨Ag, cg, Al, cl, Ao, co, rfl, hg, hl, ho⟩ := h
  have hn := hg.len.1
  have hn2 := hl.len.1
  have hn3 := ho.len.1
  clear hg hl ho hins
  by_cases hv : validB c = true
  · have HVB := hid hv
    simp only [validB, Bool.and_eq_true, decide_eq_true_eq] at hv
    obtain ⟨⟨⟨⟨⟨⟨⟨h1, h2⟩, h3⟩, h4⟩, h5⟩, h6⟩, h7⟩, h8⟩ := hv
    clear h6 h7 h8
    have P2 := hid (wrap_pow c.ib.toNat (by omega))
    have hmk := run_make_zrow (P := Try.prog) 23 3 i0 (.int .i64 0) 8 Try.underlying23 hi hz0 hz1 hz2 rfl .i64 .i64 c.gates.length (by omega) (by omega)
    have hmk2 := run_make_zrow (P := Try.prog) 23 3 i0 (.int .i64 0) 8 Try.underlying23 hi hz0 hz1 hz2 rfl .i64 .i64 ins.length (by omega) (by omega)
    go_enter Try.func16, Try.ntmps16
    go_wp2_with fail
    refine (valid_any _ c _ (HV.out.keep ((Keeps.refl _ w).alloc _))).mono ?_
    rintro e w1 ⟨rfl, hb1⟩
    rw [HVB.out]
    have hbx : Box w1 w.heap.size #[.int .i64 c.ib, .slice Ag c.gates.length cg, .slice Al c.lat.length cl, .slice Ao c.outs.length co] := (Box.new _ _ _ rfl).below hb1 (Nat.le_refl _)
    have x0 := hbx 0 _ rfl
    have x1 := hbx 1 _ rfl
    have x2 := hbx 2 _ rfl
    have x3 := hbx 3 _ rfl
    have HBX := hid hbx
    have hw1 : w.heap.size < w1.heap.size := World.block_lt_of_cell? w1 _ x0
    have hbw : Below w.heap.size w w1 := ((Below.refl _ _).alloc (Nat.le_refl _) _).trans (hb1.mono (by simp))
    clear hbx
    have HI1 := hid (HI.out.keep (Keeps.of_below hbw fun _ h => h))
    by_cases hf : belowB (pow2 c.ib.toNat) ins = true
    · have HF := hid hf
      clear hf
      go_wp2_with fail
      refine (below_any _ _ _ ins _ HI1.out).mono ?_
      rintro e w2 ⟨rfl, rfl⟩
      rw [P2.out, HF.out]
      go_wp2_with fail
      obtain ⟨W, hW⟩ : ∃ W, W = w2 := ⟨_, rfl⟩
      rw [← hW] at hbw HBX hw1 HI1 ⊢
      clear hW hb1 x0 x1 x2 x3
      go_loopw [7, 8, 9, 30] (fun l _ _ t wr => ∃ k : Nat, k ≤ ins.length ∧ t = .int .i64 k ∧ l = .int .i64 (latTo c ins k) ∧ RunRel c ins w W.heap.size (W.heap.size + 1) k wr ∧ W.heap.size + 1 < wr.heap.size ∧
        Box wr w.heap.size #[.int .i64 c.ib, .slice Ag c.gates.length cg, .slice Al c.lat.length cl, .slice Ao c.outs.length co]) (fun _ _ _ t _ => ins.length - (intOf t).toNat)
      case atStart =>
        refine ⟨0, Nat.zero_le _, rfl, rfl, ⟨(hbw.alloc hbw.size _).alloc (by have := hbw.size; simp; omega) _, ⟨List.replicate c.gates.length 0, by simp, ?_⟩, List.replicate ins.length 0, by simp, by simp [outsTo], ?_⟩, by simp, (HBX.out.alloc _).alloc _⟩
        · rw [List.map_replicate]; exact (own_zrow W 0 _ _ _ (Nat.zero_le _) (maxLen_le (by omega))).alloc _
        · rw [List.map_replicate]
          have := own_zrow (W.alloc (zrow (.int .i64 0) c.gates.length 3)) 0 (.int .i64 0) ins.length 3 (Nat.zero_le _) (maxLen_le (by omega))
          simpa using this
      case round =>
        obtain ⟨k, hk, rfl, rfl, hrel, hsz, hbox⟩ := hrel
        have HR := hid hrel
        have HB := hid hbox
        have x0 := hbox 0 _ rfl
        have x1 := hbox 1 _ rfl
        have x2 := hbox 2 _ rfl
        have x3 := hbox 3 _ rfl
        clear hrel hbox
        by_cases hlt : k < ins.length
        · obtain ⟨b, o, x, rfl, _, had, HX, hc⟩ := (HI.out.keep (Keeps.of_below HR.out.below fun _ h => h)).get hlt
          obtain ⟨zs, hzl, hzo⟩ := HR.out.val
          obtain ⟨ys, hyl, _, hyo⟩ := HR.out.out
          have HFI : Hid (fitsB c (latTo c ins k) x = true) := hid (by rw [← HX.out]; exact fits_run HF.out hlt)
          have HVr := hid (HV.out.keep (Keeps.of_below HR.out.below fun _ h => h))
          have HZL := hid hzl
          have HZO := hid hzo
          have HYL := hid hyl
          have HYO := hid hyo
          clear hzl hzo hyl hyo
          have hi1 : (k : Int) < ins.length := by omega
          go_wp2_with fail
          refine (step_any (D := (· < w.heap.size)) _ c W.heap.size zs (latTo c ins k) x _ HVr.out HVB.out HFI.out (by omega) HZL.out HZO.out).mono ?_
          rintro e w3 ⟨rfl, hg3, hrow3⟩
          have hne : W.heap.size ≠ W.heap.size + 1 := by omega
          have hyo3 := HYO.out.kept hg3 (.inr (by simp [Value.ownBlock]))
          have hcell : w3.cell? ⟨W.heap.size + 1, k, none⟩ = some (.int .i64 (ys.getD k 0)) := by
            rw [hyo3.cellAt k (by omega)]; simp [HYL.out, hlt]
          have hfro : w3.frozen? ⟨W.heap.size + 1, k, none⟩ = false := hyo3.frozenAt k
          have HG3 := hid hg3
          have HROW := hid hrow3
          have hsz3 := hg3.size
          clear hg3 hrow3 hyo3 x0 x1 x2 x3
          go_wp2_with fail
          go_roundw
          case rel =>
            have e1 : latTo c ins (k + 1) = (stepC c (latTo c ins k) x).2 := by rw [latTo, HX.out]
            have hn := HR.out.next hlt (by omega) (by omega) hne HG3.out (by rw [HX.out]; exact HROW.out)
            rw [HX.out] at hn
            exact ⟨k + 1, by omega, by go_num, by rw [e1], hn, by simp; omega, (HB.out.grown HG3.out (by simp; omega)).set (by simp; omega) _⟩
          case measure => simp [intOf]; omega
        · obtain rfl : k = ins.length := by omega
          obtain ⟨ys, hyl, hyt, hyo⟩ := HR.out.out
          have hys : ys = outsTo c ins ins.length := by rw [← hyt, List.take_of_length_le (by omega)]
          have hrun : runZ c ins = outsTo c ins ins.length := by unfold runZ; rw [HVB.out, HF.out]; rfl
          have hrl : (runZ c ins).length = ins.length := by rw [hrun, outsTo_len]
          rw [hys] at hyo
          have HYO := hid hyo
          have HRUN := hid hrun
          have HRL := hid hrl
          clear hyl hyt hyo hys hrun hrl
          go_wp2_with fail
          go_ret
          refine ⟨some ⟨W.heap.size + 1, 0, none⟩, ins.length, ret_sl HRL.out.symm, HR.out.below, ?_⟩
          have hh := HYO.out
          unfold RdI
          rw [HRL.out, HRUN.out]
          exact (Rd.own (base := 0) (D := fun _ => True) hh hni (fun _ _ => trivial)).2 |> fun h2 => ⟨⟨by simp [outsTo_len], hni, Nat.le_refl _, by omega⟩, fun hp => by
            obtain ⟨b, o, e1, _, e3, e4⟩ := h2 hp
            injection e1 with e1
            injection e1 with e1 e1'
            subst e1 e1'
            exact ⟨_, _, rfl, by omega, e3, e4⟩⟩
    · have HF := hid (Bool.eq_false_iff.2 hf)
      clear hf
      have HRUN : Hid (runZ c ins = []) := hid (by unfold runZ; rw [HF.out]; simp)
      go_wp2_with fail
      refine (below_any _ _ _ ins _ HI1.out).mono ?_
      rintro e w2 ⟨rfl, rfl⟩
      rw [P2.out, HF.out]
      go_wp2_with fail
      go_ret
      exact ⟨none, 0, ret_sl (by rw [HRUN.out]; rfl), hbw, by rw [HRUN.out]; exact RdI.nil _ _ _ (by omega)⟩
  · have HVB := hid (Bool.eq_false_iff.2 hv)
    clear hv
    have HRUN : Hid (runZ c ins = []) := hid (by unfold runZ; rw [HVB.out]; simp)
    go_enter Try.func16, Try.ntmps16
    go_wp2_with fail
    refine (valid_any _ c _ (HV.out.keep ((Keeps.refl _ w).alloc _))).mono ?_
    rintro e w1 ⟨rfl, hb1⟩
    rw [HVB.out]
    go_wp2_with fail
    go_ret
    exact ⟨none, 0, ret_sl (by rw [HRUN.out]; rfl), ((Below.refl _ _).alloc (Nat.le_refl _) _).trans (hb1.mono (by simp)), by rw [HRUN.out]; exact RdI.nil _ _ _ (by omega)⟩
end Go.Proofs.Ytfabdpnjjondaaa
