/-
  Walk of the program: Step at the tree without nodes; Step at every tree.
-/
import Derived.Test.YthhknonaebnooaaZ09
set_option linter.unusedVariables false
set_option linter.unusedSimpArgs false
namespace Go.Proofs.Ythhknonaebnooaa
open Go.RowKit
attribute [local go_sem] cell_alloc_old

def Leaves (w : World) (e : Ending) (w' : World) : Prop := e = .returned (.tuple #[]) ∧ Below w.heap.size w w'
theorem divide_nil (A : Option Addr) (c : Nat) (w : World) : Calls Try.prog 34 #[.slice A 0 c] w (Leaves w) := by
  obtain ⟨i0, hti, hz0, hz1, hz2⟩ := info_parts mapb_info
  have hmk := run_make_zrow (P := Try.prog) 98 65 i0 (.map none) 8 Try.underlying98 hti hz0 hz1 hz2 rfl .i64 .i64 0 (by omega) (by omega)
  have hmk' : ∀ w : World, (Instr.makeSlice 98 (.int .i64 0) (.int .i64 0)).run Try.prog w = .ok (.slice (some ⟨w.heap.size, 0, none⟩) 0 0) (w.alloc (zrow (.map none) 0 65)) := hmk
  clear hmk
  go_enter Try.func34, Try.ntmps34
  go_wp2_with fail
  go_loopw [12] (fun t wr => t = .int .i64 0 ∧ Below w.heap.size w wr) (fun _ _ => 0)
  case atStart => exact ⟨rfl, by go_grown⟩
  case round =>
    obtain ⟨rfl, hb⟩ := hrel
    have HB := hid hb
    clear hb
    go_wp2_with fail
    go_end0
    exact ⟨rfl, HB.out⟩
theorem collapse_nil (A : Option Addr) (c : Nat) (w : World) : Calls Try.prog 35 #[.slice A 0 c] w (Leaves w) := by
  obtain ⟨i0, hti, hz0, hz1, hz2⟩ := info_parts int_info
  have hmk := run_make_zrow (P := Try.prog) 22 3 i0 (.int .i64 0) 8 Try.underlying22 hti hz0 hz1 hz2 rfl .i64 .i64 0 (by omega) (by omega)
  have hmk' : ∀ w : World, (Instr.makeSlice 22 (.int .i64 0) (.int .i64 0)).run Try.prog w = .ok (.slice (some ⟨w.heap.size, 0, none⟩) 0 0) (w.alloc (zrow (.int .i64 0) 0 3)) := hmk
  clear hmk
  go_enter Try.func35, Try.ntmps35
  go_wp2_with fail
  go_loopw [12] (fun t wr => t = .int .i64 0 ∧ Below w.heap.size w wr) (fun _ _ => 0)
  case atStart => exact ⟨rfl, by go_grown⟩
  case round =>
    obtain ⟨rfl, hb⟩ := hrel
    have HB := hid hb
    clear hb
    go_wp2_with fail
    go_loopw [34] (fun t wr => t = .int .i64 0 ∧ Below w.heap.size w wr) (fun _ _ => 0)
    case atStart => exact ⟨rfl, HB.out⟩
    case round =>
      obtain ⟨rfl, hb⟩ := hrel
      have HB2 := hid hb
      clear hb
      go_wp2_with fail
      go_end0
      exact ⟨rfl, HB2.out⟩
theorem chosenp_nil (A : Option Addr) (c : Nat) (w : World) : Calls Try.prog 61 #[.slice A 0 c, .func (.func 62) #[] #[]] w fun e w' => e = .returned (.slice none 0 0) ∧ w' = w := by
  go_enter Try.func61, Try.ntmps61
  go_wp2_with fail
  go_loopw [5, 10] (fun s t wr => s = .slice none 0 0 ∧ t = .int .i64 0 ∧ wr = w) (fun _ _ _ => 0)
  case atStart => exact ⟨rfl, rfl, rfl⟩
  case round =>
    obtain ⟨rfl, rfl, rfl⟩ := hrel
    go_wp2_with fail
    go_ret
    exact ⟨rfl, rfl⟩
theorem name_nil (A : Option Addr) (c : Nat) (w : World) : Calls Try.prog 36 #[.slice A 0 c] w (Leaves w) := by
  have hmm := @run_makeMap Try.prog
  have HC := hid (chosenp_nil A c)
  go_enter Try.func36, Try.ntmps36
  go_step3
  go_wp2_with ((refine (HC.out _).mono ?_); rintro e w1 ⟨rfl, hw⟩; rw [hw]; clear hw)
  go_loopw [11] (fun t wr => t = .int .i64 0 ∧ Below w.heap.size w wr) (fun _ _ => 0)
  case atStart => exact ⟨rfl, by go_grown⟩
  case round =>
    obtain ⟨rfl, hb⟩ := hrel
    have HB := hid hb
    clear hb hmm
    go_wp2_with fail
    go_step3
    go_wp2_with fail
    go_loopw [22] (fun t wr => t = .int .i64 0 ∧ Below w.heap.size w wr) (fun _ _ => 0)
    case atStart => exact ⟨rfl, HB.out⟩
    case round =>
      obtain ⟨rfl, hb⟩ := hrel
      have HB2 := hid hb
      clear hb
      go_wp2_with fail
      try rw [Exit.noGoto_ret]
      go_end0
      exact ⟨rfl, HB2.out⟩
set_option maxRecDepth 100000 in
set_option maxHeartbeats 4000000 in
theorem step_nil {D0 E0 : Dom} (v : Value) (b : Bu) (A : Option Addr) (c : Nat) (a : Int) (w : World) (h : RdBu w D0 v b) (ht : RdN w E0 A c []) (htb : treeB b [] = true) (a0 : 0 ≤ a) (a1 : a < b.letters) (hf : fewB b = true) :
    Calls Try.prog 12 #[v, .slice A 0 c, .int .i64 a] w (StepSays b [] a w) := by
  have HV := hid h.old
  have HT := hid ht.old
  have HTB := hid htb
  have HFEW := hid hf
  have hb : buchiB b = true := by
    unfold treeB at htb
    simp only [Bool.and_eq_true, decide_eq_true_eq] at htb
    exact htb.1.1
  have HBU := hid hb
  obtain ⟨As, cs, An, cn, rfl, ho, hn⟩ := h
  obtain ⟨i0, hti, hz0, hz1, hz2⟩ := info_parts int_info
  have hmk := run_make_zrow (P := Try.prog) 22 3 i0 (.int .i64 0) 8 Try.underlying22 hti hz0 hz1 hz2 rfl .i64 .i64 0 (by omega) (by omega)
  have hmk' : ∀ w : World, (Instr.makeSlice 22 (.int .i64 0) (.int .i64 0)).run Try.prog w = .ok (.slice (some ⟨w.heap.size, 0, none⟩) 0 0) (w.alloc (zrow (.int .i64 0) 0 3)) := hmk
  obtain ⟨W0, hW0⟩ : ∃ W0, W0 = w.alloc (.cells #[.int .i64 b.letters, .slice As b.start.length cs, .slice An b.next.length cn] 25) := ⟨_, rfl⟩
  have hbox0 : HasB W0 w.heap.size #[.int .i64 b.letters, .slice As b.start.length cs, .slice An b.next.length cn] b := by rw [hW0]; exact HasB.new HV.out
  obtain ⟨W, hW⟩ : ∃ W, W = W0.alloc (.cells #[.slice none 0 0, .slice none 0 0] 31) := ⟨_, rfl⟩
  have hb0 : Below W0.heap.size W0 W := by rw [hW]; go_grown
  have hbox := hbox0.below hb0
  have hb1 : Below w.heap.size w W0 := by rw [hW0]; go_grown
  have hz0' : W0.heap.size = w.heap.size + 1 := by rw [hW0]; simp
  have hb2 : Below w.heap.size w W := hb1.trans (hb0.mono (by omega))
  have hev : W.heap[w.heap.size + 1]? = some (.cells #[.slice none 0 0, .slice none 0 0] 31 (0, 0)) := by rw [hW, ← hz0']; exact heap_alloc_new W0 _
  have hcall := tvalid_any (.agg #[.int .i64 b.letters, .slice As b.start.length cs, .slice An b.next.length cn]) b A c [] W hbox.rd (HT.out.keep (Keeps.of_below hb2 fun _ h => h))
  rw [hW, hW0, htb] at hcall
  simp only [List.length_nil] at hcall
  have HCALL := hid hcall
  have HBOX := hid hbox
  have HEV := hid hev
  have HB2 := hid hb2
  have HWE := hid (show W = (w.alloc (.cells #[.int .i64 b.letters, .slice As b.start.length cs, .slice An b.next.length cn] 25)).alloc (.cells #[.slice none 0 0, .slice none 0 0] 31) by rw [hW, hW0])
  have h1d : decide (a < 0) = false := decide_eq_false (by omega)
  have h2d : decide (b.letters ≤ a) = false := decide_eq_false (by omega)
  have hgr : ∀ w1, HasB w1 w.heap.size #[.int .i64 b.letters, .slice As b.start.length cs, .slice An b.next.length cn] b → Below w.heap.size w w1 → Calls Try.prog 33 #[.agg #[.int .i64 b.letters, .slice As b.start.length cs, .slice An b.next.length cn], .slice A 0 c, .int .i64 a] w1 fun e w' => ∃ A' c', e = .returned (.slice A' 0 c') ∧ Below w1.heap.size w1 w' := fun w1 hx hb => by
    have := grown_any (.agg #[.int .i64 b.letters, .slice As b.start.length cs, .slice An b.next.length cn]) b A c [] a w1 hx.rd (HT.out.keep (Keeps.of_below hb fun _ h => h)) HBU.out HFEW.out (allN_of fun j hj => absurd hj (Nat.not_lt_zero _)) a0 a1 (by simp)
    refine this.mono ?_
    rintro e w' ⟨A', c', R, he, hb', _⟩
    exact ⟨A', c', he, hb'⟩
  have HGR := hid hgr
  clear hW0 hbox0 hW hb0 hbox hb1 hz0' hb2 hev hcall ho hn ht htb hf hb hgr hmk
  go_enter Try.func12, Try.ntmps12
  go_wp2_with (first | (go_at_call 19; refine HCALL.out.mono ?_; rintro e w1 ⟨rfl, hb3⟩; rw [← HWE.out] at hb3; have HB3 := hid (HB2.out.trans (hb3.mono HB2.out.size)); have hbx := HBOX.out.below hb3; obtain ⟨x0, x1, x2, xl⟩ := hbx.cells; have HBX := hid hbx; have HEV1 := hid ((hb3.block _ (lt_of_block HEV.out)).trans HEV.out); clear hb3 hbx) | (go_at_call 33; refine (HGR.out _ HBX.out HB3.out).mono ?_; rintro e w2 ⟨A2, c2, rfl, hb4⟩; have HB4 := hid (HB3.out.trans (hb4.mono HB3.out.size)); have HEV2 := hid ((hb4.block _ (lt_of_block HEV1.out)).trans HEV1.out); clear hb4))
  refine (divide_nil A2 c2 w2).mono ?_
  rintro e w3 ⟨rfl, hb5⟩
  have HB5 := hid (HB4.out.trans (hb5.mono HB4.out.size))
  have HEV3 := hid ((hb5.block _ (lt_of_block HEV2.out)).trans HEV2.out)
  clear hb5
  go_wp2_with fail
  refine (collapse_nil A2 c2 w3).mono ?_
  rintro e w4 ⟨rfl, hb6⟩
  have HB6 := hid (HB5.out.trans (hb6.mono HB5.out.size))
  have HEV4 := hid ((hb6.block _ (lt_of_block HEV3.out)).trans HEV3.out)
  clear hb6
  go_wp2_with fail
  refine (name_nil A2 c2 w4).mono ?_
  rintro e w5 ⟨rfl, hb7⟩
  have HB7 := hid (HB6.out.trans (hb7.mono HB6.out.size))
  have HEV5 := hid ((hb7.block _ (lt_of_block HEV4.out)).trans HEV4.out)
  have hs5 := HB7.out.size
  have hl5 := lt_of_block HEV5.out
  clear hb7
  go_wp2_with fail
  go_loopw [9, 44] (fun s9 q wr => s9 = .slice none 0 0 ∧ q = .int .i64 0 ∧ Below w5.heap.size w5 wr ∧ wr.heap[w5.heap.size]? = some (.cells #[.slice none 0 0, .slice none 0 0] 31 (0, 0))) (fun _ _ _ => 0)
  case atStart => exact ⟨rfl, rfl, by go_grown, (Below.heap_alloc _ _ _ (by simp)).trans (heap_alloc_new w5 _)⟩
  case round =>
    obtain ⟨rfl, rfl, hb, he⟩ := hrel
    have q0 := block_cell he (i := 0) rfl
    have q1 := block_cell he (i := 1) rfl
    have hres := (hb.block _ hl5).trans HEV5.out
    have t0 := block_cell hres (i := 0) rfl
    have t1 := block_cell hres (i := 1) rfl
    have tf0 := block_free (i := 0) hres
    have tf1 := block_free (i := 1) hres
    have HB := hid hb
    have HRES := hid hres
    have hsort := hid (fun W : World => AnyM.slices_Sort_int_none sortA none 0 W)
    have HSORT : Hid (∀ W : World, Calls Try.prog 39 #[.slice none 0 0] W fun e w' => e = .returned (.tuple #[]) ∧ w' = W) := hid hsort.out
    clear hb he hres hsort
    go_wp2_with ((refine (HSORT.out _).mono ?_); rintro e w' ⟨rfl, hw⟩; rw [hw]; clear hw)
    go_still_tail 3, (by kernel_rfl)
    simp only [World.drew_eq]
    go_wp2_with fail
    refine bodyPost_gen fun W9 hW9 => ?_
    have hres9 : W9.heap[w.heap.size + 1]? = some (.cells #[.slice none 0 0, .slice none 0 0] 31 (0, 0)) := by
      rw [hW9]
      show ((wr.setCell _ _).setCell _ _).heap[w.heap.size + 1]? = _
      rw [set_block (set_block HRES.out _)]; rfl
    have r0 := block_cell hres9 (i := 0) rfl
    have r1 := block_cell hres9 (i := 1) rfl
    have hbl : Below w.heap.size w W9 := by
      rw [hW9]
      exact (((HB7.out.trans (HB.out.mono hs5)).setCell (p := ⟨w.heap.size + 1, 0, none⟩) (by show w.heap.size ≤ w.heap.size + 1; omega) _).setCell (p := ⟨w.heap.size + 1, 1, none⟩) (by show w.heap.size ≤ w.heap.size + 1; omega) _).drew
    have hfin : StepSays b [] a w (.returned (.tuple #[.slice none 0 0, .agg #[.slice none 0 0, .slice none 0 0]])) W9 :=
      ⟨[], [], [], none, none, none, 0, 0, 0, rfl, hbl, RdN.nil _ _ _ (by omega), RdI.nil _ _ _ (by omega), RdI.nil _ _ _ (by omega), by
        rw [if_pos ⟨HTB.out, a0, a1⟩]
        exact ⟨[], ⟨[], rfl, rfl, fun j hj => absurd hj (Nat.not_lt_zero _), rfl⟩, ⟨rfl, by simp [namesP], by simp [namesP]⟩⟩⟩
    exact bodyPost_ret (v := .tuple #[.slice none 0 0, .agg #[.slice none 0 0, .slice none 0 0]]) (by simp [results, Try.results12, go_sem, r0, r1]) rfl hfin
/-- Step, at whatever nodes. -/
theorem pstep_any {D0 E0 : Dom} (v : Value) (b : Bu) (A : Option Addr) (c : Nat) (t : List Nd) (a : Int) (w : World) (h : RdBu w D0 v b) (ht : RdN w E0 A c t) (hf : fewB b = true) :
    Calls Try.prog 12 #[v, .slice A t.length c, .int .i64 a] w (StepSays b t a w) := by
  by_cases hy : treeB b t = true ∧ 0 ≤ a ∧ a < b.letters
  · by_cases h0 : t = []
    · subst h0
      exact step_nil v b A c a w h ht hy.1 hy.2.1 hy.2.2 hf
    · exact step_yes v b A c t a w h ht hy.1 hy.2.1 hy.2.2 hf (List.length_pos_iff.2 h0)
  · exact step_no v b A c t a w h ht hy
end Go.Proofs.Ythhknonaebnooaa
