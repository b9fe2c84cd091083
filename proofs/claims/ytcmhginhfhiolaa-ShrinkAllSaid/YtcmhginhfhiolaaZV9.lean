/-
  Walk of the law on moves that all matter, or none.
-/
import Derived.Test.YtcmhginhfhiolaaZ35
set_option linter.unusedVariables false
set_option linter.unusedSimpArgs false
namespace Go.Proofs.Ytcmhginhfhiolaa
open Go.RowKit
attribute [local go_sem] cell_alloc_old bf3

set_option maxRecDepth 100000 in
set_option maxHeartbeats 8000000 in
theorem law5_any {Dm Ebits : Dom} (w : World) (v : Value) (m : Mly) (A : Option Addr) (c : Nat) (bits : List Int) (hm : RdM w Dm v m) (hbits : RdY w Ebits A c bits) :
    Calls Try.prog 7 #[v, .slice A bits.length c] w fun e w' => e = .returned (.bool true) ∧ Below w.heap.size w w' := by
  have HVm := hid hm.old
  have HYbits := hid hbits.old
  have hybits := hbits.len.1
  obtain ⟨Ao, co, An, cn, rfl, ho, hn⟩ := hm
  clear ho hn
  clear hbits
  go_enter Try.func7, Try.ntmps7
  go_upto_region 1 with (fail)
  refine wp_gen fun W hW => ?_
  have hb : Below w.heap.size w W := by rw [hW]; go_grown
  have HMm := hid (show HasM W (w.heap.size) _ m from ⟨by rw [hW]; (repeat (first | (refine at_new _ _ _ ?_; (simp only [World.size_alloc]; done)) | (refine (at_old _ _ _ ?_).trans ?_; (simp only [World.size_alloc]; omega)))), (HVm.out.keep (Keeps.of_below hb (fun _ h => h))).mono fun _ h _ => Nat.lt_of_lt_of_le h hb.size⟩)
  have HBW := hid hb
  clear hW hb
  go_wp2_with fail
  refine (head_any W).mono ?_
  rintro e W1 ⟨rfl, hb⟩
  have HMm := hid (HMm.out.below hb)
  have HBW := hid (HBW.out.trans (hb.mono HBW.out.size))
  clear hb
  obtain ⟨xm0, xm1, xm2, xm3, xm4, xml⟩ := HMm.out.cells
  go_wp2_with fail
  refine (fine_any _ m W1 HMm.out.rd).mono ?_
  rintro e W2 ⟨rfl, hb⟩
  have HMm := hid (HMm.out.below hb)
  have HBW := hid (HBW.out.trans (hb.mono HBW.out.size))
  clear hb
  clear xm0 xm1 xm2 xm3 xm4 xml
  cases hfm : smallB m && mealyB m
  · go_wp2_with fail
    go_ret
    exact ⟨rfl, HBW.out⟩
  rw [Bool.and_eq_true] at hfm
  have HFm := hid hfm
  have hsmm := small_sizes hfm.1
  clear hfm
  obtain ⟨xm0, xm1, xm2, xm3, xm4, xml⟩ := HMm.out.cells
  have hS := sized_of HFm.out.2
  have HSZ := hid hS
  have hct : caresB m (everyZ m true m.out.length) = true := every_cares hS true
  have hcf : caresB m (everyZ m false m.out.length) = true := every_cares hS false
  have HCT := hid hct
  have HCF := hid hcf
  clear hS hct hcf
  go_wp2_with fail
  refine (least_get HFm.out.2 HMm.out.rd).mono ?_
  rintro e W4 ⟨X, Xo, xo, Xn, xn, rfl, hb, hr, hl⟩
  have HMm := hid (HMm.out.below hb)
  have HBW := hid (HBW.out.trans (hb.mono HBW.out.size))
  have HX := hid (HasM.new hr)
  have HLX := hid hl
  clear hb hr hl
  clear xm0 xm1 xm2 xm3 xm4 xml
  go_upto_region 5 with (fail)
  refine wp_gen fun W5 hW5 => ?_
  have hb : Below W4.heap.size W4 W5 := by rw [hW5]; go_grown
  have HX := hid (show HasM W5 W4.heap.size _ X by rw [hW5]; exact HX.out)
  have HMm := hid (HMm.out.below hb)
  have HBW := hid (HBW.out.trans (hb.mono HBW.out.size))
  clear hb hW5
  have HE1 : Hid (∀ W' : World, Below W5.heap.size W5 W' → Calls Try.prog 28 #[.agg #[.int .i64 m.ins, .int .i64 m.outs, .int .i64 m.start, .slice Ao m.out.length co, .slice An m.next.length cn], .bool true] W' fun e W'' => ∃ A c, e = .returned (.slice A m.out.length c) ∧ Below W5.heap.size W5 W'' ∧ RdBB W'' (· < W''.heap.size) A c (everyZ m true m.out.length)) := hid fun W' hb => by
    refine (every_any _ m true W' (HMm.out.below hb).rd (by omega) (by omega)).mono ?_
    rintro e W'' ⟨A, c, rfl, h1, h2⟩
    exact ⟨A, c, by rw [everyZ_len], hb.trans (h1.mono hb.size), h2.old⟩
  have HE2 : Hid (∀ W' : World, Below W5.heap.size W5 W' → Calls Try.prog 28 #[.agg #[.int .i64 m.ins, .int .i64 m.outs, .int .i64 m.start, .slice Ao m.out.length co, .slice An m.next.length cn], .bool false] W' fun e W'' => ∃ A c, e = .returned (.slice A m.out.length c) ∧ Below W5.heap.size W5 W'' ∧ RdBB W'' (· < W''.heap.size) A c (everyZ m false m.out.length)) := hid fun W' hb => by
    refine (every_any _ m false W' (HMm.out.below hb).rd (by omega) (by omega)).mono ?_
    rintro e W'' ⟨A, c, rfl, h1, h2⟩
    exact ⟨A, c, by rw [everyZ_len], hb.trans (h1.mono hb.size), h2.old⟩
  have HL1 : Hid (∀ (W' : World) (A : Option Addr) (c : Nat), Below W5.heap.size W5 W' → RdBB W' (· < W'.heap.size) A c (everyZ m true m.out.length) → Calls Try.prog 20 #[.agg #[.int .i64 m.ins, .int .i64 m.outs, .int .i64 m.start, .slice Ao m.out.length co, .slice An m.next.length cn], .slice A m.out.length c] W' fun e W'' => ∃ (Lo : Option Addr) (lo : Nat) (Ln : Option Addr) (ln : Nat), e = .returned (.agg #[.int .i64 X.ins, .int .i64 X.outs, .int .i64 X.start, .slice Lo X.out.length lo, .slice Ln X.next.length ln]) ∧ Below W5.heap.size W5 W'' ∧ RdM W'' (· < W''.heap.size) (.agg #[.int .i64 X.ins, .int .i64 X.outs, .int .i64 X.start, .slice Lo X.out.length lo, .slice Ln X.next.length ln]) X) := hid fun W' A c hb hc => by
    have hg := loose_get HFm.out.2 HCT.out (HMm.out.below hb).rd hc
    rw [everyZ_len] at hg
    refine hg.mono ?_
    rintro e W'' ⟨Z, Lo, lo, Ln, ln, rfl, h1, h2, h3⟩
    obtain rfl : Z = X := isQuo_one (posM_ok (care_ok HSZ.out _)) h3 HLX.out
    exact ⟨Lo, lo, Ln, ln, rfl, hb.trans (h1.mono hb.size), h2.old⟩
  have HL2 : Hid (∀ (W' : World) (A : Option Addr) (c : Nat), Below W5.heap.size W5 W' → RdBB W' (· < W'.heap.size) A c (everyZ m false m.out.length) → Calls Try.prog 20 #[.agg #[.int .i64 m.ins, .int .i64 m.outs, .int .i64 m.start, .slice Ao m.out.length co, .slice An m.next.length cn], .slice A m.out.length c] W' fun e W'' => ∃ (i0 i1 i2 : Int) (Lo : Option Addr) (lo : Nat) (Ln : Option Addr) (lk ln : Nat), e = .returned (.agg #[.int .i64 i0, .int .i64 i1, .int .i64 i2, .slice Lo 1 lo, .slice Ln lk ln]) ∧ Below W5.heap.size W5 W'') := hid fun W' A c hb hc => by
    have hg := loose_get HFm.out.2 HCF.out (HMm.out.below hb).rd hc
    rw [everyZ_len] at hg
    refine hg.mono ?_
    rintro e W'' ⟨Z, Lo, lo, Ln, ln, rfl, h1, h2, h3⟩
    have h4 := none_one HSZ.out h3
    exact ⟨_, _, _, Lo, lo, Ln, _, ln, by rw [h4], hb.trans (h1.mono hb.size)⟩
  have HQ : Hid (∀ (W' : World) (Lo : Option Addr) (lo : Nat) (Ln : Option Addr) (ln : Nat), Below W5.heap.size W5 W' → RdM W' (· < W'.heap.size) (.agg #[.int .i64 X.ins, .int .i64 X.outs, .int .i64 X.start, .slice Lo X.out.length lo, .slice Ln X.next.length ln]) X → Calls Try.prog 13 #[.agg #[.int .i64 X.ins, .int .i64 X.outs, .int .i64 X.start, .slice Lo X.out.length lo, .slice Ln X.next.length ln], .agg #[.int .i64 X.ins, .int .i64 X.outs, .int .i64 X.start, .slice Xo X.out.length xo, .slice Xn X.next.length xn]] W' fun e W'' => e = .returned (.bool true) ∧ Below W5.heap.size W5 W'') := hid fun W' Lo lo Ln ln hb hr =>
    (eq_ex X _ _ W' hr (HX.out.below hb).rd).mono fun e W'' ⟨h1, h2⟩ => ⟨h1, hb.trans (h2.mono hb.size)⟩
  obtain ⟨xm0, xm1, xm2, xm3, xm4, xml⟩ := HMm.out.cells
  obtain ⟨p0, p1, p2, p3, p4, pl⟩ := HX.out.cells
  have HSK : Hid (∀ W' : World, Below W5.heap.size W5 W' → W'.cell? ⟨w.heap.size, 0, none⟩ = some (.int .i64 m.ins) ∧ W'.cell? ⟨w.heap.size, 1, none⟩ = some (.int .i64 m.outs) ∧ W'.cell? ⟨w.heap.size, 2, none⟩ = some (.int .i64 m.start) ∧ W'.cell? ⟨w.heap.size, 3, none⟩ = some (.slice Ao m.out.length co) ∧ W'.cell? ⟨w.heap.size, 4, none⟩ = some (.slice An m.next.length cn) ∧ W'.cell? ⟨W4.heap.size, 0, none⟩ = some (.int .i64 X.ins) ∧ W'.cell? ⟨W4.heap.size, 1, none⟩ = some (.int .i64 X.outs) ∧ W'.cell? ⟨W4.heap.size, 2, none⟩ = some (.int .i64 X.start) ∧ W'.cell? ⟨W4.heap.size, 3, none⟩ = some (.slice Xo X.out.length xo) ∧ W'.cell? ⟨W4.heap.size, 4, none⟩ = some (.slice Xn X.next.length xn)) := hid fun W' hb => by
    obtain ⟨xm0, xm1, xm2, xm3, xm4, xml⟩ := (HMm.out.below hb).cells
    obtain ⟨p0, p1, p2, p3, p4, pl⟩ := (HX.out.below hb).cells
    exact ⟨xm0, xm1, xm2, xm3, xm4, p0, p1, p2, p3, p4⟩
  have HI1 := hid (show Below W5.heap.size W5 W5.drew from (Below.refl _ _).drew)
  have HI2 := hid (show ∀ i, Below W5.heap.size W5 (W5.drewN i) from fun i => (Drawn.n W5 i).below _)
  go_region_held3 (fun W' => W'.cell? ⟨w.heap.size, 0, none⟩ = some (.int .i64 m.ins) ∧ W'.cell? ⟨w.heap.size, 1, none⟩ = some (.int .i64 m.outs) ∧ W'.cell? ⟨w.heap.size, 2, none⟩ = some (.int .i64 m.start) ∧ W'.cell? ⟨w.heap.size, 3, none⟩ = some (.slice Ao m.out.length co) ∧ W'.cell? ⟨w.heap.size, 4, none⟩ = some (.slice An m.next.length cn) ∧ W'.cell? ⟨W4.heap.size, 0, none⟩ = some (.int .i64 X.ins) ∧ W'.cell? ⟨W4.heap.size, 1, none⟩ = some (.int .i64 X.outs) ∧ W'.cell? ⟨W4.heap.size, 2, none⟩ = some (.int .i64 X.start) ∧ W'.cell? ⟨W4.heap.size, 3, none⟩ = some (.slice Xo X.out.length xo) ∧ W'.cell? ⟨W4.heap.size, 4, none⟩ = some (.slice Xn X.next.length xn))
    (first
      | (with_reducible exact HSK.out _ hI)
      | (go_keep; done))
    (first
      | (go_at_call 28; with_reducible refine (HE1.out _ (by first | exact hI | exact HI1.out | exact HI2.out _)).mono ?_; rintro e W6 ⟨A6, c6, rfl, hI, hr6⟩)
      | (go_at_call 28; with_reducible refine (HE2.out _ (by first | exact hI | exact HI1.out | exact HI2.out _)).mono ?_; rintro e W7 ⟨A7, c7, rfl, hI, hr7⟩)
      | (go_at_call 20; with_reducible refine (HL2.out _ _ _ (by first | exact hI | exact HI1.out | exact HI2.out _) hr7).mono ?_; rintro e W8 ⟨i0, i1, i2, Po, po, Pn, pk, pn, rfl, hI⟩)
      | (go_at_call 20; with_reducible refine (HL1.out _ _ _ (by first | exact hI | exact HI1.out | exact HI2.out _) hr6).mono ?_; rintro e W9 ⟨Qo, qo, Qn, qn, rfl, hI, hr9⟩)
      | (go_at_call 13; with_reducible refine (HQ.out _ _ _ _ _ (by first | exact hI | exact HI1.out | exact HI2.out _) hr9).mono ?_; rintro e WA ⟨rfl, hI⟩))
  all_goals
    have HMm := hid (HMm.out.below hI)
    have HX := hid (HX.out.below hI)
    have HBW := hid (HBW.out.trans (hI.mono HBW.out.size))
    clear hI HE1 HE2 HL1 HL2 HQ HSK HI1 HI2
    clear xm0 xm1 xm2 xm3 xm4 xml p0 p1 p2 p3 p4 pl
    obtain ⟨xm0, xm1, xm2, xm3, xm4, xml⟩ := HMm.out.cells
    obtain ⟨p0, p1, p2, p3, p4, pl⟩ := HX.out.cells
    go_upto_region 7 with (fail)
    have hw8 : w.heap.size < W8.heap.size := xml
    have hyb := HYbits.out.keep (Keeps.of_below HBW.out fun _ h => h)
    have HYB := hid (hyb.old)
    clear hyb
    have HC1 : Hid (∀ W' : World, Below W8.heap.size W8 W' → Calls Try.prog 26 #[.agg #[.int .i64 m.ins, .int .i64 m.outs, .int .i64 m.start, .slice Ao m.out.length co, .slice An m.next.length cn], .slice A bits.length c] W' fun e W'' => ∃ A' c', e = .returned (.slice A' m.out.length c') ∧ Below W8.heap.size W8 W'' ∧ Below W'.heap.size W' W'' ∧ RdBB W'' (· < W''.heap.size) A' c' (shapedZ m bits)) := hid fun W' hb => by
      refine (shaped_any _ m _ _ bits W' (HMm.out.below hb).rd (HYB.out.keep (Keeps.of_below hb fun _ h => h)) (by omega) HSZ.out.n1 HSZ.out.i1 (by omega)).mono ?_
      rintro e W'' ⟨A', c', rfl, h1, h2⟩
      exact ⟨A', c', by rw [shaped_len], hb.trans (h1.mono hb.size), h1, h2.old⟩
    have HC2 : Hid (∀ (W' : World) (A' : Option Addr) (c' : Nat), Below W8.heap.size W8 W' → RdBB W' (· < W'.heap.size) A' c' (shapedZ m bits) → Calls Try.prog 20 #[.agg #[.int .i64 m.ins, .int .i64 m.outs, .int .i64 m.start, .slice Ao m.out.length co, .slice An m.next.length cn], .slice A' m.out.length c'] W' fun e W'' => ∃ (Z : Mly) (Lo : Option Addr) (lo : Nat) (Ln : Option Addr) (ln : Nat), e = .returned (.agg #[.int .i64 Z.ins, .int .i64 Z.outs, .int .i64 Z.start, .slice Lo Z.out.length lo, .slice Ln Z.next.length ln]) ∧ Below W8.heap.size W8 W'' ∧ Below W'.heap.size W' W'' ∧ RdM W'' (W'.heap.size ≤ ·) (.agg #[.int .i64 Z.ins, .int .i64 Z.outs, .int .i64 Z.start, .slice Lo Z.out.length lo, .slice Ln Z.next.length ln]) Z ∧ Hid (IsQuo (posM (careM m (shapedZ m bits))) (final (posM (careM m (shapedZ m bits)))) Z)) := hid fun W' A' c' hb hc => by
      have hg := loose_get HFm.out.2 (shaped_cares HSZ.out bits) (HMm.out.below hb).rd hc
      rw [shaped_len] at hg
      refine hg.mono ?_
      rintro e W'' ⟨Z, Lo, lo, Ln, ln, rfl, h1, h2, h3⟩
      exact ⟨Z, Lo, lo, Ln, ln, rfl, hb.trans (h1.mono hb.size), h1, h2, hid h3⟩
    have HSK : Hid (∀ W' : World, Below W8.heap.size W8 W' → W'.cell? ⟨w.heap.size, 0, none⟩ = some (.int .i64 m.ins) ∧ W'.cell? ⟨w.heap.size, 1, none⟩ = some (.int .i64 m.outs) ∧ W'.cell? ⟨w.heap.size, 2, none⟩ = some (.int .i64 m.start) ∧ W'.cell? ⟨w.heap.size, 3, none⟩ = some (.slice Ao m.out.length co) ∧ W'.cell? ⟨w.heap.size, 4, none⟩ = some (.slice An m.next.length cn)) := hid fun W' hb => by
      obtain ⟨xm0, xm1, xm2, xm3, xm4, xml⟩ := (HMm.out.below hb).cells
      exact ⟨xm0, xm1, xm2, xm3, xm4⟩
    have HI1 := hid (show Below W8.heap.size W8 W8.drew from (Below.refl _ _).drew)
    have HI2 := hid (show ∀ i, Below W8.heap.size W8 (W8.drewN i) from fun i => (Drawn.n W8 i).below _)
    go_region_held3 (fun W' => W'.cell? ⟨w.heap.size, 0, none⟩ = some (.int .i64 m.ins) ∧ W'.cell? ⟨w.heap.size, 1, none⟩ = some (.int .i64 m.outs) ∧ W'.cell? ⟨w.heap.size, 2, none⟩ = some (.int .i64 m.start) ∧ W'.cell? ⟨w.heap.size, 3, none⟩ = some (.slice Ao m.out.length co) ∧ W'.cell? ⟨w.heap.size, 4, none⟩ = some (.slice An m.next.length cn))
      (first
        | (with_reducible exact HSK.out _ hI)
        | (with_reducible exact HSK.out _ (hI.alloc hI.size _))
        | (with_reducible exact HSK.out _ (HI1.out.alloc (Nat.le_refl _) _))
        | (with_reducible exact HSK.out _ ((HI2.out _).alloc (Nat.le_refl _) _))
        | (with_reducible exact ⟨cell_set5 (HSK.out _ hI).1 hne, cell_set5 (HSK.out _ hI).2.1 hne, cell_set5 (HSK.out _ hI).2.2.1 hne, cell_set5 (HSK.out _ hI).2.2.2.1 hne, cell_set5 (HSK.out _ hI).2.2.2.2 hne⟩)
        | (go_keep; done))
      (first
        | (go_at_call 26; with_reducible refine (HC1.out _ (by first | exact HI1.out | exact HI2.out _)).mono ?_; rintro e W9 ⟨A9, c9, rfl, hI, -, hr9⟩)
        | (go_at_call 26; refine calls_gen fun WB hWB => ?_
           have hIB : Below W8.heap.size W8 WB := by first | (rw [hWB]; exact HI1.out.alloc (Nat.le_refl _) _) | (rw [hWB]; exact (HI2.out _).alloc (Nat.le_refl _) _)
           have hzB : WB.heap[W8.heap.size]? = some (.cells #[.int .i64 0, .int .i64 0, .int .i64 0, .slice none 0 0, .slice none 0 0] 24 (0, 0)) := by first | (rw [hWB]; exact heap_alloc_new W8.drew _) | (rw [hWB]; exact heap_alloc_new (W8.drewN _) _)
           clear hWB
           with_reducible refine (HC1.out _ hIB).mono ?_
           rintro e W9 ⟨A9, c9, rfl, hI, hb9, hr9⟩
           have hzN := (hb9.block _ (lt_of_block hzB)).trans hzB
           have hzl : W8.heap.size < W9.heap.size := lt_of_block hzN
           clear hzB hIB hb9)
        | (go_at_call 20; have hzN := hzN
           with_reducible refine (HC2.out _ _ _ hI hr9).mono ?_
           rintro e WA ⟨Z, Zo, zo, Zn, zn, rfl, hI, hbA, hrZ, hlZ⟩
           have hzA := (hbA.block _ (lt_of_block hzN)).trans hzN
           have HZA := hid hzA
           have HRZ := hid hrZ
           have hne : w.heap.size ≠ W8.heap.size := by omega
           have q0 := block_cell hzA (i := 0) rfl
           have z0 := block_free hzA (i := 0)
           have q1 := block_cell hzA (i := 1) rfl
           have z1 := block_free hzA (i := 1)
           have q2 := block_cell hzA (i := 2) rfl
           have z2 := block_free hzA (i := 2)
           have q3 := block_cell hzA (i := 3) rfl
           have z3 := block_free hzA (i := 3)
           have q4 := block_cell hzA (i := 4) rfl
           have z4 := block_free hzA (i := 4)
           clear hzA hzN hrZ hr9 hbA)
        | (go_at_call 20; with_reducible refine (HC2.out _ _ _ hI hr9).mono ?_
           rintro e WA ⟨Z, Zo, zo, Zn, zn, rfl, hI, hbA, hrZ, hlZ⟩
           have HRZ := hid hrZ
           clear hrZ hr9 hbA)
        | (go_at_call 20; refine calls_gen fun WB hWB => ?_
           have hIB : Below W8.heap.size W8 WB := by rw [hWB]; exact hI.alloc hI.size _
           have hrB : RdBB WB (· < WB.heap.size) A9 c9 (shapedZ m bits) := by rw [hWB]; exact (hr9.keep ((Keeps.refl _ _).alloc _)).mono fun b hb _ => by (have hb : b < W9.heap.size := hb; simp; omega)
           have hzB : WB.heap[W9.heap.size]? = some (.cells #[.int .i64 0, .int .i64 0, .int .i64 0, .slice none 0 0, .slice none 0 0] 24 (0, 0)) := by rw [hWB]; exact heap_alloc_new W9 _
           have hsB : W8.heap.size ≤ W9.heap.size := hI.size
           clear hWB
           with_reducible refine (HC2.out _ _ _ hIB hrB).mono ?_
           rintro e WA ⟨Z, Zo, zo, Zn, zn, rfl, hI, hbA, hrZ, hlZ⟩
           have hzA := (hbA.block _ (lt_of_block hzB)).trans hzB
           have HZA := hid hzA
           have HRZ := hid hrZ
           have hlB : W9.heap.size < WB.heap.size := lt_of_block hzB
           have hne : w.heap.size ≠ W9.heap.size := by omega
           have q0 := block_cell hzA (i := 0) rfl
           have z0 := block_free hzA (i := 0)
           have q1 := block_cell hzA (i := 1) rfl
           have z1 := block_free hzA (i := 1)
           have q2 := block_cell hzA (i := 2) rfl
           have z2 := block_free hzA (i := 2)
           have q3 := block_cell hzA (i := 3) rfl
           have z3 := block_free hzA (i := 3)
           have q4 := block_cell hzA (i := 4) rfl
           have z4 := block_free hzA (i := 4)
           clear hzA hzB hrZ hrB hIB hbA))
    · have HI := hid hI
      clear hI HC1 HC2 HSK HI1 HI2
      clear xm0 xm1 xm2 xm3 xm4 xml
      go_upto_region 8 with (fail)
      refine wp_gen fun WF hWF => ?_
      have hZ : HasM WF WA.heap.size #[.int .i64 Z.ins, .int .i64 Z.outs, .int .i64 Z.start, .slice Zo Z.out.length zo, .slice Zn Z.next.length zn] Z := by rw [hWF]; exact HasM.new HRZ.out
      have hIF : Below W8.heap.size W8 WF := by rw [hWF]; exact HI.out.alloc HI.out.size _
      have HZ := hid hZ
      have HBW := hid (HBW.out.trans (hIF.mono HBW.out.size))
      clear hZ hIF hWF
      have hsh := quo_shape HSZ.out hlZ.out
      have HMZ := hid (mealyB_of hsh.2.2.2.2.1)
      have zn1 := hsh.2.2.2.2.1.n2
      have zi1 := hsh.2.2.2.2.1.i2
      have HZS := hid hsh.2.2.2.2.1
      clear hsh
      have HD1 : Hid (∀ W' : World, Below WF.heap.size WF W' → Calls Try.prog 28 #[.agg #[.int .i64 Z.ins, .int .i64 Z.outs, .int .i64 Z.start, .slice Zo Z.out.length zo, .slice Zn Z.next.length zn], .bool true] W' fun e W'' => ∃ A c, e = .returned (.slice A Z.out.length c) ∧ Below WF.heap.size WF W'' ∧ RdBB W'' (· < W''.heap.size) A c (everyZ Z true Z.out.length)) := hid fun W' hb => by
        refine (every_any _ Z true W' (HZ.out.below hb).rd (by omega) (by omega)).mono ?_
        rintro e W'' ⟨A, c, rfl, h1, h2⟩
        exact ⟨A, c, by rw [everyZ_len], hb.trans (h1.mono hb.size), h2.old⟩
      have HD2 : Hid (∀ (W' : World) (A' : Option Addr) (c' : Nat), Below WF.heap.size WF W' → RdBB W' (· < W'.heap.size) A' c' (everyZ Z true Z.out.length) → Calls Try.prog 20 #[.agg #[.int .i64 Z.ins, .int .i64 Z.outs, .int .i64 Z.start, .slice Zo Z.out.length zo, .slice Zn Z.next.length zn], .slice A' Z.out.length c'] W' fun e W'' => ∃ (u : Value) (Y : Mly), e = .returned u ∧ Below WF.heap.size WF W'' ∧ RdM W'' (· < W''.heap.size) u Y ∧ Hid (LeastIs Z Y)) := hid fun W' A' c' hb hc => by
        have hg := loose_get HMZ.out (every_cares HZS.out true) (HZ.out.below hb).rd hc
        rw [everyZ_len] at hg
        refine hg.mono ?_
        rintro e W'' ⟨Y, Lo, lo, Ln, ln, rfl, h1, h2, h3⟩
        exact ⟨_, Y, rfl, hb.trans (h1.mono hb.size), h2.old, hid h3⟩
      have HD3 : Hid (∀ (W' : World) (u : Value) (Y : Mly), Below WF.heap.size WF W' → RdM W' (· < W'.heap.size) u Y → Hid (LeastIs Z Y) → Calls Try.prog 16 #[u, .agg #[.int .i64 Z.ins, .int .i64 Z.outs, .int .i64 Z.start, .slice Zo Z.out.length zo, .slice Zn Z.next.length zn]] W' fun e W'' => e = .returned (.bool true) ∧ Below WF.heap.size WF W'') := hid fun W' u Y hb hr hl =>
        (same_yes (same_symm (quo_same HMZ.out hl.out)) _ _ W' hr (HZ.out.below hb).rd).mono fun e W'' ⟨h1, h2⟩ => ⟨h1, hb.trans (h2.mono hb.size)⟩
      obtain ⟨y0, y1, y2, y3, y4, yl⟩ := HZ.out.cells
      have HSK : Hid (∀ W' : World, Below WF.heap.size WF W' → W'.cell? ⟨WA.heap.size, 0, none⟩ = some (.int .i64 Z.ins) ∧ W'.cell? ⟨WA.heap.size, 1, none⟩ = some (.int .i64 Z.outs) ∧ W'.cell? ⟨WA.heap.size, 2, none⟩ = some (.int .i64 Z.start) ∧ W'.cell? ⟨WA.heap.size, 3, none⟩ = some (.slice Zo Z.out.length zo) ∧ W'.cell? ⟨WA.heap.size, 4, none⟩ = some (.slice Zn Z.next.length zn)) := hid fun W' hb => by
        obtain ⟨y0, y1, y2, y3, y4, yl⟩ := (HZ.out.below hb).cells
        exact ⟨y0, y1, y2, y3, y4⟩
      have HI1 := hid (show Below WF.heap.size WF WF.drew from (Below.refl _ _).drew)
      have HI2 := hid (show ∀ i, Below WF.heap.size WF (WF.drewN i) from fun i => (Drawn.n WF i).below _)
      go_region_held3 (fun W' => W'.cell? ⟨WA.heap.size, 0, none⟩ = some (.int .i64 Z.ins) ∧ W'.cell? ⟨WA.heap.size, 1, none⟩ = some (.int .i64 Z.outs) ∧ W'.cell? ⟨WA.heap.size, 2, none⟩ = some (.int .i64 Z.start) ∧ W'.cell? ⟨WA.heap.size, 3, none⟩ = some (.slice Zo Z.out.length zo) ∧ W'.cell? ⟨WA.heap.size, 4, none⟩ = some (.slice Zn Z.next.length zn))
        (first
          | (with_reducible exact HSK.out _ hI)
          | (go_keep; done))
        (first
          | (go_at_call 28; with_reducible refine (HD1.out _ (by first | exact hI | exact HI1.out | exact HI2.out _)).mono ?_; rintro e WG ⟨AG, cG, rfl, hI, hrG⟩)
          | (go_at_call 20; with_reducible refine (HD2.out _ _ _ (by first | exact hI | exact HI1.out | exact HI2.out _) hrG).mono ?_; rintro e WH ⟨u, Y, rfl, hI, hrY, hlY⟩)
          | (go_at_call 16; with_reducible refine (HD3.out _ _ _ (by first | exact hI | exact HI1.out | exact HI2.out _) hrY hlY).mono ?_; rintro e WI ⟨rfl, hI⟩))
      all_goals
        have HB := hid (HBW.out.trans (hI.mono HBW.out.size))
        clear hI
        go_wp2_with fail
        go_ret
        exact ⟨rfl, HB.out⟩
    · have HI := hid hI
      clear hI HC1 HC2 HSK HI1 HI2
      clear xm0 xm1 xm2 xm3 xm4 xml
      go_upto_region 8 with (fail)
      refine wp_gen fun WF hWF => ?_
      have hfin := set5_rd (m := Z) (B := WB.heap.size) HZA.out (w := W8) (Chg.of_new HI.out) (by omega) (by omega) (by omega) HRZ.out hWF
      have hZ : HasM WF W9.heap.size #[.int .i64 Z.ins, .int .i64 Z.outs, .int .i64 Z.start, .slice Zo Z.out.length zo, .slice Zn Z.next.length zn] Z := ⟨by rw [hWF]; exact (set5 HZA.out _ _ _ _ _).1, hfin.2.2.old⟩
      have hIF := hfin.2.1
      clear hfin q0 q1 q2 q3 q4 z0 z1 z2 z3 z4
      have HZ := hid hZ
      have HBW := hid (HBW.out.trans (hIF.mono HBW.out.size))
      clear hZ hIF hWF
      have hsh := quo_shape HSZ.out hlZ.out
      have HMZ := hid (mealyB_of hsh.2.2.2.2.1)
      have zn1 := hsh.2.2.2.2.1.n2
      have zi1 := hsh.2.2.2.2.1.i2
      have HZS := hid hsh.2.2.2.2.1
      clear hsh
      have HD1 : Hid (∀ W' : World, Below WF.heap.size WF W' → Calls Try.prog 28 #[.agg #[.int .i64 Z.ins, .int .i64 Z.outs, .int .i64 Z.start, .slice Zo Z.out.length zo, .slice Zn Z.next.length zn], .bool true] W' fun e W'' => ∃ A c, e = .returned (.slice A Z.out.length c) ∧ Below WF.heap.size WF W'' ∧ RdBB W'' (· < W''.heap.size) A c (everyZ Z true Z.out.length)) := hid fun W' hb => by
        refine (every_any _ Z true W' (HZ.out.below hb).rd (by omega) (by omega)).mono ?_
        rintro e W'' ⟨A, c, rfl, h1, h2⟩
        exact ⟨A, c, by rw [everyZ_len], hb.trans (h1.mono hb.size), h2.old⟩
      have HD2 : Hid (∀ (W' : World) (A' : Option Addr) (c' : Nat), Below WF.heap.size WF W' → RdBB W' (· < W'.heap.size) A' c' (everyZ Z true Z.out.length) → Calls Try.prog 20 #[.agg #[.int .i64 Z.ins, .int .i64 Z.outs, .int .i64 Z.start, .slice Zo Z.out.length zo, .slice Zn Z.next.length zn], .slice A' Z.out.length c'] W' fun e W'' => ∃ (u : Value) (Y : Mly), e = .returned u ∧ Below WF.heap.size WF W'' ∧ RdM W'' (· < W''.heap.size) u Y ∧ Hid (LeastIs Z Y)) := hid fun W' A' c' hb hc => by
        have hg := loose_get HMZ.out (every_cares HZS.out true) (HZ.out.below hb).rd hc
        rw [everyZ_len] at hg
        refine hg.mono ?_
        rintro e W'' ⟨Y, Lo, lo, Ln, ln, rfl, h1, h2, h3⟩
        exact ⟨_, Y, rfl, hb.trans (h1.mono hb.size), h2.old, hid h3⟩
      have HD3 : Hid (∀ (W' : World) (u : Value) (Y : Mly), Below WF.heap.size WF W' → RdM W' (· < W'.heap.size) u Y → Hid (LeastIs Z Y) → Calls Try.prog 16 #[u, .agg #[.int .i64 Z.ins, .int .i64 Z.outs, .int .i64 Z.start, .slice Zo Z.out.length zo, .slice Zn Z.next.length zn]] W' fun e W'' => e = .returned (.bool true) ∧ Below WF.heap.size WF W'') := hid fun W' u Y hb hr hl =>
        (same_yes (same_symm (quo_same HMZ.out hl.out)) _ _ W' hr (HZ.out.below hb).rd).mono fun e W'' ⟨h1, h2⟩ => ⟨h1, hb.trans (h2.mono hb.size)⟩
      obtain ⟨y0, y1, y2, y3, y4, yl⟩ := HZ.out.cells
      have HSK : Hid (∀ W' : World, Below WF.heap.size WF W' → W'.cell? ⟨W9.heap.size, 0, none⟩ = some (.int .i64 Z.ins) ∧ W'.cell? ⟨W9.heap.size, 1, none⟩ = some (.int .i64 Z.outs) ∧ W'.cell? ⟨W9.heap.size, 2, none⟩ = some (.int .i64 Z.start) ∧ W'.cell? ⟨W9.heap.size, 3, none⟩ = some (.slice Zo Z.out.length zo) ∧ W'.cell? ⟨W9.heap.size, 4, none⟩ = some (.slice Zn Z.next.length zn)) := hid fun W' hb => by
        obtain ⟨y0, y1, y2, y3, y4, yl⟩ := (HZ.out.below hb).cells
        exact ⟨y0, y1, y2, y3, y4⟩
      have HI1 := hid (show Below WF.heap.size WF WF.drew from (Below.refl _ _).drew)
      have HI2 := hid (show ∀ i, Below WF.heap.size WF (WF.drewN i) from fun i => (Drawn.n WF i).below _)
      go_region_held3 (fun W' => W'.cell? ⟨W9.heap.size, 0, none⟩ = some (.int .i64 Z.ins) ∧ W'.cell? ⟨W9.heap.size, 1, none⟩ = some (.int .i64 Z.outs) ∧ W'.cell? ⟨W9.heap.size, 2, none⟩ = some (.int .i64 Z.start) ∧ W'.cell? ⟨W9.heap.size, 3, none⟩ = some (.slice Zo Z.out.length zo) ∧ W'.cell? ⟨W9.heap.size, 4, none⟩ = some (.slice Zn Z.next.length zn))
        (first
          | (with_reducible exact HSK.out _ hI)
          | (go_keep; done))
        (first
          | (go_at_call 28; with_reducible refine (HD1.out _ (by first | exact hI | exact HI1.out | exact HI2.out _)).mono ?_; rintro e WG ⟨AG, cG, rfl, hI, hrG⟩)
          | (go_at_call 20; with_reducible refine (HD2.out _ _ _ (by first | exact hI | exact HI1.out | exact HI2.out _) hrG).mono ?_; rintro e WH ⟨u, Y, rfl, hI, hrY, hlY⟩)
          | (go_at_call 16; with_reducible refine (HD3.out _ _ _ (by first | exact hI | exact HI1.out | exact HI2.out _) hrY hlY).mono ?_; rintro e WI ⟨rfl, hI⟩))
      all_goals
        have HB := hid (HBW.out.trans (hI.mono HBW.out.size))
        clear hI
        go_wp2_with fail
        go_ret
        exact ⟨rfl, HB.out⟩
    · have HI := hid hI
      clear hI HC1 HC2 HSK HI1 HI2
      clear xm0 xm1 xm2 xm3 xm4 xml
      go_upto_region 8 with (fail)
      refine wp_gen fun WF hWF => ?_
      have hfin := set5_rd (m := Z) (B := W9.heap.size) HZA.out (w := W8) (Chg.of_new HI.out) (by omega) (by omega) (by omega) HRZ.out hWF
      have hZ : HasM WF W8.heap.size #[.int .i64 Z.ins, .int .i64 Z.outs, .int .i64 Z.start, .slice Zo Z.out.length zo, .slice Zn Z.next.length zn] Z := ⟨by rw [hWF]; exact (set5 HZA.out _ _ _ _ _).1, hfin.2.2.old⟩
      have hIF := hfin.2.1
      clear hfin q0 q1 q2 q3 q4 z0 z1 z2 z3 z4
      have HZ := hid hZ
      have HBW := hid (HBW.out.trans (hIF.mono HBW.out.size))
      clear hZ hIF hWF
      have hsh := quo_shape HSZ.out hlZ.out
      have HMZ := hid (mealyB_of hsh.2.2.2.2.1)
      have zn1 := hsh.2.2.2.2.1.n2
      have zi1 := hsh.2.2.2.2.1.i2
      have HZS := hid hsh.2.2.2.2.1
      clear hsh
      have HD1 : Hid (∀ W' : World, Below WF.heap.size WF W' → Calls Try.prog 28 #[.agg #[.int .i64 Z.ins, .int .i64 Z.outs, .int .i64 Z.start, .slice Zo Z.out.length zo, .slice Zn Z.next.length zn], .bool true] W' fun e W'' => ∃ A c, e = .returned (.slice A Z.out.length c) ∧ Below WF.heap.size WF W'' ∧ RdBB W'' (· < W''.heap.size) A c (everyZ Z true Z.out.length)) := hid fun W' hb => by
        refine (every_any _ Z true W' (HZ.out.below hb).rd (by omega) (by omega)).mono ?_
        rintro e W'' ⟨A, c, rfl, h1, h2⟩
        exact ⟨A, c, by rw [everyZ_len], hb.trans (h1.mono hb.size), h2.old⟩
      have HD2 : Hid (∀ (W' : World) (A' : Option Addr) (c' : Nat), Below WF.heap.size WF W' → RdBB W' (· < W'.heap.size) A' c' (everyZ Z true Z.out.length) → Calls Try.prog 20 #[.agg #[.int .i64 Z.ins, .int .i64 Z.outs, .int .i64 Z.start, .slice Zo Z.out.length zo, .slice Zn Z.next.length zn], .slice A' Z.out.length c'] W' fun e W'' => ∃ (u : Value) (Y : Mly), e = .returned u ∧ Below WF.heap.size WF W'' ∧ RdM W'' (· < W''.heap.size) u Y ∧ Hid (LeastIs Z Y)) := hid fun W' A' c' hb hc => by
        have hg := loose_get HMZ.out (every_cares HZS.out true) (HZ.out.below hb).rd hc
        rw [everyZ_len] at hg
        refine hg.mono ?_
        rintro e W'' ⟨Y, Lo, lo, Ln, ln, rfl, h1, h2, h3⟩
        exact ⟨_, Y, rfl, hb.trans (h1.mono hb.size), h2.old, hid h3⟩
      have HD3 : Hid (∀ (W' : World) (u : Value) (Y : Mly), Below WF.heap.size WF W' → RdM W' (· < W'.heap.size) u Y → Hid (LeastIs Z Y) → Calls Try.prog 16 #[u, .agg #[.int .i64 Z.ins, .int .i64 Z.outs, .int .i64 Z.start, .slice Zo Z.out.length zo, .slice Zn Z.next.length zn]] W' fun e W'' => e = .returned (.bool true) ∧ Below WF.heap.size WF W'') := hid fun W' u Y hb hr hl =>
        (same_yes (same_symm (quo_same HMZ.out hl.out)) _ _ W' hr (HZ.out.below hb).rd).mono fun e W'' ⟨h1, h2⟩ => ⟨h1, hb.trans (h2.mono hb.size)⟩
      obtain ⟨y0, y1, y2, y3, y4, yl⟩ := HZ.out.cells
      have HSK : Hid (∀ W' : World, Below WF.heap.size WF W' → W'.cell? ⟨W8.heap.size, 0, none⟩ = some (.int .i64 Z.ins) ∧ W'.cell? ⟨W8.heap.size, 1, none⟩ = some (.int .i64 Z.outs) ∧ W'.cell? ⟨W8.heap.size, 2, none⟩ = some (.int .i64 Z.start) ∧ W'.cell? ⟨W8.heap.size, 3, none⟩ = some (.slice Zo Z.out.length zo) ∧ W'.cell? ⟨W8.heap.size, 4, none⟩ = some (.slice Zn Z.next.length zn)) := hid fun W' hb => by
        obtain ⟨y0, y1, y2, y3, y4, yl⟩ := (HZ.out.below hb).cells
        exact ⟨y0, y1, y2, y3, y4⟩
      have HI1 := hid (show Below WF.heap.size WF WF.drew from (Below.refl _ _).drew)
      have HI2 := hid (show ∀ i, Below WF.heap.size WF (WF.drewN i) from fun i => (Drawn.n WF i).below _)
      go_region_held3 (fun W' => W'.cell? ⟨W8.heap.size, 0, none⟩ = some (.int .i64 Z.ins) ∧ W'.cell? ⟨W8.heap.size, 1, none⟩ = some (.int .i64 Z.outs) ∧ W'.cell? ⟨W8.heap.size, 2, none⟩ = some (.int .i64 Z.start) ∧ W'.cell? ⟨W8.heap.size, 3, none⟩ = some (.slice Zo Z.out.length zo) ∧ W'.cell? ⟨W8.heap.size, 4, none⟩ = some (.slice Zn Z.next.length zn))
        (first
          | (with_reducible exact HSK.out _ hI)
          | (go_keep; done))
        (first
          | (go_at_call 28; with_reducible refine (HD1.out _ (by first | exact hI | exact HI1.out | exact HI2.out _)).mono ?_; rintro e WG ⟨AG, cG, rfl, hI, hrG⟩)
          | (go_at_call 20; with_reducible refine (HD2.out _ _ _ (by first | exact hI | exact HI1.out | exact HI2.out _) hrG).mono ?_; rintro e WH ⟨u, Y, rfl, hI, hrY, hlY⟩)
          | (go_at_call 16; with_reducible refine (HD3.out _ _ _ (by first | exact hI | exact HI1.out | exact HI2.out _) hrY hlY).mono ?_; rintro e WI ⟨rfl, hI⟩))
      all_goals
        have HB := hid (HBW.out.trans (hI.mono HBW.out.size))
        clear hI
        go_wp2_with fail
        go_ret
        exact ⟨rfl, HB.out⟩
end Go.Proofs.Ytcmhginhfhiolaa
