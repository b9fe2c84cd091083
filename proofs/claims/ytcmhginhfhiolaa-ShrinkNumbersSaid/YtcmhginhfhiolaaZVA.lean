/-
  Walk of the law on numbers.
-/
import Derived.Test.YtcmhginhfhiolaaZ35
set_option linter.unusedVariables false
set_option linter.unusedSimpArgs false
namespace Go.Proofs.Ytcmhginhfhiolaa
open Go.RowKit
attribute [local go_sem] cell_alloc_old

set_option maxRecDepth 100000 in
set_option maxHeartbeats 8000000 in
theorem law6_any {Dm Ebits : Dom} (w : World) (v : Value) (m : Mly) (A : Option Addr) (c : Nat) (bits : List Int) (hm : RdM w Dm v m) (hbits : RdY w Ebits A c bits) :
    Calls Try.prog 8 #[v, .slice A bits.length c] w fun e w' => e = .returned (.bool true) ∧ Below w.heap.size w w' := by
  have HVm := hid hm.old
  have HYbits := hid hbits.old
  have hybits := hbits.len.1
  obtain ⟨Ao, co, An, cn, rfl, ho, hn⟩ := hm
  clear ho hn
  clear hbits
  go_enter Try.func8, Try.ntmps8
  go_upto_region 1 with (fail)
  refine wp_gen fun W hW => ?_
  have hb : Below w.heap.size w W := by rw [hW]; go_grown
  have HMm := hid (show HasM W (w.heap.size) _ m from ⟨by rw [hW]; (repeat (first | (refine at_new _ _ _ ?_; (simp only [World.size_alloc]; done)) | (refine (at_old _ _ _ ?_).trans ?_; (simp only [World.size_alloc]; omega)))), (HVm.out.keep (Keeps.of_below hb (fun _ h => h))).mono fun _ h _ => Nat.lt_of_lt_of_le h hb.size⟩)
  have HBW := hid hb
  clear hW hb
  go_wp2_with fail
  refine (head_any W).mono ?_
  rintro e W1 ⟨rfl, hb⟩
  have HMm := hid (HMm.out.below hb)
  have HBW := hid (HBW.out.trans (hb.mono HBW.out.size))
  clear hb
  obtain ⟨xm0, xm1, xm2, xm3, xm4, xml⟩ := HMm.out.cells
  go_wp2_with fail
  refine (fine_any _ m W1 HMm.out.rd).mono ?_
  rintro e W2 ⟨rfl, hb⟩
  have HMm := hid (HMm.out.below hb)
  have HBW := hid (HBW.out.trans (hb.mono HBW.out.size))
  clear hb
  clear xm0 xm1 xm2 xm3 xm4 xml
  cases hfm : smallB m && mealyB m
  · go_wp2_with fail
    go_ret
    exact ⟨rfl, HBW.out⟩
  rw [Bool.and_eq_true] at hfm
  have HFm := hid hfm
  have hsmm := small_sizes hfm.1
  clear hfm
  obtain ⟨xm0, xm1, xm2, xm3, xm4, xml⟩ := HMm.out.cells
  have hS := sized_of HFm.out.2
  have HSZ := hid hS
  have HCS := hid (shaped_cares hS bits)
  have hsn := hS.n1
  have hsi := hS.i1
  clear hS
  have hyb := HYbits.out.keep (Keeps.of_below HBW.out fun _ h => h)
  have HYB := hid (hyb.old)
  clear hyb
  go_wp2_with fail
  refine (shaped_any _ m _ _ bits W2 HMm.out.rd HYB.out (by omega) hsn hsi (by omega)).mono ?_
  rintro e W3 ⟨A3, c3, rfl, hb, hrc⟩
  rw [shaped_len]
  have HMm := hid (HMm.out.below hb)
  have HBW := hid (HBW.out.trans (hb.mono HBW.out.size))
  have HCARE := hid hrc.old
  clear hb hrc
  clear xm0 xm1 xm2 xm3 xm4 xml
  obtain ⟨xm0, xm1, xm2, xm3, xm4, xml⟩ := HMm.out.cells
  go_wp2_with fail
  refine (trim_get HFm.out.2 HMm.out.rd).mono ?_
  rintro e W4 ⟨To, tO, Tn, tn, rfl, hb, hr⟩
  obtain ⟨T, hT⟩ : ∃ T, T = build (wholeM m) := ⟨_, rfl⟩
  rw [← hT] at hr ⊢
  have HT := hid hT
  have HMm := hid (HMm.out.below hb)
  have HCARE := hid (HCARE.out.keep (Keeps.of_below hb (fun _ h => h)) |>.mono fun _ h _ => Nat.lt_of_lt_of_le h hb.size)
  have HBW := hid (HBW.out.trans (hb.mono HBW.out.size))
  have HTB := hid (HasM.new hr)
  clear hb hr hT
  clear xm0 xm1 xm2 xm3 xm4 xml
  go_upto_region 6 with (fail)
  refine wp_gen fun W5 hW5 => ?_
  have hb : Below W4.heap.size W4 W5 := by rw [hW5]; go_grown
  have HTB := hid (show HasM W5 W4.heap.size _ T by rw [hW5]; exact HTB.out)
  have HMm := hid (HMm.out.below hb)
  have HCARE := hid (HCARE.out.keep (Keeps.of_below hb (fun _ h => h)) |>.mono fun _ h _ => Nat.lt_of_lt_of_le h hb.size)
  have HBW := hid (HBW.out.trans (hb.mono HBW.out.size))
  clear hb hW5
  obtain ⟨xm0, xm1, xm2, xm3, xm4, xml⟩ := HMm.out.cells
  go_wp2_with fail
  refine (least_get HFm.out.2 HMm.out.rd).mono ?_
  rintro e W6 ⟨X, Xo, xo, Xn, xn, rfl, hb, hr, hl⟩
  have HMm := hid (HMm.out.below hb)
  have HTB := hid (HTB.out.below hb)
  have HCARE := hid (HCARE.out.keep (Keeps.of_below hb (fun _ h => h)) |>.mono fun _ h _ => Nat.lt_of_lt_of_le h hb.size)
  have HBW := hid (HBW.out.trans (hb.mono HBW.out.size))
  have HX := hid (HasM.new hr)
  have HLX := hid hl
  clear hb hr hl
  clear xm0 xm1 xm2 xm3 xm4 xml
  go_upto_region 7 with (fail)
  refine wp_gen fun W7 hW7 => ?_
  have hb : Below W6.heap.size W6 W7 := by rw [hW7]; go_grown
  have HX := hid (show HasM W7 W6.heap.size _ X by rw [hW7]; exact HX.out)
  have HMm := hid (HMm.out.below hb)
  have HTB := hid (HTB.out.below hb)
  have HCARE := hid (HCARE.out.keep (Keeps.of_below hb (fun _ h => h)) |>.mono fun _ h _ => Nat.lt_of_lt_of_le h hb.size)
  have HBW := hid (HBW.out.trans (hb.mono HBW.out.size))
  clear hb hW7
  obtain ⟨xm0, xm1, xm2, xm3, xm4, xml⟩ := HMm.out.cells
  have hg := loose_get HFm.out.2 HCS.out HMm.out.rd HCARE.out
  rw [shaped_len] at hg
  have HG := hid hg
  clear hg
  go_wp2_with fail
  refine HG.out.mono ?_
  clear HG
  rintro e W8 ⟨Z, Zo, zo, Zn, zn, rfl, hb, hr, hl⟩
  have HMm := hid (HMm.out.below hb)
  have HTB := hid (HTB.out.below hb)
  have HX := hid (HX.out.below hb)
  have HCARE := hid (HCARE.out.keep (Keeps.of_below hb (fun _ h => h)) |>.mono fun _ h _ => Nat.lt_of_lt_of_le h hb.size)
  have HBW := hid (HBW.out.trans (hb.mono HBW.out.size))
  have HZ := hid (HasM.new hr)
  have HLZ := hid hl
  clear hb hr hl
  clear xm0 xm1 xm2 xm3 xm4 xml
  go_upto_region 8 with (fail)
  refine wp_gen fun W9 hW9 => ?_
  have hb : Below W8.heap.size W8 W9 := by rw [hW9]; go_grown
  have HZ := hid (show HasM W9 W8.heap.size _ Z by rw [hW9]; exact HZ.out)
  have HMm := hid (HMm.out.below hb)
  have HTB := hid (HTB.out.below hb)
  have HX := hid (HX.out.below hb)
  have HCARE := hid (HCARE.out.keep (Keeps.of_below hb (fun _ h => h)) |>.mono fun _ h _ => Nat.lt_of_lt_of_le h hb.size)
  have HBW := hid (HBW.out.trans (hb.mono HBW.out.size))
  clear hb hW9
  have hqT : IsQuo (posM (careM m (everyZ m true m.out.length))) (fun i j => i = j) T := by rw [HT.out]; exact whole_quo HSZ.out
  have hsT := quo_shape HSZ.out hqT
  have hsX := quo_shape HSZ.out HLX.out
  have hsZ := quo_shape HSZ.out HLZ.out
  have HQT := hid hqT
  have HST := hid hsT
  have HSX := hid hsX
  have HSZ2 := hid hsZ
  have hnT : (T.start != 0) = false := by rw [hsT.2.2.1]; rfl
  have hnX : (X.start != 0) = false := by rw [hsX.2.2.1]; rfl
  have hnZ : (Z.start != 0) = false := by rw [hsZ.2.2.1]; rfl
  have hl1 : (Z.out.length : Int) ≤ ((ordZ (careM m (shapedZ m bits))).length : Int) := by
    have := hsZ.2.2.2.1
    unfold ordZ
    rw [List.length_map]
    omega
  have hl2 : (X.out.length : Int) ≤ (T.out.length : Int) := by
    have h1 := hsX.2.2.2.1
    rw [ord_every HSZ.out] at h1
    have h2 : T.out.length = (ord (wholeM m)).length := by rw [HT.out]; exact (build_len _).1
    omega
  clear hqT hsT hsX hsZ
  have HA1 : Hid (∀ W' : World, Below W9.heap.size W9 W' → Calls Try.prog 14 #[.agg #[.int .i64 T.ins, .int .i64 T.outs, .int .i64 T.start, .slice To T.out.length tO, .slice Tn T.next.length tn]] W' fun e W'' => ∃ u, e = .returned u ∧ Below W9.heap.size W9 W'' ∧ RdM W'' (· < W''.heap.size) u T) := hid fun W' hb => by
    refine (trim_any _ T W' (HTB.out.below hb).rd).mono ?_
    rintro e W'' ⟨u, rfl, h1, h2⟩
    unfold trimZ at h2
    rw [if_pos (mealyB_of HST.out.2.2.2.2.1), HST.out.2.2.2.2.2] at h2
    exact ⟨u, rfl, hb.trans (h1.mono hb.size), h2.old⟩
  have HA2 : Hid (∀ W' : World, Below W9.heap.size W9 W' → Calls Try.prog 14 #[.agg #[.int .i64 X.ins, .int .i64 X.outs, .int .i64 X.start, .slice Xo X.out.length xo, .slice Xn X.next.length xn]] W' fun e W'' => ∃ u, e = .returned u ∧ Below W9.heap.size W9 W'' ∧ RdM W'' (· < W''.heap.size) u X) := hid fun W' hb => by
    refine (trim_any _ X W' (HX.out.below hb).rd).mono ?_
    rintro e W'' ⟨u, rfl, h1, h2⟩
    unfold trimZ at h2
    rw [if_pos (mealyB_of HSX.out.2.2.2.2.1), HSX.out.2.2.2.2.2] at h2
    exact ⟨u, rfl, hb.trans (h1.mono hb.size), h2.old⟩
  have HA3 : Hid (∀ W' : World, Below W9.heap.size W9 W' → Calls Try.prog 14 #[.agg #[.int .i64 Z.ins, .int .i64 Z.outs, .int .i64 Z.start, .slice Zo Z.out.length zo, .slice Zn Z.next.length zn]] W' fun e W'' => ∃ u, e = .returned u ∧ Below W9.heap.size W9 W'' ∧ RdM W'' (· < W''.heap.size) u Z) := hid fun W' hb => by
    refine (trim_any _ Z W' (HZ.out.below hb).rd).mono ?_
    rintro e W'' ⟨u, rfl, h1, h2⟩
    unfold trimZ at h2
    rw [if_pos (mealyB_of HSZ2.out.2.2.2.2.1), HSZ2.out.2.2.2.2.2] at h2
    exact ⟨u, rfl, hb.trans (h1.mono hb.size), h2.old⟩
  have HB1 : Hid (∀ (W' : World) (u : Value), Below W9.heap.size W9 W' → RdM W' (· < W'.heap.size) u T → Calls Try.prog 13 #[u, .agg #[.int .i64 T.ins, .int .i64 T.outs, .int .i64 T.start, .slice To T.out.length tO, .slice Tn T.next.length tn]] W' fun e W'' => e = .returned (.bool true) ∧ Below W9.heap.size W9 W'') := hid fun W' u hb hr =>
    (eq_ex T _ _ W' hr (HTB.out.below hb).rd).mono fun e W'' ⟨h1, h2⟩ => ⟨h1, hb.trans (h2.mono hb.size)⟩
  have HB2 : Hid (∀ (W' : World) (u : Value), Below W9.heap.size W9 W' → RdM W' (· < W'.heap.size) u X → Calls Try.prog 13 #[u, .agg #[.int .i64 X.ins, .int .i64 X.outs, .int .i64 X.start, .slice Xo X.out.length xo, .slice Xn X.next.length xn]] W' fun e W'' => e = .returned (.bool true) ∧ Below W9.heap.size W9 W'') := hid fun W' u hb hr =>
    (eq_ex X _ _ W' hr (HX.out.below hb).rd).mono fun e W'' ⟨h1, h2⟩ => ⟨h1, hb.trans (h2.mono hb.size)⟩
  have HB3 : Hid (∀ (W' : World) (u : Value), Below W9.heap.size W9 W' → RdM W' (· < W'.heap.size) u Z → Calls Try.prog 13 #[u, .agg #[.int .i64 Z.ins, .int .i64 Z.outs, .int .i64 Z.start, .slice Zo Z.out.length zo, .slice Zn Z.next.length zn]] W' fun e W'' => e = .returned (.bool true) ∧ Below W9.heap.size W9 W'') := hid fun W' u hb hr =>
    (eq_ex Z _ _ W' hr (HZ.out.below hb).rd).mono fun e W'' ⟨h1, h2⟩ => ⟨h1, hb.trans (h2.mono hb.size)⟩
  have HL1 : Hid (∀ W' : World, Below W9.heap.size W9 W' → Calls Try.prog 18 #[.agg #[.int .i64 X.ins, .int .i64 X.outs, .int .i64 X.start, .slice Xo X.out.length xo, .slice Xn X.next.length xn]] W' fun e W'' => ∃ u, e = .returned u ∧ Below W9.heap.size W9 W'' ∧ RdM W'' (· < W''.heap.size) u X) := hid fun W' hb => by
    refine (least_get (mealyB_of HSX.out.2.2.2.2.1) (HX.out.below hb).rd).mono ?_
    rintro e W'' ⟨Y, Lo, lo, Ln, ln, rfl, h1, h2, h3⟩
    obtain rfl : Y = X := least_again HFm.out.2 HLX.out HLX.out h3
    exact ⟨_, rfl, hb.trans (h1.mono hb.size), h2.old⟩
  obtain ⟨p0, p1, p2, p3, p4, pl⟩ := HTB.out.cells
  obtain ⟨q0, q1, q2, q3, q4, ql⟩ := HX.out.cells
  obtain ⟨y0, y1, y2, y3, y4, yl⟩ := HZ.out.cells
  have HSK : Hid (∀ W' : World, Below W9.heap.size W9 W' → W'.cell? ⟨W4.heap.size, 0, none⟩ = some (.int .i64 T.ins) ∧ W'.cell? ⟨W4.heap.size, 1, none⟩ = some (.int .i64 T.outs) ∧ W'.cell? ⟨W4.heap.size, 2, none⟩ = some (.int .i64 T.start) ∧ W'.cell? ⟨W4.heap.size, 3, none⟩ = some (.slice To T.out.length tO) ∧ W'.cell? ⟨W4.heap.size, 4, none⟩ = some (.slice Tn T.next.length tn) ∧ W'.cell? ⟨W6.heap.size, 0, none⟩ = some (.int .i64 X.ins) ∧ W'.cell? ⟨W6.heap.size, 1, none⟩ = some (.int .i64 X.outs) ∧ W'.cell? ⟨W6.heap.size, 2, none⟩ = some (.int .i64 X.start) ∧ W'.cell? ⟨W6.heap.size, 3, none⟩ = some (.slice Xo X.out.length xo) ∧ W'.cell? ⟨W6.heap.size, 4, none⟩ = some (.slice Xn X.next.length xn) ∧ W'.cell? ⟨W8.heap.size, 0, none⟩ = some (.int .i64 Z.ins) ∧ W'.cell? ⟨W8.heap.size, 1, none⟩ = some (.int .i64 Z.outs) ∧ W'.cell? ⟨W8.heap.size, 2, none⟩ = some (.int .i64 Z.start) ∧ W'.cell? ⟨W8.heap.size, 3, none⟩ = some (.slice Zo Z.out.length zo) ∧ W'.cell? ⟨W8.heap.size, 4, none⟩ = some (.slice Zn Z.next.length zn)) := hid fun W' hb => by
    obtain ⟨p0, p1, p2, p3, p4, pl⟩ := (HTB.out.below hb).cells
    obtain ⟨q0, q1, q2, q3, q4, ql⟩ := (HX.out.below hb).cells
    obtain ⟨y0, y1, y2, y3, y4, yl⟩ := (HZ.out.below hb).cells
    exact ⟨p0, p1, p2, p3, p4, q0, q1, q2, q3, q4, y0, y1, y2, y3, y4⟩
  have HI1 := hid (show Below W9.heap.size W9 W9.drew from (Below.refl _ _).drew)
  have HI2 := hid (show ∀ i, Below W9.heap.size W9 (W9.drewN i) from fun i => (Drawn.n W9 i).below _)
  go_region_held3 (fun W' => W'.cell? ⟨W4.heap.size, 0, none⟩ = some (.int .i64 T.ins) ∧ W'.cell? ⟨W4.heap.size, 1, none⟩ = some (.int .i64 T.outs) ∧ W'.cell? ⟨W4.heap.size, 2, none⟩ = some (.int .i64 T.start) ∧ W'.cell? ⟨W4.heap.size, 3, none⟩ = some (.slice To T.out.length tO) ∧ W'.cell? ⟨W4.heap.size, 4, none⟩ = some (.slice Tn T.next.length tn) ∧ W'.cell? ⟨W6.heap.size, 0, none⟩ = some (.int .i64 X.ins) ∧ W'.cell? ⟨W6.heap.size, 1, none⟩ = some (.int .i64 X.outs) ∧ W'.cell? ⟨W6.heap.size, 2, none⟩ = some (.int .i64 X.start) ∧ W'.cell? ⟨W6.heap.size, 3, none⟩ = some (.slice Xo X.out.length xo) ∧ W'.cell? ⟨W6.heap.size, 4, none⟩ = some (.slice Xn X.next.length xn) ∧ W'.cell? ⟨W8.heap.size, 0, none⟩ = some (.int .i64 Z.ins) ∧ W'.cell? ⟨W8.heap.size, 1, none⟩ = some (.int .i64 Z.outs) ∧ W'.cell? ⟨W8.heap.size, 2, none⟩ = some (.int .i64 Z.start) ∧ W'.cell? ⟨W8.heap.size, 3, none⟩ = some (.slice Zo Z.out.length zo) ∧ W'.cell? ⟨W8.heap.size, 4, none⟩ = some (.slice Zn Z.next.length zn))
    (first
      | (with_reducible exact HSK.out _ hI)
      | (go_keep; done))
    (first
      | (go_at_call 14; with_reducible refine (HA1.out _ (by first | exact hI | exact HI1.out | exact HI2.out _)).mono ?_; rintro e WA ⟨uA, rfl, hI, hrA⟩)
      | (go_at_call 13; with_reducible refine (HB1.out _ _ (by first | exact hI | exact HI1.out | exact HI2.out _) hrA).mono ?_; rintro e WB ⟨rfl, hI⟩)
      | (go_at_call 14; with_reducible refine (HA2.out _ (by first | exact hI | exact HI1.out | exact HI2.out _)).mono ?_; rintro e WC ⟨uC, rfl, hI, hrC⟩)
      | (go_at_call 14; with_reducible refine (HA3.out _ (by first | exact hI | exact HI1.out | exact HI2.out _)).mono ?_; rintro e WE ⟨uE, rfl, hI, hrE⟩)
      | (go_at_call 13; with_reducible refine (HB3.out _ _ (by first | exact hI | exact HI1.out | exact HI2.out _) hrE).mono ?_; rintro e WF ⟨rfl, hI⟩)
      | (go_at_call 18; with_reducible refine (HL1.out _ (by first | exact hI | exact HI1.out | exact HI2.out _)).mono ?_; rintro e WG ⟨uG, rfl, hI, hrG⟩)
      | (go_at_call 13; with_reducible refine (HB2.out _ _ (by first | exact hI | exact HI1.out | exact HI2.out _) hrG).mono ?_; rintro e WH ⟨rfl, hI⟩)
      | (go_at_call 13; with_reducible refine (HB2.out _ _ (by first | exact hI | exact HI1.out | exact HI2.out _) hrC).mono ?_; rintro e WD ⟨rfl, hI⟩))
  all_goals
    have HMm := hid (HMm.out.below hI)
    have HTB := hid (HTB.out.below hI)
    have HX := hid (HX.out.below hI)
    have HZ := hid (HZ.out.below hI)
    have HCARE := hid (HCARE.out.keep (Keeps.of_below hI (fun _ h => h)) |>.mono fun _ h _ => Nat.lt_of_lt_of_le h hI.size)
    have HBW := hid (HBW.out.trans (hI.mono HBW.out.size))
    clear hI HA1 HA2 HA3 HB1 HB2 HB3 HL1 HSK HI1 HI2
    clear p0 p1 p2 p3 p4 pl q0 q1 q2 q3 q4 ql y0 y1 y2 y3 y4 yl
    go_upto_region 10 with (fail)
    have HB2 : Hid (∀ (W' : World) (u : Value), Below WH.heap.size WH W' → RdM W' (· < W'.heap.size) u X → Calls Try.prog 13 #[u, .agg #[.int .i64 X.ins, .int .i64 X.outs, .int .i64 X.start, .slice Xo X.out.length xo, .slice Xn X.next.length xn]] W' fun e W'' => e = .returned (.bool true) ∧ Below WH.heap.size WH W'') := hid fun W' u hb hr =>
      (eq_ex X _ _ W' hr (HX.out.below hb).rd).mono fun e W'' ⟨h1, h2⟩ => ⟨h1, hb.trans (h2.mono hb.size)⟩
    have HL2 : Hid (∀ W' : World, Below WH.heap.size WH W' → Calls Try.prog 18 #[.agg #[.int .i64 T.ins, .int .i64 T.outs, .int .i64 T.start, .slice To T.out.length tO, .slice Tn T.next.length tn]] W' fun e W'' => ∃ u, e = .returned u ∧ Below WH.heap.size WH W'' ∧ RdM W'' (· < W''.heap.size) u X) := hid fun W' hb => by
      refine (least_get (mealyB_of HST.out.2.2.2.2.1) (HTB.out.below hb).rd).mono ?_
      rintro e W'' ⟨Y, Lo, lo, Ln, ln, rfl, h1, h2, h3⟩
      obtain rfl : Y = X := least_again HFm.out.2 HQT.out HLX.out h3
      exact ⟨_, rfl, hb.trans (h1.mono hb.size), h2.old⟩
    have HRE : Hid (∀ W' : World, Below WH.heap.size WH W' → Calls Try.prog 29 #[.agg #[.int .i64 m.ins, .int .i64 m.outs, .int .i64 m.start, .slice Ao m.out.length co, .slice An m.next.length cn], .slice A3 m.out.length c3] W' fun e W'' => ∃ A' c', e = .returned (.slice A' (ordZ (careM m (shapedZ m bits))).length c') ∧ Below WH.heap.size WH W'') := hid fun W' hb => by
      have hg := reached_any _ m A3 c3 (shapedZ m bits) W' (HMm.out.below hb).rd (HCARE.out.keep (Keeps.of_below hb fun _ h => h)) HSZ.out HCS.out
      rw [shaped_len] at hg
      refine hg.mono ?_
      rintro e W'' ⟨A', c', rfl, h1, h2⟩
      exact ⟨A', c', rfl, hb.trans (h1.mono hb.size)⟩
    obtain ⟨xm0, xm1, xm2, xm3, xm4, xml⟩ := HMm.out.cells
    obtain ⟨p0, p1, p2, p3, p4, pl⟩ := HTB.out.cells
    obtain ⟨q0, q1, q2, q3, q4, ql⟩ := HX.out.cells
    obtain ⟨y0, y1, y2, y3, y4, yl⟩ := HZ.out.cells
    have HSK : Hid (∀ W' : World, Below WH.heap.size WH W' → W'.cell? ⟨w.heap.size, 0, none⟩ = some (.int .i64 m.ins) ∧ W'.cell? ⟨w.heap.size, 1, none⟩ = some (.int .i64 m.outs) ∧ W'.cell? ⟨w.heap.size, 2, none⟩ = some (.int .i64 m.start) ∧ W'.cell? ⟨w.heap.size, 3, none⟩ = some (.slice Ao m.out.length co) ∧ W'.cell? ⟨w.heap.size, 4, none⟩ = some (.slice An m.next.length cn) ∧ W'.cell? ⟨W4.heap.size, 0, none⟩ = some (.int .i64 T.ins) ∧ W'.cell? ⟨W4.heap.size, 1, none⟩ = some (.int .i64 T.outs) ∧ W'.cell? ⟨W4.heap.size, 2, none⟩ = some (.int .i64 T.start) ∧ W'.cell? ⟨W4.heap.size, 3, none⟩ = some (.slice To T.out.length tO) ∧ W'.cell? ⟨W4.heap.size, 4, none⟩ = some (.slice Tn T.next.length tn) ∧ W'.cell? ⟨W6.heap.size, 0, none⟩ = some (.int .i64 X.ins) ∧ W'.cell? ⟨W6.heap.size, 1, none⟩ = some (.int .i64 X.outs) ∧ W'.cell? ⟨W6.heap.size, 2, none⟩ = some (.int .i64 X.start) ∧ W'.cell? ⟨W6.heap.size, 3, none⟩ = some (.slice Xo X.out.length xo) ∧ W'.cell? ⟨W6.heap.size, 4, none⟩ = some (.slice Xn X.next.length xn) ∧ W'.cell? ⟨W8.heap.size, 0, none⟩ = some (.int .i64 Z.ins) ∧ W'.cell? ⟨W8.heap.size, 1, none⟩ = some (.int .i64 Z.outs) ∧ W'.cell? ⟨W8.heap.size, 2, none⟩ = some (.int .i64 Z.start) ∧ W'.cell? ⟨W8.heap.size, 3, none⟩ = some (.slice Zo Z.out.length zo) ∧ W'.cell? ⟨W8.heap.size, 4, none⟩ = some (.slice Zn Z.next.length zn)) := hid fun W' hb => by
      obtain ⟨xm0, xm1, xm2, xm3, xm4, xml⟩ := (HMm.out.below hb).cells
      obtain ⟨p0, p1, p2, p3, p4, pl⟩ := (HTB.out.below hb).cells
      obtain ⟨q0, q1, q2, q3, q4, ql⟩ := (HX.out.below hb).cells
      obtain ⟨y0, y1, y2, y3, y4, yl⟩ := (HZ.out.below hb).cells
      exact ⟨xm0, xm1, xm2, xm3, xm4, p0, p1, p2, p3, p4, q0, q1, q2, q3, q4, y0, y1, y2, y3, y4⟩
    have HI1 := hid (show Below WH.heap.size WH WH.drew from (Below.refl _ _).drew)
    have HI2 := hid (show ∀ i, Below WH.heap.size WH (WH.drewN i) from fun i => (Drawn.n WH i).below _)
    go_region_held3 (fun W' => W'.cell? ⟨w.heap.size, 0, none⟩ = some (.int .i64 m.ins) ∧ W'.cell? ⟨w.heap.size, 1, none⟩ = some (.int .i64 m.outs) ∧ W'.cell? ⟨w.heap.size, 2, none⟩ = some (.int .i64 m.start) ∧ W'.cell? ⟨w.heap.size, 3, none⟩ = some (.slice Ao m.out.length co) ∧ W'.cell? ⟨w.heap.size, 4, none⟩ = some (.slice An m.next.length cn) ∧ W'.cell? ⟨W4.heap.size, 0, none⟩ = some (.int .i64 T.ins) ∧ W'.cell? ⟨W4.heap.size, 1, none⟩ = some (.int .i64 T.outs) ∧ W'.cell? ⟨W4.heap.size, 2, none⟩ = some (.int .i64 T.start) ∧ W'.cell? ⟨W4.heap.size, 3, none⟩ = some (.slice To T.out.length tO) ∧ W'.cell? ⟨W4.heap.size, 4, none⟩ = some (.slice Tn T.next.length tn) ∧ W'.cell? ⟨W6.heap.size, 0, none⟩ = some (.int .i64 X.ins) ∧ W'.cell? ⟨W6.heap.size, 1, none⟩ = some (.int .i64 X.outs) ∧ W'.cell? ⟨W6.heap.size, 2, none⟩ = some (.int .i64 X.start) ∧ W'.cell? ⟨W6.heap.size, 3, none⟩ = some (.slice Xo X.out.length xo) ∧ W'.cell? ⟨W6.heap.size, 4, none⟩ = some (.slice Xn X.next.length xn) ∧ W'.cell? ⟨W8.heap.size, 0, none⟩ = some (.int .i64 Z.ins) ∧ W'.cell? ⟨W8.heap.size, 1, none⟩ = some (.int .i64 Z.outs) ∧ W'.cell? ⟨W8.heap.size, 2, none⟩ = some (.int .i64 Z.start) ∧ W'.cell? ⟨W8.heap.size, 3, none⟩ = some (.slice Zo Z.out.length zo) ∧ W'.cell? ⟨W8.heap.size, 4, none⟩ = some (.slice Zn Z.next.length zn))
      (first
        | (with_reducible exact HSK.out _ hI)
        | (go_keep; done))
      (first
        | (go_at_call 29; with_reducible refine (HRE.out _ (by first | exact hI | exact HI1.out | exact HI2.out _)).mono ?_; rintro e WJ ⟨AJ, cJ, rfl, hI⟩)
        | (go_at_call 18; with_reducible refine (HL2.out _ (by first | exact hI | exact HI1.out | exact HI2.out _)).mono ?_; rintro e WK ⟨uK, rfl, hI, hrK⟩)
        | (go_at_call 13; with_reducible refine (HB2.out _ _ (by first | exact hI | exact HI1.out | exact HI2.out _) hrK).mono ?_; rintro e WL ⟨rfl, hI⟩))
    all_goals
      have HB := hid (HBW.out.trans (hI.mono HBW.out.size))
      clear hI
      go_wp2_with fail
      go_ret
      exact ⟨rfl, HB.out⟩
end Go.Proofs.Ytcmhginhfhiolaa
