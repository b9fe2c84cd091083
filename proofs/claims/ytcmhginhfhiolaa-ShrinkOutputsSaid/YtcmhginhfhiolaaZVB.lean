/-
  Walk of the law on outputs.
-/
import Derived.Test.YtcmhginhfhiolaaZ35
set_option linter.unusedVariables false
set_option linter.unusedSimpArgs false
namespace Go.Proofs.Ytcmhginhfhiolaa
open Go.RowKit
attribute [local go_sem] cell_alloc_old

set_option maxRecDepth 100000 in
set_option maxHeartbeats 8000000 in
theorem law2_any {Da Db Ech : Dom} (w : World) (va vb : Value) (a b : Mly) (A : Option Addr) (c : Nat) (ch : List Int) (ha : RdM w Da va a) (hb : RdM w Db vb b) (hch : RdY w Ech A c ch) :
    Calls Try.prog 4 #[va, vb, .slice A ch.length c] w fun e w' => e = .returned (.bool true) ∧ Below w.heap.size w w' := by
  have HVa := hid ha.old
  have HVb := hid hb.old
  have HYch := hid hch.old
  have hych := hch.len.1
  obtain ⟨Ao, co, An, cn, rfl, ho, hn⟩ := ha
  clear ho hn
  obtain ⟨Bo, dO, Bn, dn, rfl, ho, hn⟩ := hb
  clear ho hn
  clear hch
  go_enter Try.func4, Try.ntmps4
  go_upto_region 1 with (fail)
  refine wp_gen fun W hW => ?_
  have hb : Below w.heap.size w W := by rw [hW]; go_grown
  have HMa := hid (show HasM W (w.heap.size) _ a from ⟨by rw [hW]; (repeat (first | (refine at_new _ _ _ ?_; (simp only [World.size_alloc]; done)) | (refine (at_old _ _ _ ?_).trans ?_; (simp only [World.size_alloc]; omega)))), (HVa.out.keep (Keeps.of_below hb (fun _ h => h))).mono fun _ h _ => Nat.lt_of_lt_of_le h hb.size⟩)
  have HMb := hid (show HasM W (w.heap.size + 1) _ b from ⟨by rw [hW]; (repeat (first | (refine at_new _ _ _ ?_; (simp only [World.size_alloc]; done)) | (refine (at_old _ _ _ ?_).trans ?_; (simp only [World.size_alloc]; omega)))), (HVb.out.keep (Keeps.of_below hb (fun _ h => h))).mono fun _ h _ => Nat.lt_of_lt_of_le h hb.size⟩)
  have HBW := hid hb
  clear hW hb
  go_wp2_with fail
  refine (head_any W).mono ?_
  rintro e W1 ⟨rfl, hb⟩
  have HMa := hid (HMa.out.below hb)
  have HMb := hid (HMb.out.below hb)
  have HBW := hid (HBW.out.trans (hb.mono HBW.out.size))
  clear hb
  obtain ⟨xa0, xa1, xa2, xa3, xa4, xal⟩ := HMa.out.cells
  go_wp2_with fail
  refine (fine_any _ a W1 HMa.out.rd).mono ?_
  rintro e W2 ⟨rfl, hb⟩
  have HMa := hid (HMa.out.below hb)
  have HMb := hid (HMb.out.below hb)
  have HBW := hid (HBW.out.trans (hb.mono HBW.out.size))
  clear hb
  clear xa0 xa1 xa2 xa3 xa4 xal
  cases hfa : smallB a && mealyB a
  · go_wp2_with fail
    go_ret
    exact ⟨rfl, HBW.out⟩
  rw [Bool.and_eq_true] at hfa
  have HFa := hid hfa
  have hsma := small_sizes hfa.1
  clear hfa
  obtain ⟨xb0, xb1, xb2, xb3, xb4, xbl⟩ := HMb.out.cells
  go_wp2_with fail
  refine (fine_any _ b W2 HMb.out.rd).mono ?_
  rintro e W3 ⟨rfl, hb⟩
  have HMa := hid (HMa.out.below hb)
  have HMb := hid (HMb.out.below hb)
  have HBW := hid (HBW.out.trans (hb.mono HBW.out.size))
  clear hb
  clear xb0 xb1 xb2 xb3 xb4 xbl
  cases hfb : smallB b && mealyB b
  · go_wp2_with fail
    go_ret
    exact ⟨rfl, HBW.out⟩
  rw [Bool.and_eq_true] at hfb
  have HFb := hid hfb
  have hsmb := small_sizes hfb.1
  clear hfb
  have hSa := sized_of HFa.out.2
  have hSb := sized_of HFb.out.2
  have HSA := hid hSa
  have HSB := hid hSb
  have hai := hSa.i1
  have hai2 := hSa.i2
  clear hSa hSb
  obtain ⟨xa0, xa1, xa2, xa3, xa4, xal⟩ := HMa.out.cells
  have hyb := HYch.out.keep (Keeps.of_below HBW.out fun _ h => h)
  go_wp2_with fail
  refine (inputs_any _ a _ _ ch W3 HMa.out.rd hyb hai hai2).mono ?_
  rintro e W4 ⟨AL, cL, rfl, hb, hr⟩
  obtain ⟨l, hl⟩ : ∃ l, l = inputsZ a ch := ⟨_, rfl⟩
  rw [← hl] at hr ⊢
  have hbl : belowB a.ins l = true := by rw [hl]; exact inputs_below hai ch
  have hll : l.length ≤ 40 := by rw [hl]; exact inputs_short a ch
  have HMa := hid (HMa.out.below hb)
  have HMb := hid (HMb.out.below hb)
  have HBW := hid (HBW.out.trans (hb.mono HBW.out.size))
  have HLI := hid hr.old
  have HBL := hid hbl
  clear hb hr hl hyb hbl
  clear xa0 xa1 xa2 xa3 xa4 xal
  obtain ⟨xa0, xa1, xa2, xa3, xa4, xal⟩ := HMa.out.cells
  go_wp2_with fail
  refine (run_get HFa.out.2 HMa.out.rd HLI.out HBL.out (by omega)).mono ?_
  rintro e W5 ⟨AX, cAX, xs, zAX, rfl, hb, hr, hxs⟩
  have HMa := hid (HMa.out.below hb)
  have HMb := hid (HMb.out.below hb)
  have HLI := hid (HLI.out.keep (Keeps.of_below hb (fun _ h => h)) |>.mono fun _ h _ => Nat.lt_of_lt_of_le h hb.size)
  have HBW := hid (HBW.out.trans (hb.mono HBW.out.size))
  have HXI := hid hr.old
  have HXS := hid hxs
  clear hb hr hxs
  clear xa0 xa1 xa2 xa3 xa4 xal
  obtain ⟨xa0, xa1, xa2, xa3, xa4, xal⟩ := HMa.out.cells
  go_wp2_with fail
  refine (trim_get HFa.out.2 HMa.out.rd).mono ?_
  rintro e W6 ⟨To, tO, Tn, tn, rfl, hb, hr⟩
  obtain ⟨T, hT⟩ : ∃ T, T = build (wholeM a) := ⟨_, rfl⟩
  rw [← hT] at hr ⊢
  have HSMT := hid (show SameP a T by rw [hT]; exact trim_same HFa.out.2)
  have HMa := hid (HMa.out.below hb)
  have HMb := hid (HMb.out.below hb)
  have HLI := hid (HLI.out.keep (Keeps.of_below hb (fun _ h => h)) |>.mono fun _ h _ => Nat.lt_of_lt_of_le h hb.size)
  have HXI := hid (HXI.out.keep (Keeps.of_below hb (fun _ h => h)) |>.mono fun _ h _ => Nat.lt_of_lt_of_le h hb.size)
  have HBW := hid (HBW.out.trans (hb.mono HBW.out.size))
  have HTB := hid (HasM.new hr)
  clear hb hr hT
  clear xa0 xa1 xa2 xa3 xa4 xal
  go_upto_region 7 with (fail)
  refine wp_gen fun W7 hW7 => ?_
  have hb : Below W6.heap.size W6 W7 := by rw [hW7]; go_grown
  have HTB := hid (show HasM W7 W6.heap.size _ T by rw [hW7]; exact HTB.out)
  have HMa := hid (HMa.out.below hb)
  have HMb := hid (HMb.out.below hb)
  have HLI := hid (HLI.out.keep (Keeps.of_below hb (fun _ h => h)) |>.mono fun _ h _ => Nat.lt_of_lt_of_le h hb.size)
  have HXI := hid (HXI.out.keep (Keeps.of_below hb (fun _ h => h)) |>.mono fun _ h _ => Nat.lt_of_lt_of_le h hb.size)
  have HBW := hid (HBW.out.trans (hb.mono HBW.out.size))
  clear hb hW7
  obtain ⟨xa0, xa1, xa2, xa3, xa4, xal⟩ := HMa.out.cells
  go_wp2_with fail
  refine (least_get HFa.out.2 HMa.out.rd).mono ?_
  rintro e W8 ⟨X, Xo, xo, Xn, xn, rfl, hb, hr, hl⟩
  have HMa := hid (HMa.out.below hb)
  have HMb := hid (HMb.out.below hb)
  have HTB := hid (HTB.out.below hb)
  have HLI := hid (HLI.out.keep (Keeps.of_below hb (fun _ h => h)) |>.mono fun _ h _ => Nat.lt_of_lt_of_le h hb.size)
  have HXI := hid (HXI.out.keep (Keeps.of_below hb (fun _ h => h)) |>.mono fun _ h _ => Nat.lt_of_lt_of_le h hb.size)
  have HBW := hid (HBW.out.trans (hb.mono HBW.out.size))
  have HX := hid (HasM.new hr)
  have HSMX := hid (quo_same HFa.out.2 hl)
  clear hb hr hl
  clear xa0 xa1 xa2 xa3 xa4 xal
  go_upto_region 8 with (fail)
  refine wp_gen fun W9 hW9 => ?_
  have hb : Below W8.heap.size W8 W9 := by rw [hW9]; go_grown
  have HX := hid (show HasM W9 W8.heap.size _ X by rw [hW9]; exact HX.out)
  have HMa := hid (HMa.out.below hb)
  have HMb := hid (HMb.out.below hb)
  have HTB := hid (HTB.out.below hb)
  have HLI := hid (HLI.out.keep (Keeps.of_below hb (fun _ h => h)) |>.mono fun _ h _ => Nat.lt_of_lt_of_le h hb.size)
  have HXI := hid (HXI.out.keep (Keeps.of_below hb (fun _ h => h)) |>.mono fun _ h _ => Nat.lt_of_lt_of_le h hb.size)
  have HBW := hid (HBW.out.trans (hb.mono HBW.out.size))
  clear hb hW9
  obtain ⟨p0, p1, p2, p3, p4, pl⟩ := HTB.out.cells
  have hbT : belowB T.ins l = true := by rw [← HSMT.out.2.2.1]; exact HBL.out
  go_wp2_with fail
  refine (run_get HSMT.out.2.1 HTB.out.rd HLI.out hbT (by omega)).mono ?_
  rintro e W10 ⟨AY, cAY, ys, zAY, rfl, hb, hr, hys⟩
  have HMa := hid (HMa.out.below hb)
  have HMb := hid (HMb.out.below hb)
  have HTB := hid (HTB.out.below hb)
  have HX := hid (HX.out.below hb)
  have HLI := hid (HLI.out.keep (Keeps.of_below hb (fun _ h => h)) |>.mono fun _ h _ => Nat.lt_of_lt_of_le h hb.size)
  have HXI := hid (HXI.out.keep (Keeps.of_below hb (fun _ h => h)) |>.mono fun _ h _ => Nat.lt_of_lt_of_le h hb.size)
  have HBW := hid (HBW.out.trans (hb.mono HBW.out.size))
  obtain rfl : ys = xs := by rw [hys, HXS.out]; exact (sim_run HSMT.out.2.2.2.2 (below_lt HBL.out) (Nat.le_refl _)).symm
  have HYI := hid hr.old
  clear hb hr hys hbT
  clear p0 p1 p2 p3 p4 pl
  obtain ⟨q0, q1, q2, q3, q4, ql⟩ := HX.out.cells
  have hbX : belowB X.ins l = true := by rw [← HSMX.out.2.2.1]; exact HBL.out
  go_wp2_with fail
  refine (run_get HSMX.out.2.1 HX.out.rd HLI.out hbX (by omega)).mono ?_
  rintro e W11 ⟨AZ, cAZ, zs, zAZ, rfl, hb, hr, hzs⟩
  have HMa := hid (HMa.out.below hb)
  have HMb := hid (HMb.out.below hb)
  have HTB := hid (HTB.out.below hb)
  have HX := hid (HX.out.below hb)
  have HLI := hid (HLI.out.keep (Keeps.of_below hb (fun _ h => h)) |>.mono fun _ h _ => Nat.lt_of_lt_of_le h hb.size)
  have HXI := hid (HXI.out.keep (Keeps.of_below hb (fun _ h => h)) |>.mono fun _ h _ => Nat.lt_of_lt_of_le h hb.size)
  have HYI := hid (HYI.out.keep (Keeps.of_below hb (fun _ h => h)) |>.mono fun _ h _ => Nat.lt_of_lt_of_le h hb.size)
  have HBW := hid (HBW.out.trans (hb.mono HBW.out.size))
  obtain rfl : zs = ys := by rw [hzs, HXS.out]; exact (sim_run HSMX.out.2.2.2.2 (below_lt HBL.out) (Nat.le_refl _)).symm
  have HZI := hid hr.old
  clear hb hr hzs hbX
  clear q0 q1 q2 q3 q4 ql
  have hzl2 : ((zs.length : Int) != (l.length : Int)) = false := by
    have hzl : zs.length = l.length := by rw [HXS.out, mOuts_len]
    simp [hzl]
  go_wp2_with fail
  refine (ints_same W11 zs _ _ _ _ HXI.out HYI.out).mono ?_
  rintro e W12 ⟨rfl, hd⟩
  have hb := hd.below W11.heap.size
  have HMa := hid (HMa.out.below hb)
  have HMb := hid (HMb.out.below hb)
  have HTB := hid (HTB.out.below hb)
  have HX := hid (HX.out.below hb)
  have HLI := hid (HLI.out.keep (Keeps.of_below hb (fun _ h => h)) |>.mono fun _ h _ => Nat.lt_of_lt_of_le h hb.size)
  have HXI := hid (HXI.out.keep (Keeps.of_below hb (fun _ h => h)) |>.mono fun _ h _ => Nat.lt_of_lt_of_le h hb.size)
  have HYI := hid (HYI.out.keep (Keeps.of_below hb (fun _ h => h)) |>.mono fun _ h _ => Nat.lt_of_lt_of_le h hb.size)
  have HZI := hid (HZI.out.keep (Keeps.of_below hb (fun _ h => h)) |>.mono fun _ h _ => Nat.lt_of_lt_of_le h hb.size)
  have HBW := hid (HBW.out.trans (hb.mono HBW.out.size))
  clear hd hb
  go_wp2_with fail
  refine (ints_same W12 zs _ _ _ _ HXI.out HZI.out).mono ?_
  rintro e W13 ⟨rfl, hd⟩
  have hb := hd.below W12.heap.size
  have HMa := hid (HMa.out.below hb)
  have HMb := hid (HMb.out.below hb)
  have HTB := hid (HTB.out.below hb)
  have HX := hid (HX.out.below hb)
  have HLI := hid (HLI.out.keep (Keeps.of_below hb (fun _ h => h)) |>.mono fun _ h _ => Nat.lt_of_lt_of_le h hb.size)
  have HXI := hid (HXI.out.keep (Keeps.of_below hb (fun _ h => h)) |>.mono fun _ h _ => Nat.lt_of_lt_of_le h hb.size)
  have HYI := hid (HYI.out.keep (Keeps.of_below hb (fun _ h => h)) |>.mono fun _ h _ => Nat.lt_of_lt_of_le h hb.size)
  have HZI := hid (HZI.out.keep (Keeps.of_below hb (fun _ h => h)) |>.mono fun _ h _ => Nat.lt_of_lt_of_le h hb.size)
  have HBW := hid (HBW.out.trans (hb.mono HBW.out.size))
  clear hd hb
  obtain ⟨xa0, xa1, xa2, xa3, xa4, xal⟩ := HMa.out.cells
  obtain ⟨p0, p1, p2, p3, p4, pl⟩ := HTB.out.cells
  go_wp2_with fail
  refine (same_yes HSMT.out _ _ W13 HMa.out.rd HTB.out.rd).mono ?_
  rintro e W14 ⟨rfl, hb⟩
  have HMa := hid (HMa.out.below hb)
  have HMb := hid (HMb.out.below hb)
  have HTB := hid (HTB.out.below hb)
  have HX := hid (HX.out.below hb)
  have HLI := hid (HLI.out.keep (Keeps.of_below hb (fun _ h => h)) |>.mono fun _ h _ => Nat.lt_of_lt_of_le h hb.size)
  have HXI := hid (HXI.out.keep (Keeps.of_below hb (fun _ h => h)) |>.mono fun _ h _ => Nat.lt_of_lt_of_le h hb.size)
  have HYI := hid (HYI.out.keep (Keeps.of_below hb (fun _ h => h)) |>.mono fun _ h _ => Nat.lt_of_lt_of_le h hb.size)
  have HZI := hid (HZI.out.keep (Keeps.of_below hb (fun _ h => h)) |>.mono fun _ h _ => Nat.lt_of_lt_of_le h hb.size)
  have HBW := hid (HBW.out.trans (hb.mono HBW.out.size))
  clear hb
  clear xa0 xa1 xa2 xa3 xa4 xal p0 p1 p2 p3 p4 pl
  obtain ⟨xa0, xa1, xa2, xa3, xa4, xal⟩ := HMa.out.cells
  obtain ⟨q0, q1, q2, q3, q4, ql⟩ := HX.out.cells
  go_wp2_with fail
  refine (same_yes HSMX.out _ _ W14 HMa.out.rd HX.out.rd).mono ?_
  rintro e W15 ⟨rfl, hb⟩
  have HMa := hid (HMa.out.below hb)
  have HMb := hid (HMb.out.below hb)
  have HTB := hid (HTB.out.below hb)
  have HX := hid (HX.out.below hb)
  have HLI := hid (HLI.out.keep (Keeps.of_below hb (fun _ h => h)) |>.mono fun _ h _ => Nat.lt_of_lt_of_le h hb.size)
  have HXI := hid (HXI.out.keep (Keeps.of_below hb (fun _ h => h)) |>.mono fun _ h _ => Nat.lt_of_lt_of_le h hb.size)
  have HYI := hid (HYI.out.keep (Keeps.of_below hb (fun _ h => h)) |>.mono fun _ h _ => Nat.lt_of_lt_of_le h hb.size)
  have HZI := hid (HZI.out.keep (Keeps.of_below hb (fun _ h => h)) |>.mono fun _ h _ => Nat.lt_of_lt_of_le h hb.size)
  have HBW := hid (HBW.out.trans (hb.mono HBW.out.size))
  clear hb
  clear xa0 xa1 xa2 xa3 xa4 xal q0 q1 q2 q3 q4 ql
  obtain ⟨xa0, xa1, xa2, xa3, xa4, xal⟩ := HMa.out.cells
  go_wp2_with fail
  refine (same_yes (same_refl HFa.out.2) _ _ W15 HMa.out.rd HMa.out.rd).mono ?_
  rintro e W16 ⟨rfl, hb⟩
  have HMa := hid (HMa.out.below hb)
  have HMb := hid (HMb.out.below hb)
  have HTB := hid (HTB.out.below hb)
  have HX := hid (HX.out.below hb)
  have HLI := hid (HLI.out.keep (Keeps.of_below hb (fun _ h => h)) |>.mono fun _ h _ => Nat.lt_of_lt_of_le h hb.size)
  have HXI := hid (HXI.out.keep (Keeps.of_below hb (fun _ h => h)) |>.mono fun _ h _ => Nat.lt_of_lt_of_le h hb.size)
  have HYI := hid (HYI.out.keep (Keeps.of_below hb (fun _ h => h)) |>.mono fun _ h _ => Nat.lt_of_lt_of_le h hb.size)
  have HZI := hid (HZI.out.keep (Keeps.of_below hb (fun _ h => h)) |>.mono fun _ h _ => Nat.lt_of_lt_of_le h hb.size)
  have HBW := hid (HBW.out.trans (hb.mono HBW.out.size))
  clear hb
  clear xa0 xa1 xa2 xa3 xa4 xal
  obtain ⟨r, hr⟩ := bool_iff (SameP a b)
  have HR := hid hr
  have HR2 := hid (hr.trans ⟨same_symm, same_symm⟩ : r = true ↔ SameP b a)
  clear hr
  obtain ⟨xa0, xa1, xa2, xa3, xa4, xal⟩ := HMa.out.cells
  obtain ⟨xb0, xb1, xb2, xb3, xb4, xbl⟩ := HMb.out.cells
  go_wp2_with fail
  refine (same_get HR.out HMa.out.rd HMb.out.rd).mono ?_
  rintro e W17 ⟨rfl, hb⟩
  have HMa := hid (HMa.out.below hb)
  have HMb := hid (HMb.out.below hb)
  have HTB := hid (HTB.out.below hb)
  have HX := hid (HX.out.below hb)
  have HLI := hid (HLI.out.keep (Keeps.of_below hb (fun _ h => h)) |>.mono fun _ h _ => Nat.lt_of_lt_of_le h hb.size)
  have HXI := hid (HXI.out.keep (Keeps.of_below hb (fun _ h => h)) |>.mono fun _ h _ => Nat.lt_of_lt_of_le h hb.size)
  have HYI := hid (HYI.out.keep (Keeps.of_below hb (fun _ h => h)) |>.mono fun _ h _ => Nat.lt_of_lt_of_le h hb.size)
  have HZI := hid (HZI.out.keep (Keeps.of_below hb (fun _ h => h)) |>.mono fun _ h _ => Nat.lt_of_lt_of_le h hb.size)
  have HBW := hid (HBW.out.trans (hb.mono HBW.out.size))
  clear hb
  clear xa0 xa1 xa2 xa3 xa4 xal xb0 xb1 xb2 xb3 xb4 xbl
  obtain ⟨xa0, xa1, xa2, xa3, xa4, xal⟩ := HMa.out.cells
  obtain ⟨xb0, xb1, xb2, xb3, xb4, xbl⟩ := HMb.out.cells
  go_wp2_with fail
  refine (same_get HR2.out HMb.out.rd HMa.out.rd).mono ?_
  rintro e W18 ⟨rfl, hb⟩
  have HMa := hid (HMa.out.below hb)
  have HMb := hid (HMb.out.below hb)
  have HTB := hid (HTB.out.below hb)
  have HX := hid (HX.out.below hb)
  have HLI := hid (HLI.out.keep (Keeps.of_below hb (fun _ h => h)) |>.mono fun _ h _ => Nat.lt_of_lt_of_le h hb.size)
  have HXI := hid (HXI.out.keep (Keeps.of_below hb (fun _ h => h)) |>.mono fun _ h _ => Nat.lt_of_lt_of_le h hb.size)
  have HYI := hid (HYI.out.keep (Keeps.of_below hb (fun _ h => h)) |>.mono fun _ h _ => Nat.lt_of_lt_of_le h hb.size)
  have HZI := hid (HZI.out.keep (Keeps.of_below hb (fun _ h => h)) |>.mono fun _ h _ => Nat.lt_of_lt_of_le h hb.size)
  have HBW := hid (HBW.out.trans (hb.mono HBW.out.size))
  clear hb
  clear xa0 xa1 xa2 xa3 xa4 xal xb0 xb1 xb2 xb3 xb4 xbl
  have hrr : (r != r) = false := by simp
  cases r
  · go_wp2_with fail
    go_ret
    exact ⟨rfl, HBW.out⟩
  have hP := HR.out.1 rfl
  have HP := hid hP
  have hei : (a.ins == b.ins) = true := beq_iff_eq.2 hP.2.2.1
  have heo : (a.outs == b.outs) = true := beq_iff_eq.2 hP.2.2.2.1
  clear hP
  obtain ⟨xb0, xb1, xb2, xb3, xb4, xbl⟩ := HMb.out.cells
  have hbB : belowB b.ins l = true := by rw [← HP.out.2.2.1]; exact HBL.out
  go_wp2_with fail
  refine (run_get HFb.out.2 HMb.out.rd HLI.out hbB (by omega)).mono ?_
  rintro e W19 ⟨AW, cAW, ws, zAW, rfl, hb, hr, hws⟩
  have HMa := hid (HMa.out.below hb)
  have HMb := hid (HMb.out.below hb)
  have HTB := hid (HTB.out.below hb)
  have HX := hid (HX.out.below hb)
  have HLI := hid (HLI.out.keep (Keeps.of_below hb (fun _ h => h)) |>.mono fun _ h _ => Nat.lt_of_lt_of_le h hb.size)
  have HXI := hid (HXI.out.keep (Keeps.of_below hb (fun _ h => h)) |>.mono fun _ h _ => Nat.lt_of_lt_of_le h hb.size)
  have HYI := hid (HYI.out.keep (Keeps.of_below hb (fun _ h => h)) |>.mono fun _ h _ => Nat.lt_of_lt_of_le h hb.size)
  have HZI := hid (HZI.out.keep (Keeps.of_below hb (fun _ h => h)) |>.mono fun _ h _ => Nat.lt_of_lt_of_le h hb.size)
  have HBW := hid (HBW.out.trans (hb.mono HBW.out.size))
  obtain rfl : ws = zs := by rw [hws, HXS.out]; exact (sim_run HP.out.2.2.2.2 (below_lt HBL.out) (Nat.le_refl _)).symm
  have HWI := hid hr.old
  clear hb hr hws hbB
  clear xb0 xb1 xb2 xb3 xb4 xbl
  obtain ⟨xa0, xa1, xa2, xa3, xa4, xal⟩ := HMa.out.cells
  obtain ⟨xb0, xb1, xb2, xb3, xb4, xbl⟩ := HMb.out.cells
  go_wp2_with fail
  refine (ints_same W19 ws _ _ _ _ HXI.out HWI.out).mono ?_
  rintro e W20 ⟨rfl, hd⟩
  have HB := hid (HBW.out.trans ((hd.below W19.heap.size).mono HBW.out.size))
  clear hd
  go_wp2_with fail
  go_ret
  exact ⟨rfl, HB.out⟩
end Go.Proofs.Ytcmhginhfhiolaa
