/-
  Walk of the law on least controllers.
-/
import Derived.Test.YtcmhginhfhiolaaZ35
set_option linter.unusedVariables false
set_option linter.unusedSimpArgs false
namespace Go.Proofs.Ytcmhginhfhiolaa
open Go.RowKit
attribute [local go_sem] cell_alloc_old

set_option maxRecDepth 100000 in
set_option maxHeartbeats 8000000 in
theorem law3_any {Da Db : Dom} (w : World) (va vb : Value) (a b : Mly) (ha : RdM w Da va a) (hb : RdM w Db vb b) :
    Calls Try.prog 5 #[va, vb] w fun e w' => e = .returned (.bool true) ∧ Below w.heap.size w w' := by
  have HVa := hid ha.old
  have HVb := hid hb.old
  obtain ⟨Ao, co, An, cn, rfl, ho, hn⟩ := ha
  clear ho hn
  obtain ⟨Bo, dO, Bn, dn, rfl, ho, hn⟩ := hb
  clear ho hn
  go_enter Try.func5, Try.ntmps5
  go_upto_region 1 with (fail)
  refine wp_gen fun W hW => ?_
  have hb : Below w.heap.size w W := by rw [hW]; go_grown
  have HMa := hid (show HasM W (w.heap.size) _ a from ⟨by rw [hW]; (repeat (first | (refine at_new _ _ _ ?_; (simp only [World.size_alloc]; done)) | (refine (at_old _ _ _ ?_).trans ?_; (simp only [World.size_alloc]; omega)))), (HVa.out.keep (Keeps.of_below hb (fun _ h => h))).mono fun _ h _ => Nat.lt_of_lt_of_le h hb.size⟩)
  have HMb := hid (show HasM W (w.heap.size + 1) _ b from ⟨by rw [hW]; (repeat (first | (refine at_new _ _ _ ?_; (simp only [World.size_alloc]; done)) | (refine (at_old _ _ _ ?_).trans ?_; (simp only [World.size_alloc]; omega)))), (HVb.out.keep (Keeps.of_below hb (fun _ h => h))).mono fun _ h _ => Nat.lt_of_lt_of_le h hb.size⟩)
  have HBW := hid hb
  clear hW hb
  go_wp2_with fail
  refine (head_any W).mono ?_
  rintro e W1 ⟨rfl, hb⟩
  have HMa := hid (HMa.out.below hb)
  have HMb := hid (HMb.out.below hb)
  have HBW := hid (HBW.out.trans (hb.mono HBW.out.size))
  clear hb
  obtain ⟨xa0, xa1, xa2, xa3, xa4, xal⟩ := HMa.out.cells
  go_wp2_with fail
  refine (fine_any _ a W1 HMa.out.rd).mono ?_
  rintro e W2 ⟨rfl, hb⟩
  have HMa := hid (HMa.out.below hb)
  have HMb := hid (HMb.out.below hb)
  have HBW := hid (HBW.out.trans (hb.mono HBW.out.size))
  clear hb
  clear xa0 xa1 xa2 xa3 xa4 xal
  cases hfa : smallB a && mealyB a
  · go_wp2_with fail
    go_ret
    exact ⟨rfl, HBW.out⟩
  rw [Bool.and_eq_true] at hfa
  have HFa := hid hfa
  have hsma := small_sizes hfa.1
  clear hfa
  obtain ⟨xb0, xb1, xb2, xb3, xb4, xbl⟩ := HMb.out.cells
  go_wp2_with fail
  refine (fine_any _ b W2 HMb.out.rd).mono ?_
  rintro e W3 ⟨rfl, hb⟩
  have HMa := hid (HMa.out.below hb)
  have HMb := hid (HMb.out.below hb)
  have HBW := hid (HBW.out.trans (hb.mono HBW.out.size))
  clear hb
  clear xb0 xb1 xb2 xb3 xb4 xbl
  cases hfb : smallB b && mealyB b
  · go_wp2_with fail
    go_ret
    exact ⟨rfl, HBW.out⟩
  rw [Bool.and_eq_true] at hfb
  have HFb := hid hfb
  have hsmb := small_sizes hfb.1
  clear hfb
  obtain ⟨xa0, xa1, xa2, xa3, xa4, xal⟩ := HMa.out.cells
  go_wp2_with fail
  refine (least_get HFa.out.2 HMa.out.rd).mono ?_
  rintro e W4 ⟨X, Xo, xo, Xn, xn, rfl, hb, hr, hl⟩
  have HMa := hid (HMa.out.below hb)
  have HMb := hid (HMb.out.below hb)
  have HBW := hid (HBW.out.trans (hb.mono HBW.out.size))
  have HX := hid (HasM.new hr)
  have HLX := hid hl
  clear hb hr hl
  clear xa0 xa1 xa2 xa3 xa4 xal
  go_upto_region 5 with (fail)
  refine wp_gen fun W5 hW5 => ?_
  have hb : Below W4.heap.size W4 W5 := by rw [hW5]; go_grown
  have HX := hid (show HasM W5 W4.heap.size _ X by rw [hW5]; exact HX.out)
  have HMa := hid (HMa.out.below hb)
  have HMb := hid (HMb.out.below hb)
  have HBW := hid (HBW.out.trans (hb.mono HBW.out.size))
  clear hb hW5
  obtain ⟨xb0, xb1, xb2, xb3, xb4, xbl⟩ := HMb.out.cells
  go_wp2_with fail
  refine (least_get HFb.out.2 HMb.out.rd).mono ?_
  rintro e W6 ⟨Y, Yo, yo, Yn, yn, rfl, hb, hr, hl⟩
  have HMa := hid (HMa.out.below hb)
  have HMb := hid (HMb.out.below hb)
  have HX := hid (HX.out.below hb)
  have HBW := hid (HBW.out.trans (hb.mono HBW.out.size))
  have HZ := hid (HasM.new hr)
  have HLY := hid hl
  clear hb hr hl
  clear xb0 xb1 xb2 xb3 xb4 xbl
  go_upto_region 6 with (fail)
  refine wp_gen fun W7 hW7 => ?_
  have hb : Below W6.heap.size W6 W7 := by rw [hW7]; go_grown
  have HZ := hid (show HasM W7 W6.heap.size _ Y by rw [hW7]; exact HZ.out)
  have HMa := hid (HMa.out.below hb)
  have HMb := hid (HMb.out.below hb)
  have HX := hid (HX.out.below hb)
  have HBW := hid (HBW.out.trans (hb.mono HBW.out.size))
  clear hb hW7
  obtain ⟨r, hr⟩ := bool_iff (SameP a b)
  have hr2 : r = true ↔ X = Y := hr.trans (least_same HFa.out.2 HFb.out.2 HLX.out HLY.out)
  have hla : X.out.length ≤ a.out.length := by
    have h1 := (quo_shape (sized_of HFa.out.2) HLX.out).2.2.2.1
    have h2 := ord_len (care_ok (sized_of HFa.out.2) (everyZ a true a.out.length))
    exact Nat.le_trans h1 h2
  have hlb : r = true → X.out.length ≤ b.out.length := fun h => by
    rw [hr2.1 h]
    have h1 := (quo_shape (sized_of HFb.out.2) HLY.out).2.2.2.1
    have h2 := ord_len (care_ok (sized_of HFb.out.2) (everyZ b true b.out.length))
    exact Nat.le_trans h1 h2
  have HC1 : Hid (∀ W' : World, Below W7.heap.size W7 W' → Calls Try.prog 16 #[.agg #[.int .i64 a.ins, .int .i64 a.outs, .int .i64 a.start, .slice Ao a.out.length co, .slice An a.next.length cn], .agg #[.int .i64 b.ins, .int .i64 b.outs, .int .i64 b.start, .slice Bo b.out.length dO, .slice Bn b.next.length dn]] W' fun e W'' => e = .returned (.bool r) ∧ Below W7.heap.size W7 W'') := hid fun W' hb =>
    (same_get hr (HMa.out.below hb).rd (HMb.out.below hb).rd).mono fun e W'' ⟨h1, h2⟩ => ⟨h1, hb.trans (h2.mono hb.size)⟩
  have HC2 : Hid (∀ W' : World, Below W7.heap.size W7 W' → Calls Try.prog 13 #[.agg #[.int .i64 X.ins, .int .i64 X.outs, .int .i64 X.start, .slice Xo X.out.length xo, .slice Xn X.next.length xn], .agg #[.int .i64 Y.ins, .int .i64 Y.outs, .int .i64 Y.start, .slice Yo Y.out.length yo, .slice Yn Y.next.length yn]] W' fun e W'' => e = .returned (.bool r) ∧ Below W7.heap.size W7 W'' ∧ Below W'.heap.size W' W'') := hid fun W' hb =>
    (equal_get hr2 (HX.out.below hb).rd (HZ.out.below hb).rd).mono fun e W'' ⟨h1, h2⟩ => ⟨h1, hb.trans (h2.mono hb.size), h2⟩
  clear hr hr2
  obtain ⟨xa0, xa1, xa2, xa3, xa4, xal⟩ := HMa.out.cells
  obtain ⟨xb0, xb1, xb2, xb3, xb4, xbl⟩ := HMb.out.cells
  obtain ⟨p0, p1, p2, p3, p4, pl⟩ := HX.out.cells
  obtain ⟨q0, q1, q2, q3, q4, ql⟩ := HZ.out.cells
  have HSK : Hid (∀ W' : World, Below W7.heap.size W7 W' → W'.cell? ⟨w.heap.size, 0, none⟩ = some (.int .i64 a.ins) ∧ W'.cell? ⟨w.heap.size, 1, none⟩ = some (.int .i64 a.outs) ∧ W'.cell? ⟨w.heap.size, 2, none⟩ = some (.int .i64 a.start) ∧ W'.cell? ⟨w.heap.size, 3, none⟩ = some (.slice Ao a.out.length co) ∧ W'.cell? ⟨w.heap.size, 4, none⟩ = some (.slice An a.next.length cn) ∧ W'.cell? ⟨(w.heap.size + 1), 0, none⟩ = some (.int .i64 b.ins) ∧ W'.cell? ⟨(w.heap.size + 1), 1, none⟩ = some (.int .i64 b.outs) ∧ W'.cell? ⟨(w.heap.size + 1), 2, none⟩ = some (.int .i64 b.start) ∧ W'.cell? ⟨(w.heap.size + 1), 3, none⟩ = some (.slice Bo b.out.length dO) ∧ W'.cell? ⟨(w.heap.size + 1), 4, none⟩ = some (.slice Bn b.next.length dn) ∧ W'.cell? ⟨W4.heap.size, 0, none⟩ = some (.int .i64 X.ins) ∧ W'.cell? ⟨W4.heap.size, 1, none⟩ = some (.int .i64 X.outs) ∧ W'.cell? ⟨W4.heap.size, 2, none⟩ = some (.int .i64 X.start) ∧ W'.cell? ⟨W4.heap.size, 3, none⟩ = some (.slice Xo X.out.length xo) ∧ W'.cell? ⟨W4.heap.size, 4, none⟩ = some (.slice Xn X.next.length xn) ∧ W'.cell? ⟨W6.heap.size, 0, none⟩ = some (.int .i64 Y.ins) ∧ W'.cell? ⟨W6.heap.size, 1, none⟩ = some (.int .i64 Y.outs) ∧ W'.cell? ⟨W6.heap.size, 2, none⟩ = some (.int .i64 Y.start) ∧ W'.cell? ⟨W6.heap.size, 3, none⟩ = some (.slice Yo Y.out.length yo) ∧ W'.cell? ⟨W6.heap.size, 4, none⟩ = some (.slice Yn Y.next.length yn)) := hid fun W' hb => by
    obtain ⟨xa0, xa1, xa2, xa3, xa4, xal⟩ := (HMa.out.below hb).cells
    obtain ⟨xb0, xb1, xb2, xb3, xb4, xbl⟩ := (HMb.out.below hb).cells
    obtain ⟨p0, p1, p2, p3, p4, pl⟩ := (HX.out.below hb).cells
    obtain ⟨q0, q1, q2, q3, q4, ql⟩ := (HZ.out.below hb).cells
    exact ⟨xa0, xa1, xa2, xa3, xa4, xb0, xb1, xb2, xb3, xb4, p0, p1, p2, p3, p4, q0, q1, q2, q3, q4⟩
  have HI1 := hid (show Below W7.heap.size W7 W7.drew from (Below.refl _ _).drew)
  have HI2 := hid (show ∀ i, Below W7.heap.size W7 (W7.drewN i) from fun i => (Drawn.n W7 i).below _)
  go_region_held3 (fun W' => W'.cell? ⟨w.heap.size, 0, none⟩ = some (.int .i64 a.ins) ∧ W'.cell? ⟨w.heap.size, 1, none⟩ = some (.int .i64 a.outs) ∧ W'.cell? ⟨w.heap.size, 2, none⟩ = some (.int .i64 a.start) ∧ W'.cell? ⟨w.heap.size, 3, none⟩ = some (.slice Ao a.out.length co) ∧ W'.cell? ⟨w.heap.size, 4, none⟩ = some (.slice An a.next.length cn) ∧ W'.cell? ⟨(w.heap.size + 1), 0, none⟩ = some (.int .i64 b.ins) ∧ W'.cell? ⟨(w.heap.size + 1), 1, none⟩ = some (.int .i64 b.outs) ∧ W'.cell? ⟨(w.heap.size + 1), 2, none⟩ = some (.int .i64 b.start) ∧ W'.cell? ⟨(w.heap.size + 1), 3, none⟩ = some (.slice Bo b.out.length dO) ∧ W'.cell? ⟨(w.heap.size + 1), 4, none⟩ = some (.slice Bn b.next.length dn) ∧ W'.cell? ⟨W4.heap.size, 0, none⟩ = some (.int .i64 X.ins) ∧ W'.cell? ⟨W4.heap.size, 1, none⟩ = some (.int .i64 X.outs) ∧ W'.cell? ⟨W4.heap.size, 2, none⟩ = some (.int .i64 X.start) ∧ W'.cell? ⟨W4.heap.size, 3, none⟩ = some (.slice Xo X.out.length xo) ∧ W'.cell? ⟨W4.heap.size, 4, none⟩ = some (.slice Xn X.next.length xn) ∧ W'.cell? ⟨W6.heap.size, 0, none⟩ = some (.int .i64 Y.ins) ∧ W'.cell? ⟨W6.heap.size, 1, none⟩ = some (.int .i64 Y.outs) ∧ W'.cell? ⟨W6.heap.size, 2, none⟩ = some (.int .i64 Y.start) ∧ W'.cell? ⟨W6.heap.size, 3, none⟩ = some (.slice Yo Y.out.length yo) ∧ W'.cell? ⟨W6.heap.size, 4, none⟩ = some (.slice Yn Y.next.length yn))
    (first
      | (with_reducible exact HSK.out _ hI)
      | (go_keep; done))
    (first
      | (go_at_call 16; refine (HC1.out _ (by first | exact hI | exact HI1.out | exact HI2.out _)).mono ?_; rintro e W8 ⟨rfl, hI⟩)
      | (go_at_call 13; refine (HC2.out _ (by first | exact hI | exact HI1.out | exact HI2.out _)).mono ?_; rintro e W9 ⟨rfl, hI, -⟩))
  all_goals
    have HMa := hid (HMa.out.below hI)
    have HMb := hid (HMb.out.below hI)
    have HX := hid (HX.out.below hI)
    have HZ := hid (HZ.out.below hI)
    have HBW := hid (HBW.out.trans (hI.mono HBW.out.size))
    have HI9 := hid hI
    clear hI
    clear xa0 xa1 xa2 xa3 xa4 xal xb0 xb1 xb2 xb3 xb4 xbl p0 p1 p2 p3 p4 pl q0 q1 q2 q3 q4 ql
    obtain ⟨xa0, xa1, xa2, xa3, xa4, xal⟩ := HMa.out.cells
    obtain ⟨xb0, xb1, xb2, xb3, xb4, xbl⟩ := HMb.out.cells
    obtain ⟨p0, p1, p2, p3, p4, pl⟩ := HX.out.cells
    obtain ⟨q0, q1, q2, q3, q4, ql⟩ := HZ.out.cells
    have hne : (r != r) = false := by simp
    have hle : ((X.out.length : Int) ≤ (a.out.length : Int)) := by omega
    go_wp2_with fail
    refine (HC2.out _ HI9.out).mono ?_
    rintro e W10 ⟨rfl, -, hb⟩
    clear xa0 xa1 xa2 xa3 xa4 xal xb0 xb1 xb2 xb3 xb4 xbl p0 p1 p2 p3 p4 pl q0 q1 q2 q3 q4 ql
    have HMa := hid (HMa.out.below hb)
    have HMb := hid (HMb.out.below hb)
    have HX := hid (HX.out.below hb)
    have HZ := hid (HZ.out.below hb)
    have HBW := hid (HBW.out.trans (hb.mono HBW.out.size))
    clear hb
    obtain ⟨xa0, xa1, xa2, xa3, xa4, xal⟩ := HMa.out.cells
    obtain ⟨xb0, xb1, xb2, xb3, xb4, xbl⟩ := HMb.out.cells
    obtain ⟨p0, p1, p2, p3, p4, pl⟩ := HX.out.cells
    obtain ⟨q0, q1, q2, q3, q4, ql⟩ := HZ.out.cells
    cases r
    · go_wp2_with fail
      go_ret
      exact ⟨rfl, HBW.out⟩
    · have hle2 : ((X.out.length : Int) ≤ (b.out.length : Int)) := by have := hlb rfl; omega
      go_wp2_with fail
      go_ret
      exact ⟨ret_bool (by simp [hle2]), HBW.out⟩
end Go.Proofs.Ytcmhginhfhiolaa
