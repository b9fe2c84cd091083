/-
  Walk of the law that all is as the reference says.
-/
import Derived.Test.YtcmhginhfhiolaaZ35
set_option linter.unusedVariables false
set_option linter.unusedSimpArgs false
namespace Go.Proofs.Ytcmhginhfhiolaa
open Go.RowKit
attribute [local go_sem] cell_alloc_old

theorem looseIs_one {m : Mly} {care : List (List Bool)} {ok : Bool} {X Y : Mly} (hok : ok = true → mealyB m = true) (h : LooseIs m care ok X) (k : LooseIs m care ok Y) : X = Y := by
  cases ok
  · rw [h.2 rfl, k.2 rfl]
  · exact isQuo_one (posM_ok (care_ok (sized_of (hok rfl)) care)) (h.1 rfl) (k.1 rfl)

set_option maxRecDepth 100000 in
set_option maxHeartbeats 8000000 in
theorem law1_any {Da Db Ec : Dom} (w : World) (va vb : Value) (a b : Mly) (A : Option Addr) (c : Nat) (care : List (List Bool)) (ha : RdM w Da va a) (hb : RdM w Db vb b) (hc : RdBB w Ec A c care) :
    Calls Try.prog 3 #[va, vb, .slice A care.length c] w fun e w' => e = .returned (.bool true) ∧ Below w.heap.size w w' := by
  have HVa := hid ha.old
  have HVb := hid hb.old
  have HVC := hid hc.old
  have hcl := hc.len.1
  obtain ⟨Ao, co, An, cn, rfl, ho, hn⟩ := ha
  clear ho hn
  obtain ⟨Bo, dO, Bn, dn, rfl, ho, hn⟩ := hb
  clear ho hn hc
  go_enter Try.func3, Try.ntmps3
  go_upto_region 1 with (fail)
  refine wp_gen fun W hW => ?_
  have hb : Below w.heap.size w W := by rw [hW]; go_grown
  have HMa := hid (show HasM W (w.heap.size) _ a from ⟨by rw [hW]; (repeat (first | (refine at_new _ _ _ ?_; (simp only [World.size_alloc]; done)) | (refine (at_old _ _ _ ?_).trans ?_; (simp only [World.size_alloc]; omega)))), (HVa.out.keep (Keeps.of_below hb (fun _ h => h))).mono fun _ h _ => Nat.lt_of_lt_of_le h hb.size⟩)
  have HMb := hid (show HasM W (w.heap.size + 1) _ b from ⟨by rw [hW]; (repeat (first | (refine at_new _ _ _ ?_; (simp only [World.size_alloc]; done)) | (refine (at_old _ _ _ ?_).trans ?_; (simp only [World.size_alloc]; omega)))), (HVb.out.keep (Keeps.of_below hb (fun _ h => h))).mono fun _ h _ => Nat.lt_of_lt_of_le h hb.size⟩)
  have HCARE := hid ((HVC.out.keep (Keeps.of_below hb (fun _ h => h))).mono fun _ h _ => Nat.lt_of_lt_of_le h hb.size : RdBB W (· < W.heap.size) A c care)
  have HBW := hid hb
  clear hW hb
  go_wp2_with fail
  refine (head_any W).mono ?_
  rintro e W1 ⟨rfl, hb⟩
  have HMa := hid (HMa.out.below hb)
  have HMb := hid (HMb.out.below hb)
  have HCARE := hid (HCARE.out.keep (Keeps.of_below hb (fun _ h => h)) |>.mono fun _ h _ => Nat.lt_of_lt_of_le h hb.size)
  have HBW := hid (HBW.out.trans (hb.mono HBW.out.size))
  clear hb
  obtain ⟨xa0, xa1, xa2, xa3, xa4, xal⟩ := HMa.out.cells
  go_wp2_with fail
  refine (small_any _ a W1 HMa.out.rd).mono ?_
  rintro e W2 ⟨rfl, hb⟩
  have HMa := hid (HMa.out.below hb)
  have HMb := hid (HMb.out.below hb)
  have HCARE := hid (HCARE.out.keep (Keeps.of_below hb (fun _ h => h)) |>.mono fun _ h _ => Nat.lt_of_lt_of_le h hb.size)
  have HBW := hid (HBW.out.trans (hb.mono HBW.out.size))
  clear hb
  clear xa0 xa1 xa2 xa3 xa4 xal
  cases hfa : smallB a
  · go_wp2_with fail
    go_ret
    exact ⟨rfl, HBW.out⟩
  have hsma := small_sizes hfa
  clear hfa
  obtain ⟨xb0, xb1, xb2, xb3, xb4, xbl⟩ := HMb.out.cells
  go_wp2_with fail
  refine (small_any _ b W2 HMb.out.rd).mono ?_
  rintro e W3 ⟨rfl, hb⟩
  have HMa := hid (HMa.out.below hb)
  have HMb := hid (HMb.out.below hb)
  have HCARE := hid (HCARE.out.keep (Keeps.of_below hb (fun _ h => h)) |>.mono fun _ h _ => Nat.lt_of_lt_of_le h hb.size)
  have HBW := hid (HBW.out.trans (hb.mono HBW.out.size))
  clear hb
  clear xb0 xb1 xb2 xb3 xb4 xbl
  cases hfb : smallB b
  · go_wp2_with fail
    go_ret
    exact ⟨rfl, HBW.out⟩
  have hsmb := small_sizes hfb
  clear hfb
  go_wp2_with fail
  refine (smallcare_any _ _ care W3 HCARE.out).mono ?_
  rintro e W4 ⟨rfl, rfl⟩
  cases hfc : smallCareB care
  · go_wp2_with fail
    go_ret
    exact ⟨rfl, HBW.out⟩
  clear hfc
  obtain ⟨r, hr⟩ := bool_iff (SameP a b)
  have HR := hid hr
  have hrr : (r == r) = true := by simp
  clear hr
  go_upto_region 4 with (fail)
  have HT1 : Hid (∀ W' : World, Below W4.heap.size W4 W' → Calls Try.prog 14 #[.agg #[.int .i64 a.ins, .int .i64 a.outs, .int .i64 a.start, .slice Ao a.out.length co, .slice An a.next.length cn]] W' fun e W'' => ∃ u : Value, e = .returned u ∧ Below W4.heap.size W4 W'' ∧ RdM W'' (· < W''.heap.size) u (trimZ a)) := hid fun W' hb => by
    refine (trim_any _ a W' (HMa.out.below hb).rd).mono ?_
    rintro e W'' ⟨u, rfl, h1, h2⟩
    exact ⟨u, rfl, hb.trans (h1.mono hb.size), h2.old⟩
  have HT2 : Hid (∀ (W' : World) (u : Value), Below W4.heap.size W4 W' → RdM W' (· < W'.heap.size) u (trimZ a) → Calls Try.prog 15 #[.agg #[.int .i64 a.ins, .int .i64 a.outs, .int .i64 a.start, .slice Ao a.out.length co, .slice An a.next.length cn]] W' fun e W'' => ∃ u' : Value, e = .returned u' ∧ Below W4.heap.size W4 W'' ∧ RdM W'' (· < W''.heap.size) u (trimZ a) ∧ RdM W'' (· < W''.heap.size) u' (trimZ a)) := hid fun W' u hb hu => by
    refine (rtrim_any _ a W' (HMa.out.below hb).rd (by omega)).mono ?_
    rintro e W'' ⟨u', rfl, h1, h2⟩
    exact ⟨u', rfl, hb.trans (h1.mono hb.size), ((hu.keep (Keeps.of_below h1 fun _ h => h)).mono fun _ h _ => Nat.lt_of_lt_of_le h h1.size), h2.old⟩
  have HS1 : Hid (∀ W' : World, Below W4.heap.size W4 W' → Calls Try.prog 16 #[.agg #[.int .i64 a.ins, .int .i64 a.outs, .int .i64 a.start, .slice Ao a.out.length co, .slice An a.next.length cn], .agg #[.int .i64 b.ins, .int .i64 b.outs, .int .i64 b.start, .slice Bo b.out.length dO, .slice Bn b.next.length dn]] W' fun e W'' => e = .returned (.bool r) ∧ Below W4.heap.size W4 W'') := hid fun W' hb =>
    (same_get HR.out (HMa.out.below hb).rd (HMb.out.below hb).rd).mono fun e W'' ⟨h1, h2⟩ => ⟨h1, hb.trans (h2.mono hb.size)⟩
  have HS2 : Hid (∀ W' : World, Below W4.heap.size W4 W' → Calls Try.prog 17 #[.agg #[.int .i64 a.ins, .int .i64 a.outs, .int .i64 a.start, .slice Ao a.out.length co, .slice An a.next.length cn], .agg #[.int .i64 b.ins, .int .i64 b.outs, .int .i64 b.start, .slice Bo b.out.length dO, .slice Bn b.next.length dn]] W' fun e W'' => e = .returned (.bool r) ∧ Below W4.heap.size W4 W'') := hid fun W' hb =>
    (rsame_get HR.out (HMa.out.below hb).rd (HMb.out.below hb).rd).mono fun e W'' ⟨h1, h2⟩ => ⟨h1, hb.trans (h2.mono hb.size)⟩
  have HL1 : Hid (∀ W' : World, Below W4.heap.size W4 W' → Calls Try.prog 18 #[.agg #[.int .i64 a.ins, .int .i64 a.outs, .int .i64 a.start, .slice Ao a.out.length co, .slice An a.next.length cn]] W' fun e W'' => ∃ (u : Value) (X : Mly), e = .returned u ∧ Below W4.heap.size W4 W'' ∧ RdM W'' (· < W''.heap.size) u X ∧ Hid (LooseIs a (everyZ a true a.out.length) (mealyB a) X)) := hid fun W' hb => by
    refine (least_any _ a W' (HMa.out.below hb).rd).mono ?_
    rintro e W'' ⟨u, X, rfl, h1, h2, h3⟩
    exact ⟨u, X, rfl, hb.trans (h1.mono hb.size), h2.old, hid h3⟩
  have HL2 : Hid (∀ (W' : World) (u : Value) (X : Mly), Below W4.heap.size W4 W' → RdM W' (· < W'.heap.size) u X → Hid (LooseIs a (everyZ a true a.out.length) (mealyB a) X) → Calls Try.prog 19 #[.agg #[.int .i64 a.ins, .int .i64 a.outs, .int .i64 a.start, .slice Ao a.out.length co, .slice An a.next.length cn]] W' fun e W'' => ∃ u' : Value, e = .returned u' ∧ Below W4.heap.size W4 W'' ∧ RdM W'' (· < W''.heap.size) u X ∧ RdM W'' (· < W''.heap.size) u' X) := hid fun W' u X hb hu hX => by
    refine (rleast_any _ a W' (HMa.out.below hb).rd (by omega) (by omega)).mono ?_
    rintro e W'' ⟨u', Y, rfl, h1, h2, h3⟩
    obtain rfl : Y = X := looseIs_one (fun h => by first | exact h | (rw [Bool.and_eq_true] at h; exact h.1)) h3 hX.out
    exact ⟨u', rfl, hb.trans (h1.mono hb.size), ((hu.keep (Keeps.of_below h1 fun _ h => h)).mono fun _ h _ => Nat.lt_of_lt_of_le h h1.size), h2.old⟩
  have HO1 : Hid (∀ W' : World, Below W4.heap.size W4 W' → Calls Try.prog 20 #[.agg #[.int .i64 a.ins, .int .i64 a.outs, .int .i64 a.start, .slice Ao a.out.length co, .slice An a.next.length cn], .slice A care.length c] W' fun e W'' => ∃ (u : Value) (X : Mly), e = .returned u ∧ Below W4.heap.size W4 W'' ∧ RdM W'' (· < W''.heap.size) u X ∧ Hid (LooseIs a care (mealyB a && caresB a care) X)) := hid fun W' hb => by
    refine (loose_any _ a A c care W' (HMa.out.below hb).rd (HCARE.out.keep (Keeps.of_below hb fun _ h => h))).mono ?_
    rintro e W'' ⟨u, X, rfl, h1, h2, h3⟩
    exact ⟨u, X, rfl, hb.trans (h1.mono hb.size), h2.old, hid h3⟩
  have HO2 : Hid (∀ (W' : World) (u : Value) (X : Mly), Below W4.heap.size W4 W' → RdM W' (· < W'.heap.size) u X → Hid (LooseIs a care (mealyB a && caresB a care) X) → Calls Try.prog 21 #[.agg #[.int .i64 a.ins, .int .i64 a.outs, .int .i64 a.start, .slice Ao a.out.length co, .slice An a.next.length cn], .slice A care.length c] W' fun e W'' => ∃ u' : Value, e = .returned u' ∧ Below W4.heap.size W4 W'' ∧ RdM W'' (· < W''.heap.size) u X ∧ RdM W'' (· < W''.heap.size) u' X) := hid fun W' u X hb hu hX => by
    refine (rloose_any _ a A c care W' (HMa.out.below hb).rd (HCARE.out.keep (Keeps.of_below hb fun _ h => h)) (by omega)).mono ?_
    rintro e W'' ⟨u', Y, rfl, h1, h2, h3⟩
    obtain rfl : Y = X := looseIs_one (fun h => by first | exact h | (rw [Bool.and_eq_true] at h; exact h.1)) h3 hX.out
    exact ⟨u', rfl, hb.trans (h1.mono hb.size), ((hu.keep (Keeps.of_below h1 fun _ h => h)).mono fun _ h _ => Nat.lt_of_lt_of_le h h1.size), h2.old⟩
  have HQ : Hid (∀ (W' : World) (u u' : Value) (X : Mly), Below W4.heap.size W4 W' → RdM W' (· < W'.heap.size) u X → RdM W' (· < W'.heap.size) u' X → Calls Try.prog 13 #[u, u'] W' fun e W'' => e = .returned (.bool true) ∧ Below W4.heap.size W4 W'') := hid fun W' u u' X hb h k =>
    (eq_ex X _ _ W' h k).mono fun e W'' ⟨h1, h2⟩ => ⟨h1, hb.trans (h2.mono hb.size)⟩
  obtain ⟨xa0, xa1, xa2, xa3, xa4, xal⟩ := HMa.out.cells
  obtain ⟨xb0, xb1, xb2, xb3, xb4, xbl⟩ := HMb.out.cells
  have HSK : Hid (∀ W' : World, Below W4.heap.size W4 W' → W'.cell? ⟨w.heap.size, 0, none⟩ = some (.int .i64 a.ins) ∧ W'.cell? ⟨w.heap.size, 1, none⟩ = some (.int .i64 a.outs) ∧ W'.cell? ⟨w.heap.size, 2, none⟩ = some (.int .i64 a.start) ∧ W'.cell? ⟨w.heap.size, 3, none⟩ = some (.slice Ao a.out.length co) ∧ W'.cell? ⟨w.heap.size, 4, none⟩ = some (.slice An a.next.length cn) ∧ W'.cell? ⟨(w.heap.size + 1), 0, none⟩ = some (.int .i64 b.ins) ∧ W'.cell? ⟨(w.heap.size + 1), 1, none⟩ = some (.int .i64 b.outs) ∧ W'.cell? ⟨(w.heap.size + 1), 2, none⟩ = some (.int .i64 b.start) ∧ W'.cell? ⟨(w.heap.size + 1), 3, none⟩ = some (.slice Bo b.out.length dO) ∧ W'.cell? ⟨(w.heap.size + 1), 4, none⟩ = some (.slice Bn b.next.length dn)) := hid fun W' hb => by
    obtain ⟨xa0, xa1, xa2, xa3, xa4, xal⟩ := (HMa.out.below hb).cells
    obtain ⟨xb0, xb1, xb2, xb3, xb4, xbl⟩ := (HMb.out.below hb).cells
    exact ⟨xa0, xa1, xa2, xa3, xa4, xb0, xb1, xb2, xb3, xb4⟩
  have HI1 := hid (show Below W4.heap.size W4 W4.drew from (Below.refl _ _).drew)
  have HI2 := hid (show ∀ i, Below W4.heap.size W4 (W4.drewN i) from fun i => (Drawn.n W4 i).below _)
  go_region_held3 (fun W' => W'.cell? ⟨w.heap.size, 0, none⟩ = some (.int .i64 a.ins) ∧ W'.cell? ⟨w.heap.size, 1, none⟩ = some (.int .i64 a.outs) ∧ W'.cell? ⟨w.heap.size, 2, none⟩ = some (.int .i64 a.start) ∧ W'.cell? ⟨w.heap.size, 3, none⟩ = some (.slice Ao a.out.length co) ∧ W'.cell? ⟨w.heap.size, 4, none⟩ = some (.slice An a.next.length cn) ∧ W'.cell? ⟨(w.heap.size + 1), 0, none⟩ = some (.int .i64 b.ins) ∧ W'.cell? ⟨(w.heap.size + 1), 1, none⟩ = some (.int .i64 b.outs) ∧ W'.cell? ⟨(w.heap.size + 1), 2, none⟩ = some (.int .i64 b.start) ∧ W'.cell? ⟨(w.heap.size + 1), 3, none⟩ = some (.slice Bo b.out.length dO) ∧ W'.cell? ⟨(w.heap.size + 1), 4, none⟩ = some (.slice Bn b.next.length dn))
    (first
      | (with_reducible exact HSK.out _ hI)
      | (go_keep; done))
    (first
      | (go_at_call 14; with_reducible refine (HT1.out _ (by first | exact hI | exact HI1.out | exact HI2.out _)).mono ?_; rintro e WA ⟨uA, rfl, hI, hrA⟩)
      | (go_at_call 15; with_reducible refine (HT2.out _ _ (by first | exact hI | exact HI1.out | exact HI2.out _) hrA).mono ?_; rintro e WB ⟨uB, rfl, hI, hrA2, hrB⟩)
      | (go_at_call 13; with_reducible refine (HQ.out _ _ _ _ (by first | exact hI | exact HI1.out | exact HI2.out _) hrA2 hrB).mono ?_; rintro e WC ⟨rfl, hI⟩)
      | (go_at_call 16; with_reducible refine (HS1.out _ (by first | exact hI | exact HI1.out | exact HI2.out _)).mono ?_; rintro e WD ⟨rfl, hI⟩)
      | (go_at_call 17; with_reducible refine (HS2.out _ (by first | exact hI | exact HI1.out | exact HI2.out _)).mono ?_; rintro e WE ⟨rfl, hI⟩)
      | (go_at_call 18; with_reducible refine (HL1.out _ (by first | exact hI | exact HI1.out | exact HI2.out _)).mono ?_; rintro e WF ⟨uF, XF, rfl, hI, hrF, hF⟩)
      | (go_at_call 19; with_reducible refine (HL2.out _ _ _ (by first | exact hI | exact HI1.out | exact HI2.out _) hrF hF).mono ?_; rintro e WG ⟨uG, rfl, hI, hrF2, hrG⟩)
      | (go_at_call 13; with_reducible refine (HQ.out _ _ _ _ (by first | exact hI | exact HI1.out | exact HI2.out _) hrF2 hrG).mono ?_; rintro e WH ⟨rfl, hI⟩)
      | (go_at_call 20; with_reducible refine (HO1.out _ (by first | exact hI | exact HI1.out | exact HI2.out _)).mono ?_; rintro e WJ ⟨uJ, XJ, rfl, hI, hrJ, hJ⟩)
      | (go_at_call 21; with_reducible refine (HO2.out _ _ _ (by first | exact hI | exact HI1.out | exact HI2.out _) hrJ hJ).mono ?_; rintro e WK ⟨uK, rfl, hI, hrJ2, hrK⟩)
      | (go_at_call 13; with_reducible refine (HQ.out _ _ _ _ (by first | exact hI | exact HI1.out | exact HI2.out _) hrJ2 hrK).mono ?_; rintro e WL ⟨rfl, hI⟩))
  all_goals
    have HB := hid (HBW.out.trans (hI.mono HBW.out.size))
    clear hI
    go_wp2_with fail
    go_ret
    exact ⟨rfl, HB.out⟩
end Go.Proofs.Ytcmhginhfhiolaa
