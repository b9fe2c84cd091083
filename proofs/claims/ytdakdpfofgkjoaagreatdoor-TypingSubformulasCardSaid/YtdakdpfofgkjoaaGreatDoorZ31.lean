/-
  The reference's tests of formulas, plain: nodes of all arguments, kinds of operators, numbers of arguments.
  Walks of the reference: Depth, Past, Layered, core.
  Walks of the reference: count, keys, Name, node, nodes.
  Walks of the reference: nodes, Valid, Loose; low.
  Signals and requirements as plain data; what Formula, Check and Goal of typing say.
  Plain laws of typing: what Check's list tells, parts of formulas, further signals, requirements in another order.
-/
import Derived.Test.YtdakdpfofgkjoaaGreatDoorZ15
import Derived.Test.YtdakdpfofgkjoaaGreatDoorZ17
import Derived.Test.YtdakdpfofgkjoaaGreatDoorZ28
set_option linter.unusedVariables false
set_option linter.unusedSimpArgs false
namespace Go.Proofs.YtdakdpfofgkjoaaGreatDoor

theorem getD_memK {gs : List Fm} {i : Nat} (hi : i < gs.length) : gs.getD i default ∈ gs := by simp [List.getD, hi]
theorem allI_any {p : Fm → Bool} (f : Fm) : ∀ ins, allI (fun x => p x.1) ins f ↔ allI (fun x => p x.1) false f := by
  induction f using Fm.ind with
  | h f ih =>
    intro ins
    rw [allI_iff, allI_iff]
    exact and_congr_right fun _ => ⟨fun h g hg => (ih g hg _).2 ((ih g hg _).1 (h g hg)), fun h g hg => (ih g hg _).2 ((ih g hg _).1 (h g hg))⟩
theorem all_args {l : List Fm} {P : Fm → Prop} : (∀ g, g ∈ l → P g) ↔ ∀ j, j < l.length → P (l.getD j default) := by
  constructor
  · exact fun h j hj => h _ (getD_memK hj)
  · intro h g hg
    obtain ⟨i, hi, rfl⟩ := List.getElem_of_mem hg
    have := h i hi
    rwa [List.getD_eq_getElem?_getD, List.getElem?_eq_getElem hi] at this
theorem allB_flat (p : Fm → Bool) (f : Fm) : allB (fun x => p x.1) f = (p f && allN f.args.length fun i => allB (fun x => p x.1) (f.args.getD i default)) := by
  rw [Bool.eq_iff_iff, Bool.and_eq_true, allN_true, allB_iff, allI_iff]
  refine and_congr_right fun _ => ?_
  rw [all_args]
  exact ⟨fun h j hj => (allI_any _ _).1 (h j hj), fun h j hj => (allI_any _ _).2 (h j hj)⟩
theorem isOp_not {o : Int} (h : ¬ isOp o = true) : o < 1 ∨ 20 ≤ o := by
  unfold isOp at h
  simp at h
  omega
theorem formZ_not {o : Int} (h : ¬ isOp o = true) : formZ o = form0 := by unfold formZ; rw [if_neg h]
def pastO (o : Int) : Bool := decide (15 ≤ o) && decide (o ≤ 19)
def futO (o : Int) : Bool := decide (8 ≤ o) && decide (o ≤ 14)
def looseO (o : Int) : Bool := (decide (1 ≤ o) && decide (o ≤ 6)) || o == 8 || o == 9 || o == 10 || o == 15 || o == 16 || o == 17
theorem past_O (o : Int) : (formZ o).past = pastO o := by
  by_cases h : isOp o = true
  · rcases isOp_cases h with rfl | rfl | rfl | rfl | rfl | rfl | rfl | rfl | rfl | rfl | rfl | rfl | rfl | rfl | rfl | rfl | rfl | rfl | rfl <;> rfl
  · rw [formZ_not h]
    unfold pastO
    have := isOp_not h
    show false = _
    symm
    simp
    omega
theorem fut_O (o : Int) : (formZ o).future = futO o := by
  by_cases h : isOp o = true
  · rcases isOp_cases h with rfl | rfl | rfl | rfl | rfl | rfl | rfl | rfl | rfl | rfl | rfl | rfl | rfl | rfl | rfl | rfl | rfl | rfl | rfl <;> rfl
  · rw [formZ_not h]
    unfold futO
    have := isOp_not h
    show false = _
    symm
    simp
    omega
theorem loose_O (o : Int) : (formZ o).loose = looseO o := by
  by_cases h : isOp o = true
  · rcases isOp_cases h with rfl | rfl | rfl | rfl | rfl | rfl | rfl | rfl | rfl | rfl | rfl | rfl | rfl | rfl | rfl | rfl | rfl | rfl | rfl <;> rfl
  · rw [formZ_not h]
    unfold looseO
    have := isOp_not h
    show false = _
    symm
    simp
    omega
def pastP (f : Fm) : Bool := !futO f.op
def coreP (f : Fm) : Bool := looseO f.op && notQ f
def pastA (f : Fm) : Bool := allB (fun x => pastP x.1) f
def nodesA (f : Fm) : Bool := allB (fun x => shapedB x.1) f
def coreA (f : Fm) : Bool := allB (fun x => coreP x.1) f
theorem pastA_eq (f : Fm) : pastA f = allB pastQ f := by
  unfold pastA
  congr 1
  funext x
  unfold pastP pastQ
  rw [fut_O]
/-- Within a past operator a layered formula is past. -/
theorem lay_in (f : Fm) : allI layQ true f ↔ pastA f = true := by
  induction f using Fm.ind with
  | h f ih =>
    rw [allI_iff]
    unfold pastA
    rw [allB_flat, Bool.and_eq_true, allN_true]
    have h1 : layQ (f, true) = pastP f := by unfold layQ pastP; rw [← fut_O]; simp
    rw [h1]
    refine and_congr_right fun _ => ?_
    rw [all_args]
    exact forall_congr' fun j => forall_congr' fun hj => ih _ (getD_memK hj)
theorem lay_out (f : Fm) : pastA f = true → allI layQ false f := fun h => by
  rw [pastA_eq] at h
  exact past_layered h
def layL (f : Fm) : Bool := allB layQ f
/-- The reference's way to say that a formula is layered. -/
theorem layL_flat (f : Fm) : layL f = allN f.args.length fun i => layL (f.args.getD i default) && (!pastO f.op || pastA (f.args.getD i default)) := by
  unfold layL
  rw [Bool.eq_iff_iff, allN_true, allB_iff, allI_iff]
  have h1 : layQ (f, false) = true := by unfold layQ; simp
  rw [h1, all_args, past_O]
  simp only [true_and, Bool.false_or]
  refine forall_congr' fun j => forall_congr' fun hj => ?_
  rw [Bool.and_eq_true, Bool.or_eq_true]
  cases hp : pastO f.op
  · simp [allB_iff]
  · simp only [Bool.not_true, Bool.false_eq_true, false_or]
    rw [lay_in]
    exact ⟨fun h => ⟨lay_out _ h, h⟩, fun h => h.2⟩
theorem coreA_split (f : Fm) : ∀ ins, allI bareQ ins f ↔ nodesA f = true ∧ coreA f = true ∧ allI layQ ins f := by
  induction f using Fm.ind with
  | h f ih =>
    intro ins
    unfold nodesA coreA
    rw [allI_iff, allI_iff, allB_flat, allB_flat, Bool.and_eq_true, Bool.and_eq_true, allN_true, allN_true]
    have hq : bareQ (f, ins) = true ↔ shapedB f = true ∧ coreP f = true ∧ layQ (f, ins) = true := by
      unfold bareQ coreP layQ
      rw [← loose_O]
      simp only [Bool.and_eq_true]
      constructor
      · rintro ⟨⟨⟨a, b⟩, c⟩, d⟩; exact ⟨b, ⟨a, d⟩, c⟩
      · rintro ⟨b, ⟨a, d⟩, c⟩; exact ⟨⟨⟨a, b⟩, c⟩, d⟩
    rw [hq, all_args, all_args]
    constructor
    · rintro ⟨⟨a, b, c⟩, h⟩
      exact ⟨⟨a, fun j hj => ((ih _ (getD_memK hj) _).1 (h j hj)).1⟩, ⟨b, fun j hj => ((ih _ (getD_memK hj) _).1 (h j hj)).2.1⟩, c, fun j hj => ((ih _ (getD_memK hj) _).1 (h j hj)).2.2⟩
    · rintro ⟨⟨a, h1⟩, ⟨b, h2⟩, c, h3⟩
      exact ⟨⟨a, b, c⟩, fun j hj => (ih _ (getD_memK hj) _).2 ⟨h1 j hj, h2 j hj, h3 j hj⟩⟩
theorem shaped_notK {f : Fm} (h : shapedB f = true) (h4 : f.op = 4) : 0 < f.args.length := by
  have := (shp_out h).2.1
  rw [h4] at this
  exact this
theorem core_arg {f : Fm} (h : nodesA f = true) (h4 : f.op = 4) : 0 < f.args.length := by
  unfold nodesA at h
  rw [allB_flat, Bool.and_eq_true] at h
  exact shaped_notK h.1 h4
/-- The least and the greatest number of arguments. -/
def countZ (o : Int) : Int × Int × Bool :=
  if o = 1 ∨ o = 2 ∨ o = 3 then (0, 0, true)
  else if o = 4 ∨ o = 8 ∨ o = 11 ∨ o = 12 ∨ o = 13 ∨ o = 14 ∨ o = 15 ∨ o = 18 ∨ o = 19 then (1, 1, true)
  else if o = 7 ∨ o = 9 ∨ o = 10 ∨ o = 16 ∨ o = 17 then (2, 2, true)
  else if o = 5 ∨ o = 6 then (2, -1, true)
  else (0, 0, false)
theorem countZ_not {o : Int} (h : ¬ isOp o = true) : countZ o = (0, 0, false) := by
  have := isOp_not h
  unfold countZ
  rw [if_neg (by omega), if_neg (by omega), if_neg (by omega), if_neg (by omega)]
end Go.Proofs.YtdakdpfofgkjoaaGreatDoor
set_option linter.unusedVariables false
set_option linter.unusedSimpArgs false
namespace Go.Proofs.YtdakdpfofgkjoaaGreatDoor
open Go.RowKit Go.Shelf
attribute [local go_sem] cell_alloc_old

theorem nodes_arg {f : Fm} (h : nodesA f = true) {i : Nat} (hi : i < f.args.length) : nodesA (f.args.getD i default) = true := by
  unfold nodesA at h
  rw [allB_flat, Bool.and_eq_true] at h
  exact allN_true.1 h.2 i hi
set_option maxRecDepth 100000 in
set_option maxHeartbeats 4000000 in
theorem rdepth_any (f : Fm) : ∀ {D : Dom} (v : Value) (w : World) (h : RdF3 w D v f) (hd : f.depth ≤ 1000000), Calls Tryz.prog 66 #[v] w fun e w' => e = .returned (.int .i64 (f.depth : Int)) ∧ Below w.heap.size w w' := by
  refine Fm.induct (P := fun f => ∀ {D : Dom} (v : Value) (w : World) (h : RdF3 w D v f) (hd : f.depth ≤ 1000000), Calls Tryz.prog 66 #[v] w fun e w' => e = .returned (.int .i64 (f.depth : Int)) ∧ Below w.heap.size w w') ?_ f
  intro f ih D v w h hd
  have HIH := hid ih
  obtain ⟨A, c, rfl, ha⟩ := h
  have HA := hid ha.old
  have hal := ha.len.1
  clear ih ha
  go_enter Tryz.func66, Tryz.ntmps66
  go_upto_region 1 with (fail)
  refine wp_gen fun W hW => ?_
  have hbx : Box5 W w.heap.size f A c := by rw [hW]; exact Box5.new w f A c
  have HBX := hid hbx
  have HBW := hid (show Below w.heap.size w W by rw [hW]; go_grown)
  obtain ⟨x0, x1, x2, x3, x4, xl⟩ := hbx.cells
  clear hW hbx
  have HD := hid hd
  have HFL := hid (Fm.depth_eq f)
  clear hd
  go_wp2_with fail
  go_loopw [3, 4] (fun s q wr => ∃ (i n : Nat), i ≤ f.args.length ∧ n = depths (f.args.take i) ∧ s = .int .i64 (n : Int) ∧ q = .int .i64 (i : Int) ∧ Below W.heap.size W wr) (fun _ q _ => f.args.length - (intOf q).toNat)
  case atStart => exact ⟨0, 0, Nat.zero_le _, by simp [depths], rfl, rfl, Below.refl _ _⟩
  case round =>
    obtain ⟨i, n, hi, hn, rfl, rfl, hb⟩ := hrel
    obtain ⟨x0, x1, x2, x3, x4, xl⟩ := (HBX.out.below hb).cells
    have HB := hid hb
    have HBR := hid (HBW.out.trans (hb.mono HBW.out.size))
    have HN := hid hn
    clear hb hn
    by_cases hlt : i < f.args.length
    · have hii : (i : Int) < f.args.length := by omega
      obtain ⟨b, o, A', c', g, heq, HG, hg⟩ := (HA.out.keep (Keeps.of_below HBR.out fun _ h => h)).get hlt
      cases heq
      obtain ⟨gd, gl, g0, g1, g2, g3, g4, ga⟩ := hg
      have hsn := depths_snoc f.args hlt
      have hgd := arg_depth hlt
      rw [HG.out] at hsn hgd
      have hcall := HIH.out i hlt (D := (· < w.heap.size)) (.agg #[.int .i64 g.op, .string g.name, .int .i64 g.val, .int .i64 g.bound, .slice A' g.args.length c']) wr (by rw [HG.out]; exact ⟨A', c', rfl, ga⟩) (by rw [HG.out]; have := HD.out; omega)
      rw [HG.out] at hcall
      have HCALL := hid hcall
      have HSN := hid hsn
      obtain ⟨m, hm⟩ : ∃ m, m = g.depth := ⟨_, rfl⟩
      have HM := hid hm
      clear hcall ga hsn hgd hm
      go_wp2_with fail
      refine HCALL.out.mono ?_
      rintro e w1 ⟨rfl, hb1⟩
      have HB1 := hid (HB.out.trans (hb1.mono HB.out.size))
      rw [← HM.out]
      clear hb1
      by_cases hmn : n < m
      · have h1 : (n : Int) < (m : Int) := by omega
        have h2 : ¬ (m : Int) < (n : Int) := by omega
        go_wp2_with fail
        go_roundw
        case rel => exact ⟨i + 1, m, by omega, by rw [HSN.out, ← HN.out, ← HM.out]; omega, by go_num, by go_num, HB1.out⟩
        case measure => simp [intOf]; omega
      · have h1 : ¬ (n : Int) < (m : Int) := by omega
        go_wp2_with fail
        go_roundw
        case rel => exact ⟨i + 1, n, by omega, by rw [HSN.out, ← HN.out, ← HM.out]; omega, by go_num, by go_num, HB1.out⟩
        case measure => simp [intOf]; omega
    · have hie : f.args.take i = f.args := List.take_of_length_le (by omega)
      have hres : f.depth = n + 1 := by have := HN.out; rw [hie] at this; have := HFL.out; omega
      have HRES := hid hres
      have hnd : n ≤ 1000000 := by have := HD.out; omega
      clear hie hres
      go_wp2_with fail
      go_ret
      exact ⟨ret_int (by rw [HRES.out]; simp; try omega), HBR.out⟩
set_option maxRecDepth 100000 in
set_option maxHeartbeats 4000000 in
theorem rpast_any (f : Fm) : ∀ {D : Dom} (v : Value) (w : World) (h : RdF3 w D v f), Calls Tryz.prog 69 #[v] w fun e w' => e = .returned (.bool (pastA f)) ∧ Below w.heap.size w w' := by
  refine Fm.induct (P := fun f => ∀ {D : Dom} (v : Value) (w : World) (h : RdF3 w D v f), Calls Tryz.prog 69 #[v] w fun e w' => e = .returned (.bool (pastA f)) ∧ Below w.heap.size w w') ?_ f
  intro f ih D v w h 
  have HIH := hid ih
  have HFL := hid (show pastA f = (pastP f && allN f.args.length fun i => pastA (f.args.getD i default)) from allB_flat pastP f)
  obtain ⟨A, c, rfl, ha⟩ := h
  have HA := hid ha.old
  have hal := ha.len.1
  clear ih ha
  go_enter Tryz.func69, Tryz.ntmps69
  go_upto_region 1 with (fail)
  refine wp_gen fun W hW => ?_
  have hbx : Box5 W w.heap.size f A c := by rw [hW]; exact Box5.new w f A c
  have HBX := hid hbx
  have HBW := hid (show Below w.heap.size w W by rw [hW]; go_grown)
  obtain ⟨x0, x1, x2, x3, x4, xl⟩ := hbx.cells
  clear hW hbx
  by_cases h1 : 8 ≤ f.op
  · have d1 : decide (8 ≤ f.op) = true := decide_eq_true h1
    by_cases h2 : f.op ≤ 14
    · have d2 : decide (f.op ≤ 14) = true := decide_eq_true h2
      have HR := hid (show pastA f = false by rw [HFL.out]; unfold pastP futO; rw [d1, d2]; rfl)
      go_wp2_with fail
      go_ret
      exact ⟨ret_bool HR.out.symm, HBW.out⟩
    · have d2 : decide (f.op ≤ 14) = false := decide_eq_false h2
      have HP := hid (show pastP f = true by unfold pastP futO; rw [d1, d2]; rfl)
      go_wp2_with fail
      go_loopw [3] (fun q wr => ∃ i : Nat, i ≤ f.args.length ∧ q = .int .i64 (i : Int) ∧ Below W.heap.size W wr ∧ SoFar i (fun j => pastA (f.args.getD j default))) (fun q _ => f.args.length - (intOf q).toNat)
      case atStart => exact ⟨0, Nat.zero_le _, rfl, Below.refl _ _, SoFar.zero _⟩
      case round =>
        obtain ⟨i, hi, rfl, hb, hsf⟩ := hrel
        obtain ⟨x0, x1, x2, x3, x4, xl⟩ := (HBX.out.below hb).cells
        have HB := hid hb
        have HBR := hid (HBW.out.trans (hb.mono HBW.out.size))
        have HSF := hid hsf
        clear hb hsf
        by_cases hlt : i < f.args.length
        · have hii : (i : Int) < f.args.length := by omega
          obtain ⟨b, o, A', c', g, heq, HG, hg⟩ := (HA.out.keep (Keeps.of_below HBR.out fun _ h => h)).get hlt
          cases heq
          obtain ⟨gd, gl, g0, g1, g2, g3, g4, ga⟩ := hg
          have hcall := HIH.out i hlt (D := (· < w.heap.size)) (.agg #[.int .i64 g.op, .string g.name, .int .i64 g.val, .int .i64 g.bound, .slice A' g.args.length c']) wr (by rw [HG.out]; exact ⟨A', c', rfl, ga⟩)
          rw [HG.out] at hcall
          cases hq : pastA g
          · rw [hq] at hcall
            have HR := hid (show pastA f = false by rw [HFL.out]; rw [allN_false (j := i) hlt (by rw [HG.out]; exact hq), Bool.and_false])
            have HCALL := hid hcall
            clear hcall ga hq
            go_wp2_with fail
            refine HCALL.out.mono ?_
            rintro e w1 ⟨rfl, hb1⟩
            have HB1 := hid (HBR.out.trans (hb1.mono HBR.out.size))
            clear hb1
            go_wp2_with fail
            go_ret
            exact ⟨ret_bool HR.out.symm, HB1.out⟩
          · rw [hq] at hcall
            have HQ := hid (show pastA (f.args.getD i default) = true by rw [HG.out]; exact hq)
            have HCALL := hid hcall
            clear hcall ga hq
            go_wp2_with fail
            refine HCALL.out.mono ?_
            rintro e w1 ⟨rfl, hb1⟩
            have HB1 := hid (HB.out.trans (hb1.mono HB.out.size))
            clear hb1
            go_wp2_with fail
            go_roundw
            case rel => exact ⟨i + 1, by omega, by go_num, HB1.out, HSF.out.succ HQ.out⟩
            case measure => simp [intOf]; omega
        · have hii : ¬ (i : Int) < f.args.length := by omega
          have HR := hid (show pastA f = true by rw [HFL.out]; rw [HP.out, Bool.true_and]; exact HSF.out.all (by omega))
          go_wp2_with fail
          go_ret
          exact ⟨ret_bool HR.out.symm, HBR.out⟩
  · have d1 : decide (8 ≤ f.op) = false := decide_eq_false h1
    have HP := hid (show pastP f = true by unfold pastP futO; rw [d1]; rfl)
    go_wp2_with fail
    go_loopw [3] (fun q wr => ∃ i : Nat, i ≤ f.args.length ∧ q = .int .i64 (i : Int) ∧ Below W.heap.size W wr ∧ SoFar i (fun j => pastA (f.args.getD j default))) (fun q _ => f.args.length - (intOf q).toNat)
    case atStart => exact ⟨0, Nat.zero_le _, rfl, Below.refl _ _, SoFar.zero _⟩
    case round =>
      obtain ⟨i, hi, rfl, hb, hsf⟩ := hrel
      obtain ⟨x0, x1, x2, x3, x4, xl⟩ := (HBX.out.below hb).cells
      have HB := hid hb
      have HBR := hid (HBW.out.trans (hb.mono HBW.out.size))
      have HSF := hid hsf
      clear hb hsf
      by_cases hlt : i < f.args.length
      · have hii : (i : Int) < f.args.length := by omega
        obtain ⟨b, o, A', c', g, heq, HG, hg⟩ := (HA.out.keep (Keeps.of_below HBR.out fun _ h => h)).get hlt
        cases heq
        obtain ⟨gd, gl, g0, g1, g2, g3, g4, ga⟩ := hg
        have hcall := HIH.out i hlt (D := (· < w.heap.size)) (.agg #[.int .i64 g.op, .string g.name, .int .i64 g.val, .int .i64 g.bound, .slice A' g.args.length c']) wr (by rw [HG.out]; exact ⟨A', c', rfl, ga⟩)
        rw [HG.out] at hcall
        cases hq : pastA g
        · rw [hq] at hcall
          have HR := hid (show pastA f = false by rw [HFL.out]; rw [allN_false (j := i) hlt (by rw [HG.out]; exact hq), Bool.and_false])
          have HCALL := hid hcall
          clear hcall ga hq
          go_wp2_with fail
          refine HCALL.out.mono ?_
          rintro e w1 ⟨rfl, hb1⟩
          have HB1 := hid (HBR.out.trans (hb1.mono HBR.out.size))
          clear hb1
          go_wp2_with fail
          go_ret
          exact ⟨ret_bool HR.out.symm, HB1.out⟩
        · rw [hq] at hcall
          have HQ := hid (show pastA (f.args.getD i default) = true by rw [HG.out]; exact hq)
          have HCALL := hid hcall
          clear hcall ga hq
          go_wp2_with fail
          refine HCALL.out.mono ?_
          rintro e w1 ⟨rfl, hb1⟩
          have HB1 := hid (HB.out.trans (hb1.mono HB.out.size))
          clear hb1
          go_wp2_with fail
          go_roundw
          case rel => exact ⟨i + 1, by omega, by go_num, HB1.out, HSF.out.succ HQ.out⟩
          case measure => simp [intOf]; omega
      · have hii : ¬ (i : Int) < f.args.length := by omega
        have HR := hid (show pastA f = true by rw [HFL.out]; rw [HP.out, Bool.true_and]; exact HSF.out.all (by omega))
        go_wp2_with fail
        go_ret
        exact ⟨ret_bool HR.out.symm, HBR.out⟩
set_option maxRecDepth 100000 in
set_option maxHeartbeats 4000000 in
theorem rlayered_any (f : Fm) : ∀ {D : Dom} (v : Value) (w : World) (h : RdF3 w D v f), Calls Tryz.prog 53 #[v] w fun e w' => e = .returned (.bool (layL f)) ∧ Below w.heap.size w w' := by
  refine Fm.induct (P := fun f => ∀ {D : Dom} (v : Value) (w : World) (h : RdF3 w D v f), Calls Tryz.prog 53 #[v] w fun e w' => e = .returned (.bool (layL f)) ∧ Below w.heap.size w w') ?_ f
  intro f ih D v w h 
  have HIH := hid ih
  have HFL := hid (layL_flat f)
  obtain ⟨A, c, rfl, ha⟩ := h
  have HA := hid ha.old
  have hal := ha.len.1
  clear ih ha
  go_enter Tryz.func53, Tryz.ntmps53
  go_upto_region 1 with (fail)
  refine wp_gen fun W hW => ?_
  have hbx : Box5 W w.heap.size f A c := by rw [hW]; exact Box5.new w f A c
  have HBX := hid hbx
  have HBW := hid (show Below w.heap.size w W by rw [hW]; go_grown)
  obtain ⟨x0, x1, x2, x3, x4, xl⟩ := hbx.cells
  clear hW hbx
  go_wp2_with fail
  go_loopw [3] (fun q wr => ∃ i : Nat, i ≤ f.args.length ∧ q = .int .i64 (i : Int) ∧ Below W.heap.size W wr ∧ SoFar i (fun j => layL (f.args.getD j default) && (!pastO f.op || pastA (f.args.getD j default)))) (fun q _ => f.args.length - (intOf q).toNat)
  case atStart => exact ⟨0, Nat.zero_le _, rfl, Below.refl _ _, SoFar.zero _⟩
  case round =>
    obtain ⟨i, hi, rfl, hb, hsf⟩ := hrel
    obtain ⟨x0, x1, x2, x3, x4, xl⟩ := (HBX.out.below hb).cells
    have HB := hid hb
    have HBR := hid (HBW.out.trans (hb.mono HBW.out.size))
    have HSF := hid hsf
    clear hb hsf
    by_cases hlt : i < f.args.length
    · have hii : (i : Int) < f.args.length := by omega
      obtain ⟨b, o, A', c', g, heq, HG, hg⟩ := (HA.out.keep (Keeps.of_below HBR.out fun _ h => h)).get hlt
      cases heq
      have HGF := hid hg.old
      obtain ⟨gd, gl, g0, g1, g2, g3, g4, ga⟩ := hg
      have hcall := HIH.out i hlt (D := (· < w.heap.size)) (.agg #[.int .i64 g.op, .string g.name, .int .i64 g.val, .int .i64 g.bound, .slice A' g.args.length c']) wr (by rw [HG.out]; exact ⟨A', c', rfl, ga⟩)
      rw [HG.out] at hcall
      cases hq : layL g
      · rw [hq] at hcall
        have HR := hid (show layL f = false by rw [HFL.out, allN_false (j := i) hlt (by rw [HG.out, hq]; rfl)])
        have HCALL := hid hcall
        clear hcall ga hq
        go_wp2_with fail
        refine HCALL.out.mono ?_
        rintro e w1 ⟨rfl, hb1⟩
        have HB1 := hid (HBR.out.trans (hb1.mono HBR.out.size))
        clear hb1
        go_wp2_with fail
        go_ret
        exact ⟨ret_bool HR.out.symm, HB1.out⟩
      · rw [hq] at hcall
        have HCALL := hid hcall
        have HQ := hid hq
        have HGA := hid ga
        clear hcall ga hq
        have CLS := hid (show (decide (15 ≤ f.op) = true ∧ decide (f.op ≤ 19) = true ∧ pastO f.op = true) ∨ (decide (15 ≤ f.op) = true ∧ decide (f.op ≤ 19) = false ∧ pastO f.op = false) ∨ (decide (15 ≤ f.op) = false ∧ pastO f.op = false) by
          unfold pastO; cases decide (15 ≤ f.op) <;> cases decide (f.op ≤ 19) <;> simp)
        rcases CLS.out with ⟨d1, d2, hp⟩ | ⟨d1, d2, hp⟩ | ⟨d1, hp⟩
        · cases hq2 : pastA g
          · have HR := hid (show layL f = false by rw [HFL.out, allN_false (j := i) hlt (by rw [HG.out, HQ.out, hp, hq2]; rfl)])
            have HQ2 := hid hq2
            clear hq2 hp
            go_wp2_with fail
            refine HCALL.out.mono ?_
            rintro e w1 ⟨rfl, hb1⟩
            have HB1 := hid (HBR.out.trans (hb1.mono HBR.out.size))
            have HC2 := hid (rpast_any g (.agg #[.int .i64 g.op, .string g.name, .int .i64 g.val, .int .i64 g.bound, .slice A' g.args.length c']) w1 ⟨A', c', rfl, HGA.out.any hb1⟩)
            clear x0 x1 x2 x3 x4 g0 g1 g2 g3 g4
            obtain ⟨x0, x1, x2, x3, x4, xl1⟩ := ((HBX.out.below HB.out).below hb1).cells
            have gl1 := Nat.lt_of_lt_of_le gl hb1.size
            obtain ⟨_, _, g0, g1, g2, g3, g4, _⟩ := HGF.out.keep (Keeps.of_below hb1 fun _ h => h)
            clear hb1
            go_wp2_with fail
            refine HC2.out.mono ?_
            rw [HQ2.out]
            rintro e w2 ⟨rfl, hb2⟩
            have HB2 := hid (HB1.out.trans (hb2.mono HB1.out.size))
            clear hb2
            go_wp2_with fail
            go_ret
            exact ⟨ret_bool HR.out.symm, HB2.out⟩
          · have HQ3 := hid (show (layL (f.args.getD i default) && (!pastO f.op || pastA (f.args.getD i default))) = true by rw [HG.out, HQ.out, hp, hq2]; rfl)
            have HQ2 := hid hq2
            clear hq2 hp
            go_wp2_with fail
            refine HCALL.out.mono ?_
            rintro e w1 ⟨rfl, hb1⟩
            have HB1 := hid (HB.out.trans (hb1.mono HB.out.size))
            have HC2 := hid (rpast_any g (.agg #[.int .i64 g.op, .string g.name, .int .i64 g.val, .int .i64 g.bound, .slice A' g.args.length c']) w1 ⟨A', c', rfl, HGA.out.any hb1⟩)
            clear x0 x1 x2 x3 x4 g0 g1 g2 g3 g4
            obtain ⟨x0, x1, x2, x3, x4, xl1⟩ := ((HBX.out.below HB.out).below hb1).cells
            have gl1 := Nat.lt_of_lt_of_le gl hb1.size
            obtain ⟨_, _, g0, g1, g2, g3, g4, _⟩ := HGF.out.keep (Keeps.of_below hb1 fun _ h => h)
            clear hb1
            go_wp2_with fail
            refine HC2.out.mono ?_
            rw [HQ2.out]
            rintro e w2 ⟨rfl, hb2⟩
            have HB2 := hid (HB1.out.trans (hb2.mono HB1.out.size))
            clear hb2
            go_wp2_with fail
            go_roundw
            case rel => exact ⟨i + 1, by omega, by go_num, HB2.out, HSF.out.succ HQ3.out⟩
            case measure => simp [intOf]; omega
        · have HQ3 := hid (show (layL (f.args.getD i default) && (!pastO f.op || pastA (f.args.getD i default))) = true by rw [HG.out, HQ.out, hp]; rfl)
          clear hp
          go_wp2_with fail
          refine HCALL.out.mono ?_
          rintro e w1 ⟨rfl, hb1⟩
          have HB1 := hid (HB.out.trans (hb1.mono HB.out.size))
          clear x0 x1 x2 x3 x4 g0 g1 g2 g3 g4
          obtain ⟨x0, x1, x2, x3, x4, xl1⟩ := ((HBX.out.below HB.out).below hb1).cells
          have gl1 := Nat.lt_of_lt_of_le gl hb1.size
          obtain ⟨_, _, g0, g1, g2, g3, g4, _⟩ := HGF.out.keep (Keeps.of_below hb1 fun _ h => h)
          clear hb1
          go_wp2_with fail
          go_roundw
          case rel => exact ⟨i + 1, by omega, by go_num, HB1.out, HSF.out.succ HQ3.out⟩
          case measure => simp [intOf]; omega
        · have HQ3 := hid (show (layL (f.args.getD i default) && (!pastO f.op || pastA (f.args.getD i default))) = true by rw [HG.out, HQ.out, hp]; rfl)
          clear hp
          go_wp2_with fail
          refine HCALL.out.mono ?_
          rintro e w1 ⟨rfl, hb1⟩
          have HB1 := hid (HB.out.trans (hb1.mono HB.out.size))
          clear x0 x1 x2 x3 x4 g0 g1 g2 g3 g4
          obtain ⟨x0, x1, x2, x3, x4, xl1⟩ := ((HBX.out.below HB.out).below hb1).cells
          have gl1 := Nat.lt_of_lt_of_le gl hb1.size
          obtain ⟨_, _, g0, g1, g2, g3, g4, _⟩ := HGF.out.keep (Keeps.of_below hb1 fun _ h => h)
          clear hb1
          go_wp2_with fail
          go_roundw
          case rel => exact ⟨i + 1, by omega, by go_num, HB1.out, HSF.out.succ HQ3.out⟩
          case measure => simp [intOf]; omega
    · have hii : ¬ (i : Int) < f.args.length := by omega
      have HR := hid (show layL f = true by rw [HFL.out]; exact HSF.out.all (by omega))
      go_wp2_with fail
      go_ret
      exact ⟨ret_bool HR.out.symm, HBR.out⟩
set_option maxRecDepth 100000 in
set_option maxHeartbeats 4000000 in
theorem rcore_any (f : Fm) : ∀ {D : Dom} (v : Value) (w : World) (h : RdF3 w D v f) (hn : nodesA f = true), Calls Tryz.prog 95 #[v] w fun e w' => e = .returned (.bool (coreA f)) ∧ Below w.heap.size w w' := by
  refine Fm.induct (P := fun f => ∀ {D : Dom} (v : Value) (w : World) (h : RdF3 w D v f) (hn : nodesA f = true), Calls Tryz.prog 95 #[v] w fun e w' => e = .returned (.bool (coreA f)) ∧ Below w.heap.size w w') ?_ f
  intro f ih D v w h hn
  have HIH := hid ih
  have HFL := hid (show coreA f = (coreP f && allN f.args.length fun i => coreA (f.args.getD i default)) from allB_flat coreP f)
  obtain ⟨A, c, rfl, ha⟩ := h
  have HA := hid ha.old
  have hal := ha.len.1
  clear ih ha
  go_enter Tryz.func95, Tryz.ntmps95
  go_upto_region 1 with (fail)
  refine wp_gen fun W hW => ?_
  have hbx : Box5 W w.heap.size f A c := by rw [hW]; exact Box5.new w f A c
  have HBX := hid hbx
  have HBW := hid (show Below w.heap.size w W by rw [hW]; go_grown)
  obtain ⟨x0, x1, x2, x3, x4, xl⟩ := hbx.cells
  clear hW hbx
  have HN := hid hn
  have h40 := fun h4 => core_arg hn h4
  clear hn
  by_cases h4 : f.op = 4
  · have hlen := h40 h4
    have hlen' : (0 : Int) < f.args.length := by omega
    obtain ⟨b, o, A', c', g, rfl, HG, hg⟩ := (HA.out.keep (Keeps.of_below HBW.out fun _ h => h)).get hlen
    obtain ⟨gd, gl, g0, g1, g2, g3, g4, ga⟩ := hg
    simp only [Nat.zero_mul, Nat.add_zero] at g0 g1 g2 g3 g4
    by_cases h3 : g.op = 3
    · have HP := hid (show coreP f = true by unfold coreP notQ looseO; rw [HG.out, h4, h3]; rfl)
      have d1 : decide (1 ≤ f.op) = true := decide_eq_true (by omega)
      have d2 : decide (f.op ≤ 6) = true := decide_eq_true (by omega)
      have d4 : (f.op == 4) = true := by rw [h4]; rfl
      have d3 : (g.op != 3) = false := by rw [h3]; rfl
      clear h40 ga h4 h3
      go_wp2_with fail
      go_loopw [4] (fun q wr => ∃ i : Nat, i ≤ f.args.length ∧ q = .int .i64 (i : Int) ∧ Below W.heap.size W wr ∧ SoFar i (fun j => coreA (f.args.getD j default))) (fun q _ => f.args.length - (intOf q).toNat)
      case atStart => exact ⟨0, Nat.zero_le _, rfl, Below.refl _ _, SoFar.zero _⟩
      case round =>
        obtain ⟨i, hi, rfl, hb, hsf⟩ := hrel
        obtain ⟨x0, x1, x2, x3, x4, xl⟩ := (HBX.out.below hb).cells
        have HB := hid hb
        have HBR := hid (HBW.out.trans (hb.mono HBW.out.size))
        have HSF := hid hsf
        clear hb hsf
        by_cases hlt : i < f.args.length
        · have hii : (i : Int) < f.args.length := by omega
          obtain ⟨b, o, A', c', g, heq, HG, hg⟩ := (HA.out.keep (Keeps.of_below HBR.out fun _ h => h)).get hlt
          cases heq
          obtain ⟨gd, gl, g0, g1, g2, g3, g4, ga⟩ := hg
          have hcall := HIH.out i hlt (D := (· < w.heap.size)) (.agg #[.int .i64 g.op, .string g.name, .int .i64 g.val, .int .i64 g.bound, .slice A' g.args.length c']) wr (by rw [HG.out]; exact ⟨A', c', rfl, ga⟩) (nodes_arg HN.out hlt)
          rw [HG.out] at hcall
          cases hq : coreA g
          · rw [hq] at hcall
            have HR := hid (show coreA f = false by rw [HFL.out]; rw [allN_false (j := i) hlt (by rw [HG.out]; exact hq), Bool.and_false])
            have HCALL := hid hcall
            clear hcall ga hq
            go_wp2_with fail
            refine HCALL.out.mono ?_
            rintro e w1 ⟨rfl, hb1⟩
            have HB1 := hid (HBR.out.trans (hb1.mono HBR.out.size))
            clear hb1
            go_wp2_with fail
            go_ret
            exact ⟨ret_bool HR.out.symm, HB1.out⟩
          · rw [hq] at hcall
            have HQ := hid (show coreA (f.args.getD i default) = true by rw [HG.out]; exact hq)
            have HCALL := hid hcall
            clear hcall ga hq
            go_wp2_with fail
            refine HCALL.out.mono ?_
            rintro e w1 ⟨rfl, hb1⟩
            have HB1 := hid (HB.out.trans (hb1.mono HB.out.size))
            clear hb1
            go_wp2_with fail
            go_roundw
            case rel => exact ⟨i + 1, by omega, by go_num, HB1.out, HSF.out.succ HQ.out⟩
            case measure => simp [intOf]; omega
        · have hii : ¬ (i : Int) < f.args.length := by omega
          have HR := hid (show coreA f = true by rw [HFL.out]; rw [HP.out, Bool.true_and]; exact HSF.out.all (by omega))
          go_wp2_with fail
          go_ret
          exact ⟨ret_bool HR.out.symm, HBR.out⟩
    · have HP := hid (show coreP f = false by unfold coreP notQ looseO; rw [HG.out, h4, decide_eq_false h3]; rfl)
      have HR := hid (show coreA f = false by rw [HFL.out, HP.out]; rfl)
      have d1 : decide (1 ≤ f.op) = true := decide_eq_true (by omega)
      have d2 : decide (f.op ≤ 6) = true := decide_eq_true (by omega)
      have d4 : (f.op == 4) = true := by rw [h4]; rfl
      have d3 : (g.op != 3) = true := by simpa using h3
      go_wp2_with fail
      go_ret
      exact ⟨ret_bool HR.out.symm, HBW.out⟩
  · have d4 : (f.op == 4) = false := beq_false_of h4
    have HNQ := hid (show notQ f = true by unfold notQ; rw [decide_eq_false h4]; rfl)
    cases hl : looseO f.op
    · have HR := hid (show coreA f = false by rw [HFL.out]; unfold coreP; rw [hl]; rfl)
      have hl' := hl
      unfold looseO at hl'
      simp only [Bool.or_eq_false_iff] at hl'
      obtain ⟨⟨⟨⟨⟨⟨l0, l1⟩, l2⟩, l3⟩, l4⟩, l5⟩, l6⟩ := hl'
      clear h40 hl
      by_cases h1 : 1 ≤ f.op
      · have d1 : decide (1 ≤ f.op) = true := decide_eq_true h1
        rw [d1, Bool.true_and] at l0
        go_wp2_with fail
        go_ret
        exact ⟨ret_bool HR.out.symm, HBW.out⟩
      · have d1 : decide (1 ≤ f.op) = false := decide_eq_false h1
        clear l0
        go_wp2_with fail
        go_ret
        exact ⟨ret_bool HR.out.symm, HBW.out⟩
    · have HP := hid (show coreP f = true by unfold coreP; rw [hl, HNQ.out]; rfl)
      unfold looseO at hl
      simp only [Bool.or_eq_true] at hl
      clear h40
      have HL := hid hl
      clear hl
      by_cases h6 : 1 ≤ f.op ∧ f.op ≤ 6
      · have d1 : decide (1 ≤ f.op) = true := decide_eq_true h6.1
        have d2 : decide (f.op ≤ 6) = true := decide_eq_true h6.2
        go_wp2_with fail
        go_loopw [4] (fun q wr => ∃ i : Nat, i ≤ f.args.length ∧ q = .int .i64 (i : Int) ∧ Below W.heap.size W wr ∧ SoFar i (fun j => coreA (f.args.getD j default))) (fun q _ => f.args.length - (intOf q).toNat)
        case atStart => exact ⟨0, Nat.zero_le _, rfl, Below.refl _ _, SoFar.zero _⟩
        case round =>
          obtain ⟨i, hi, rfl, hb, hsf⟩ := hrel
          obtain ⟨x0, x1, x2, x3, x4, xl⟩ := (HBX.out.below hb).cells
          have HB := hid hb
          have HBR := hid (HBW.out.trans (hb.mono HBW.out.size))
          have HSF := hid hsf
          clear hb hsf
          by_cases hlt : i < f.args.length
          · have hii : (i : Int) < f.args.length := by omega
            obtain ⟨b, o, A', c', g, heq, HG, hg⟩ := (HA.out.keep (Keeps.of_below HBR.out fun _ h => h)).get hlt
            cases heq
            obtain ⟨gd, gl, g0, g1, g2, g3, g4, ga⟩ := hg
            have hcall := HIH.out i hlt (D := (· < w.heap.size)) (.agg #[.int .i64 g.op, .string g.name, .int .i64 g.val, .int .i64 g.bound, .slice A' g.args.length c']) wr (by rw [HG.out]; exact ⟨A', c', rfl, ga⟩) (nodes_arg HN.out hlt)
            rw [HG.out] at hcall
            cases hq : coreA g
            · rw [hq] at hcall
              have HR := hid (show coreA f = false by rw [HFL.out]; rw [allN_false (j := i) hlt (by rw [HG.out]; exact hq), Bool.and_false])
              have HCALL := hid hcall
              clear hcall ga hq
              go_wp2_with fail
              refine HCALL.out.mono ?_
              rintro e w1 ⟨rfl, hb1⟩
              have HB1 := hid (HBR.out.trans (hb1.mono HBR.out.size))
              clear hb1
              go_wp2_with fail
              go_ret
              exact ⟨ret_bool HR.out.symm, HB1.out⟩
            · rw [hq] at hcall
              have HQ := hid (show coreA (f.args.getD i default) = true by rw [HG.out]; exact hq)
              have HCALL := hid hcall
              clear hcall ga hq
              go_wp2_with fail
              refine HCALL.out.mono ?_
              rintro e w1 ⟨rfl, hb1⟩
              have HB1 := hid (HB.out.trans (hb1.mono HB.out.size))
              clear hb1
              go_wp2_with fail
              go_roundw
              case rel => exact ⟨i + 1, by omega, by go_num, HB1.out, HSF.out.succ HQ.out⟩
              case measure => simp [intOf]; omega
          · have hii : ¬ (i : Int) < f.args.length := by omega
            have HR := hid (show coreA f = true by rw [HFL.out]; rw [HP.out, Bool.true_and]; exact HSF.out.all (by omega))
            go_wp2_with fail
            go_ret
            exact ⟨ret_bool HR.out.symm, HBR.out⟩
      by_cases h8 : f.op = 8
      · have d1 : decide (1 ≤ f.op) = true := decide_eq_true (by omega)
        have d2 : decide (f.op ≤ 6) = false := decide_eq_false (by omega)
        have e8 : (f.op == 8) = true := beq_iff_eq.2 h8
        clear h8
        go_wp2_with fail
        go_loopw [4] (fun q wr => ∃ i : Nat, i ≤ f.args.length ∧ q = .int .i64 (i : Int) ∧ Below W.heap.size W wr ∧ SoFar i (fun j => coreA (f.args.getD j default))) (fun q _ => f.args.length - (intOf q).toNat)
        case atStart => exact ⟨0, Nat.zero_le _, rfl, Below.refl _ _, SoFar.zero _⟩
        case round =>
          obtain ⟨i, hi, rfl, hb, hsf⟩ := hrel
          obtain ⟨x0, x1, x2, x3, x4, xl⟩ := (HBX.out.below hb).cells
          have HB := hid hb
          have HBR := hid (HBW.out.trans (hb.mono HBW.out.size))
          have HSF := hid hsf
          clear hb hsf
          by_cases hlt : i < f.args.length
          · have hii : (i : Int) < f.args.length := by omega
            obtain ⟨b, o, A', c', g, heq, HG, hg⟩ := (HA.out.keep (Keeps.of_below HBR.out fun _ h => h)).get hlt
            cases heq
            obtain ⟨gd, gl, g0, g1, g2, g3, g4, ga⟩ := hg
            have hcall := HIH.out i hlt (D := (· < w.heap.size)) (.agg #[.int .i64 g.op, .string g.name, .int .i64 g.val, .int .i64 g.bound, .slice A' g.args.length c']) wr (by rw [HG.out]; exact ⟨A', c', rfl, ga⟩) (nodes_arg HN.out hlt)
            rw [HG.out] at hcall
            cases hq : coreA g
            · rw [hq] at hcall
              have HR := hid (show coreA f = false by rw [HFL.out]; rw [allN_false (j := i) hlt (by rw [HG.out]; exact hq), Bool.and_false])
              have HCALL := hid hcall
              clear hcall ga hq
              go_wp2_with fail
              refine HCALL.out.mono ?_
              rintro e w1 ⟨rfl, hb1⟩
              have HB1 := hid (HBR.out.trans (hb1.mono HBR.out.size))
              clear hb1
              go_wp2_with fail
              go_ret
              exact ⟨ret_bool HR.out.symm, HB1.out⟩
            · rw [hq] at hcall
              have HQ := hid (show coreA (f.args.getD i default) = true by rw [HG.out]; exact hq)
              have HCALL := hid hcall
              clear hcall ga hq
              go_wp2_with fail
              refine HCALL.out.mono ?_
              rintro e w1 ⟨rfl, hb1⟩
              have HB1 := hid (HB.out.trans (hb1.mono HB.out.size))
              clear hb1
              go_wp2_with fail
              go_roundw
              case rel => exact ⟨i + 1, by omega, by go_num, HB1.out, HSF.out.succ HQ.out⟩
              case measure => simp [intOf]; omega
          · have hii : ¬ (i : Int) < f.args.length := by omega
            have HR := hid (show coreA f = true by rw [HFL.out]; rw [HP.out, Bool.true_and]; exact HSF.out.all (by omega))
            go_wp2_with fail
            go_ret
            exact ⟨ret_bool HR.out.symm, HBR.out⟩
      by_cases h9 : f.op = 9
      · have d1 : decide (1 ≤ f.op) = true := decide_eq_true (by omega)
        have d2 : decide (f.op ≤ 6) = false := decide_eq_false (by omega)
        have e8 : (f.op == 8) = false := beq_false_of (by omega)
        have e9 : (f.op == 9) = true := beq_iff_eq.2 h9
        clear h9
        go_wp2_with fail
        go_loopw [4] (fun q wr => ∃ i : Nat, i ≤ f.args.length ∧ q = .int .i64 (i : Int) ∧ Below W.heap.size W wr ∧ SoFar i (fun j => coreA (f.args.getD j default))) (fun q _ => f.args.length - (intOf q).toNat)
        case atStart => exact ⟨0, Nat.zero_le _, rfl, Below.refl _ _, SoFar.zero _⟩
        case round =>
          obtain ⟨i, hi, rfl, hb, hsf⟩ := hrel
          obtain ⟨x0, x1, x2, x3, x4, xl⟩ := (HBX.out.below hb).cells
          have HB := hid hb
          have HBR := hid (HBW.out.trans (hb.mono HBW.out.size))
          have HSF := hid hsf
          clear hb hsf
          by_cases hlt : i < f.args.length
          · have hii : (i : Int) < f.args.length := by omega
            obtain ⟨b, o, A', c', g, heq, HG, hg⟩ := (HA.out.keep (Keeps.of_below HBR.out fun _ h => h)).get hlt
            cases heq
            obtain ⟨gd, gl, g0, g1, g2, g3, g4, ga⟩ := hg
            have hcall := HIH.out i hlt (D := (· < w.heap.size)) (.agg #[.int .i64 g.op, .string g.name, .int .i64 g.val, .int .i64 g.bound, .slice A' g.args.length c']) wr (by rw [HG.out]; exact ⟨A', c', rfl, ga⟩) (nodes_arg HN.out hlt)
            rw [HG.out] at hcall
            cases hq : coreA g
            · rw [hq] at hcall
              have HR := hid (show coreA f = false by rw [HFL.out]; rw [allN_false (j := i) hlt (by rw [HG.out]; exact hq), Bool.and_false])
              have HCALL := hid hcall
              clear hcall ga hq
              go_wp2_with fail
              refine HCALL.out.mono ?_
              rintro e w1 ⟨rfl, hb1⟩
              have HB1 := hid (HBR.out.trans (hb1.mono HBR.out.size))
              clear hb1
              go_wp2_with fail
              go_ret
              exact ⟨ret_bool HR.out.symm, HB1.out⟩
            · rw [hq] at hcall
              have HQ := hid (show coreA (f.args.getD i default) = true by rw [HG.out]; exact hq)
              have HCALL := hid hcall
              clear hcall ga hq
              go_wp2_with fail
              refine HCALL.out.mono ?_
              rintro e w1 ⟨rfl, hb1⟩
              have HB1 := hid (HB.out.trans (hb1.mono HB.out.size))
              clear hb1
              go_wp2_with fail
              go_roundw
              case rel => exact ⟨i + 1, by omega, by go_num, HB1.out, HSF.out.succ HQ.out⟩
              case measure => simp [intOf]; omega
          · have hii : ¬ (i : Int) < f.args.length := by omega
            have HR := hid (show coreA f = true by rw [HFL.out]; rw [HP.out, Bool.true_and]; exact HSF.out.all (by omega))
            go_wp2_with fail
            go_ret
            exact ⟨ret_bool HR.out.symm, HBR.out⟩
      by_cases h10 : f.op = 10
      · have d1 : decide (1 ≤ f.op) = true := decide_eq_true (by omega)
        have d2 : decide (f.op ≤ 6) = false := decide_eq_false (by omega)
        have e8 : (f.op == 8) = false := beq_false_of (by omega)
        have e9 : (f.op == 9) = false := beq_false_of (by omega)
        have e10 : (f.op == 10) = true := beq_iff_eq.2 h10
        clear h10
        go_wp2_with fail
        go_loopw [4] (fun q wr => ∃ i : Nat, i ≤ f.args.length ∧ q = .int .i64 (i : Int) ∧ Below W.heap.size W wr ∧ SoFar i (fun j => coreA (f.args.getD j default))) (fun q _ => f.args.length - (intOf q).toNat)
        case atStart => exact ⟨0, Nat.zero_le _, rfl, Below.refl _ _, SoFar.zero _⟩
        case round =>
          obtain ⟨i, hi, rfl, hb, hsf⟩ := hrel
          obtain ⟨x0, x1, x2, x3, x4, xl⟩ := (HBX.out.below hb).cells
          have HB := hid hb
          have HBR := hid (HBW.out.trans (hb.mono HBW.out.size))
          have HSF := hid hsf
          clear hb hsf
          by_cases hlt : i < f.args.length
          · have hii : (i : Int) < f.args.length := by omega
            obtain ⟨b, o, A', c', g, heq, HG, hg⟩ := (HA.out.keep (Keeps.of_below HBR.out fun _ h => h)).get hlt
            cases heq
            obtain ⟨gd, gl, g0, g1, g2, g3, g4, ga⟩ := hg
            have hcall := HIH.out i hlt (D := (· < w.heap.size)) (.agg #[.int .i64 g.op, .string g.name, .int .i64 g.val, .int .i64 g.bound, .slice A' g.args.length c']) wr (by rw [HG.out]; exact ⟨A', c', rfl, ga⟩) (nodes_arg HN.out hlt)
            rw [HG.out] at hcall
            cases hq : coreA g
            · rw [hq] at hcall
              have HR := hid (show coreA f = false by rw [HFL.out]; rw [allN_false (j := i) hlt (by rw [HG.out]; exact hq), Bool.and_false])
              have HCALL := hid hcall
              clear hcall ga hq
              go_wp2_with fail
              refine HCALL.out.mono ?_
              rintro e w1 ⟨rfl, hb1⟩
              have HB1 := hid (HBR.out.trans (hb1.mono HBR.out.size))
              clear hb1
              go_wp2_with fail
              go_ret
              exact ⟨ret_bool HR.out.symm, HB1.out⟩
            · rw [hq] at hcall
              have HQ := hid (show coreA (f.args.getD i default) = true by rw [HG.out]; exact hq)
              have HCALL := hid hcall
              clear hcall ga hq
              go_wp2_with fail
              refine HCALL.out.mono ?_
              rintro e w1 ⟨rfl, hb1⟩
              have HB1 := hid (HB.out.trans (hb1.mono HB.out.size))
              clear hb1
              go_wp2_with fail
              go_roundw
              case rel => exact ⟨i + 1, by omega, by go_num, HB1.out, HSF.out.succ HQ.out⟩
              case measure => simp [intOf]; omega
          · have hii : ¬ (i : Int) < f.args.length := by omega
            have HR := hid (show coreA f = true by rw [HFL.out]; rw [HP.out, Bool.true_and]; exact HSF.out.all (by omega))
            go_wp2_with fail
            go_ret
            exact ⟨ret_bool HR.out.symm, HBR.out⟩
      by_cases h15 : f.op = 15
      · have d1 : decide (1 ≤ f.op) = true := decide_eq_true (by omega)
        have d2 : decide (f.op ≤ 6) = false := decide_eq_false (by omega)
        have e8 : (f.op == 8) = false := beq_false_of (by omega)
        have e9 : (f.op == 9) = false := beq_false_of (by omega)
        have e10 : (f.op == 10) = false := beq_false_of (by omega)
        have e15 : (f.op == 15) = true := beq_iff_eq.2 h15
        clear h15
        go_wp2_with fail
        go_loopw [4] (fun q wr => ∃ i : Nat, i ≤ f.args.length ∧ q = .int .i64 (i : Int) ∧ Below W.heap.size W wr ∧ SoFar i (fun j => coreA (f.args.getD j default))) (fun q _ => f.args.length - (intOf q).toNat)
        case atStart => exact ⟨0, Nat.zero_le _, rfl, Below.refl _ _, SoFar.zero _⟩
        case round =>
          obtain ⟨i, hi, rfl, hb, hsf⟩ := hrel
          obtain ⟨x0, x1, x2, x3, x4, xl⟩ := (HBX.out.below hb).cells
          have HB := hid hb
          have HBR := hid (HBW.out.trans (hb.mono HBW.out.size))
          have HSF := hid hsf
          clear hb hsf
          by_cases hlt : i < f.args.length
          · have hii : (i : Int) < f.args.length := by omega
            obtain ⟨b, o, A', c', g, heq, HG, hg⟩ := (HA.out.keep (Keeps.of_below HBR.out fun _ h => h)).get hlt
            cases heq
            obtain ⟨gd, gl, g0, g1, g2, g3, g4, ga⟩ := hg
            have hcall := HIH.out i hlt (D := (· < w.heap.size)) (.agg #[.int .i64 g.op, .string g.name, .int .i64 g.val, .int .i64 g.bound, .slice A' g.args.length c']) wr (by rw [HG.out]; exact ⟨A', c', rfl, ga⟩) (nodes_arg HN.out hlt)
            rw [HG.out] at hcall
            cases hq : coreA g
            · rw [hq] at hcall
              have HR := hid (show coreA f = false by rw [HFL.out]; rw [allN_false (j := i) hlt (by rw [HG.out]; exact hq), Bool.and_false])
              have HCALL := hid hcall
              clear hcall ga hq
              go_wp2_with fail
              refine HCALL.out.mono ?_
              rintro e w1 ⟨rfl, hb1⟩
              have HB1 := hid (HBR.out.trans (hb1.mono HBR.out.size))
              clear hb1
              go_wp2_with fail
              go_ret
              exact ⟨ret_bool HR.out.symm, HB1.out⟩
            · rw [hq] at hcall
              have HQ := hid (show coreA (f.args.getD i default) = true by rw [HG.out]; exact hq)
              have HCALL := hid hcall
              clear hcall ga hq
              go_wp2_with fail
              refine HCALL.out.mono ?_
              rintro e w1 ⟨rfl, hb1⟩
              have HB1 := hid (HB.out.trans (hb1.mono HB.out.size))
              clear hb1
              go_wp2_with fail
              go_roundw
              case rel => exact ⟨i + 1, by omega, by go_num, HB1.out, HSF.out.succ HQ.out⟩
              case measure => simp [intOf]; omega
          · have hii : ¬ (i : Int) < f.args.length := by omega
            have HR := hid (show coreA f = true by rw [HFL.out]; rw [HP.out, Bool.true_and]; exact HSF.out.all (by omega))
            go_wp2_with fail
            go_ret
            exact ⟨ret_bool HR.out.symm, HBR.out⟩
      by_cases h16 : f.op = 16
      · have d1 : decide (1 ≤ f.op) = true := decide_eq_true (by omega)
        have d2 : decide (f.op ≤ 6) = false := decide_eq_false (by omega)
        have e8 : (f.op == 8) = false := beq_false_of (by omega)
        have e9 : (f.op == 9) = false := beq_false_of (by omega)
        have e10 : (f.op == 10) = false := beq_false_of (by omega)
        have e15 : (f.op == 15) = false := beq_false_of (by omega)
        have e16 : (f.op == 16) = true := beq_iff_eq.2 h16
        clear h16
        go_wp2_with fail
        go_loopw [4] (fun q wr => ∃ i : Nat, i ≤ f.args.length ∧ q = .int .i64 (i : Int) ∧ Below W.heap.size W wr ∧ SoFar i (fun j => coreA (f.args.getD j default))) (fun q _ => f.args.length - (intOf q).toNat)
        case atStart => exact ⟨0, Nat.zero_le _, rfl, Below.refl _ _, SoFar.zero _⟩
        case round =>
          obtain ⟨i, hi, rfl, hb, hsf⟩ := hrel
          obtain ⟨x0, x1, x2, x3, x4, xl⟩ := (HBX.out.below hb).cells
          have HB := hid hb
          have HBR := hid (HBW.out.trans (hb.mono HBW.out.size))
          have HSF := hid hsf
          clear hb hsf
          by_cases hlt : i < f.args.length
          · have hii : (i : Int) < f.args.length := by omega
            obtain ⟨b, o, A', c', g, heq, HG, hg⟩ := (HA.out.keep (Keeps.of_below HBR.out fun _ h => h)).get hlt
            cases heq
            obtain ⟨gd, gl, g0, g1, g2, g3, g4, ga⟩ := hg
            have hcall := HIH.out i hlt (D := (· < w.heap.size)) (.agg #[.int .i64 g.op, .string g.name, .int .i64 g.val, .int .i64 g.bound, .slice A' g.args.length c']) wr (by rw [HG.out]; exact ⟨A', c', rfl, ga⟩) (nodes_arg HN.out hlt)
            rw [HG.out] at hcall
            cases hq : coreA g
            · rw [hq] at hcall
              have HR := hid (show coreA f = false by rw [HFL.out]; rw [allN_false (j := i) hlt (by rw [HG.out]; exact hq), Bool.and_false])
              have HCALL := hid hcall
              clear hcall ga hq
              go_wp2_with fail
              refine HCALL.out.mono ?_
              rintro e w1 ⟨rfl, hb1⟩
              have HB1 := hid (HBR.out.trans (hb1.mono HBR.out.size))
              clear hb1
              go_wp2_with fail
              go_ret
              exact ⟨ret_bool HR.out.symm, HB1.out⟩
            · rw [hq] at hcall
              have HQ := hid (show coreA (f.args.getD i default) = true by rw [HG.out]; exact hq)
              have HCALL := hid hcall
              clear hcall ga hq
              go_wp2_with fail
              refine HCALL.out.mono ?_
              rintro e w1 ⟨rfl, hb1⟩
              have HB1 := hid (HB.out.trans (hb1.mono HB.out.size))
              clear hb1
              go_wp2_with fail
              go_roundw
              case rel => exact ⟨i + 1, by omega, by go_num, HB1.out, HSF.out.succ HQ.out⟩
              case measure => simp [intOf]; omega
          · have hii : ¬ (i : Int) < f.args.length := by omega
            have HR := hid (show coreA f = true by rw [HFL.out]; rw [HP.out, Bool.true_and]; exact HSF.out.all (by omega))
            go_wp2_with fail
            go_ret
            exact ⟨ret_bool HR.out.symm, HBR.out⟩
      by_cases h17 : f.op = 17
      · have d1 : decide (1 ≤ f.op) = true := decide_eq_true (by omega)
        have d2 : decide (f.op ≤ 6) = false := decide_eq_false (by omega)
        have e8 : (f.op == 8) = false := beq_false_of (by omega)
        have e9 : (f.op == 9) = false := beq_false_of (by omega)
        have e10 : (f.op == 10) = false := beq_false_of (by omega)
        have e15 : (f.op == 15) = false := beq_false_of (by omega)
        have e16 : (f.op == 16) = false := beq_false_of (by omega)
        have e17 : (f.op == 17) = true := beq_iff_eq.2 h17
        clear h17
        go_wp2_with fail
        go_loopw [4] (fun q wr => ∃ i : Nat, i ≤ f.args.length ∧ q = .int .i64 (i : Int) ∧ Below W.heap.size W wr ∧ SoFar i (fun j => coreA (f.args.getD j default))) (fun q _ => f.args.length - (intOf q).toNat)
        case atStart => exact ⟨0, Nat.zero_le _, rfl, Below.refl _ _, SoFar.zero _⟩
        case round =>
          obtain ⟨i, hi, rfl, hb, hsf⟩ := hrel
          obtain ⟨x0, x1, x2, x3, x4, xl⟩ := (HBX.out.below hb).cells
          have HB := hid hb
          have HBR := hid (HBW.out.trans (hb.mono HBW.out.size))
          have HSF := hid hsf
          clear hb hsf
          by_cases hlt : i < f.args.length
          · have hii : (i : Int) < f.args.length := by omega
            obtain ⟨b, o, A', c', g, heq, HG, hg⟩ := (HA.out.keep (Keeps.of_below HBR.out fun _ h => h)).get hlt
            cases heq
            obtain ⟨gd, gl, g0, g1, g2, g3, g4, ga⟩ := hg
            have hcall := HIH.out i hlt (D := (· < w.heap.size)) (.agg #[.int .i64 g.op, .string g.name, .int .i64 g.val, .int .i64 g.bound, .slice A' g.args.length c']) wr (by rw [HG.out]; exact ⟨A', c', rfl, ga⟩) (nodes_arg HN.out hlt)
            rw [HG.out] at hcall
            cases hq : coreA g
            · rw [hq] at hcall
              have HR := hid (show coreA f = false by rw [HFL.out]; rw [allN_false (j := i) hlt (by rw [HG.out]; exact hq), Bool.and_false])
              have HCALL := hid hcall
              clear hcall ga hq
              go_wp2_with fail
              refine HCALL.out.mono ?_
              rintro e w1 ⟨rfl, hb1⟩
              have HB1 := hid (HBR.out.trans (hb1.mono HBR.out.size))
              clear hb1
              go_wp2_with fail
              go_ret
              exact ⟨ret_bool HR.out.symm, HB1.out⟩
            · rw [hq] at hcall
              have HQ := hid (show coreA (f.args.getD i default) = true by rw [HG.out]; exact hq)
              have HCALL := hid hcall
              clear hcall ga hq
              go_wp2_with fail
              refine HCALL.out.mono ?_
              rintro e w1 ⟨rfl, hb1⟩
              have HB1 := hid (HB.out.trans (hb1.mono HB.out.size))
              clear hb1
              go_wp2_with fail
              go_roundw
              case rel => exact ⟨i + 1, by omega, by go_num, HB1.out, HSF.out.succ HQ.out⟩
              case measure => simp [intOf]; omega
          · have hii : ¬ (i : Int) < f.args.length := by omega
            have HR := hid (show coreA f = true by rw [HFL.out]; rw [HP.out, Bool.true_and]; exact HSF.out.all (by omega))
            go_wp2_with fail
            go_ret
            exact ⟨ret_bool HR.out.symm, HBR.out⟩
      exfalso
      have := HL.out
      simp only [Bool.and_eq_true, decide_eq_true_eq, beq_iff_eq] at this
      omega
end Go.Proofs.YtdakdpfofgkjoaaGreatDoor
set_option linter.unusedVariables false
set_option linter.unusedSimpArgs false
namespace Go.Proofs.YtdakdpfofgkjoaaGreatDoor
open Go.RowKit Go.Shelf
attribute [local go_sem] cell_alloc_old

theorem ret_count {o a b : Int} {q : Bool} (h : countZ o = (a, b, q)) : Ending.returned (.tuple #[.int .i64 a, .int .i64 b, .bool q]) = Ending.returned (.tuple #[.int .i64 (countZ o).1, .int .i64 (countZ o).2.1, .bool (countZ o).2.2]) := by rw [h]
set_option maxHeartbeats 4000000 in
theorem rcount_any (o : Int) (w : World) : Calls Tryz.prog 119 #[.int .i64 o] w fun e w' => e = .returned (.tuple #[.int .i64 (countZ o).1, .int .i64 (countZ o).2.1, .bool (countZ o).2.2]) ∧ w' = w := by
  go_enter Tryz.func119, Tryz.ntmps119
  go_wp2
  all_goals first
    | (refine bodyPost_ret (v := .tuple #[.int .i64 0, .int .i64 (0), .bool true]) ?_ rfl ⟨ret_count ?_, rfl⟩; (focus (simp [results, Tryz.results119, go_sem]; done)); simp only [beq_iff_eq, beq_eq_false_iff_ne, ne_eq] at *; unfold countZ; (repeat' split) <;> first | rfl | (exfalso; omega))
    | (refine bodyPost_ret (v := .tuple #[.int .i64 1, .int .i64 (1), .bool true]) ?_ rfl ⟨ret_count ?_, rfl⟩; (focus (simp [results, Tryz.results119, go_sem]; done)); simp only [beq_iff_eq, beq_eq_false_iff_ne, ne_eq] at *; unfold countZ; (repeat' split) <;> first | rfl | (exfalso; omega))
    | (refine bodyPost_ret (v := .tuple #[.int .i64 2, .int .i64 (2), .bool true]) ?_ rfl ⟨ret_count ?_, rfl⟩; (focus (simp [results, Tryz.results119, go_sem]; done)); simp only [beq_iff_eq, beq_eq_false_iff_ne, ne_eq] at *; unfold countZ; (repeat' split) <;> first | rfl | (exfalso; omega))
    | (refine bodyPost_ret (v := .tuple #[.int .i64 2, .int .i64 (-1), .bool true]) ?_ rfl ⟨ret_count ?_, rfl⟩; (focus (simp [results, Tryz.results119, go_sem]; done)); simp only [beq_iff_eq, beq_eq_false_iff_ne, ne_eq] at *; unfold countZ; (repeat' split) <;> first | rfl | (exfalso; omega))
    | (refine bodyPost_ret (v := .tuple #[.int .i64 0, .int .i64 (0), .bool false]) ?_ rfl ⟨ret_count ?_, rfl⟩; (focus (simp [results, Tryz.results119, go_sem]; done)); simp only [beq_iff_eq, beq_eq_false_iff_ne, ne_eq] at *; unfold countZ; (repeat' split) <;> first | rfl | (exfalso; omega))
theorem rkeys_any (w : World) : Calls Tryz.prog 133 #[] w fun e w' => ∃ b, e = .returned (.slice (some ⟨b, 0, none⟩) 10 10) ∧ b < w'.heap.size ∧ (∀ k, k < 10 → w'.cell? ⟨b, k, none⟩ = some (.string (keysL.getD k ByteArray.empty))) ∧ Below w.heap.size w w' := by
  go_enter Tryz.func133, Tryz.ntmps133
  go_wp2_with fail
  refine bodyPost_gen fun W hW => ?_
  have hb : Below w.heap.size w W := by rw [hW]; go_grown
  have hc : W.heap[w.heap.size]? = some (.cells #[.string ⟨#[105, 110, 112, 117, 116]⟩, .string ⟨#[111, 117, 116, 112, 117, 116]⟩, .string ⟨#[112, 97, 114, 116]⟩, .string ⟨#[97, 115, 115, 117, 109, 101]⟩, .string ⟨#[103, 117, 97, 114, 97, 110, 116, 101, 101]⟩, .string ⟨#[116, 114, 117, 101]⟩, .string ⟨#[102, 97, 108, 115, 101]⟩, .string ⟨#[97, 100, 100]⟩, .string ⟨#[100, 114, 111, 112]⟩, .string ⟨#[114, 101, 112, 108, 97, 99, 101]⟩] 9 (0, 0)) := by rw [hW]; exact heap_alloc_new w _
  clear hW
  go_ret
  refine ⟨w.heap.size, rfl, lt_of_block hc, fun k hk => ?_, hb⟩
  match k, hk with
  | 0, _ | 1, _ | 2, _ | 3, _ | 4, _ | 5, _ | 6, _ | 7, _ | 8, _ | 9, _ => exact block_cell hc rfl
theorem name_bad {s : ByteArray} {i : Nat} (hi : i < s.size) (h : okAt s i = false) : nameB s = false := by
  unfold nameB
  rw [allN_false hi h]; simp
theorem okAt_zero {s : ByteArray} : okAt s 0 = lowZ (byteZ s 0) := by unfold okAt; simp
theorem okAt_low {s : ByteArray} {i : Nat} (h1 : 97 ≤ byteZ s i) (h2 : byteZ s i ≤ 122) : okAt s i = true := by
  unfold okAt lowZ; rw [decide_eq_true h1, decide_eq_true h2]; rfl
set_option maxRecDepth 100000 in
set_option maxHeartbeats 8000000 in
theorem rname_any (s : ByteArray) (w : World) (h0w : 0 < w.heap.size) : Calls Tryz.prog 120 #[.string s] w fun e w' => e = .returned (.bool (nameB s)) ∧ Below w.heap.size w w' := by
  by_cases hs : s.size < 1
  · have HR := hid (name_short hs)
    have hsi : (s.size : Int) < 1 := by omega
    have hd : decide ((s.size : Int) < 1) = true := decide_eq_true hsi
    clear hs
    go_enter Tryz.func120, Tryz.ntmps120
    go_wp2_with fail
    go_ret
    rw [HR.out]
    exact ⟨rfl, by go_grown⟩
  by_cases hl : 12 < s.size
  · have HR := hid (name_long hl)
    have hsi : ¬ (s.size : Int) < 1 := by omega
    have hli : 12 < (s.size : Int) := by omega
    have hd : decide ((s.size : Int) < 1) = false := decide_eq_false hsi
    have hd2 : decide (12 < (s.size : Int)) = true := decide_eq_true hli
    clear hs hl
    go_enter Tryz.func120, Tryz.ntmps120
    go_wp2_with fail
    go_ret
    rw [HR.out]
    exact ⟨rfl, by go_grown⟩
  have hsi : ¬ (s.size : Int) < 1 := by omega
  have hli : ¬ 12 < (s.size : Int) := by omega
  have hd : decide ((s.size : Int) < 1) = false := decide_eq_false hsi
  have hd2 : decide (12 < (s.size : Int)) = false := decide_eq_false hli
  have hlt0 : 0 < s.size := by omega
  have hii0 : (0 : Int) < s.size := by omega
  have HS := hid hs
  have HL := hid hl
  have HX0 := hid (show byteZ s 0 = ((s[0]'hlt0).toNat : Int) by unfold byteZ; simp [hlt0])
  clear hs hl
  by_cases a0 : ((s[0]'hlt0).toNat : Int) < 97
  · have e0 : decide (((s[0]'hlt0).toNat : Int) < 97) = true := decide_eq_true a0
    have HR := hid (name_bad hlt0 (by rw [okAt_zero, HX0.out]; unfold lowZ; rw [decide_eq_false (show ¬ (97 : Int) ≤ ((s[0]'hlt0).toNat : Int) by omega)]; rfl))
    go_enter Tryz.func120, Tryz.ntmps120
    go_wp2_with fail
    go_ret
    rw [HR.out]
    exact ⟨rfl, by go_grown⟩
  have e0 : decide (((s[0]'hlt0).toNat : Int) < 97) = false := decide_eq_false a0
  by_cases a1 : 122 < ((s[0]'hlt0).toNat : Int)
  · have e1 : decide (122 < ((s[0]'hlt0).toNat : Int)) = true := decide_eq_true a1
    have HR := hid (name_bad hlt0 (by rw [okAt_zero, HX0.out]; unfold lowZ; rw [decide_eq_false (show ¬ ((s[0]'hlt0).toNat : Int) ≤ (122 : Int) by omega)]; simp))
    go_enter Tryz.func120, Tryz.ntmps120
    go_wp2_with fail
    go_ret
    rw [HR.out]
    exact ⟨rfl, by go_grown⟩
  have e1 : decide (122 < ((s[0]'hlt0).toNat : Int)) = false := decide_eq_false a1
  have HLOW := hid (And.intro (show 97 ≤ ((s[0]'hlt0).toNat : Int) by omega) (show ((s[0]'hlt0).toNat : Int) ≤ 122 by omega))
  go_enter Tryz.func120, Tryz.ntmps120
  go_upto_region 3 with (fail)
  clear a0 a1 e0 e1
  go_wp2_with fail
  go_loopw [3] (fun q wr => ∃ i : Nat, i ≤ s.size ∧ q = .int .i64 (i : Int) ∧ Drawn w wr ∧ SoFar i (okAt s)) (fun q _ => s.size - (intOf q).toNat)
  case atStart => exact ⟨0, Nat.zero_le _, rfl, Drawn.refl _, SoFar.zero _⟩
  case round =>
    obtain ⟨i, hi, rfl, hdr, hsf⟩ := hrel
    have HDR := hid hdr
    have HSF := hid hsf
    clear hsf hdr
    by_cases hlt : i < s.size
    · have hii : (i : Int) < s.size := by omega
      have HX := hid (show byteZ s i = ((s[i]'hlt).toNat : Int) by unfold byteZ; simp [hlt])
      by_cases hz : i = 0
      · subst hz
        have a1 : 97 ≤ ((s[0]'hlt).toNat : Int) := HLOW.out.1
        have a2 : ((s[0]'hlt).toNat : Int) ≤ 122 := HLOW.out.2
        have d1 := decide_eq_true a1
        have d2 := decide_eq_true a2
        have HOK := hid (okAt_low (s := s) (i := 0) (by rw [HX.out]; exact a1) (by rw [HX.out]; exact a2))
        go_wp2_with fail
        go_roundw
        case rel => exact ⟨0 + 1, by omega, by go_num, HDR.out, HSF.out.succ HOK.out⟩
        case measure => simp [intOf]; omega
      have h0 : 0 < i := by omega
      have HH0 := hid h0
      clear hz h0
      by_cases a1 : 97 ≤ ((s[i]'hlt).toNat : Int)
      · have d1 : decide (97 ≤ ((s[i]'hlt).toNat : Int)) = true := decide_eq_true a1
        by_cases a2 : ((s[i]'hlt).toNat : Int) ≤ 122
        · have d2 : decide (((s[i]'hlt).toNat : Int) ≤ 122) = true := decide_eq_true a2
          have HOK := hid (show okAt s i = true by unfold okAt lowZ digZ; rw [HX.out]; have := HH0.out; simp_all)
          go_wp2_with fail
          go_roundw
          case rel => exact ⟨i + 1, by omega, by go_num, HDR.out, HSF.out.succ HOK.out⟩
          case measure => simp [intOf]; omega
        · have d2 : decide (((s[i]'hlt).toNat : Int) ≤ 122) = false := decide_eq_false a2
          by_cases b1 : 48 ≤ ((s[i]'hlt).toNat : Int)
          · have g1 : decide (48 ≤ ((s[i]'hlt).toNat : Int)) = true := decide_eq_true b1
            by_cases b2 : ((s[i]'hlt).toNat : Int) ≤ 57
            · have g2 : decide (((s[i]'hlt).toNat : Int) ≤ 57) = true := decide_eq_true b2
              have HOK := hid (show okAt s i = true by unfold okAt lowZ digZ; rw [HX.out]; have := HH0.out; simp_all)
              go_wp2_with fail
              go_roundw
              case rel => exact ⟨i + 1, by omega, by go_num, HDR.out, HSF.out.succ HOK.out⟩
              case measure => simp [intOf]; omega
            · have g2 : decide (((s[i]'hlt).toNat : Int) ≤ 57) = false := decide_eq_false b2
              by_cases b3 : ((s[i]'hlt).toNat : Int) = 95
              · have g3 : (((s[i]'hlt).toNat : Int) == 95) = true := beq_iff_eq.2 b3
                have HOK := hid (show okAt s i = true by unfold okAt lowZ digZ; rw [HX.out]; have := HH0.out; simp_all)
                go_wp2_with fail
                go_roundw
                case rel => exact ⟨i + 1, by omega, by go_num, HDR.out, HSF.out.succ HOK.out⟩
                case measure => simp [intOf]; omega
              · have g3 : (((s[i]'hlt).toNat : Int) == 95) = false := beq_false_of b3
                have HR := hid (name_bad hlt (by unfold okAt lowZ digZ; rw [HX.out]; simp only [Bool.or_eq_false_iff, Bool.and_eq_false_iff, decide_eq_false_iff_not, beq_eq_false_iff_ne]; omega))
                go_wp2_with fail
                go_ret
                rw [HR.out]
                exact ⟨rfl, HDR.out.below _⟩
          · have g1 : decide (48 ≤ ((s[i]'hlt).toNat : Int)) = false := decide_eq_false b1
            by_cases b3 : ((s[i]'hlt).toNat : Int) = 95
            · have g3 : (((s[i]'hlt).toNat : Int) == 95) = true := beq_iff_eq.2 b3
              have HOK := hid (show okAt s i = true by unfold okAt lowZ digZ; rw [HX.out]; have := HH0.out; simp_all)
              go_wp2_with fail
              go_roundw
              case rel => exact ⟨i + 1, by omega, by go_num, HDR.out, HSF.out.succ HOK.out⟩
              case measure => simp [intOf]; omega
            · have g3 : (((s[i]'hlt).toNat : Int) == 95) = false := beq_false_of b3
              have HR := hid (name_bad hlt (by unfold okAt lowZ digZ; rw [HX.out]; simp only [Bool.or_eq_false_iff, Bool.and_eq_false_iff, decide_eq_false_iff_not, beq_eq_false_iff_ne]; omega))
              go_wp2_with fail
              go_ret
              rw [HR.out]
              exact ⟨rfl, HDR.out.below _⟩
      · have d1 : decide (97 ≤ ((s[i]'hlt).toNat : Int)) = false := decide_eq_false a1
        by_cases b1 : 48 ≤ ((s[i]'hlt).toNat : Int)
        · have g1 : decide (48 ≤ ((s[i]'hlt).toNat : Int)) = true := decide_eq_true b1
          by_cases b2 : ((s[i]'hlt).toNat : Int) ≤ 57
          · have g2 : decide (((s[i]'hlt).toNat : Int) ≤ 57) = true := decide_eq_true b2
            have HOK := hid (show okAt s i = true by unfold okAt lowZ digZ; rw [HX.out]; have := HH0.out; simp_all)
            go_wp2_with fail
            go_roundw
            case rel => exact ⟨i + 1, by omega, by go_num, HDR.out, HSF.out.succ HOK.out⟩
            case measure => simp [intOf]; omega
          · have g2 : decide (((s[i]'hlt).toNat : Int) ≤ 57) = false := decide_eq_false b2
            by_cases b3 : ((s[i]'hlt).toNat : Int) = 95
            · have g3 : (((s[i]'hlt).toNat : Int) == 95) = true := beq_iff_eq.2 b3
              have HOK := hid (show okAt s i = true by unfold okAt lowZ digZ; rw [HX.out]; have := HH0.out; simp_all)
              go_wp2_with fail
              go_roundw
              case rel => exact ⟨i + 1, by omega, by go_num, HDR.out, HSF.out.succ HOK.out⟩
              case measure => simp [intOf]; omega
            · have g3 : (((s[i]'hlt).toNat : Int) == 95) = false := beq_false_of b3
              have HR := hid (name_bad hlt (by unfold okAt lowZ digZ; rw [HX.out]; simp only [Bool.or_eq_false_iff, Bool.and_eq_false_iff, decide_eq_false_iff_not, beq_eq_false_iff_ne]; omega))
              go_wp2_with fail
              go_ret
              rw [HR.out]
              exact ⟨rfl, HDR.out.below _⟩
        · have g1 : decide (48 ≤ ((s[i]'hlt).toNat : Int)) = false := decide_eq_false b1
          by_cases b3 : ((s[i]'hlt).toNat : Int) = 95
          · have g3 : (((s[i]'hlt).toNat : Int) == 95) = true := beq_iff_eq.2 b3
            have HOK := hid (show okAt s i = true by unfold okAt lowZ digZ; rw [HX.out]; have := HH0.out; simp_all)
            go_wp2_with fail
            go_roundw
            case rel => exact ⟨i + 1, by omega, by go_num, HDR.out, HSF.out.succ HOK.out⟩
            case measure => simp [intOf]; omega
          · have g3 : (((s[i]'hlt).toNat : Int) == 95) = false := beq_false_of b3
            have HR := hid (name_bad hlt (by unfold okAt lowZ digZ; rw [HX.out]; simp only [Bool.or_eq_false_iff, Bool.and_eq_false_iff, decide_eq_false_iff_not, beq_eq_false_iff_ne]; omega))
            go_wp2_with fail
            go_ret
            rw [HR.out]
            exact ⟨rfl, HDR.out.below _⟩
    · have hii : ¬ (i : Int) < s.size := by omega
      have HALL := hid (show allN s.size (okAt s) = true from HSF.out.all (by omega))
      go_upto_region 9 with (first | (go_at_call 133; (with_reducible refine (rkeys_any _).mono ?_); rintro e W ⟨kb, rfl, hkb, hkc, hb⟩))
      have HBW := hid ((HDR.out.below w.heap.size).trans (hb.mono (HDR.out.below w.heap.size).size))
      have HKC := hid hkc
      have HKB := hid hkb
      clear hb hkc hkb
      go_wp2_with fail
      go_loopw [5] (fun q wr => ∃ k : Nat, k ≤ 10 ∧ q = .int .i64 (k : Int) ∧ Drawn W wr ∧ ∀ j, j < k → ((keysL.getD j ByteArray.empty).toList == s.toList) = false) (fun q _ => 10 - (intOf q).toNat)
      case atStart => exact ⟨0, Nat.zero_le _, rfl, Drawn.refl _, fun j h => absurd h (Nat.not_lt_zero _)⟩
      case round =>
        obtain ⟨k, hk, rfl, hdr2, hall⟩ := hrel
        have HDR2 := hid hdr2
        have HK := hid hall
        clear hall hdr2
        have HB2 := hid (HBW.out.trans ((HDR2.out.below W.heap.size).mono HBW.out.size))
        by_cases hkl : k < 10
        · have hki : (k : Int) < 10 := by omega
          obtain ⟨ky, hky⟩ : ∃ ky, keysL.getD k ByteArray.empty = ky := ⟨_, rfl⟩
          have hcell := ((HDR2.out.below W.heap.size).cell (p := ⟨kb, k, none⟩) HKB.out).trans (HKC.out k hkl)
          rw [hky] at hcell
          have HKY := hid hky
          clear hky
          by_cases he : (ky.toList == s.toList) = true
          · have HR := hid (name_key (s := s) hkl (by rw [HKY.out]; exact he))
            go_wp2_with fail
            go_ret
            rw [HR.out]
            exact ⟨rfl, HB2.out⟩
          · have hef : (ky.toList == s.toList) = false := by simpa using he
            go_wp2_with fail
            go_roundw
            case rel =>
              refine ⟨k + 1, by omega, by go_num, HDR2.out, fun j hj => ?_⟩
              by_cases e : j = k
              · rw [e, HKY.out]; exact hef
              · exact HK.out j (by omega)
            case measure => simp [intOf]; omega
        · have hki : ¬ (k : Int) < 10 := by omega
          have HR := hid (name_nokey (s := s) (by have := HS.out; omega) (by have := HL.out; omega) (fun j hj => HK.out j (by omega)))
          go_wp2_with fail
          go_ret
          rw [HR.out, HALL.out]
          exact ⟨rfl, HB2.out⟩
def bndO (o : Int) : Bool := o == 13 || o == 14
def lateO (o : Int) : Bool := o == 15 || o == 16 || o == 17
def numB (f : Fm) : Bool := (countZ f.op).2.2 && decide ((countZ f.op).1 ≤ (f.args.length : Int)) && (decide ((countZ f.op).2.1 < 0) || decide ((f.args.length : Int) ≤ (countZ f.op).2.1))
def isB (f : Fm) : Bool := nameB f.name && decide (0 ≤ f.val) && decide (f.val ≤ 3) && f.bound == 0
def restB (f : Fm) : Bool := f.name.toList.isEmpty && decide (0 ≤ f.val) && decide (f.val ≤ 1) && (lateO f.op || f.val == 0) && decide (0 ≤ f.bound) && decide (f.bound ≤ 9) && (bndO f.op || f.bound == 0)
theorem node_shaped {f : Fm} (hl : f.args.length ≤ manyN) : shapedB f = (numB f && if f.op = 3 then isB f else restB f) := by
  unfold manyN at hl
  by_cases h : isOp f.op = true
  · have hc := isOp_cases h
    rw [Bool.eq_iff_iff]
    constructor
    · intro hs
      obtain ⟨s1, s2, s3, s4, s5, s6, s7, s8⟩ := shp_out hs
      rcases hc with e | e | e | e | e | e | e | e | e | e | e | e | e | e | e | e | e | e | e
      all_goals
        rw [e] at s2 s3 s5 s7 s8 ⊢
        simp [formZ, isOp, formsL, form0, manyN, nameOk] at s2 s3 s5 s7 s8
        simp [numB, e, countZ, isB, restB, lateO, bndO, s8]
        try (repeat' (refine And.intro ?_ ?_))
      all_goals first | omega | (exact List.eq_nil_of_length_eq_zero (by omega)) | assumption
    · intro hs
      rcases hc with e | e | e | e | e | e | e | e | e | e | e | e | e | e | e | e | e | e | e
      all_goals
        rw [e] at hs
        simp [numB, e, countZ, isB, restB, lateO, bndO] at hs
        refine shp_of h ?_ ?_ ?_ ?_ ?_ ?_ ?_
      all_goals (try rw [e])
      all_goals (try simp [formZ, isOp, formsL, form0, manyN, nameOk])
      all_goals first | omega | (simp_all; done) | (simp_all; omega)
  · have : shapedB f = false := shaped_cases (.inl (by simpa using h))
    rw [this]
    unfold numB
    rw [countZ_not h]
    rfl
set_option maxRecDepth 100000 in
set_option maxHeartbeats 8000000 in
theorem rnode_any {D : Dom} (f : Fm) (v : Value) (w : World) (h : RdF3 w D v f) (hl : f.args.length ≤ manyN) : Calls Tryz.prog 101 #[v] w fun e w' => e = .returned (.bool (shapedB f)) ∧ Below w.heap.size w w' := by
  obtain ⟨A, c, rfl, ha⟩ := h
  have HA := hid ha.old
  have hal := ha.len.1
  have HSH := hid (node_shaped hl)
  clear ha hl
  go_enter Tryz.func101, Tryz.ntmps101
  go_upto_region 1 with (fail)
  refine wp_gen fun W hW => ?_
  have hbx : Box5 W w.heap.size f A c := by rw [hW]; exact Box5.new w f A c
  have HBX := hid hbx
  have HBW := hid (show Below w.heap.size w W by rw [hW]; go_grown)
  obtain ⟨x0, x1, x2, x3, x4, xl⟩ := hbx.cells
  clear hW hbx
  obtain ⟨⟨ka, kb, kq⟩, hk⟩ : ∃ k, countZ f.op = k := ⟨_, rfl⟩
  have HCOUNT := hid (rcount_any f.op W)
  rw [hk] at HCOUNT
  have HNUM := hid (show numB f = (kq && decide (ka ≤ (f.args.length : Int)) && (decide (kb < 0) || decide ((f.args.length : Int) ≤ kb))) by unfold numB; rw [hk])
  clear hk
  go_upto_region 2 with (first | (go_at_call 119; (with_reducible refine HCOUNT.out.mono ?_); rintro e W1 ⟨rfl, hw⟩))
  obtain rfl : W = W1 := hw.symm
  clear hw
  rename_i K hK
  refine wp_tail K (List.range' 15 20) (fun us W' => us 34 = .bool (!numB f) ∧ W' = W) ?_ ?_
  rotate_left
  · intro HTAIL
    have HTL := hid HTAIL
    clear HTAIL hK
    cases kq
    · have HR := hid (show numB f = false by rw [HNUM.out]; rfl)
      go_wp2_with fail
      refine tail_close HTL.out ⟨by rw [HR.out]; rfl, rfl⟩ ?_
      kernel_rfl
    by_cases h1 : (f.args.length : Int) < ka
    · have d1 : decide ((f.args.length : Int) < ka) = true := decide_eq_true h1
      have HR := hid (show numB f = false by rw [HNUM.out, decide_eq_false (show ¬ ka ≤ (f.args.length : Int) by omega)]; rfl)
      go_wp2_with fail
      refine tail_close HTL.out ⟨by rw [HR.out]; rfl, rfl⟩ ?_
      kernel_rfl
    have d1 : decide ((f.args.length : Int) < ka) = false := decide_eq_false h1
    by_cases h2 : 0 ≤ kb
    · have d2 : decide (0 ≤ kb) = true := decide_eq_true h2
      by_cases h3 : kb < (f.args.length : Int)
      · have d3 : decide (kb < (f.args.length : Int)) = true := decide_eq_true h3
        have HR := hid (show numB f = false by rw [HNUM.out, decide_eq_false (show ¬ kb < 0 by omega), decide_eq_false (show ¬ (f.args.length : Int) ≤ kb by omega)]; simp)
        go_wp2_with fail
        refine tail_close HTL.out ⟨by rw [HR.out]; rfl, rfl⟩ ?_
        kernel_rfl
      · have d3 : decide (kb < (f.args.length : Int)) = false := decide_eq_false h3
        have HR := hid (show numB f = true by rw [HNUM.out, decide_eq_true (show ka ≤ (f.args.length : Int) by omega), decide_eq_true (show (f.args.length : Int) ≤ kb by omega)]; simp)
        go_wp2_with fail
        refine tail_close HTL.out ⟨by rw [HR.out]; rfl, rfl⟩ ?_
        kernel_rfl
    · have d2 : decide (0 ≤ kb) = false := decide_eq_false h2
      have HR := hid (show numB f = true by rw [HNUM.out, decide_eq_true (show ka ≤ (f.args.length : Int) by omega), decide_eq_true (show kb < 0 by omega)]; simp)
      go_wp2_with fail
      refine tail_close HTL.out ⟨by rw [HR.out]; rfl, rfl⟩ ?_
      kernel_rfl
  rintro us W1 ⟨hu, hw⟩
  obtain rfl : W = W1 := hw.symm
  apply hK
  simp only [putAll, List.range', List.range'_succ, Act.put, List.setIfInBounds_toArray, List.set_cons_zero, List.set_cons_succ, Nat.reduceAdd]
  rw [hu]
  clear hK hu hw HNUM HCOUNT
  cases hn : numB f
  · have HR := hid (show shapedB f = false by rw [HSH.out, hn]; rfl)
    clear hn
    go_wp2_with fail
    go_ret
    rw [HR.out]
    exact ⟨rfl, HBW.out⟩
  rw [hn] at HSH
  clear hn
  by_cases h3 : f.op = 3
  · have d3 : (f.op == 3) = true := beq_iff_eq.2 h3
    rw [if_pos h3, Bool.true_and] at HSH
    clear h3
    have h0 := xl
    go_upto_region 5 with (fail)
    have HNM := hid (rname_any f.name W (by omega))
    cases hnm : nameB f.name
    · have HNQ := hid hnm
      have HR := hid (show isB f = false by unfold isB; simp [HNQ.out])
      go_wp2_with (first | (go_at_call 120; (with_reducible refine HNM.out.mono ?_); rw [HNQ.out]; rintro e W2 ⟨rfl, hb2⟩; obtain ⟨x0, x1, x2, x3, x4, xl2⟩ := (HBX.out.below hb2).cells))
      go_ret
      rw [HSH.out, HR.out]
      exact ⟨rfl, HBW.out.trans (hb2.mono HBW.out.size)⟩
    have HNQ := hid hnm
    clear hnm
    by_cases v0 : 0 ≤ f.val
    rotate_left
    · have dv0 : decide (0 ≤ f.val) = false := decide_eq_false v0
      have HR := hid (show isB f = false by unfold isB; simp [HNQ.out, v0])
      go_wp2_with (first | (go_at_call 120; (with_reducible refine HNM.out.mono ?_); rw [HNQ.out]; rintro e W2 ⟨rfl, hb2⟩; obtain ⟨x0, x1, x2, x3, x4, xl2⟩ := (HBX.out.below hb2).cells))
      go_ret
      rw [HSH.out, HR.out]
      exact ⟨rfl, HBW.out.trans (hb2.mono HBW.out.size)⟩
    have dv0 : decide (0 ≤ f.val) = true := decide_eq_true v0
    by_cases v1 : f.val ≤ 3
    rotate_left
    · have dv1 : decide (f.val ≤ 3) = false := decide_eq_false v1
      have HR := hid (show isB f = false by unfold isB; simp [HNQ.out, v1])
      go_wp2_with (first | (go_at_call 120; (with_reducible refine HNM.out.mono ?_); rw [HNQ.out]; rintro e W2 ⟨rfl, hb2⟩; obtain ⟨x0, x1, x2, x3, x4, xl2⟩ := (HBX.out.below hb2).cells))
      go_ret
      rw [HSH.out, HR.out]
      exact ⟨rfl, HBW.out.trans (hb2.mono HBW.out.size)⟩
    have dv1 : decide (f.val ≤ 3) = true := decide_eq_true v1
    by_cases b0 : f.bound = 0
    rotate_left
    · have db0 : (f.bound == 0) = false := beq_false_of b0
      have HR := hid (show isB f = false by unfold isB; simp [HNQ.out, b0])
      go_wp2_with (first | (go_at_call 120; (with_reducible refine HNM.out.mono ?_); rw [HNQ.out]; rintro e W2 ⟨rfl, hb2⟩; obtain ⟨x0, x1, x2, x3, x4, xl2⟩ := (HBX.out.below hb2).cells))
      go_ret
      rw [HSH.out, HR.out]
      exact ⟨rfl, HBW.out.trans (hb2.mono HBW.out.size)⟩
    have db0 : (f.bound == 0) = true := beq_iff_eq.2 b0
    have HR := hid (show isB f = true by unfold isB; simp [HNQ.out, v0, v1, b0])
    go_wp2_with (first | (go_at_call 120; (with_reducible refine HNM.out.mono ?_); rw [HNQ.out]; rintro e W2 ⟨rfl, hb2⟩; obtain ⟨x0, x1, x2, x3, x4, xl2⟩ := (HBX.out.below hb2).cells))
    go_ret
    rw [HSH.out, HR.out]
    exact ⟨rfl, HBW.out.trans (hb2.mono HBW.out.size)⟩
  have d3 : (f.op == 3) = false := beq_false_of h3
  rw [if_neg h3, Bool.true_and] at HSH
  go_upto_region 6 with (fail)
  rename_i K hK
  refine wp_tail K (6 :: List.range' 56 8) (fun us W' => us 6 = .bool (bndO f.op) ∧ W' = W) ?_ ?_
  rotate_left
  · intro HTAIL
    have HTL := hid HTAIL
    clear HTAIL hK
    by_cases k13 : f.op = 13
    · have e13 : (f.op == 13) = true := beq_iff_eq.2 k13
      have HR := hid (show bndO f.op = true by unfold bndO; rw [e13]; simp)
      go_wp2_with fail
      refine tail_close HTL.out ⟨by rw [HR.out]; rfl, rfl⟩ ?_
      kernel_rfl
    have e13 : (f.op == 13) = false := beq_false_of k13
    by_cases k14 : f.op = 14
    · have e14 : (f.op == 14) = true := beq_iff_eq.2 k14
      have HR := hid (show bndO f.op = true by unfold bndO; rw [e13, e14]; simp)
      go_wp2_with fail
      refine tail_close HTL.out ⟨by rw [HR.out]; rfl, rfl⟩ ?_
      kernel_rfl
    have e14 : (f.op == 14) = false := beq_false_of k14
    have HR := hid (show bndO f.op = false by unfold bndO; rw [e13, e14]; rfl)
    go_wp2_with fail
    refine tail_close HTL.out ⟨by rw [HR.out]; rfl, rfl⟩ ?_
    kernel_rfl
  rintro us W1 ⟨hu, hw⟩
  obtain rfl : W = W1 := hw.symm
  apply hK
  simp only [putAll, List.range', List.range'_succ, Act.put, List.setIfInBounds_toArray, List.set_cons_zero, List.set_cons_succ, Nat.reduceAdd]
  rw [hu]
  clear hK hu hw
  go_upto_region 7 with (fail)
  rename_i K hK
  refine wp_tail K (7 :: List.range' 64 13) (fun us W' => us 7 = .bool (lateO f.op) ∧ W' = W) ?_ ?_
  rotate_left
  · intro HTAIL
    have HTL := hid HTAIL
    clear HTAIL hK
    by_cases k15 : f.op = 15
    · have e15 : (f.op == 15) = true := beq_iff_eq.2 k15
      have HR := hid (show lateO f.op = true by unfold lateO; rw [e15]; simp)
      go_wp2_with fail
      refine tail_close HTL.out ⟨by rw [HR.out]; rfl, rfl⟩ ?_
      kernel_rfl
    have e15 : (f.op == 15) = false := beq_false_of k15
    by_cases k16 : f.op = 16
    · have e16 : (f.op == 16) = true := beq_iff_eq.2 k16
      have HR := hid (show lateO f.op = true by unfold lateO; rw [e15, e16]; simp)
      go_wp2_with fail
      refine tail_close HTL.out ⟨by rw [HR.out]; rfl, rfl⟩ ?_
      kernel_rfl
    have e16 : (f.op == 16) = false := beq_false_of k16
    by_cases k17 : f.op = 17
    · have e17 : (f.op == 17) = true := beq_iff_eq.2 k17
      have HR := hid (show lateO f.op = true by unfold lateO; rw [e15, e16, e17]; simp)
      go_wp2_with fail
      refine tail_close HTL.out ⟨by rw [HR.out]; rfl, rfl⟩ ?_
      kernel_rfl
    have e17 : (f.op == 17) = false := beq_false_of k17
    have HR := hid (show lateO f.op = false by unfold lateO; rw [e15, e16, e17]; rfl)
    go_wp2_with fail
    refine tail_close HTL.out ⟨by rw [HR.out]; rfl, rfl⟩ ?_
    kernel_rfl
  rintro us W1 ⟨hu, hw⟩
  obtain rfl : W = W1 := hw.symm
  apply hK
  simp only [putAll, List.range', List.range'_succ, Act.put, List.setIfInBounds_toArray, List.set_cons_zero, List.set_cons_succ, Nat.reduceAdd]
  rw [hu]
  clear hK hu hw
  go_upto_region 8 with (fail)
  obtain ⟨lt, hlt⟩ : ∃ q, q = lateO f.op := ⟨_, rfl⟩
  obtain ⟨bd, hbd⟩ : ∃ q, q = bndO f.op := ⟨_, rfl⟩
  have HREST := hid (show restB f = (f.name.toList.isEmpty && decide (0 ≤ f.val) && decide (f.val ≤ 1) && (lt || f.val == 0) && decide (0 ≤ f.bound) && decide (f.bound ≤ 9) && (bd || f.bound == 0)) by rw [hlt, hbd]; rfl)
  rw [← hlt, ← hbd]
  clear hlt hbd h3 d3
  cases hnm : f.name.toList.isEmpty
  · have HR := hid (show restB f = false by rw [HREST.out]; simp [hnm])
    go_wp2_with fail
    go_ret
    rw [HSH.out, HR.out]
    exact ⟨rfl, HBW.out⟩
  by_cases v0 : 0 ≤ f.val
  rotate_left
  · have dv0 : decide (0 ≤ f.val) = false := decide_eq_false v0
    have HR := hid (show restB f = false by rw [HREST.out]; simp [hnm, dv0])
    go_wp2_with fail
    go_ret
    rw [HSH.out, HR.out]
    exact ⟨rfl, HBW.out⟩
  have dv0 : decide (0 ≤ f.val) = true := decide_eq_true v0
  by_cases v1 : f.val ≤ 1
  rotate_left
  · have dv1 : decide (f.val ≤ 1) = false := decide_eq_false v1
    have HR := hid (show restB f = false by rw [HREST.out]; simp [hnm, dv0, dv1])
    go_wp2_with fail
    go_ret
    rw [HSH.out, HR.out]
    exact ⟨rfl, HBW.out⟩
  have dv1 : decide (f.val ≤ 1) = true := decide_eq_true v1
  cases lt
  · by_cases v2 : f.val = 0
    rotate_left
    · have dv2 : (f.val == 0) = false := beq_false_of v2
      have HR := hid (show restB f = false by rw [HREST.out]; simp [hnm, dv0, dv1, dv2])
      go_wp2_with fail
      go_ret
      rw [HSH.out, HR.out]
      exact ⟨rfl, HBW.out⟩
    have dv2 : (f.val == 0) = true := beq_iff_eq.2 v2
    by_cases b0 : 0 ≤ f.bound
    rotate_left
    · have db0 : decide (0 ≤ f.bound) = false := decide_eq_false b0
      have HR := hid (show restB f = false by rw [HREST.out]; simp [hnm, dv0, dv1, dv2, db0])
      go_wp2_with fail
      go_ret
      rw [HSH.out, HR.out]
      exact ⟨rfl, HBW.out⟩
    have db0 : decide (0 ≤ f.bound) = true := decide_eq_true b0
    by_cases b1 : f.bound ≤ 9
    rotate_left
    · have db1 : decide (f.bound ≤ 9) = false := decide_eq_false b1
      have HR := hid (show restB f = false by rw [HREST.out]; simp [hnm, dv0, dv1, dv2, db0, db1])
      go_wp2_with fail
      go_ret
      rw [HSH.out, HR.out]
      exact ⟨rfl, HBW.out⟩
    have db1 : decide (f.bound ≤ 9) = true := decide_eq_true b1
    cases bd
    · by_cases z : f.bound = 0
      rotate_left
      · have dz : (f.bound == 0) = false := beq_false_of z
        have HR := hid (show restB f = false by rw [HREST.out]; simp [hnm, dv0, dv1, dv2, db0, db1, dz])
        go_wp2_with fail
        go_ret
        rw [HSH.out, HR.out]
        exact ⟨rfl, HBW.out⟩
      have dz : (f.bound == 0) = true := beq_iff_eq.2 z
      have HR := hid (show restB f = true by rw [HREST.out]; simp [hnm, dv0, dv1, dv2, db0, db1, dz])
      go_wp2_with fail
      go_ret
      rw [HSH.out, HR.out]
      exact ⟨rfl, HBW.out⟩
    · have HR := hid (show restB f = true by rw [HREST.out]; simp [hnm, dv0, dv1, dv2, db0, db1])
      go_wp2_with fail
      go_ret
      rw [HSH.out, HR.out]
      exact ⟨rfl, HBW.out⟩
  · by_cases b0 : 0 ≤ f.bound
    rotate_left
    · have db0 : decide (0 ≤ f.bound) = false := decide_eq_false b0
      have HR := hid (show restB f = false by rw [HREST.out]; simp [hnm, dv0, dv1, db0])
      go_wp2_with fail
      go_ret
      rw [HSH.out, HR.out]
      exact ⟨rfl, HBW.out⟩
    have db0 : decide (0 ≤ f.bound) = true := decide_eq_true b0
    by_cases b1 : f.bound ≤ 9
    rotate_left
    · have db1 : decide (f.bound ≤ 9) = false := decide_eq_false b1
      have HR := hid (show restB f = false by rw [HREST.out]; simp [hnm, dv0, dv1, db0, db1])
      go_wp2_with fail
      go_ret
      rw [HSH.out, HR.out]
      exact ⟨rfl, HBW.out⟩
    have db1 : decide (f.bound ≤ 9) = true := decide_eq_true b1
    cases bd
    · by_cases z : f.bound = 0
      rotate_left
      · have dz : (f.bound == 0) = false := beq_false_of z
        have HR := hid (show restB f = false by rw [HREST.out]; simp [hnm, dv0, dv1, db0, db1, dz])
        go_wp2_with fail
        go_ret
        rw [HSH.out, HR.out]
        exact ⟨rfl, HBW.out⟩
      have dz : (f.bound == 0) = true := beq_iff_eq.2 z
      have HR := hid (show restB f = true by rw [HREST.out]; simp [hnm, dv0, dv1, db0, db1, dz])
      go_wp2_with fail
      go_ret
      rw [HSH.out, HR.out]
      exact ⟨rfl, HBW.out⟩
    · have HR := hid (show restB f = true by rw [HREST.out]; simp [hnm, dv0, dv1, db0, db1])
      go_wp2_with fail
      go_ret
      rw [HSH.out, HR.out]
      exact ⟨rfl, HBW.out⟩
end Go.Proofs.YtdakdpfofgkjoaaGreatDoor
set_option linter.unusedVariables false
set_option linter.unusedSimpArgs false
namespace Go.Proofs.YtdakdpfofgkjoaaGreatDoor
open Go.RowKit Go.Shelf
attribute [local go_sem] cell_alloc_old

set_option maxRecDepth 100000 in
set_option maxHeartbeats 4000000 in
theorem rnodes_any (f : Fm) : ∀ {D : Dom} (v : Value) (w : World) (h : RdF3 w D v f) (hz : f.size ≤ 1000000), Calls Tryz.prog 67 #[v] w fun e w' => e = .returned (.bool (nodesA f)) ∧ Below w.heap.size w w' := by
  refine Fm.induct (P := fun f => ∀ {D : Dom} (v : Value) (w : World) (h : RdF3 w D v f) (hz : f.size ≤ 1000000), Calls Tryz.prog 67 #[v] w fun e w' => e = .returned (.bool (nodesA f)) ∧ Below w.heap.size w w') ?_ f
  intro f ih D v w h hz
  have HIH := hid ih
  have HFL := hid (show nodesA f = (shapedB f && allN f.args.length fun i => nodesA (f.args.getD i default)) from allB_flat shapedB f)
  obtain ⟨A, c, rfl, ha⟩ := h
  have HA := hid ha.old
  have hal := ha.len.1
  clear ih ha
  go_enter Tryz.func67, Tryz.ntmps67
  go_upto_region 1 with (fail)
  refine wp_gen fun W hW => ?_
  have hbx : Box5 W w.heap.size f A c := by rw [hW]; exact Box5.new w f A c
  have HBX := hid hbx
  have HBW := hid (show Below w.heap.size w W by rw [hW]; go_grown)
  obtain ⟨x0, x1, x2, x3, x4, xl⟩ := hbx.cells
  clear hW hbx
  have HZ := hid hz
  have HND := hid (rnode_any f (.agg #[.int .i64 f.op, .string f.name, .int .i64 f.val, .int .i64 f.bound, .slice A f.args.length c]) W ⟨A, c, rfl, HA.out.keep (Keeps.of_below HBW.out fun _ h => h)⟩ (by have := args_sizes f.args; have := Fm.size_eq f; unfold manyN; omega))
  clear hz
  cases hs : shapedB f
  · have HR := hid (show nodesA f = false by rw [HFL.out, hs]; rfl)
    rw [hs] at HND
    clear hs
    go_wp2_with (first | (go_at_call 101; (with_reducible refine HND.out.mono ?_); rintro e w1 ⟨rfl, hb⟩))
    go_ret
    exact ⟨ret_bool HR.out.symm, HBW.out.trans (hb.mono HBW.out.size)⟩
  have HP := hid hs
  rw [hs] at HND
  clear hs
  go_upto_region 3 with (first | (go_at_call 101; (with_reducible refine HND.out.mono ?_); rintro e W1 ⟨rfl, hb⟩))
  replace HBX := hid (HBX.out.below hb)
  replace HBW := hid (HBW.out.trans (hb.mono HBW.out.size))
  clear hb HND x0 x1 x2 x3 x4 xl
  rename World => W
  go_wp2_with fail
  go_loopw [3] (fun q wr => ∃ i : Nat, i ≤ f.args.length ∧ q = .int .i64 (i : Int) ∧ Below W.heap.size W wr ∧ SoFar i (fun j => nodesA (f.args.getD j default))) (fun q _ => f.args.length - (intOf q).toNat)
  case atStart => exact ⟨0, Nat.zero_le _, rfl, Below.refl _ _, SoFar.zero _⟩
  case round =>
    obtain ⟨i, hi, rfl, hb, hsf⟩ := hrel
    obtain ⟨x0, x1, x2, x3, x4, xl⟩ := (HBX.out.below hb).cells
    have HB := hid hb
    have HBR := hid (HBW.out.trans (hb.mono HBW.out.size))
    have HSF := hid hsf
    clear hb hsf
    by_cases hlt : i < f.args.length
    · have hii : (i : Int) < f.args.length := by omega
      obtain ⟨b, o, A', c', g, heq, HG, hg⟩ := (HA.out.keep (Keeps.of_below HBR.out fun _ h => h)).get hlt
      cases heq
      obtain ⟨gd, gl, g0, g1, g2, g3, g4, ga⟩ := hg
      have hcall := HIH.out i hlt (D := (· < w.heap.size)) (.agg #[.int .i64 g.op, .string g.name, .int .i64 g.val, .int .i64 g.bound, .slice A' g.args.length c']) wr (by rw [HG.out]; exact ⟨A', c', rfl, ga⟩) (by have := arg_size hlt; have := HZ.out; omega)
      rw [HG.out] at hcall
      cases hq : nodesA g
      · rw [hq] at hcall
        have HR := hid (show nodesA f = false by rw [HFL.out]; rw [allN_false (j := i) hlt (by rw [HG.out]; exact hq), Bool.and_false])
        have HCALL := hid hcall
        clear hcall ga hq
        go_wp2_with fail
        refine HCALL.out.mono ?_
        rintro e w1 ⟨rfl, hb1⟩
        have HB1 := hid (HBR.out.trans (hb1.mono HBR.out.size))
        clear hb1
        go_wp2_with fail
        go_ret
        exact ⟨ret_bool HR.out.symm, HB1.out⟩
      · rw [hq] at hcall
        have HQ := hid (show nodesA (f.args.getD i default) = true by rw [HG.out]; exact hq)
        have HCALL := hid hcall
        clear hcall ga hq
        go_wp2_with fail
        refine HCALL.out.mono ?_
        rintro e w1 ⟨rfl, hb1⟩
        have HB1 := hid (HB.out.trans (hb1.mono HB.out.size))
        clear hb1
        go_wp2_with fail
        go_roundw
        case rel => exact ⟨i + 1, by omega, by go_num, HB1.out, HSF.out.succ HQ.out⟩
        case measure => simp [intOf]; omega
    · have hii : ¬ (i : Int) < f.args.length := by omega
      have HR := hid (show nodesA f = true by rw [HFL.out]; rw [HP.out, Bool.true_and]; exact HSF.out.all (by omega))
      go_wp2_with fail
      go_ret
      exact ⟨ret_bool HR.out.symm, HBR.out⟩
section
variable {D : Dom} {v : Value} {f : Fm} {w : World}
theorem rsmall_r (m : Nat) (l : Int) (hl : l = (m : Int)) (hm : m ≤ 1000000) (r : Bool) (hr : decide (f.size ≤ m) = r) (h : RdF3 w D v f) : Calls Tryz.prog 7 #[v, .int .i64 l] w fun e w' => e = .returned (.bool r) ∧ Below w.heap.size w w' := by
  subst hl
  rw [← hr]; exact rsmall_any f _ m w h hm
theorem rnodes_r (r : Bool) (hr : nodesA f = r) (hz : f.size ≤ 1000000) (h : RdF3 w D v f) : Calls Tryz.prog 67 #[v] w fun e w' => e = .returned (.bool r) ∧ Below w.heap.size w w' := by
  rw [← hr]; exact rnodes_any f v w h hz
theorem rcore_r (r : Bool) (hr : coreA f = r) (hn : nodesA f = true) (h : RdF3 w D v f) : Calls Tryz.prog 95 #[v] w fun e w' => e = .returned (.bool r) ∧ Below w.heap.size w w' := by
  rw [← hr]; exact rcore_any f v w h hn
theorem rlay_r (r : Bool) (hr : layL f = r) (h : RdF3 w D v f) : Calls Tryz.prog 53 #[v] w fun e w' => e = .returned (.bool r) ∧ Below w.heap.size w w' := by
  rw [← hr]; exact rlayered_any f v w h
end
def looseR (f : Fm) : Bool := decide (f.size ≤ 400) && decide (f.depth ≤ 60) && nodesA f && coreA f && layL f
def validR (f : Fm) : Bool := decide (f.size ≤ 60) && decide (f.depth ≤ 20) && nodesA f
def lowR (f : Fm) : Bool := decide (f.size ≤ 100) && decide (f.depth ≤ 50) && looseR f
set_option maxRecDepth 100000 in
set_option maxHeartbeats 4000000 in
theorem rvalid_any {D : Dom} (f : Fm) (v : Value) (w : World) (h : RdF3 w D v f) : Calls Tryz.prog 40 #[v] w fun e w' => e = .returned (.bool (validR f)) ∧ Below w.heap.size w w' := by
  obtain ⟨A, c, rfl, ha⟩ := h
  have HA := hid ha.old
  clear ha
  go_enter Tryz.func40, Tryz.ntmps40
  go_upto_region 1 with (fail)
  refine wp_gen fun W hW => ?_
  have hbx : Box5 W w.heap.size f A c := by rw [hW]; exact Box5.new w f A c
  have HBX := hid hbx
  have HBW := hid (show Below w.heap.size w W by rw [hW]; go_grown)
  have HV : Hid (RdF3 W AnyD (.agg #[.int .i64 f.op, .string f.name, .int .i64 f.val, .int .i64 f.bound, .slice A f.args.length c]) f) := hid ⟨A, c, rfl, (HA.out.keep (Keeps.of_below HBW.out fun _ h => h)).mono fun _ _ _ => trivial⟩
  obtain ⟨x0, x1, x2, x3, x4, xl⟩ := hbx.cells
  clear hW hbx HA
  by_cases c0 : f.size ≤ 60
  rotate_left
  · have hc0 := hid (decide_eq_false c0)
    have HR := hid (show validR f = false by unfold validR; rw [hc0.out]; rfl)
    go_wp2_with (go_at_call 7; (with_reducible refine (rsmall_r (D := AnyD) (f := f) 60 60 rfl ?_ false ?_ ?_).mono ?_); decide; exact hc0.out; exact HV.out; rintro e U ⟨rfl, hb⟩; clear x0 x1 x2 x3 x4 xl; replace HV := hid (HV.out.any hb); replace HBX := hid (HBX.out.below hb); replace HBW := hid (HBW.out.trans (hb.mono HBW.out.size)); obtain ⟨x0, x1, x2, x3, x4, xl⟩ := HBX.out.cells; clear hb)
    go_ret
    exact ⟨ret_bool HR.out.symm, HBW.out⟩
  have hc0 := hid (decide_eq_true c0)
  have HSZ := hid c0
  by_cases c1 : f.depth ≤ 20
  rotate_left
  · have hc1 := hid (decide_eq_false c1)
    have e1 : decide ((f.depth : Int) ≤ 20) = false := decide_eq_false (by omega)
    have k1 : ¬ (f.depth : Int) ≤ 20 := by omega
    clear c0 c1
    have HR := hid (show validR f = false by unfold validR; rw [hc0.out, hc1.out]; rfl)
    go_wp2_with (first | (go_at_call 7; (with_reducible refine (rsmall_r (D := AnyD) (f := f) 60 60 rfl ?_ true ?_ ?_).mono ?_); decide; exact hc0.out; exact HV.out; rintro e U ⟨rfl, hb⟩; clear x0 x1 x2 x3 x4 xl; replace HV := hid (HV.out.any hb); replace HBX := hid (HBX.out.below hb); replace HBW := hid (HBW.out.trans (hb.mono HBW.out.size)); obtain ⟨x0, x1, x2, x3, x4, xl⟩ := HBX.out.cells; clear hb) | (go_at_call 66; (with_reducible refine (rdepth_any f _ _ HV.out ?_).mono ?_); (have := depth_size f; have := HSZ.out; omega); rintro e U ⟨rfl, hb⟩; clear x0 x1 x2 x3 x4 xl; replace HV := hid (HV.out.any hb); replace HBX := hid (HBX.out.below hb); replace HBW := hid (HBW.out.trans (hb.mono HBW.out.size)); obtain ⟨x0, x1, x2, x3, x4, xl⟩ := HBX.out.cells; clear hb))
    go_ret
    exact ⟨ret_bool HR.out.symm, HBW.out⟩
  have hc1 := hid (decide_eq_true c1)
  have e1 : decide ((f.depth : Int) ≤ 20) = true := decide_eq_true (by omega)
  have k1 : (f.depth : Int) ≤ 20 := by omega
  clear c0 c1
  cases c2 : nodesA f
  · have hc2 := hid c2
    clear c2
    have HR := hid (show validR f = false by unfold validR; rw [hc0.out, hc1.out, hc2.out]; rfl)
    go_wp2_with (first | (go_at_call 7; (with_reducible refine (rsmall_r (D := AnyD) (f := f) 60 60 rfl ?_ true ?_ ?_).mono ?_); decide; exact hc0.out; exact HV.out; rintro e U ⟨rfl, hb⟩; clear x0 x1 x2 x3 x4 xl; replace HV := hid (HV.out.any hb); replace HBX := hid (HBX.out.below hb); replace HBW := hid (HBW.out.trans (hb.mono HBW.out.size)); obtain ⟨x0, x1, x2, x3, x4, xl⟩ := HBX.out.cells; clear hb) | (go_at_call 66; (with_reducible refine (rdepth_any f _ _ HV.out ?_).mono ?_); (have := depth_size f; have := HSZ.out; omega); rintro e U ⟨rfl, hb⟩; clear x0 x1 x2 x3 x4 xl; replace HV := hid (HV.out.any hb); replace HBX := hid (HBX.out.below hb); replace HBW := hid (HBW.out.trans (hb.mono HBW.out.size)); obtain ⟨x0, x1, x2, x3, x4, xl⟩ := HBX.out.cells; clear hb) | (go_at_call 67; (with_reducible refine (rnodes_r (D := AnyD) (f := f) false ?_ ?_ ?_).mono ?_); exact hc2.out; (have := HSZ.out; omega); exact HV.out; rintro e U ⟨rfl, hb⟩; clear x0 x1 x2 x3 x4 xl; replace HV := hid (HV.out.any hb); replace HBX := hid (HBX.out.below hb); replace HBW := hid (HBW.out.trans (hb.mono HBW.out.size)); obtain ⟨x0, x1, x2, x3, x4, xl⟩ := HBX.out.cells; clear hb))
    go_ret
    exact ⟨ret_bool HR.out.symm, HBW.out⟩
  have hc2 := hid c2
  clear c2
  have HR := hid (show validR f = true by unfold validR; rw [hc0.out, hc1.out, hc2.out]; rfl)
  go_wp2_with (first | (go_at_call 7; (with_reducible refine (rsmall_r (D := AnyD) (f := f) 60 60 rfl ?_ true ?_ ?_).mono ?_); decide; exact hc0.out; exact HV.out; rintro e U ⟨rfl, hb⟩; clear x0 x1 x2 x3 x4 xl; replace HV := hid (HV.out.any hb); replace HBX := hid (HBX.out.below hb); replace HBW := hid (HBW.out.trans (hb.mono HBW.out.size)); obtain ⟨x0, x1, x2, x3, x4, xl⟩ := HBX.out.cells; clear hb) | (go_at_call 66; (with_reducible refine (rdepth_any f _ _ HV.out ?_).mono ?_); (have := depth_size f; have := HSZ.out; omega); rintro e U ⟨rfl, hb⟩; clear x0 x1 x2 x3 x4 xl; replace HV := hid (HV.out.any hb); replace HBX := hid (HBX.out.below hb); replace HBW := hid (HBW.out.trans (hb.mono HBW.out.size)); obtain ⟨x0, x1, x2, x3, x4, xl⟩ := HBX.out.cells; clear hb) | (go_at_call 67; (with_reducible refine (rnodes_r (D := AnyD) (f := f) true ?_ ?_ ?_).mono ?_); exact hc2.out; (have := HSZ.out; omega); exact HV.out; rintro e U ⟨rfl, hb⟩; clear x0 x1 x2 x3 x4 xl; replace HV := hid (HV.out.any hb); replace HBX := hid (HBX.out.below hb); replace HBW := hid (HBW.out.trans (hb.mono HBW.out.size)); obtain ⟨x0, x1, x2, x3, x4, xl⟩ := HBX.out.cells; clear hb))
  go_ret
  exact ⟨ret_bool HR.out.symm, HBW.out⟩
set_option maxRecDepth 100000 in
set_option maxHeartbeats 4000000 in
theorem rloose_any {D : Dom} (f : Fm) (v : Value) (w : World) (h : RdF3 w D v f) : Calls Tryz.prog 56 #[v] w fun e w' => e = .returned (.bool (looseR f)) ∧ Below w.heap.size w w' := by
  obtain ⟨A, c, rfl, ha⟩ := h
  have HA := hid ha.old
  clear ha
  go_enter Tryz.func56, Tryz.ntmps56
  go_upto_region 1 with (fail)
  refine wp_gen fun W hW => ?_
  have hbx : Box5 W w.heap.size f A c := by rw [hW]; exact Box5.new w f A c
  have HBX := hid hbx
  have HBW := hid (show Below w.heap.size w W by rw [hW]; go_grown)
  have HV : Hid (RdF3 W AnyD (.agg #[.int .i64 f.op, .string f.name, .int .i64 f.val, .int .i64 f.bound, .slice A f.args.length c]) f) := hid ⟨A, c, rfl, (HA.out.keep (Keeps.of_below HBW.out fun _ h => h)).mono fun _ _ _ => trivial⟩
  obtain ⟨x0, x1, x2, x3, x4, xl⟩ := hbx.cells
  clear hW hbx HA
  by_cases c0 : f.size ≤ 400
  rotate_left
  · have hc0 := hid (decide_eq_false c0)
    have HR := hid (show looseR f = false by unfold looseR; rw [hc0.out]; rfl)
    go_wp2_with (go_at_call 7; (with_reducible refine (rsmall_r (D := AnyD) (f := f) 400 400 rfl ?_ false ?_ ?_).mono ?_); decide; exact hc0.out; exact HV.out; rintro e U ⟨rfl, hb⟩; clear x0 x1 x2 x3 x4 xl; replace HV := hid (HV.out.any hb); replace HBX := hid (HBX.out.below hb); replace HBW := hid (HBW.out.trans (hb.mono HBW.out.size)); obtain ⟨x0, x1, x2, x3, x4, xl⟩ := HBX.out.cells; clear hb)
    go_ret
    exact ⟨ret_bool HR.out.symm, HBW.out⟩
  have hc0 := hid (decide_eq_true c0)
  have HSZ := hid c0
  by_cases c1 : f.depth ≤ 60
  rotate_left
  · have hc1 := hid (decide_eq_false c1)
    have e1 : decide ((f.depth : Int) ≤ 60) = false := decide_eq_false (by omega)
    have k1 : ¬ (f.depth : Int) ≤ 60 := by omega
    clear c0 c1
    have HR := hid (show looseR f = false by unfold looseR; rw [hc0.out, hc1.out]; rfl)
    go_wp2_with (first | (go_at_call 7; (with_reducible refine (rsmall_r (D := AnyD) (f := f) 400 400 rfl ?_ true ?_ ?_).mono ?_); decide; exact hc0.out; exact HV.out; rintro e U ⟨rfl, hb⟩; clear x0 x1 x2 x3 x4 xl; replace HV := hid (HV.out.any hb); replace HBX := hid (HBX.out.below hb); replace HBW := hid (HBW.out.trans (hb.mono HBW.out.size)); obtain ⟨x0, x1, x2, x3, x4, xl⟩ := HBX.out.cells; clear hb) | (go_at_call 66; (with_reducible refine (rdepth_any f _ _ HV.out ?_).mono ?_); (have := depth_size f; have := HSZ.out; omega); rintro e U ⟨rfl, hb⟩; clear x0 x1 x2 x3 x4 xl; replace HV := hid (HV.out.any hb); replace HBX := hid (HBX.out.below hb); replace HBW := hid (HBW.out.trans (hb.mono HBW.out.size)); obtain ⟨x0, x1, x2, x3, x4, xl⟩ := HBX.out.cells; clear hb))
    go_ret
    exact ⟨ret_bool HR.out.symm, HBW.out⟩
  have hc1 := hid (decide_eq_true c1)
  have e1 : decide ((f.depth : Int) ≤ 60) = true := decide_eq_true (by omega)
  have k1 : (f.depth : Int) ≤ 60 := by omega
  clear c0 c1
  cases c2 : nodesA f
  · have hc2 := hid c2
    clear c2
    have HR := hid (show looseR f = false by unfold looseR; rw [hc0.out, hc1.out, hc2.out]; rfl)
    go_wp2_with (first | (go_at_call 7; (with_reducible refine (rsmall_r (D := AnyD) (f := f) 400 400 rfl ?_ true ?_ ?_).mono ?_); decide; exact hc0.out; exact HV.out; rintro e U ⟨rfl, hb⟩; clear x0 x1 x2 x3 x4 xl; replace HV := hid (HV.out.any hb); replace HBX := hid (HBX.out.below hb); replace HBW := hid (HBW.out.trans (hb.mono HBW.out.size)); obtain ⟨x0, x1, x2, x3, x4, xl⟩ := HBX.out.cells; clear hb) | (go_at_call 66; (with_reducible refine (rdepth_any f _ _ HV.out ?_).mono ?_); (have := depth_size f; have := HSZ.out; omega); rintro e U ⟨rfl, hb⟩; clear x0 x1 x2 x3 x4 xl; replace HV := hid (HV.out.any hb); replace HBX := hid (HBX.out.below hb); replace HBW := hid (HBW.out.trans (hb.mono HBW.out.size)); obtain ⟨x0, x1, x2, x3, x4, xl⟩ := HBX.out.cells; clear hb) | (go_at_call 67; (with_reducible refine (rnodes_r (D := AnyD) (f := f) false ?_ ?_ ?_).mono ?_); exact hc2.out; (have := HSZ.out; omega); exact HV.out; rintro e U ⟨rfl, hb⟩; clear x0 x1 x2 x3 x4 xl; replace HV := hid (HV.out.any hb); replace HBX := hid (HBX.out.below hb); replace HBW := hid (HBW.out.trans (hb.mono HBW.out.size)); obtain ⟨x0, x1, x2, x3, x4, xl⟩ := HBX.out.cells; clear hb))
    go_ret
    exact ⟨ret_bool HR.out.symm, HBW.out⟩
  have hc2 := hid c2
  clear c2
  cases c3 : coreA f
  · have hc3 := hid c3
    clear c3
    have HR := hid (show looseR f = false by unfold looseR; rw [hc0.out, hc1.out, hc2.out, hc3.out]; rfl)
    go_wp2_with (first | (go_at_call 7; (with_reducible refine (rsmall_r (D := AnyD) (f := f) 400 400 rfl ?_ true ?_ ?_).mono ?_); decide; exact hc0.out; exact HV.out; rintro e U ⟨rfl, hb⟩; clear x0 x1 x2 x3 x4 xl; replace HV := hid (HV.out.any hb); replace HBX := hid (HBX.out.below hb); replace HBW := hid (HBW.out.trans (hb.mono HBW.out.size)); obtain ⟨x0, x1, x2, x3, x4, xl⟩ := HBX.out.cells; clear hb) | (go_at_call 66; (with_reducible refine (rdepth_any f _ _ HV.out ?_).mono ?_); (have := depth_size f; have := HSZ.out; omega); rintro e U ⟨rfl, hb⟩; clear x0 x1 x2 x3 x4 xl; replace HV := hid (HV.out.any hb); replace HBX := hid (HBX.out.below hb); replace HBW := hid (HBW.out.trans (hb.mono HBW.out.size)); obtain ⟨x0, x1, x2, x3, x4, xl⟩ := HBX.out.cells; clear hb) | (go_at_call 67; (with_reducible refine (rnodes_r (D := AnyD) (f := f) true ?_ ?_ ?_).mono ?_); exact hc2.out; (have := HSZ.out; omega); exact HV.out; rintro e U ⟨rfl, hb⟩; clear x0 x1 x2 x3 x4 xl; replace HV := hid (HV.out.any hb); replace HBX := hid (HBX.out.below hb); replace HBW := hid (HBW.out.trans (hb.mono HBW.out.size)); obtain ⟨x0, x1, x2, x3, x4, xl⟩ := HBX.out.cells; clear hb) | (go_at_call 95; (with_reducible refine (rcore_r (D := AnyD) (f := f) false ?_ ?_ ?_).mono ?_); exact hc3.out; exact hc2.out; exact HV.out; rintro e U ⟨rfl, hb⟩; clear x0 x1 x2 x3 x4 xl; replace HV := hid (HV.out.any hb); replace HBX := hid (HBX.out.below hb); replace HBW := hid (HBW.out.trans (hb.mono HBW.out.size)); obtain ⟨x0, x1, x2, x3, x4, xl⟩ := HBX.out.cells; clear hb))
    go_ret
    exact ⟨ret_bool HR.out.symm, HBW.out⟩
  have hc3 := hid c3
  clear c3
  cases c4 : layL f
  · have hc4 := hid c4
    clear c4
    have HR := hid (show looseR f = false by unfold looseR; rw [hc0.out, hc1.out, hc2.out, hc3.out, hc4.out]; rfl)
    go_wp2_with (first | (go_at_call 7; (with_reducible refine (rsmall_r (D := AnyD) (f := f) 400 400 rfl ?_ true ?_ ?_).mono ?_); decide; exact hc0.out; exact HV.out; rintro e U ⟨rfl, hb⟩; clear x0 x1 x2 x3 x4 xl; replace HV := hid (HV.out.any hb); replace HBX := hid (HBX.out.below hb); replace HBW := hid (HBW.out.trans (hb.mono HBW.out.size)); obtain ⟨x0, x1, x2, x3, x4, xl⟩ := HBX.out.cells; clear hb) | (go_at_call 66; (with_reducible refine (rdepth_any f _ _ HV.out ?_).mono ?_); (have := depth_size f; have := HSZ.out; omega); rintro e U ⟨rfl, hb⟩; clear x0 x1 x2 x3 x4 xl; replace HV := hid (HV.out.any hb); replace HBX := hid (HBX.out.below hb); replace HBW := hid (HBW.out.trans (hb.mono HBW.out.size)); obtain ⟨x0, x1, x2, x3, x4, xl⟩ := HBX.out.cells; clear hb) | (go_at_call 67; (with_reducible refine (rnodes_r (D := AnyD) (f := f) true ?_ ?_ ?_).mono ?_); exact hc2.out; (have := HSZ.out; omega); exact HV.out; rintro e U ⟨rfl, hb⟩; clear x0 x1 x2 x3 x4 xl; replace HV := hid (HV.out.any hb); replace HBX := hid (HBX.out.below hb); replace HBW := hid (HBW.out.trans (hb.mono HBW.out.size)); obtain ⟨x0, x1, x2, x3, x4, xl⟩ := HBX.out.cells; clear hb) | (go_at_call 95; (with_reducible refine (rcore_r (D := AnyD) (f := f) true ?_ ?_ ?_).mono ?_); exact hc3.out; exact hc2.out; exact HV.out; rintro e U ⟨rfl, hb⟩; clear x0 x1 x2 x3 x4 xl; replace HV := hid (HV.out.any hb); replace HBX := hid (HBX.out.below hb); replace HBW := hid (HBW.out.trans (hb.mono HBW.out.size)); obtain ⟨x0, x1, x2, x3, x4, xl⟩ := HBX.out.cells; clear hb) | (go_at_call 53; (with_reducible refine (rlay_r (D := AnyD) (f := f) false ?_ ?_).mono ?_); exact hc4.out; exact HV.out; rintro e U ⟨rfl, hb⟩; clear x0 x1 x2 x3 x4 xl; replace HV := hid (HV.out.any hb); replace HBX := hid (HBX.out.below hb); replace HBW := hid (HBW.out.trans (hb.mono HBW.out.size)); obtain ⟨x0, x1, x2, x3, x4, xl⟩ := HBX.out.cells; clear hb))
    go_ret
    exact ⟨ret_bool HR.out.symm, HBW.out⟩
  have hc4 := hid c4
  clear c4
  have HR := hid (show looseR f = true by unfold looseR; rw [hc0.out, hc1.out, hc2.out, hc3.out, hc4.out]; rfl)
  go_wp2_with (first | (go_at_call 7; (with_reducible refine (rsmall_r (D := AnyD) (f := f) 400 400 rfl ?_ true ?_ ?_).mono ?_); decide; exact hc0.out; exact HV.out; rintro e U ⟨rfl, hb⟩; clear x0 x1 x2 x3 x4 xl; replace HV := hid (HV.out.any hb); replace HBX := hid (HBX.out.below hb); replace HBW := hid (HBW.out.trans (hb.mono HBW.out.size)); obtain ⟨x0, x1, x2, x3, x4, xl⟩ := HBX.out.cells; clear hb) | (go_at_call 66; (with_reducible refine (rdepth_any f _ _ HV.out ?_).mono ?_); (have := depth_size f; have := HSZ.out; omega); rintro e U ⟨rfl, hb⟩; clear x0 x1 x2 x3 x4 xl; replace HV := hid (HV.out.any hb); replace HBX := hid (HBX.out.below hb); replace HBW := hid (HBW.out.trans (hb.mono HBW.out.size)); obtain ⟨x0, x1, x2, x3, x4, xl⟩ := HBX.out.cells; clear hb) | (go_at_call 67; (with_reducible refine (rnodes_r (D := AnyD) (f := f) true ?_ ?_ ?_).mono ?_); exact hc2.out; (have := HSZ.out; omega); exact HV.out; rintro e U ⟨rfl, hb⟩; clear x0 x1 x2 x3 x4 xl; replace HV := hid (HV.out.any hb); replace HBX := hid (HBX.out.below hb); replace HBW := hid (HBW.out.trans (hb.mono HBW.out.size)); obtain ⟨x0, x1, x2, x3, x4, xl⟩ := HBX.out.cells; clear hb) | (go_at_call 95; (with_reducible refine (rcore_r (D := AnyD) (f := f) true ?_ ?_ ?_).mono ?_); exact hc3.out; exact hc2.out; exact HV.out; rintro e U ⟨rfl, hb⟩; clear x0 x1 x2 x3 x4 xl; replace HV := hid (HV.out.any hb); replace HBX := hid (HBX.out.below hb); replace HBW := hid (HBW.out.trans (hb.mono HBW.out.size)); obtain ⟨x0, x1, x2, x3, x4, xl⟩ := HBX.out.cells; clear hb) | (go_at_call 53; (with_reducible refine (rlay_r (D := AnyD) (f := f) true ?_ ?_).mono ?_); exact hc4.out; exact HV.out; rintro e U ⟨rfl, hb⟩; clear x0 x1 x2 x3 x4 xl; replace HV := hid (HV.out.any hb); replace HBX := hid (HBX.out.below hb); replace HBW := hid (HBW.out.trans (hb.mono HBW.out.size)); obtain ⟨x0, x1, x2, x3, x4, xl⟩ := HBX.out.cells; clear hb))
  go_ret
  exact ⟨ret_bool HR.out.symm, HBW.out⟩
theorem rloose_r {D : Dom} {v : Value} {f : Fm} {w : World} (r : Bool) (hr : looseR f = r) (h : RdF3 w D v f) : Calls Tryz.prog 56 #[v] w fun e w' => e = .returned (.bool r) ∧ Below w.heap.size w w' := by
  rw [← hr]; exact rloose_any f v w h
end Go.Proofs.YtdakdpfofgkjoaaGreatDoor
set_option linter.unusedVariables false
set_option linter.unusedSimpArgs false
namespace Go.Proofs.YtdakdpfofgkjoaaGreatDoor

/-- A signal. -/
structure Sg where
  name : ByteArray
  inp : Bool
  size : Int
instance : Inhabited Sg := ⟨⟨⟨#[]⟩, false, 0⟩⟩
/-- The index of the first element with a name; the length if there is none. -/
def firstN (s : ByteArray) : List ByteArray → Nat
  | [] => 0
  | a :: l => if a = s then 0 else firstN s l + 1
theorem firstN_le (s : ByteArray) : ∀ l : List ByteArray, firstN s l ≤ l.length
  | [] => Nat.le_refl _
  | a :: l => by
    rw [firstN]
    have := firstN_le s l
    split
    · omega
    · simp only [List.length_cons]; omega
theorem firstN_lt {s : ByteArray} : ∀ {l : List ByteArray}, firstN s l < l.length ↔ s ∈ l
  | [] => by simp [firstN]
  | a :: l => by
    rw [firstN]
    by_cases h : a = s
    · simp [h]
    · rw [if_neg h, List.length_cons, Nat.add_lt_add_iff_right, firstN_lt, List.mem_cons]
      simp [show ¬ s = a from fun e => h e.symm]
theorem firstN_at {s : ByteArray} : ∀ {l : List ByteArray}, firstN s l < l.length → l.getD (firstN s l) ⟨#[]⟩ = s
  | [], h => by simp [firstN] at h
  | a :: l, h => by
    rw [firstN] at h ⊢
    by_cases e : a = s
    · rw [if_pos e]; exact e
    · rw [if_neg e] at h ⊢
      rw [List.getD_cons_succ]
      exact firstN_at (by simpa using h)
theorem firstN_min {s : ByteArray} : ∀ {l : List ByteArray} {k : Nat}, k < firstN s l → l.getD k ⟨#[]⟩ ≠ s
  | [], k, h => by simp [firstN] at h
  | a :: l, k, h => by
    rw [firstN] at h
    by_cases e : a = s
    · rw [if_pos e] at h; omega
    · rw [if_neg e] at h
      cases k with
      | zero => exact e
      | succ k => rw [List.getD_cons_succ]; exact firstN_min (by omega)
theorem firstN_of {s : ByteArray} {l : List ByteArray} {k : Nat} (hk : k < l.length) (h : l.getD k ⟨#[]⟩ = s) : firstN s l ≤ k := by
  by_cases hl : k < firstN s l
  · exact absurd h (firstN_min hl)
  · omega
theorem firstN_eq {s : ByteArray} {l : List ByteArray} {k : Nat} (hk : k < l.length) (h : l.getD k ⟨#[]⟩ = s) (hm : ∀ j, j < k → l.getD j ⟨#[]⟩ ≠ s) : firstN s l = k := by
  have h1 := firstN_of hk h
  have h2 : ¬ firstN s l < k := fun hl => hm _ hl (firstN_at (Nat.lt_of_lt_of_le hl (Nat.le_of_lt hk)))
  omega
theorem firstN_ge {s : ByteArray} {l : List ByteArray} {k : Nat} (hk : k ≤ l.length) : k ≤ firstN s l ↔ ∀ j, j < k → l.getD j ⟨#[]⟩ ≠ s := by
  constructor
  · intro h j hj; exact firstN_min (by omega)
  · intro h
    rcases Nat.lt_or_ge (firstN s l) k with hl | hl
    · exact absurd (firstN_at (by omega)) (h _ hl)
    · exact hl
def sgNames (l : List Sg) : List ByteArray := l.map Sg.name
theorem sgNames_len (l : List Sg) : (sgNames l).length = l.length := List.length_map ..
theorem sgNames_at {l : List Sg} (k : Nat) (hk : k < l.length) : (sgNames l).getD k ⟨#[]⟩ = (l.getD k default).name := by
  simp [sgNames, List.getD, hk]
def findN (l : List Sg) (s : ByteArray) : Nat := firstN s (sgNames l)
def findZ (l : List Sg) (s : ByteArray) : Int := if findN l s < l.length then (findN l s : Int) else -1
/-- The product of the sizes. -/
def prodS : List Sg → Int
  | [] => 1
  | a :: l => a.size * prodS l
theorem prodS_append : ∀ l m : List Sg, prodS (l ++ m) = prodS l * prodS m
  | [], m => by simp [prodS]
  | a :: l, m => by simp only [List.cons_append, prodS, prodS_append l m, Int.mul_assoc]
def sgOk (l : List Sg) (i : Nat) : Bool := nameB (l.getD i default).name && decide (2 ≤ (l.getD i default).size) && decide ((l.getD i default).size ≤ 4) && decide (i ≤ findN l (l.getD i default).name)
def validS (l : List Sg) : Bool := decide (1 ≤ l.length) && decide (l.length ≤ 6) && allN l.length (sgOk l) && decide (prodS l ≤ 64)

def pastOp (o : Int) : Bool := decide (15 ≤ o) && decide (o ≤ 19)
/-- The error of a node. -/
def nodeErr (l : List Sg) (f : Fm) : Int :=
  if f.op = 3 then (if findN l f.name < l.length then (if (l.getD (findN l f.name) default).size ≤ f.val then 71 else 0) else 70)
  else if pastOp f.op then (if f.args.all (allB pastQ) then 0 else 72) else 0
/-- The first error of nodes. -/
def errL (l : List Sg) : List (Fm × Bool) → Int
  | [] => 0
  | x :: r => if nodeErr l x.1 = 0 then errL l r else nodeErr l x.1
def formErr (l : List Sg) (f : Fm) : Int :=
  if validS l then (if validB f then (if errL l (preL false f) = 0 then (if (kernZ f).2 = 0 then 0 else 2) else errL l (preL false f)) else 30) else 1
/-- A requirement. -/
structure Rq where
  part : ByteArray
  name : ByteArray
  kind : Int
  f : Fm
instance : Inhabited Rq := ⟨⟨⟨#[]⟩, ⟨#[]⟩, 0, default⟩⟩
def wordsOk (r : Rq) : Bool := (decide (r.kind = 1) || decide (r.kind = 2)) && nameB r.part && nameB r.name
def rqNames (rs : List Rq) : List ByteArray := rs.map Rq.name
theorem rqNames_len (l : List Rq) : (rqNames l).length = l.length := List.length_map ..
theorem rqNames_at {l : List Rq} (k : Nat) (hk : k < l.length) : (rqNames l).getD k ⟨#[]⟩ = (l.getD k default).name := by
  simp [rqNames, List.getD, hk]
def reqErr (l : List Sg) (rs : List Rq) (i : Nat) : Int :=
  if wordsOk (rs.getD i default) then (if firstN (rs.getD i default).name (rqNames rs) < i then 4 else formErr l (rs.getD i default).f) else 1
def faultsTo (l : List Sg) (rs : List Rq) (k : Nat) : List (Int × Int) := (List.range k).flatMap fun i => if reqErr l rs i = 0 then [] else [((i : Int), reqErr l rs i)]
def checkZ (l : List Sg) (rs : List Rq) : List (Int × Int) := if validS l then (if rs.length ≤ 16 then faultsTo l rs rs.length else [(-1, 2)]) else [(-1, 1)]
def partsZ (rs : List Rq) : List Fm := (rs.filter fun r => decide (r.kind = 1)).map fun r => notZ (kernZ r.f).1
def guarsZ (rs : List Rq) : List Fm := (rs.filter fun r => !decide (r.kind = 1)).map fun r => (kernZ r.f).1
def lastZ (rs : List Rq) : Fm × Int :=
  if (connZ 5 (guarsZ rs)).op = 0 then (zeroF, 2) else if (connZ 6 (partsZ rs ++ [connZ 5 (guarsZ rs)])).op = 0 then (zeroF, 2) else (connZ 6 (partsZ rs ++ [connZ 5 (guarsZ rs)]), 0)
def goalZ (l : List Sg) (rs : List Rq) : Fm × Int :=
  match checkZ l rs with
  | [] => lastZ rs
  | x :: _ => (zeroF, x.2)

/-! Nodes. -/
def errQ (l : List Sg) (x : Fm × Bool) : Bool := decide (nodeErr l x.1 = 0)
theorem errL_zero (l : List Sg) : ∀ L : List (Fm × Bool), errL l L = 0 ↔ L.all (errQ l) = true
  | [] => by simp [errL]
  | x :: r => by
    rw [errL, List.all_cons, Bool.and_eq_true, ← errL_zero l r]
    unfold errQ
    by_cases h : nodeErr l x.1 = 0
    · simp [h]
    · simp [h]
theorem errL_mem (l : List Sg) : ∀ {L : List (Fm × Bool)}, errL l L ≠ 0 → ∃ x, x ∈ L ∧ nodeErr l x.1 = errL l L
  | [], h => absurd rfl h
  | x :: r, h => by
    rw [errL] at h ⊢
    by_cases e : nodeErr l x.1 = 0
    · rw [if_pos e] at h ⊢
      obtain ⟨y, hy, h2⟩ := errL_mem l h
      exact ⟨y, by simp [hy], h2⟩
    · rw [if_neg e]
      exact ⟨x, by simp, rfl⟩
theorem nodeErr_is (l : List Sg) (f : Fm) : nodeErr l f = 0 ∨ nodeErr l f = 70 ∨ nodeErr l f = 71 ∨ nodeErr l f = 72 := by
  unfold nodeErr
  repeat' split
  all_goals simp
theorem errL_is (l : List Sg) (L : List (Fm × Bool)) : errL l L = 0 ∨ errL l L = 70 ∨ errL l L = 71 ∨ errL l L = 72 := by
  by_cases h : errL l L = 0
  · exact .inl h
  · obtain ⟨x, _, e⟩ := errL_mem l h
    rw [← e]; exact nodeErr_is l x.1
theorem formErr_ne4 (l : List Sg) (f : Fm) : formErr l f ≠ 4 := by
  unfold formErr
  have := errL_is l (preL false f)
  repeat' split
  all_goals omega
theorem formErr_zero {l : List Sg} {f : Fm} : formErr l f = 0 ↔ validS l = true ∧ validB f = true ∧ allB (errQ l) f = true ∧ (kernZ f).2 = 0 := by
  unfold formErr allB
  rw [← errL_zero]
  by_cases h1 : validS l = true
  · rw [if_pos h1]
    by_cases h2 : validB f = true
    · rw [if_pos h2]
      by_cases h3 : errL l (preL false f) = 0
      · rw [if_pos h3]
        by_cases h4 : (kernZ f).2 = 0
        · simp [h1, h2, h3, h4]
        · simp [h4]
      · rw [if_neg h3]; simp [h3]
    · rw [if_neg h2]; simp [h2]
  · rw [if_neg h1]; simp [h1]
/-- Whatever does not look at the flag holds with both or with none. -/
theorem all_flag {q : Fm × Bool → Bool} (hq : ∀ g a b, q (g, a) = q (g, b)) {a b : Bool} {f : Fm} (h : (preL a f).all q = true) : (preL b f).all q = true := by
  have hless : ∀ x, q (x, true) = true → q (x, false) = true := fun x h => by rw [hq x false true]; exact h
  have key : ∀ f : Fm, (preL false f).all q = true → (preL true f).all q = true := by
    intro f
    refine Fm.induct (P := fun f => (preL false f).all q = true → (preL true f).all q = true) ?_ f
    intro f ih h
    rw [preL_eq, List.all_cons, Bool.and_eq_true] at h ⊢
    refine ⟨by rw [hq f true false]; exact h.1, alls_of fun g hg => ?_⟩
    have h2 := alls_mem hg h.2
    obtain ⟨i, hi, rfl⟩ := List.getElem_of_mem hg
    have e : f.args.getD i default = f.args[i] := by simp [List.getD, hi]
    have ih := ih i hi
    rw [e] at ih
    simp only [Bool.true_or]
    cases hp : (false || (formZ f.op).past)
    · rw [hp] at h2; exact ih h2
    · rw [hp] at h2; exact h2
  have key2 : ∀ f : Fm, (preL true f).all q = true → (preL false f).all q = true := fun f h => all_less hless f h
  cases a <;> cases b
  · exact h
  · exact key f h
  · exact key2 f h
  · exact h
theorem errQ_flag (l : List Sg) : ∀ (g : Fm) (a b : Bool), errQ l (g, a) = errQ l (g, b) := fun _ _ _ => rfl
theorem pastQ_flag : ∀ (g : Fm) (a b : Bool), pastQ (g, a) = pastQ (g, b) := fun _ _ _ => rfl
theorem isPast_ops {o : Int} (h : (formZ o).past = true) : o = 15 ∨ o = 16 ∨ o = 17 ∨ o = 18 ∨ o = 19 := by
  unfold formZ at h
  split at h
  · rename_i h1
    unfold isOp at h1
    rw [Bool.and_eq_true, decide_eq_true_eq, decide_eq_true_eq] at h1
    have : o = 1 ∨ o = 2 ∨ o = 3 ∨ o = 4 ∨ o = 5 ∨ o = 6 ∨ o = 7 ∨ o = 8 ∨ o = 9 ∨ o = 10 ∨ o = 11 ∨ o = 12 ∨ o = 13 ∨ o = 14 ∨ o = 15 ∨ o = 16 ∨ o = 17 ∨ o = 18 ∨ o = 19 := by omega
    rcases this with rfl | rfl | rfl | rfl | rfl | rfl | rfl | rfl | rfl | rfl | rfl | rfl | rfl | rfl | rfl | rfl | rfl | rfl | rfl <;> first | exact absurd h (by decide) | omega
  · cases h
theorem nodeErr_past {l : List Sg} {f : Fm} (h : nodeErr l f = 0) (hp : (formZ f.op).past = true) : f.args.all (allB pastQ) = true := by
  have ho := isPast_ops hp
  unfold nodeErr at h
  rw [if_neg (by omega), if_pos (by unfold pastOp; rw [Bool.and_eq_true, decide_eq_true_eq, decide_eq_true_eq]; omega)] at h
  by_cases e : f.args.all (allB pastQ) = true
  · exact e
  · rw [if_neg e] at h; cases h
/-- What fits is layered. -/
theorem err_layered {l : List Sg} (f : Fm) : allB (errQ l) f = true → allB layQ f = true := by
  refine Fm.induct (P := fun f => allB (errQ l) f = true → allB layQ f = true) ?_ f
  intro f ih h
  have h0 := allB_root h
  unfold allB at h ⊢
  rw [preL_eq, List.all_cons, Bool.and_eq_true] at h ⊢
  refine ⟨by unfold layQ; simp, alls_of fun g hg => ?_⟩
  have h2 := alls_mem hg h.2
  cases hp : (false || (formZ f.op).past)
  · rw [hp] at h2
    obtain ⟨i, hi, rfl⟩ := List.getElem_of_mem hg
    have e : f.args.getD i default = f.args[i] := by simp [List.getD, hi]
    have ih := ih i hi
    rw [e] at ih
    exact ih h2
  · have hp' : (formZ f.op).past = true := by simpa using hp
    have h3 := nodeErr_past (of_decide_eq_true h0) hp'
    rw [List.all_eq_true] at h3
    have h4 := all_flag pastQ_flag (b := true) (h3 g hg)
    rw [List.all_eq_true] at h4 ⊢
    intro x hx
    have := h4 x hx
    unfold pastQ at this
    unfold layQ
    simp only [Bool.not_eq_true'] at this
    rw [this]; rfl
theorem err_arg {l : List Sg} {f g : Fm} (hg : g ∈ f.args) (h : allB (errQ l) f = true) : allB (errQ l) g = true := allB_arg (q := errQ l) (fun _ h => h) hg h
/-- All names of a formula that fits are those of signals. -/
theorem err_names {l : List Sg} {f : Fm} (h : allB (errQ l) f = true) {s : ByteArray} (hs : s ∈ namesF f) : findN l s < l.length := by
  rw [namesF_mem] at hs
  unfold namesPre namesIn at hs
  obtain ⟨x, hx, rfl⟩ := List.mem_map.1 hs
  rw [List.mem_filter] at hx
  have h1 := List.all_eq_true.1 h x hx.1
  have h2 := of_decide_eq_true h1
  have h3 := of_decide_eq_true hx.2
  unfold nodeErr at h2
  rw [if_pos h3] at h2
  by_cases e : findN l x.1.name < l.length
  · exact e
  · rw [if_neg e] at h2; cases h2
theorem err_findZ {l : List Sg} {f : Fm} (h : allB (errQ l) f = true) {s : ByteArray} (hs : s ∈ namesF f) : 0 ≤ findZ l s := by
  unfold findZ
  rw [if_pos (err_names h hs)]; omega
end Go.Proofs.YtdakdpfofgkjoaaGreatDoor
set_option linter.unusedVariables false
set_option linter.unusedSimpArgs false
namespace Go.Proofs.YtdakdpfofgkjoaaGreatDoor

/-! Conjunctions and disjunctions. -/
theorem zero_notloose : looseB zeroF = false := by
  cases h : looseB zeroF
  · rfl
  · have h1 := bareQ_nz _ (allI_iff.1 (loose_out h).2.2).1
    exact absurd h1 (by decide)
theorem loose_op {f : Fm} (h : looseB f = true) : f.op ≠ 0 := by
  have h1 := bareQ_nz _ (allI_iff.1 (loose_out h).2.2).1
  simpa [nzQ] using h1
theorem connZ_ok {op : Int} (hop : op = 5 ∨ op = 6) {l : List Fm} (h : (connZ op l).op ≠ 0) :
    (∀ g, g ∈ l → looseB g = true) ∧ looseB (connZ op l) = true ∧ Can (connZ op l) ∧ connZ op l = joinZ op (l.map canonZ) := by
  unfold connZ at h ⊢
  by_cases h1 : l.all looseB = true
  · rw [if_pos h1] at h ⊢
    by_cases h2 : looseB (joinZ op (l.map canonZ)) = true
    · rw [if_pos h2]
      have h3 := List.all_eq_true.1 h1
      exact ⟨h3, h2, joinZ_can hop fun g hg => by
        obtain ⟨x, hx, rfl⟩ := List.mem_map.1 hg
        exact loose_can (h3 x hx), rfl⟩
    · rw [if_neg h2] at h
      exact absurd rfl h
  · rw [if_neg h1] at h
    exact absurd rfl h
theorem connZ_perm {op : Int} {l m : List Fm} (h : ∀ x, x ∈ l ↔ x ∈ m) : connZ op l = connZ op m := by
  have e1 : l.all looseB = m.all looseB := by
    rw [Bool.eq_iff_iff, List.all_eq_true, List.all_eq_true]
    exact ⟨fun k x hx => k x ((h x).2 hx), fun k x hx => k x ((h x).1 hx)⟩
  have e2 : joinZ op (l.map canonZ) = joinZ op (m.map canonZ) := joinZ_perm fun x => by
    rw [List.mem_map, List.mem_map]
    exact ⟨fun ⟨y, hy, e⟩ => ⟨y, (h y).1 hy, e⟩, fun ⟨y, hy, e⟩ => ⟨y, (h y).2 hy, e⟩⟩
  unfold connZ
  rw [e1, e2]
theorem leaf_loose {o : Int} (h : o = 1 ∨ o = 2) : looseB (opF o []) = true := loose_of (by rw [leaf_size]; omega) (by rw [leaf_depth]; omega) (allI_leaf h)
theorem connZ_unit {op : Int} (hop : op = 5 ∨ op = 6) (l : List Fm) : connZ op (opF (unitZ op) [] :: l) = connZ op l := by
  have e1 : (opF (unitZ op) [] :: l).all looseB = l.all looseB := by rw [List.all_cons, leaf_loose (unit_12 op), Bool.true_and]
  have e2 : joinZ op ((opF (unitZ op) [] :: l).map canonZ) = joinZ op (l.map canonZ) := by
    rw [List.map_cons, canonZ_leaf (unit_12 op)]
    exact joinZ_unit0 hop _
  unfold connZ
  rw [e1, e2]
theorem connZ_zero {op : Int} (hop : op = 5 ∨ op = 6) {l : List Fm} (h : ∀ g, g ∈ l → looseB g = true) (hz : opF (zeroZ op) [] ∈ l) : connZ op l = opF (zeroZ op) [] := by
  have e2 : joinZ op (l.map canonZ) = opF (zeroZ op) [] := join_zero (List.mem_map.2 ⟨_, hz, canonZ_leaf (zero_12 op)⟩)
  unfold connZ
  rw [if_pos (List.all_eq_true.2 h), e2, if_pos (leaf_loose (zero_12 op))]
theorem connZ_one {op : Int} (hop : op = 5 ∨ op = 6) {c : Fm} (h : looseB c = true) (hc : Can c) : connZ op [c] = c := by
  have e2 : joinZ op ([c].map canonZ) = c := by
    rw [List.map_cons, hc.canonZ]; exact joinZ_one hop hc
  unfold connZ
  rw [if_pos (by simp [h]), e2, if_pos h]

/-! Check. -/
structure Good (l : List Sg) (rs : List Rq) : Prop where
  valid : validS l = true
  len : rs.length ≤ 16
  words : ∀ r, r ∈ rs → wordsOk r = true
  fits : ∀ r, r ∈ rs → formErr l r.f = 0
  names : (rqNames rs).Nodup
theorem getD_mem {α : Type} [Inhabited α] {l : List α} {i : Nat} (h : i < l.length) : l.getD i default ∈ l := by
  simp [List.getD, h]
theorem mem_getD {α : Type} [Inhabited α] {l : List α} {x : α} (h : x ∈ l) : ∃ i, i < l.length ∧ l.getD i default = x := by
  obtain ⟨i, hi, rfl⟩ := List.getElem_of_mem h
  exact ⟨i, hi, by simp [List.getD, hi]⟩
theorem nodup_first {L : List ByteArray} : L.Nodup ↔ ∀ i, i < L.length → i ≤ firstN (L.getD i ⟨#[]⟩) L := by
  unfold List.Nodup
  rw [List.pairwise_iff_getElem]
  constructor
  · intro h i hi
    rw [firstN_ge (Nat.le_of_lt hi)]
    intro j hj e
    have := h j i (by omega) hi hj
    simp [List.getD, hi, show j < L.length by omega] at e
    exact this e
  · intro h i j hi hj hij e
    have := (firstN_ge (Nat.le_of_lt hj)).1 (h j hj) i hij
    simp [List.getD, hi, hj] at this
    exact this e
theorem reqErr_zero {l : List Sg} {rs : List Rq} {i : Nat} (hi : i < rs.length) : reqErr l rs i = 0 ↔ wordsOk (rs.getD i default) = true ∧ i ≤ firstN (rs.getD i default).name (rqNames rs) ∧ formErr l (rs.getD i default).f = 0 := by
  unfold reqErr
  by_cases h1 : wordsOk (rs.getD i default) = true
  · rw [if_pos h1]
    by_cases h2 : firstN (rs.getD i default).name (rqNames rs) < i
    · rw [if_pos h2]
      constructor
      · intro h; cases h
      · intro h; omega
    · rw [if_neg h2]
      exact ⟨fun h => ⟨h1, by omega, h⟩, fun h => h.2.2⟩
  · rw [if_neg h1]
    constructor
    · intro h; cases h
    · intro h; exact absurd h.1 h1
theorem faultsTo_nil {l : List Sg} {rs : List Rq} {k : Nat} : faultsTo l rs k = [] ↔ ∀ i, i < k → reqErr l rs i = 0 := by
  unfold faultsTo
  rw [List.flatMap_eq_nil_iff]
  constructor
  · intro h i hi
    have := h i (List.mem_range.2 hi)
    by_cases e : reqErr l rs i = 0
    · exact e
    · rw [if_neg e] at this; cases this
  · intro h i hi
    rw [if_pos (h i (List.mem_range.1 hi))]
theorem faultsTo_succ (l : List Sg) (rs : List Rq) (k : Nat) : faultsTo l rs (k + 1) = faultsTo l rs k ++ (if reqErr l rs k = 0 then [] else [((k : Int), reqErr l rs k)]) := by
  unfold faultsTo
  rw [List.range_succ, List.flatMap_append]
  simp
theorem faultsTo_len (l : List Sg) (rs : List Rq) : ∀ k, (faultsTo l rs k).length ≤ k
  | 0 => by simp [faultsTo]
  | k + 1 => by
    rw [faultsTo_succ, List.length_append]
    have := faultsTo_len l rs k
    split
    · simp; omega
    · simp; omega
theorem check_nil {l : List Sg} {rs : List Rq} : checkZ l rs = [] ↔ Good l rs := by
  unfold checkZ
  by_cases h1 : validS l = true
  · rw [if_pos h1]
    by_cases h2 : rs.length ≤ 16
    · rw [if_pos h2, faultsTo_nil]
      constructor
      · intro h
        refine ⟨h1, h2, fun r hr => ?_, fun r hr => ?_, nodup_first.2 fun i hi => ?_⟩
        · obtain ⟨i, hi, rfl⟩ := mem_getD hr
          exact ((reqErr_zero hi).1 (h i hi)).1
        · obtain ⟨i, hi, rfl⟩ := mem_getD hr
          exact ((reqErr_zero hi).1 (h i hi)).2.2
        · rw [rqNames_len] at hi
          rw [rqNames_at i hi]
          exact ((reqErr_zero hi).1 (h i hi)).2.1
      · intro h i hi
        rw [reqErr_zero hi]
        refine ⟨h.words _ (getD_mem hi), ?_, h.fits _ (getD_mem hi)⟩
        have := nodup_first.1 h.names i (by rw [rqNames_len]; exact hi)
        rw [rqNames_at i hi] at this
        exact this
    · rw [if_neg h2]
      exact ⟨(fun h => by cases h), fun h => absurd h.len h2⟩
  · rw [if_neg h1]
    exact ⟨(fun h => by cases h), fun h => absurd h.valid h1⟩
theorem goal_good {l : List Sg} {rs : List Rq} (h : Good l rs) : goalZ l rs = lastZ rs := by
  unfold goalZ
  rw [check_nil.2 h]
theorem goal_ok {l : List Sg} {rs : List Rq} (h : (goalZ l rs).2 = 0) : Good l rs := by
  rw [← check_nil]
  cases hc : checkZ l rs with
  | nil => rfl
  | cons x L =>
    unfold goalZ at h
    rw [hc] at h
    have hx : x ∈ checkZ l rs := by rw [hc]; simp
    unfold checkZ at hx
    split at hx
    · split at hx
      · unfold faultsTo at hx
        rw [List.mem_flatMap] at hx
        obtain ⟨i, hi, hx⟩ := hx
        split at hx
        · cases hx
        · rename_i h3
          rw [List.mem_singleton] at hx
          subst hx
          exact absurd h h3
      · rw [List.mem_singleton] at hx
        subst hx
        have h : (2 : Int) = 0 := h
        omega
    · rw [List.mem_singleton] at hx
      subst hx
      have h : (1 : Int) = 0 := h
      omega
theorem goal_err {l : List Sg} {rs : List Rq} (h : (goalZ l rs).2 ≠ 0) : (goalZ l rs).1 = zeroF := by
  unfold goalZ at h ⊢
  cases hc : checkZ l rs with
  | cons x L => rfl
  | nil =>
    rw [hc] at h
    simp only at h ⊢
    unfold lastZ at h ⊢
    by_cases h1 : (connZ 5 (guarsZ rs)).op = 0
    · rw [if_pos h1]
    · rw [if_neg h1] at h ⊢
      by_cases h2 : (connZ 6 (partsZ rs ++ [connZ 5 (guarsZ rs)])).op = 0
      · rw [if_pos h2]
      · rw [if_neg h2] at h
        exact absurd rfl h

/-! Subformulas. -/
/-- A formula that fits but for the size of its kernel. -/
def FitsN (l : List Sg) (f : Fm) : Prop := validS l = true ∧ validB f = true ∧ allB (errQ l) f = true
theorem FitsN.of {l : List Sg} {f : Fm} (h : formErr l f = 0) : FitsN l f := by
  have := formErr_zero.1 h
  exact ⟨this.1, this.2.1, this.2.2.1⟩
theorem FitsN.arg {l : List Sg} {f g : Fm} (h : FitsN l f) (hg : g ∈ f.args) : FitsN l g := ⟨h.1, valid_arg hg h.2.1, err_arg hg h.2.2⟩
theorem FitsN.err {l : List Sg} {f : Fm} (h : FitsN l f) : formErr l f = 0 ∨ formErr l f = 2 := by
  unfold formErr
  rw [if_pos h.1, if_pos h.2.1, if_pos ((errL_zero l _).2 h.2.2)]
  split <;> simp
theorem errQ_not {l : List Sg} {f : Fm} (h : allB (errQ l) f = true) : allB (errQ l) (opF 4 [f]) = true := by
  unfold allB at h ⊢
  rw [preL_eq, List.all_cons, Bool.and_eq_true]
  refine ⟨decide_eq_true (show nodeErr l (opF 4 [f]) = 0 from rfl), ?_⟩
  exact alls_of fun g hg => by
    have : g = f := List.mem_singleton.1 hg
    rw [this]
    exact h
theorem not_err {l : List Sg} {f : Fm} (h : FitsN l f) : formErr l (opF 4 [f]) = 0 ∨ formErr l (opF 4 [f]) = 2 ∨ (validB (opF 4 [f]) = false ∧ formErr l (opF 4 [f]) = 30) := by
  cases hv : validB (opF 4 [f])
  · refine .inr (.inr ⟨rfl, ?_⟩)
    unfold formErr
    rw [if_pos h.1, hv]; rfl
  · rcases FitsN.err (f := opF 4 [f]) ⟨h.1, hv, errQ_not h.2.2⟩ with e | e
    · exact .inl e
    · exact .inr (.inl e)

/-! A further signal. -/
theorem valid_nodup {l : List Sg} (h : validS l = true) : (sgNames l).Nodup := by
  rw [nodup_first]
  intro i hi
  rw [sgNames_len] at hi
  rw [sgNames_at i hi]
  unfold validS at h
  simp only [Bool.and_eq_true] at h
  have := allN_true.1 h.1.2 i hi
  unfold sgOk at this
  simp only [Bool.and_eq_true, decide_eq_true_eq] at this
  exact this.2
theorem first_nodup {L : List ByteArray} (h : L.Nodup) {i : Nat} (hi : i < L.length) : firstN (L.getD i ⟨#[]⟩) L = i := by
  have h1 := nodup_first.1 h i hi
  have h2 := firstN_of hi (rfl : L.getD i ⟨#[]⟩ = _)
  omega
theorem nodeErr_wide {l m : List Sg} (hm : validS m = true) (hs : ∀ x, x ∈ l → x ∈ m) {f : Fm} (h : nodeErr l f = 0) : nodeErr m f = 0 := by
  unfold nodeErr at h ⊢
  by_cases h3 : f.op = 3
  · rw [if_pos h3] at h ⊢
    by_cases h1 : findN l f.name < l.length
    · rw [if_pos h1] at h
      have hx := hs _ (getD_mem h1)
      obtain ⟨j, hj, e⟩ := mem_getD hx
      have hn : (l.getD (findN l f.name) default).name = f.name := by
        have := firstN_at (s := f.name) (l := sgNames l) (by rw [sgNames_len]; exact h1)
        have h1' : findN l f.name < l.length := h1
        exact (sgNames_at (l := l) (findN l f.name) h1').symm.trans this
      have hf : findN m f.name = j := by
        have := first_nodup (valid_nodup hm) (i := j) (by rw [sgNames_len]; exact hj)
        rw [sgNames_at j hj, e, hn] at this
        exact this
      rw [hf, if_pos hj, e]
      by_cases h2 : (l.getD (findN l f.name) default).size ≤ f.val
      · rw [if_pos h2] at h; cases h
      · rw [if_neg h2]
    · rw [if_neg h1] at h; cases h
  · rw [if_neg h3] at h ⊢; exact h
theorem formErr_wide {l m : List Sg} (hm : validS m = true) (hs : ∀ x, x ∈ l → x ∈ m) {f : Fm} (h : formErr l f = 0) : formErr m f = 0 := by
  rw [formErr_zero] at h ⊢
  refine ⟨hm, h.2.1, ?_, h.2.2.2⟩
  have h3 := h.2.2.1
  unfold allB at h3 ⊢
  rw [List.all_eq_true] at h3 ⊢
  intro x hx
  exact decide_eq_true (nodeErr_wide hm hs (of_decide_eq_true (h3 x hx)))
end Go.Proofs.YtdakdpfofgkjoaaGreatDoor
