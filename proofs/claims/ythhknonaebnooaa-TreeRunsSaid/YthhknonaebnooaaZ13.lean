/-
  Walk of the law TreeSets.
  The list of a step, plain: nested sets, siblings apart.
  The nodes that stay, plain: places and parents.
  Nested sets, plain: a state that no child has belongs to one node alone.
  The list of a step is nested; who stays.
  Unions of children, plain.
  The tree that Step returns is nested, and every node has a state of its own.
  New names, plain.
  The new tree is a tree.
-/
import Derived.Test.YthhknonaebnooaaZ12
set_option linter.unusedVariables false
set_option linter.unusedSimpArgs false
namespace Go.Proofs.Ythhknonaebnooaa
open Go.RowKit
attribute [local go_sem] cell_alloc_old

/-- The tree after the first i letters. -/
def treeAt (b : Bu) (l : List Int) : Nat → List Nd
  | 0 => startT b
  | i + 1 => (stepF b (treeAt b l i) (l.getD i 0)).tree
/-- The states reached after the first i letters. -/
def setAtI (b : Bu) (l : List Int) : Nat → List Int
  | 0 => b.start
  | i + 1 => reachZ b (setAtI b l i) (l.getD i 0) false
/-- What the plain law says of a tree and a set. -/
def SetsOk (b : Bu) (t : List Nd) (s : List Int) : Prop := treeB b t = true ∧ decide (t.length = 0) = decide (s.length = 0) ∧ (0 < t.length → (nd t 0).set = s)
theorem right_few {b : Bu} {l : List Int} (h : rightB b l = true) : fewB b = true := by unfold rightB at h; simp only [Bool.and_eq_true] at h; exact h.1.1.1
theorem right_let {b : Bu} {l : List Int} (h : rightB b l = true) {i : Nat} (hi : i < l.length) : 0 ≤ l.getD i 0 ∧ l.getD i 0 < b.letters := by
  unfold rightB at h
  simp only [Bool.and_eq_true] at h
  have := allN_true.1 h.2 i hi
  unfold letB at this
  simpa using this
theorem tree_inc {n : Nat} {t : List Nd} (h : allN t.length (nodeB n t) = true) {i : Nat} (hi : i < t.length) : (nd t i).set.length ≤ n := by
  refine range_sub (inc_nd (inc_nodup fun k h0 hk => ?_)) fun x hx => ?_
  · have h1 := allN_true.1 h i hi
    unfold nodeB at h1
    simp only [Bool.and_eq_true] at h1
    have h2 := allN_true.1 h1.1.1.2 k hk
    simp only [Bool.and_eq_true, Bool.or_eq_true, decide_eq_true_eq] at h2
    exact h2.1.2.resolve_left (by omega)
  · obtain ⟨k, hk, rfl⟩ := List.getElem_of_mem hx
    have := tree_small h hi k hk
    simpa [List.getD, hk] using this
theorem right_buchi {b : Bu} {l : List Int} (h : rightB b l = true) : buchiB b = true := by unfold rightB at h; simp only [Bool.and_eq_true] at h; exact h.1.1.2
theorem sets_small {b : Bu} {t : List Nd} {s : List Int} (h : SetsOk b t s) : ∀ k, k < s.length → 0 ≤ s.getD k 0 ∧ s.getD k 0 < (b.next.length : Int) := by
  obtain ⟨ht, h0, hr⟩ := h
  intro k hk
  have hpos : 0 < t.length := by
    rcases Nat.eq_zero_or_pos t.length with h | h
    · rw [decide_eq_true h] at h0
      have := of_decide_eq_true h0.symm
      omega
    · exact h
  rw [← hr hpos] at hk ⊢
  unfold treeB at ht
  simp only [Bool.and_eq_true] at ht
  exact tree_small ht.2 hpos k hk
theorem tree_sizes {b : Bu} {T : List Nd} (h : treeB b T = true) (hf : fewB b = true) : T.length ≤ 10000 ∧ ∀ k, k < T.length → (nd T k).set.length ≤ 3000 := by
  have hn : b.next.length ≤ 10 := by unfold fewB at hf; simp only [Bool.and_eq_true, decide_eq_true_eq] at hf; exact hf.1.2
  unfold treeB at h
  simp only [Bool.and_eq_true, decide_eq_true_eq] at h
  refine ⟨by omega, fun k hk => ?_⟩
  have := tree_inc h.2 hk
  omega
set_option maxRecDepth 100000 in
set_option maxHeartbeats 4000000 in
theorem sets_any {D E : Dom} (v : Value) (b : Bu) (A : Option Addr) (c : Nat) (l : List Int) (w : World) (h : RdBu w D v b) (hl : RdI w E A c l) (hP : rightB b l = true → ∀ i, i ≤ l.length → SetsOk b (treeAt b l i) (setAtI b l i)) :
    Calls Try.prog 4 #[v, .slice A l.length c] w fun e w' => e = .returned (.bool true) ∧ Below w.heap.size w w' := by
  have HV := hid h.old
  have HL := hid hl.old
  have HP := hid hP
  have hll := hl.len.1
  obtain ⟨As, cs, An, cn, rfl, hs, hn⟩ := h
  clear hs hn hl hP
  go_enter Try.func4, Try.ntmps4
  go_upto_region 1 with (fail)
  refine wp_gen fun W hW => ?_
  have hB : HasB W w.heap.size #[.int .i64 b.letters, .slice As b.start.length cs, .slice An b.next.length cn] b := by rw [hW]; exact HasB.new HV.out
  have hb : Below w.heap.size w W := by rw [hW]; go_grown
  have HB := hid hB
  have HBW := hid hb
  have HL := hid (HL.out.keep (Keeps.of_below (hb.mono (Nat.le_refl _)) fun _ h => h))
  clear hB hb hW
  go_wp2_with fail
  refine (head_any W).mono ?_
  rintro e W1 ⟨rfl, hb⟩
  have HB := hid (HB.out.below hb)
  have HL := hid (HL.out.old.keep (Keeps.of_below hb fun _ h => h))
  have HBW := hid (HBW.out.trans (hb.mono HBW.out.size))
  clear hb
  obtain ⟨o0, o1, o2, ol⟩ := HB.out.cells
  go_wp2_with fail
  refine (right_any _ b A c l W1 HB.out.rd HL.out).mono ?_
  rintro e W2 ⟨rfl, hb⟩
  have HB := hid (HB.out.below hb)
  have HL := hid (HL.out.old.keep (Keeps.of_below hb fun _ h => h))
  have HBW := hid (HBW.out.trans (hb.mono HBW.out.size))
  clear hb o0 o1 o2 ol
  by_cases hr : rightB b l = true
  · obtain ⟨o0, o1, o2, ol⟩ := HB.out.cells
    have HP := hid (HP.out hr)
    have HFEW := hid (right_few hr)
    have HRT := hid hr
    go_wp2_with fail
    refine (start_any _ b W2 HB.out.rd).mono ?_
    rintro e W3 ⟨A1, c1, rfl, hb, h1⟩
    have HB := hid (HB.out.below hb)
    have HL := hid (HL.out.old.keep (Keeps.of_below hb fun _ h => h))
    have HBW := hid (HBW.out.trans (hb.mono HBW.out.size))
    have HT := hid (show RdN W3 Any A1 c1 (treeAt b l 0) from h1.mono fun _ _ _ => trivial)
    clear hb h1 o0 o1 o2 ol
    obtain ⟨o0, o1, o2, ol⟩ := HB.out.cells
    have HS := hid (show RdI W3 Any As cs (setAtI b l 0) from (HB.out.parts.1).mono fun _ _ _ => trivial)
    go_wp2_with fail
    clear o0 o1 o2 ol
    go_loopw [6, 7, 8] (fun x y z wr => ∃ (i n1 n2 : Nat) (A1 A2 : Option Addr) (c1 c2 : Nat), i ≤ l.length ∧ n1 = (treeAt b l i).length ∧ n2 = (setAtI b l i).length ∧ x = .slice A1 n1 c1 ∧ y = .slice A2 n2 c2 ∧ z = .int .i64 (i : Int) ∧ Below W3.heap.size W3 wr ∧ RdN wr Any A1 c1 (treeAt b l i) ∧ RdI wr Any A2 c2 (setAtI b l i)) (fun _ _ z _ => l.length - (intOf z).toNat)
    case atStart => exact ⟨0, _, _, _, _, _, _, Nat.zero_le _, rfl, rfl, rfl, rfl, rfl, Below.refl _ _, HT.out, HS.out⟩
    case round =>
      obtain ⟨i, n1, n2, A1, A2, c1, c2, hi, hn1, hn2, rfl, rfl, rfl, hb, ht, hs⟩ := hrel
      have hok := HP.out i hi
      obtain ⟨T, hT⟩ : ∃ T, T = treeAt b l i := ⟨_, rfl⟩
      obtain ⟨S, hS⟩ : ∃ S, S = setAtI b l i := ⟨_, rfl⟩
      rw [← hT] at hok ht hn1
      rw [← hS] at hok hs hn2
      subst hn1 hn2
      have HNX := hid (And.intro hT hS)
      have HSS := hid (sets_small hok)
      obtain ⟨htr, hz, hroot⟩ := hok
      have HB := hid (HB.out.below hb)
      have HL := hid (HL.out.old.keep (Keeps.of_below hb fun _ h => h))
      have HBW := hid (HBW.out.trans (hb.mono HBW.out.size))
      have HB3 := hid hb
      have HT := hid ht
      have HS := hid hs
      have HTR := hid htr
      have HRO := hid hroot
      have HZ := hid hz
      have HSM := hid (tree_sizes htr HFEW.out)
      clear hb ht hs hT hS htr hroot hz
      obtain ⟨o0, o1, o2, ol⟩ := HB.out.cells
      go_wp2_with fail
      have hv := tvalid_any _ b A1 c1 T wr HB.out.rd HT.out
      rw [HTR.out] at hv
      refine hv.mono ?_
      rintro e V1 ⟨rfl, hb⟩
      have HB := hid (HB.out.below hb)
      have HL := hid (HL.out.old.keep (Keeps.of_below hb fun _ h => h))
      have HBW := hid (HBW.out.trans (hb.mono HBW.out.size))
      have HB3 := hid (HB3.out.trans (hb.mono HB3.out.size))
      have HT := hid (HT.out.any hb)
      have HS := hid (HS.out.any hb)
      clear hb hv o0 o1 o2 ol
      obtain ⟨o0, o1, o2, ol⟩ := HB.out.cells
      go_wp2_with fail
      have hv := rtvalid_any _ b A1 c1 T V1 HB.out.rd HT.out HSM.out.1 HSM.out.2
      rw [HTR.out] at hv
      refine hv.mono ?_
      rintro e V2 ⟨rfl, hb⟩
      have HB := hid (HB.out.below hb)
      have HL := hid (HL.out.old.keep (Keeps.of_below hb fun _ h => h))
      have HBW := hid (HBW.out.trans (hb.mono HBW.out.size))
      have HB3 := hid (HB3.out.trans (hb.mono HB3.out.size))
      have HT := hid (HT.out.any hb)
      have HS := hid (HS.out.any hb)
      clear hb hv o0 o1 o2 ol
      have hrest : ∀ V3 : World, Below V2.heap.size V2 V3 → True := fun _ _ => trivial
      by_cases h0 : T.length = 0
      · have hs0 : S.length = 0 := by have := HZ.out; rw [decide_eq_true h0] at this; exact of_decide_eq_true this.symm
        have e1 : ((T.length : Int) == 0) = true := by rw [h0]; rfl
        have e2 : ((S.length : Int) == 0) = true := by rw [hs0]; rfl
        have e3 : decide ((0 : Int) < (T.length : Int)) = false := decide_eq_false (by omega)
        have H0 := hid h0
        clear h0 hs0
        go_upto_region 10 with (fail)
        any_goals (exfalso; have := H0.out; omega)
        clear e1 e2 e3
        obtain ⟨o0, o1, o2, ol⟩ := HB.out.cells
        by_cases hie : i = l.length
        · have hii : ((i : Int) == (l.length : Int)) = true := by rw [beq_iff_eq]; omega
          go_wp2_with fail
          exact bodyPost_ret (v := .bool true) (by simp [results, Try.results4, go_sem]) rfl ⟨rfl, HBW.out⟩
        · have hii : ((i : Int) == (l.length : Int)) = false := by rw [beq_eq_false_iff_ne]; omega
          have hil : i < l.length := by omega
          have hili : (i : Int) < l.length := by omega
          obtain ⟨g1, q1, a, hA, _, hg1l, HXA, hca⟩ := HL.out.get hil
          have hlet : 0 ≤ a ∧ a < b.letters := by have := right_let HRT.out hil; rw [HXA.out] at this; exact this
          subst hA
          have HLET := hid hlet
          clear hlet
          have HCELL : Hid (∀ W' : World, Below V2.heap.size V2 W' → W'.cell? ⟨w.heap.size, 0, none⟩ = some (.int .i64 b.letters) ∧ W'.cell? ⟨w.heap.size, 1, none⟩ = some (.slice As b.start.length cs) ∧ W'.cell? ⟨w.heap.size, 2, none⟩ = some (.slice An b.next.length cn) ∧ W'.cell? ⟨g1, q1 + i, none⟩ = some (.int .i64 a)) := hid fun W' hb => by
            obtain ⟨o0, o1, o2, ol⟩ := (HB.out.below hb).cells
            exact ⟨o0, o1, o2, (hb.cell (p := ⟨g1, q1 + i, none⟩) hg1l).trans hca⟩
          have HI1 := hid (show Below V2.heap.size V2 V2.drew from (Below.refl _ _).drew)
          have HI2 := hid (show ∀ i, Below V2.heap.size V2 (V2.drewN i) from fun i => (Drawn.n V2 i).below _)
          have HCALL : Hid (∀ W' : World, Below V2.heap.size V2 W' → Calls Try.prog 12 #[.agg #[.int .i64 b.letters, .slice As b.start.length cs, .slice An b.next.length cn], .slice A1 T.length c1, .int .i64 a] W' fun e W'' => ∃ (A5 AG AB : Option Addr) (c5 cG cB : Nat), e = .returned (.tuple #[.slice A5 (stepF b T a).tree.length c5, .agg #[.slice AG (stepF b T a).good.length cG, .slice AB (stepF b T a).bad.length cB]]) ∧ Below V2.heap.size V2 W'' ∧ RdN W'' Any A5 c5 (stepF b T a).tree) := hid fun W' hb => by
            refine (pstepf_any _ b A1 c1 T a W' (HB.out.below hb).rd (HT.out.any hb) HFEW.out).mono ?_
            rintro e W'' ⟨A5, AG, AB, c5, cG, cB, rfl, h1, h2, _, _⟩
            exact ⟨A5, AG, AB, c5, cG, cB, rfl, hb.trans (h1.mono hb.size), h2.mono fun _ _ _ => trivial⟩
          obtain ⟨o0, o1, o2, hca'⟩ := HCELL.out V2 (Below.refl _ _)
          clear ol hie
          go_upto_region 12 with (fail)
          go_region_held3 (fun W' => W'.cell? ⟨w.heap.size, 0, none⟩ = some (.int .i64 b.letters) ∧ W'.cell? ⟨w.heap.size, 1, none⟩ = some (.slice As b.start.length cs) ∧ W'.cell? ⟨w.heap.size, 2, none⟩ = some (.slice An b.next.length cn) ∧ W'.cell? ⟨g1, q1 + i, none⟩ = some (.int .i64 a))
            (first
              | (with_reducible exact HCELL.out _ hI)
              | (go_keep; done))
            ((go_at_call 12; refine (HCALL.out _ (by first | exact HI1.out | exact HI2.out _)).mono ?_; rintro e W6 ⟨A5, AG, AB, c5, cG, cB, rfl, hI, hN⟩))
          all_goals
            have HB6 := hid (HB.out.below hI)
            have HS6 := hid (HS.out.any hI)
            have HBW := hid (HBW.out.trans (hI.mono HBW.out.size))
            have HB3 := hid (HB3.out.trans (hI.mono HB3.out.size))
            have HN := hid hN
            have HCELL := hid (fun (W' : World) (hb : Below W6.heap.size W6 W') => HCELL.out W' (hI.trans (hb.mono hI.size)))
            have HI1 := hid (show Below W6.heap.size W6 W6.drew from (Below.refl _ _).drew)
            have HI2 := hid (show ∀ i, Below W6.heap.size W6 (W6.drewN i) from fun i => (Drawn.n W6 i).below _)
            have HCALL : Hid (∀ W' : World, Below W6.heap.size W6 W' → Calls Try.prog 24 #[.agg #[.int .i64 b.letters, .slice As b.start.length cs, .slice An b.next.length cn], .slice A2 S.length c2, .int .i64 a, .bool false] W' fun e W'' => ∃ (A6 : Option Addr) (c6 : Nat), e = .returned (.slice A6 (reachZ b S a false).length c6) ∧ Below W6.heap.size W6 W'' ∧ RdI W'' Any A6 c6 (reachZ b S a false)) := hid fun W' hb => by
              refine (reached_any _ b A2 c2 S a false W' (HB6.out.below hb).rd (HS6.out.any hb) (right_buchi HRT.out) HSS.out HLET.out.1 HLET.out.2).mono ?_
              rintro e W'' ⟨A6, c6, rfl, h1, h2⟩
              exact ⟨A6, c6, rfl, hb.trans (h1.mono hb.size), h2.mono fun _ _ _ => trivial⟩
            clear hI hN o0 o1 o2 hca'
            obtain ⟨o0, o1, o2, hca'⟩ := HCELL.out W6 (Below.refl _ _)
            go_upto_region 13 with (fail)
            go_region_held3 (fun W' => W'.cell? ⟨w.heap.size, 0, none⟩ = some (.int .i64 b.letters) ∧ W'.cell? ⟨w.heap.size, 1, none⟩ = some (.slice As b.start.length cs) ∧ W'.cell? ⟨w.heap.size, 2, none⟩ = some (.slice An b.next.length cn) ∧ W'.cell? ⟨g1, q1 + i, none⟩ = some (.int .i64 a))
              (first
                | (with_reducible exact HCELL.out _ hI)
                | (go_keep; done))
              ((go_at_call 24; refine (HCALL.out _ (by first | exact HI1.out | exact HI2.out _)).mono ?_; rintro e W7 ⟨A6, c6, rfl, hI, hR⟩))
            all_goals
              have HB3 := hid (HB3.out.trans (hI.mono HB3.out.size))
              have HN := hid (HN.out.any hI)
              have HR := hid hR
              clear hI hR o0 o1 o2 hca'
              go_wp2_with fail
              go_roundw
              case rel =>
                have hXA : l.getD i 0 = a := HXA.out
                have eT : (stepF b T a).tree = treeAt b l (i + 1) := by rw [HNX.out.1, ← hXA]; rfl
                have eS : reachZ b S a false = setAtI b l (i + 1) := by rw [HNX.out.2, ← hXA]; rfl
                have hn := HN.out
                have hr := HR.out
                refine ⟨i + 1, (stepF b T a).tree.length, (reachZ b S a false).length, A5, A6, c5, c6, by omega, by rw [eT], by rw [eS], rfl, rfl, by go_num, HB3.out, ?_, ?_⟩
                · rw [← eT]; exact hn
                · rw [← eS]; exact hr
              case measure => simp [intOf]; omega
      · have hs0 : S.length ≠ 0 := by intro hs; have := HZ.out; rw [decide_eq_false h0, hs] at this; simp at this
        have e1 : ((T.length : Int) == 0) = false := by rw [beq_eq_false_iff_ne]; omega
        have e2 : ((S.length : Int) == 0) = false := by rw [beq_eq_false_iff_ne]; omega
        have hpos : 0 < T.length := by omega
        have hposi : (0 : Int) < T.length := by omega
        obtain ⟨g, o, A3, c3, x, rfl, _, hgl, HX, hr3, h00, h01, h02⟩ := HT.out.get hpos
        have hxs : x.set = S := by have := HRO.out hpos; unfold nd at this; rw [HX.out] at this; exact this
        have hi3 := ints_any A3 A2 c3 c2 x.set S V2 hr3 HS.out
        rw [decide_eq_true hxs] at hi3
        have HI3 := hid hi3
        clear hi3 hxs hr3
        go_wp2_with fail
        refine HI3.out.mono ?_
        rintro e V3 ⟨rfl, hd⟩
        have hb := hd.below V2.heap.size
        have HB := hid (HB.out.below hb)
        have HL := hid (HL.out.old.keep (Keeps.of_below hb fun _ h => h))
        have HBW := hid (HBW.out.trans (hb.mono HBW.out.size))
        have HB3 := hid (HB3.out.trans (hb.mono HB3.out.size))
        have HT := hid (HT.out.any hb)
        have HS := hid (HS.out.any hb)
        clear hb hd h00 h01 h02
        go_upto_region 10 with (fail)
        obtain ⟨o0, o1, o2, ol⟩ := HB.out.cells
        by_cases hie : i = l.length
        · have hii : ((i : Int) == (l.length : Int)) = true := by rw [beq_iff_eq]; omega
          go_wp2_with fail
          exact bodyPost_ret (v := .bool true) (by simp [results, Try.results4, go_sem]) rfl ⟨rfl, HBW.out⟩
        · have hii : ((i : Int) == (l.length : Int)) = false := by rw [beq_eq_false_iff_ne]; omega
          have hil : i < l.length := by omega
          have hili : (i : Int) < l.length := by omega
          obtain ⟨g1, q1, a, hA, _, hg1l, HXA, hca⟩ := HL.out.get hil
          have hlet : 0 ≤ a ∧ a < b.letters := by have := right_let HRT.out hil; rw [HXA.out] at this; exact this
          subst hA
          have HLET := hid hlet
          clear hlet
          have HCELL : Hid (∀ W' : World, Below V3.heap.size V3 W' → W'.cell? ⟨w.heap.size, 0, none⟩ = some (.int .i64 b.letters) ∧ W'.cell? ⟨w.heap.size, 1, none⟩ = some (.slice As b.start.length cs) ∧ W'.cell? ⟨w.heap.size, 2, none⟩ = some (.slice An b.next.length cn) ∧ W'.cell? ⟨g1, q1 + i, none⟩ = some (.int .i64 a)) := hid fun W' hb => by
            obtain ⟨o0, o1, o2, ol⟩ := (HB.out.below hb).cells
            exact ⟨o0, o1, o2, (hb.cell (p := ⟨g1, q1 + i, none⟩) hg1l).trans hca⟩
          have HI1 := hid (show Below V3.heap.size V3 V3.drew from (Below.refl _ _).drew)
          have HI2 := hid (show ∀ i, Below V3.heap.size V3 (V3.drewN i) from fun i => (Drawn.n V3 i).below _)
          have HCALL : Hid (∀ W' : World, Below V3.heap.size V3 W' → Calls Try.prog 12 #[.agg #[.int .i64 b.letters, .slice As b.start.length cs, .slice An b.next.length cn], .slice (some ⟨g, o, none⟩) T.length c1, .int .i64 a] W' fun e W'' => ∃ (A5 AG AB : Option Addr) (c5 cG cB : Nat), e = .returned (.tuple #[.slice A5 (stepF b T a).tree.length c5, .agg #[.slice AG (stepF b T a).good.length cG, .slice AB (stepF b T a).bad.length cB]]) ∧ Below V3.heap.size V3 W'' ∧ RdN W'' Any A5 c5 (stepF b T a).tree) := hid fun W' hb => by
            refine (pstepf_any _ b (some ⟨g, o, none⟩) c1 T a W' (HB.out.below hb).rd (HT.out.any hb) HFEW.out).mono ?_
            rintro e W'' ⟨A5, AG, AB, c5, cG, cB, rfl, h1, h2, _, _⟩
            exact ⟨A5, AG, AB, c5, cG, cB, rfl, hb.trans (h1.mono hb.size), h2.mono fun _ _ _ => trivial⟩
          obtain ⟨o0, o1, o2, hca'⟩ := HCELL.out V3 (Below.refl _ _)
          clear ol hie
          go_upto_region 12 with (fail)
          go_region_held3 (fun W' => W'.cell? ⟨w.heap.size, 0, none⟩ = some (.int .i64 b.letters) ∧ W'.cell? ⟨w.heap.size, 1, none⟩ = some (.slice As b.start.length cs) ∧ W'.cell? ⟨w.heap.size, 2, none⟩ = some (.slice An b.next.length cn) ∧ W'.cell? ⟨g1, q1 + i, none⟩ = some (.int .i64 a))
            (first
              | (with_reducible exact HCELL.out _ hI)
              | (go_keep; done))
            ((go_at_call 12; refine (HCALL.out _ (by first | exact HI1.out | exact HI2.out _)).mono ?_; rintro e W6 ⟨A5, AG, AB, c5, cG, cB, rfl, hI, hN⟩))
          all_goals
            have HB6 := hid (HB.out.below hI)
            have HS6 := hid (HS.out.any hI)
            have HBW := hid (HBW.out.trans (hI.mono HBW.out.size))
            have HB3 := hid (HB3.out.trans (hI.mono HB3.out.size))
            have HN := hid hN
            have HCELL := hid (fun (W' : World) (hb : Below W6.heap.size W6 W') => HCELL.out W' (hI.trans (hb.mono hI.size)))
            have HI1 := hid (show Below W6.heap.size W6 W6.drew from (Below.refl _ _).drew)
            have HI2 := hid (show ∀ i, Below W6.heap.size W6 (W6.drewN i) from fun i => (Drawn.n W6 i).below _)
            have HCALL : Hid (∀ W' : World, Below W6.heap.size W6 W' → Calls Try.prog 24 #[.agg #[.int .i64 b.letters, .slice As b.start.length cs, .slice An b.next.length cn], .slice A2 S.length c2, .int .i64 a, .bool false] W' fun e W'' => ∃ (A6 : Option Addr) (c6 : Nat), e = .returned (.slice A6 (reachZ b S a false).length c6) ∧ Below W6.heap.size W6 W'' ∧ RdI W'' Any A6 c6 (reachZ b S a false)) := hid fun W' hb => by
              refine (reached_any _ b A2 c2 S a false W' (HB6.out.below hb).rd (HS6.out.any hb) (right_buchi HRT.out) HSS.out HLET.out.1 HLET.out.2).mono ?_
              rintro e W'' ⟨A6, c6, rfl, h1, h2⟩
              exact ⟨A6, c6, rfl, hb.trans (h1.mono hb.size), h2.mono fun _ _ _ => trivial⟩
            clear hI hN o0 o1 o2 hca'
            obtain ⟨o0, o1, o2, hca'⟩ := HCELL.out W6 (Below.refl _ _)
            go_upto_region 13 with (fail)
            go_region_held3 (fun W' => W'.cell? ⟨w.heap.size, 0, none⟩ = some (.int .i64 b.letters) ∧ W'.cell? ⟨w.heap.size, 1, none⟩ = some (.slice As b.start.length cs) ∧ W'.cell? ⟨w.heap.size, 2, none⟩ = some (.slice An b.next.length cn) ∧ W'.cell? ⟨g1, q1 + i, none⟩ = some (.int .i64 a))
              (first
                | (with_reducible exact HCELL.out _ hI)
                | (go_keep; done))
              ((go_at_call 24; refine (HCALL.out _ (by first | exact HI1.out | exact HI2.out _)).mono ?_; rintro e W7 ⟨A6, c6, rfl, hI, hR⟩))
            all_goals
              have HB3 := hid (HB3.out.trans (hI.mono HB3.out.size))
              have HN := hid (HN.out.any hI)
              have HR := hid hR
              clear hI hR o0 o1 o2 hca'
              go_wp2_with fail
              go_roundw
              case rel =>
                have hXA : l.getD i 0 = a := HXA.out
                have eT : (stepF b T a).tree = treeAt b l (i + 1) := by rw [HNX.out.1, ← hXA]; rfl
                have eS : reachZ b S a false = setAtI b l (i + 1) := by rw [HNX.out.2, ← hXA]; rfl
                have hn := HN.out
                have hr := HR.out
                refine ⟨i + 1, (stepF b T a).tree.length, (reachZ b S a false).length, A5, A6, c5, c6, by omega, by rw [eT], by rw [eS], rfl, rfl, by go_num, HB3.out, ?_, ?_⟩
                · rw [← eT]; exact hn
                · rw [← eS]; exact hr
              case measure => simp [intOf]; omega
  · have hr : rightB b l = false := by simpa using hr
    go_wp2_with fail
    exact bodyPost_ret (v := .bool true) (by simp [results, Try.results4, go_sem]) rfl ⟨rfl, HBW.out⟩
end Go.Proofs.Ythhknonaebnooaa
set_option linter.unusedVariables false
set_option linter.unusedSimpArgs false
namespace Go.Proofs.Ythhknonaebnooaa

theorem inB_mem {l : List Int} {x : Int} : inB l x = true ↔ x ∈ l := by
  unfold inB
  rw [List.any_eq_true]
  constructor
  · rintro ⟨y, hy, e⟩
    rw [← of_decide_eq_true e]; exact hy
  · intro h
    exact ⟨x, h, by simp⟩
theorem trim_stay (G : List Nd) {i k : Nat} (hi : i < k) : ∀ m, k ≤ m → m ≤ G.length → nd (trimTo G m) i = nd (trimTo G k) i
  | 0, h, _ => by omega
  | m + 1, h, hm => by
    by_cases e : k = m + 1
    · subst e; rfl
    · have ih := trim_stay G hi m (by omega) (by omega)
      rw [← ih]
      show nd (setAt (trimTo G m) m _) i = _
      rw [nd_setAt _ _ _ _ (by rw [trimTo_len]; omega), if_neg (by omega)]
theorem trim_own (G : List Nd) {i : Nat} (hi : i < G.length) : (nd (trimTo G G.length) i).set = trimmedZ (trimTo G i) i := by
  rw [trim_stay G (k := i + 1) (by omega) G.length (by omega) (Nat.le_refl _)]
  show (nd (setAt (trimTo G i) i _) i).set = _
  rw [nd_setAt _ _ _ _ (by rw [trimTo_len]; omega), if_pos rfl]
theorem trim_late (G : List Nd) {i k : Nat} (hk : k ≤ i) (hi : i < G.length) : nd (trimTo G k) i = nd G i := by
  induction k with
  | zero => rfl
  | succ k ih =>
    show nd (setAt (trimTo G k) k _) i = _
    rw [nd_setAt _ _ _ _ (by rw [trimTo_len]; omega), if_neg (by omega)]
    exact ih (by omega)
/-- Who keeps a state. -/
theorem trim_mem {G : List Nd} (hu : Up G) {i : Nat} (hi : i < G.length) (h0 : 0 < i → 0 ≤ (nd G i).parent) (x : Int) :
    x ∈ (nd (trimTo G G.length) i).set ↔ x ∈ (nd G i).set ∧ (i = 0 ∨ x ∈ (nd (trimTo G G.length) (nd G i).parent.toNat).set ∧ ∀ j, j < i → 0 < j → (nd G j).parent = (nd G i).parent → x ∉ (nd (trimTo G G.length) j).set) := by
  rw [trim_own G hi]
  unfold trimmedZ
  rw [List.mem_filter, trim_late G (Nat.le_refl i) hi]
  refine and_congr_right fun _ => ?_
  by_cases e : i = 0
  · simp [e]
  · have hp := h0 (by omega)
    have hp2 := (hu i hi).2
    rw [trim_stay G (i := (nd G i).parent.toNat) (k := i) (by omega) G.length (by omega) (Nat.le_refl _)]
    simp only [Bool.or_eq_true, decide_eq_true_eq, Bool.and_eq_true, inB_mem, e, false_or]
    refine and_congr_right fun _ => ?_
    rw [List.all_eq_true]
    constructor
    · intro h j hj hj0 hjp hx
      have := h j (List.mem_range.2 hj)
      rw [trim_stay G (i := j) (k := i) hj G.length (by omega) (Nat.le_refl _)] at hx
      have hs := (trimTo_sub G i (by omega) j).2.1
      simp only [Bool.or_eq_true, decide_eq_true_eq, Bool.not_eq_true', decide_eq_false_iff_not] at this
      rcases this with (h | h) | h
      · omega
      · exact h (hs.trans hjp)
      · rw [← inB_mem, h] at hx; cases hx
    · intro h j hj
      have hj := List.mem_range.1 hj
      simp only [Bool.or_eq_true, decide_eq_true_eq, Bool.not_eq_true', decide_eq_false_iff_not]
      by_cases j0 : j = 0
      · exact .inl (.inl j0)
      · by_cases hjp : (nd G j).parent = (nd G i).parent
        · have := h j hj (by omega) hjp
          rw [trim_stay G (i := j) (k := i) hj G.length (by omega) (Nat.le_refl _)] at this
          refine .inr ?_
          rw [Bool.eq_false_iff]
          intro hx
          exact this (inB_mem.1 hx)
        · have hs := (trimTo_sub G i (by omega) j).2.1
          exact .inl (.inr (by rw [hs]; exact hjp))
end Go.Proofs.Ythhknonaebnooaa
set_option linter.unusedVariables false
set_option linter.unusedSimpArgs false
namespace Go.Proofs.Ythhknonaebnooaa

/-- The marked places below k, in order. -/
def mks (m : Nat → Bool) (k : Nat) : List Nat := (List.range k).filter m
theorem mks_succ (m : Nat → Bool) (k : Nat) : mks m (k + 1) = if m k = true then mks m k ++ [k] else mks m k := by
  unfold mks
  rw [List.range_succ, List.filter_append]
  by_cases h : m k = true <;> simp [h]
/-- A node that stays, its parent counted anew. -/
def kp (L : List Nd) (m : Nat → Bool) (i : Nat) : Nd := { nd L i with parent := if 0 ≤ (nd L i).parent then ((mks m (nd L i).parent.toNat).length : Int) else (nd L i).parent }
theorem keepTo_eq {L : List Nd} {m : Nat → Bool} (hu : Up L) (hm : ∀ i, i < L.length → m i = true → 0 ≤ (nd L i).parent → m (nd L i).parent.toNat = true) : ∀ k, k ≤ L.length →
    (keepTo L m k).1 = (mks m k).map (kp L m) ∧ (keepTo L m k).2.length = L.length ∧ ∀ j, j < k → m j = true → (keepTo L m k).2.getD j 0 = ((mks m j).length : Int)
  | 0, _ => ⟨by simp [keepTo, mks], by simp [keepTo], fun j hj => by omega⟩
  | k + 1, hk => by
    obtain ⟨h1, h2, h3⟩ := keepTo_eq hu hm k (by omega)
    unfold keepTo
    rw [mks_succ]
    by_cases hk1 : m k = true
    · rw [if_pos hk1, if_pos hk1]
      refine ⟨?_, ?_, fun j hj hmj => ?_⟩
      · rw [List.map_append, ← h1]
        show (keepTo L m k).1 ++ [_] = (keepTo L m k).1 ++ [kp L m k]
        refine congrArg ((keepTo L m k).1 ++ ·) ?_
        unfold kp
        by_cases hp : 0 ≤ (nd L k).parent
        · rw [if_pos hp, if_pos hp, h3 _ (by have := (hu k (by omega)).2; omega) (hm k (by omega) hk1 hp)]
        · rw [if_neg hp, if_neg hp]
      · simpa using h2
      · by_cases e : j = k
        · subst e
          have hl : (keepTo L m j).1.length = (mks m j).length := by rw [h1, List.length_map]
          have hj2 : j < (keepTo L m j).2.length := by omega
          simp [List.getD, List.getElem?_set, hj2, hl]
        · have := h3 j (by omega) hmj
          rw [← this]
          simp [List.getD, List.getElem?_set, Ne.symm e]
    · rw [if_neg hk1, if_neg hk1]
      refine ⟨h1, h2, fun j hj hmj => ?_⟩
      have : j ≠ k := by intro e; subst e; exact hk1 hmj
      exact h3 j (by omega) hmj
theorem keepZ_eq {L : List Nd} {m : Nat → Bool} (hu : Up L) (hm : ∀ i, i < L.length → m i = true → 0 ≤ (nd L i).parent → m (nd L i).parent.toNat = true) : keepZ L m = (mks m L.length).map (kp L m) := (keepTo_eq hu hm L.length (Nat.le_refl _)).1
theorem mks_lt {m : Nat → Bool} {k : Nat} : ∀ i ∈ mks m k, i < k ∧ m i = true := fun i hi => by
  obtain ⟨h1, h2⟩ := List.mem_filter.1 hi
  exact ⟨List.mem_range.1 h1, h2⟩
theorem mks_take (m : Nat → Bool) {j : Nat} : ∀ k, j ≤ k → (mks m k).take (mks m j).length = mks m j
  | 0, h => by obtain rfl : j = 0 := by omega
               simp [mks]
  | k + 1, h => by
    by_cases e : j = k + 1
    · subst e; simp
    · have ih := mks_take m (j := j) k (by omega)
      rw [mks_succ]
      split
      · have hl : (mks m j).length ≤ (mks m k).length := by
          have := congrArg List.length ih
          rw [List.length_take] at this
          omega
        rw [List.take_append_of_le_length hl]; exact ih
      · exact ih
/-- The place of a marked node. -/
theorem mks_at {m : Nat → Bool} {j k : Nat} (hj : j < k) (hm : m j = true) : (mks m j).length < (mks m k).length ∧ (mks m k).getD (mks m j).length 0 = j := by
  have h1 := mks_take m (j := j + 1) k (by omega)
  rw [mks_succ, if_pos hm, List.length_append, List.length_singleton] at h1
  have hl : (mks m j).length + 1 ≤ (mks m k).length := by
    have := congrArg List.length h1
    rw [List.length_take, List.length_append, List.length_singleton] at this
    omega
  refine ⟨by omega, ?_⟩
  have h2 := congrArg (fun l => l.getD (mks m j).length 0) h1
  simp only [List.getD] at h2 ⊢
  rw [List.getElem?_take_of_lt (by omega)] at h2
  rw [h2]
  simp
theorem mks_inc {m : Nat → Bool} {k : Nat} : (mks m k).Pairwise (· < ·) := (List.pairwise_lt_range).filter _
end Go.Proofs.Ythhknonaebnooaa
set_option linter.unusedVariables false
set_option linter.unusedSimpArgs false
namespace Go.Proofs.Ythhknonaebnooaa

/-- Sets of a list of nodes: parents stand earlier, children are parts of their parents, siblings are apart. -/
structure Lam (n : Nat) (par : Nat → Int) (S : Nat → List Int) : Prop where
  up : ∀ i, i < n → 0 < i → 0 ≤ par i ∧ par i < (i : Int)
  sub : ∀ i, i < n → 0 < i → ∀ x ∈ S i, x ∈ S (par i).toNat
  apart : ∀ i j, i < j → j < n → 0 < i → par i = par j → ∀ x ∈ S i, x ∉ S j
theorem Lam.child {n : Nat} {par : Nat → Int} {S : Nat → List Int} (h : Lam n par S) {x : Int} : ∀ s k m, k + m ≤ s → k < m → m < n → x ∈ S k → x ∈ S m → ∃ c, 0 < c ∧ c ≤ m ∧ par c = (k : Int) ∧ x ∈ S c
  | 0, k, m, hs, hkm, _, _, _ => by omega
  | s + 1, k, m, hs, hkm, hm, hk, hx => by
    obtain ⟨p0, p1⟩ := h.up m hm (by omega)
    have hxp := h.sub m hm (by omega) x hx
    rcases Nat.lt_trichotomy k (par m).toNat with hc | hc | hc
    · obtain ⟨c, c0, c1, c2, c3⟩ := h.child s k (par m).toNat (by omega) hc (by omega) hk hxp
      exact ⟨c, c0, by omega, c2, c3⟩
    · exact ⟨m, by omega, Nat.le_refl _, by omega, hx⟩
    · obtain ⟨c, c0, c1, c2, c3⟩ := h.child s (par m).toNat k (by omega) hc (by omega) hxp hk
      exact absurd hx (h.apart c m (by omega) hm c0 (by omega) x c3)
/-- A node's own state. -/
def OwnS (n : Nat) (par : Nat → Int) (S : Nat → List Int) (i : Nat) (x : Int) : Prop := x ∈ S i ∧ ∀ c, 0 < c → c < n → par c = (i : Int) → x ∉ S c
theorem Lam.own {n : Nat} {par : Nat → Int} {S : Nat → List Int} (h : Lam n par S) {i j : Nat} {x : Int} (hi : i < n) (hj : j < n) (h1 : OwnS n par S i x) (h2 : OwnS n par S j x) : i = j := by
  rcases Nat.lt_trichotomy i j with e | e | e
  · obtain ⟨c, c0, c1, c2, c3⟩ := h.child (i + j) i j (Nat.le_refl _) e hj h1.1 h2.1
    exact absurd c3 (h1.2 c c0 (by omega) c2)
  · exact e
  · obtain ⟨c, c0, c1, c2, c3⟩ := h.child (j + i) j i (Nat.le_refl _) e hi h2.1 h1.1
    exact absurd c3 (h2.2 c c0 (by omega) c2)
/-- So there are at most as many nodes as states. -/
theorem Lam.count {n N : Nat} {par : Nat → Int} {S : Nat → List Int} (h : Lam n par S) (hr : ∀ i, i < n → ∀ x ∈ S i, 0 ≤ x ∧ x < (N : Int)) (ho : ∀ i, i < n → ∃ x, OwnS n par S i x) : n ≤ N := by
  have hf : ∃ f : Nat → Int, ∀ i, i < n → OwnS n par S i (f i) := by
    refine ⟨fun i => if hi : i < n then Classical.choose (ho i hi) else 0, fun i hi => ?_⟩
    simp only [hi, dif_pos]
    exact Classical.choose_spec (ho i hi)
  obtain ⟨f, hf⟩ := hf
  have hnd : ((List.range n).map f).Nodup := by
    rw [List.nodup_iff_pairwise_ne, List.pairwise_map]
    refine (List.pairwise_lt_range).imp_of_mem ?_
    intro i j hi hj hij e
    have h1 := hf i (List.mem_range.1 hi)
    have h2 := hf j (List.mem_range.1 hj)
    rw [e] at h1
    have := h.own (List.mem_range.1 hi) (List.mem_range.1 hj) h1 h2
    omega
  have := range_sub (n := N) hnd fun x hx => by
    obtain ⟨i, hi, rfl⟩ := List.mem_map.1 hx
    exact hr i (List.mem_range.1 hi) _ (hf i (List.mem_range.1 hi)).1
  simpa using this
end Go.Proofs.Ythhknonaebnooaa
set_option linter.unusedVariables false
set_option linter.unusedSimpArgs false
namespace Go.Proofs.Ythhknonaebnooaa

theorem treeB_all {b : Bu} {t : List Nd} (h : treeB b t = true) : buchiB b = true ∧ t.length ≤ b.next.length ∧ allN t.length (nodeB b.next.length t) = true := by
  unfold treeB at h
  simp only [Bool.and_eq_true, decide_eq_true_eq] at h
  exact ⟨h.1.1, h.1.2, h.2⟩
theorem grown_par {b : Bu} {t : List Nd} {a : Int} {i : Nat} (hi : i < 2 * t.length) : (nd (grownZ b t a) i).parent = if i < t.length then (nd t i).parent else ((i - t.length : Nat) : Int) := by
  rw [grownP_get b t a hi]
  unfold grownP
  split <;> rfl
theorem grown_up0 {b : Bu} {t : List Nd} {a : Int} (h : treeB b t = true) {i : Nat} (hi : i < 2 * t.length) : (i = 0 → (nd (grownZ b t a) i).parent = -1) ∧ (0 < i → 0 ≤ (nd (grownZ b t a) i).parent ∧ (nd (grownZ b t a) i).parent < (i : Int)) := by
  rw [grown_par hi]
  obtain ⟨-, -, ht⟩ := treeB_all h
  by_cases e : i < t.length
  · rw [if_pos e]
    exact ⟨(tree_up ht e).2.2.2.1, (tree_up ht e).2.2.2.2⟩
  · rw [if_neg e]
    exact ⟨fun e0 => by omega, fun _ => by omega⟩
theorem grown_Up {b : Bu} {t : List Nd} {a : Int} (h : treeB b t = true) : Up (grownZ b t a) := fun i hi => by
  rw [grown_len] at hi
  obtain ⟨h0, h1⟩ := grown_up0 (a := a) h hi
  by_cases e : i = 0
  · have := h0 e; omega
  · have := h1 (by omega); omega
theorem listL_same (b : Bu) (t : List Nd) (a : Int) (i : Nat) : (nd (listL b t a) i).parent = (nd (grownZ b t a) i).parent ∧ (nd (listL b t a) i).name = (nd (grownZ b t a) i).name :=
  (trimTo_sub (grownZ b t a) (2 * t.length) (by rw [grown_len]; exact Nat.le_refl _) i).2
theorem listL_Up {b : Bu} {t : List Nd} {a : Int} (h : treeB b t = true) : Up (listL b t a) := fun i hi => by
  rw [listL_len] at hi
  rw [(listL_same b t a i).1]
  exact grown_Up h i (by rw [grown_len]; exact hi)
theorem listL_mem {b : Bu} {t : List Nd} {a : Int} (h : treeB b t = true) {i : Nat} (hi : i < 2 * t.length) (x : Int) :
    x ∈ (nd (listL b t a) i).set ↔ x ∈ (nd (grownZ b t a) i).set ∧ (i = 0 ∨ x ∈ (nd (listL b t a) (nd (listL b t a) i).parent.toNat).set ∧ ∀ j, j < i → 0 < j → (nd (listL b t a) j).parent = (nd (listL b t a) i).parent → x ∉ (nd (listL b t a) j).set) := by
  have := trim_mem (grown_Up (a := a) h) (i := i) (by rw [grown_len]; exact hi) (fun h0 => ((grown_up0 h hi).2 h0).1) x
  rw [grown_len] at this
  show x ∈ (nd (trimTo (grownZ b t a) (2 * t.length)) i).set ↔ _
  rw [this]
  simp only [(listL_same b t a _).1]
  exact Iff.rfl
theorem listL_lam {b : Bu} {t : List Nd} {a : Int} (h : treeB b t = true) : Lam (2 * t.length) (fun i => (nd (listL b t a) i).parent) (fun i => (nd (listL b t a) i).set) where
  up i hi h0 := by
    show 0 ≤ (nd (listL b t a) i).parent ∧ (nd (listL b t a) i).parent < (i : Int)
    rw [(listL_same b t a i).1]
    exact (grown_up0 h hi).2 h0
  sub i hi h0 x hx := by
    rcases ((listL_mem h hi x).1 hx).2 with e | e
    · omega
    · exact e.1
  apart i j hij hj h0 hp x hx hxj := by
    rcases ((listL_mem h hj x).1 hxj).2 with e | e
    · omega
    · exact e.2 i hij h0 hp hx
/-- The first node keeps all it reaches. -/
theorem listL_root {b : Bu} {t : List Nd} {a : Int} (h : treeB b t = true) (hpos : 0 < t.length) : (nd (listL b t a) 0).set = reachZ b (nd t 0).set a false := by
  have h1 := trim_own (grownZ b t a) (i := 0) (by rw [grown_len]; omega)
  rw [grown_len] at h1
  show (nd (trimTo (grownZ b t a) (2 * t.length)) 0).set = _
  rw [h1]
  show trimmedZ (grownZ b t a) 0 = _
  have e : (nd (grownZ b t a) 0).set = reachZ b (nd t 0).set a false := by
    rw [grownP_get b t a (show 0 < 2 * t.length by omega)]
    unfold grownP
    rw [if_pos hpos]
  unfold trimmedZ
  simp [e]
/-- Does node i stay? -/
def stay (b : Bu) (t : List Nd) (a : Int) (i : Nat) : Bool := !goneL (listL b t a) i
theorem stay_iff {b : Bu} {t : List Nd} {a : Int} (h : treeB b t = true) {i : Nat} (hi : i < 2 * t.length) : stay b t a i = true ↔ (nd (listL b t a) i).set ≠ [] ∧ (0 < i → stay b t a (nd (listL b t a) i).parent.toNat = true ∧ goodL (listL b t a) (nd (listL b t a) i).parent.toNat = false) := by
  have h1 := (flg_eq (listL_Up (a := a) h) (i := i) (by rw [listL_len]; exact hi)).1
  obtain ⟨u0, u1⟩ := grown_up0 (a := a) h hi
  rw [← (listL_same b t a i).1] at u0 u1
  unfold stay
  rw [h1]
  unfold upB
  by_cases e : i = 0
  · have := u0 e
    have hd : decide (0 ≤ (nd (listL b t a) i).parent) = false := decide_eq_false (by omega)
    rw [hd]
    subst e
    simp
  · have := u1 (by omega)
    have hd : decide (0 ≤ (nd (listL b t a) i).parent) = true := decide_eq_true (by omega)
    rw [hd]
    have : 0 < i := by omega
    simp [this]
    intro _
    exact And.comm
theorem lastL_same {b : Bu} {t : List Nd} {a : Int} (i : Nat) : (nd (lastL b t a) i).parent = (nd (listL b t a) i).parent ∧ (nd (lastL b t a) i).set = (nd (listL b t a) i).set :=
  ⟨(nmL_same _ _ _ _ i).1, (nmL_same _ _ _ _ i).2.1⟩
/-- The tree that Step returns. -/
theorem step_tree {b : Bu} {t : List Nd} {a : Int} (h : treeB b t = true) (a0 : 0 ≤ a) (a1 : a < b.letters) : (stepF b t a).tree = (mks (stay b t a) (2 * t.length)).map (kp (lastL b t a) (stay b t a)) := by
  unfold stepF
  rw [if_pos ⟨h, a0, a1⟩]
  show keepZ (lastL b t a) (stay b t a) = _
  have hu : Up (lastL b t a) := fun i hi => by
    rw [lastL_len] at hi
    rw [(lastL_same i).1]
    exact listL_Up h i (by rw [listL_len]; exact hi)
  rw [keepZ_eq hu, lastL_len]
  intro i hi hs hp
  rw [lastL_len] at hi
  rw [(lastL_same i).1] at hp ⊢
  have h0 : 0 < i := by
    rcases Nat.eq_zero_or_pos i with e | e
    · have := (grown_up0 (a := a) h hi).1 e
      rw [(listL_same b t a i).1] at hp
      omega
    · exact e
  exact (((stay_iff h hi).1 hs).2 h0).1
end Go.Proofs.Ythhknonaebnooaa
set_option linter.unusedVariables false
set_option linter.unusedSimpArgs false
namespace Go.Proofs.Ythhknonaebnooaa

/-- A list of nodes is nested. -/
structure LamL (T : List Nd) : Prop where
  lam : Lam T.length (fun i => (nd T i).parent) (fun i => (nd T i).set)
  root : 0 < T.length → (nd T 0).parent = -1
  inc : ∀ i, i < T.length → (nd T i).set.Nodup
theorem nd_mem {T : List Nd} {x : Nd} (h : x ∈ T) : ∃ i, i < T.length ∧ nd T i = x := by
  obtain ⟨i, hi, rfl⟩ := List.getElem_of_mem h
  exact ⟨i, hi, by simp [nd, List.getD, hi]⟩
theorem nd_at {T : List Nd} {i : Nat} (hi : i < T.length) : nd T i = T[i] := by simp [nd, List.getD, hi]
theorem mem_union {T : List Nd} {i x : Int} : x ∈ unionZ T i ↔ ∃ c, c < T.length ∧ (nd T c).parent = i ∧ x ∈ (nd T c).set := by
  unfold unionZ
  rw [List.mem_flatMap]
  constructor
  · rintro ⟨y, hy, hx⟩
    obtain ⟨c, hc, rfl⟩ := nd_mem hy
    split at hx
    · exact ⟨c, hc, ‹_›, hx⟩
    · cases hx
  · rintro ⟨c, hc, hp, hx⟩
    refine ⟨nd T c, by rw [nd_at hc]; exact List.getElem_mem hc, ?_⟩
    rw [if_pos hp]; exact hx
theorem lam_union_nodup {T : List Nd} (h : LamL T) (i : Nat) : (unionZ T (i : Int)).Nodup := by
  unfold unionZ
  rw [List.nodup_iff_pairwise_ne, List.pairwise_flatMap]
  refine ⟨fun y hy => ?_, ?_⟩
  · obtain ⟨c, hc, rfl⟩ := nd_mem hy
    split
    · exact List.nodup_iff_pairwise_ne.1 (h.inc c hc)
    · exact List.Pairwise.nil
  · rw [List.pairwise_iff_getElem]
    intro c d hc hd hcd x hx y hy e
    subst e
    rw [← nd_at hc] at hx
    rw [← nd_at hd] at hy
    split at hx
    · rename_i e1
      split at hy
      · rename_i e2
        have c0 : 0 < c := by
          rcases Nat.eq_zero_or_pos c with e | e
          · subst e
            have := h.root (by omega)
            omega
          · exact e
        exact h.lam.apart c d hcd hd c0 (e1.trans e2.symm) x hx hy
      · cases hy
    · cases hx
theorem union_part {T : List Nd} (h : LamL T) {i : Nat} {x : Int} (hx : x ∈ unionZ T (i : Int)) : x ∈ (nd T i).set := by
  obtain ⟨c, hc, hp, hx⟩ := mem_union.1 hx
  have c0 : 0 < c := by
    rcases Nat.eq_zero_or_pos c with e | e
    · subst e
      have := h.root (by omega)
      omega
    · exact e
  have := h.lam.sub c hc c0 x hx
  simp only [hp, Int.toNat_natCast] at this
  exact this
theorem lam_union_le {T : List Nd} (h : LamL T) (i : Nat) : (unionZ T (i : Int)).length ≤ (nd T i).set.length := nodup_sub (lam_union_nodup h i) fun _ hx => union_part h hx
/-- A node has a state of its own exactly if its children do not have them all. -/
theorem union_own {T : List Nd} (h : LamL T) {i : Nat} (hi : i < T.length) : (unionZ T (i : Int)).length < (nd T i).set.length ↔ ∃ x, OwnS T.length (fun i => (nd T i).parent) (fun i => (nd T i).set) i x := by
  constructor
  · intro hlt
    apply Classical.byContradiction
    intro hno
    have : (nd T i).set.length ≤ (unionZ T (i : Int)).length := nodup_sub (h.inc i hi) fun x hx => by
      apply Classical.byContradiction
      intro hx2
      exact hno ⟨x, hx, fun c c0 hc hp hxc => hx2 (mem_union.2 ⟨c, hc, hp, hxc⟩)⟩
    omega
  · rintro ⟨x, hx, hc⟩
    have hn : (x :: unionZ T (i : Int)).Nodup := by
      rw [List.nodup_cons]
      refine ⟨fun hu => ?_, lam_union_nodup h i⟩
      obtain ⟨c, hcl, hp, hxc⟩ := mem_union.1 hu
      have c0 : 0 < c := by
        rcases Nat.eq_zero_or_pos c with e | e
        · subst e
          have := h.root (by omega)
          omega
        · exact e
      exact hc c c0 hcl hp hxc
    have this : (x :: unionZ T (i : Int)).length ≤ (nd T i).set.length := nodup_sub hn fun y hy => by
      rcases List.mem_cons.1 hy with rfl | hy
      · exact hx
      · exact union_part h hy
    rw [List.length_cons] at this
    omega
end Go.Proofs.Ythhknonaebnooaa
set_option linter.unusedVariables false
set_option linter.unusedSimpArgs false
namespace Go.Proofs.Ythhknonaebnooaa

theorem listL_lamL {b : Bu} {t : List Nd} {a : Int} (h : treeB b t = true) : LamL (listL b t a) where
  lam := by rw [listL_len]; exact listL_lam h
  root hp := by
    rw [listL_len] at hp
    rw [(listL_same b t a 0).1]
    exact (grown_up0 h (by omega)).1 rfl
  inc i hi := by
    rw [listL_len] at hi
    exact inc_nd (trimmed_sets b t a (Nat.le_refl _) hi).1
/-- The places of the nodes that stay. -/
def stays (b : Bu) (t : List Nd) (a : Int) : List Nat := mks (stay b t a) (2 * t.length)
theorem stays_at {b : Bu} {t : List Nd} {a : Int} {k : Nat} (hk : k < (stays b t a).length) : (stays b t a).getD k 0 < 2 * t.length ∧ stay b t a ((stays b t a).getD k 0) = true := by
  have : (stays b t a).getD k 0 ∈ stays b t a := by simp only [List.getD, List.getElem?_eq_getElem hk, Option.getD_some]; exact List.getElem_mem hk
  exact mks_lt _ this
theorem stays_inc {b : Bu} {t : List Nd} {a : Int} {k m : Nat} (hkm : k < m) (hm : m < (stays b t a).length) : (stays b t a).getD k 0 < (stays b t a).getD m 0 := by
  have := List.pairwise_iff_getElem.1 (mks_inc (m := stay b t a) (k := 2 * t.length)) k m (Nat.lt_trans hkm hm) hm hkm
  have hk : k < (stays b t a).length := Nat.lt_trans hkm hm
  simp only [List.getD, List.getElem?_eq_getElem hk, List.getElem?_eq_getElem hm, Option.getD_some]
  exact this
theorem stays_lt {b : Bu} {t : List Nd} {a : Int} {k m : Nat} (hk : k < (stays b t a).length) (hm : m < (stays b t a).length) (h : (stays b t a).getD k 0 < (stays b t a).getD m 0) : k < m := by
  rcases Nat.lt_trichotomy k m with e | e | e
  · exact e
  · subst e; omega
  · have := stays_inc e hk; omega
/-- The parent of a node that stays: it stays too, is not good, and has its place. -/
theorem stays_up {b : Bu} {t : List Nd} {a : Int} (h : treeB b t = true) {k : Nat} (hk : k < (stays b t a).length) (h0 : 0 < (stays b t a).getD k 0) :
    ∃ r, r < k ∧ (nd (listL b t a) ((stays b t a).getD k 0)).parent = ((stays b t a).getD r 0 : Nat) ∧ (mks (stay b t a) (nd (listL b t a) ((stays b t a).getD k 0)).parent.toNat).length = r ∧ goodL (listL b t a) ((stays b t a).getD r 0) = false := by
  obtain ⟨hi, hs⟩ := stays_at hk
  obtain ⟨-, h2⟩ := (stay_iff h hi).1 hs
  obtain ⟨hp, hg⟩ := h2 h0
  obtain ⟨p0, p1⟩ := (listL_lam (a := a) h).up _ hi h0
  obtain ⟨r1, r2⟩ := mks_at (m := stay b t a) (k := 2 * t.length) (j := (nd (listL b t a) ((stays b t a).getD k 0)).parent.toNat) (by omega) hp
  have r2' : (stays b t a).getD (mks (stay b t a) (nd (listL b t a) ((stays b t a).getD k 0)).parent.toNat).length 0 = (nd (listL b t a) ((stays b t a).getD k 0)).parent.toNat := r2
  refine ⟨_, stays_lt r1 hk (by rw [r2']; omega), by rw [r2']; omega, rfl, by rw [r2']; exact hg⟩
theorem stays_zero {b : Bu} {t : List Nd} {a : Int} (h : treeB b t = true) (hk : 0 < (stays b t a).length) : (stays b t a).getD 0 0 = 0 := by
  rcases Nat.eq_zero_or_pos ((stays b t a).getD 0 0) with e | e
  · exact e
  · obtain ⟨r, hr, _⟩ := stays_up h hk e
    omega
/-- The new tree, place by place. -/
def newT (b : Bu) (t : List Nd) (a : Int) : List Nd := (stays b t a).map (kp (lastL b t a) (stay b t a))
theorem newT_len (b : Bu) (t : List Nd) (a : Int) : (newT b t a).length = (stays b t a).length := List.length_map _
theorem newT_at {b : Bu} {t : List Nd} {a : Int} {k : Nat} (hk : k < (stays b t a).length) : nd (newT b t a) k = kp (lastL b t a) (stay b t a) ((stays b t a).getD k 0) := by
  unfold newT nd
  simp only [List.getD, List.getElem?_map, List.getElem?_eq_getElem hk, Option.map_some, Option.getD_some]
theorem newT_set {b : Bu} {t : List Nd} {a : Int} {k : Nat} (hk : k < (stays b t a).length) : (nd (newT b t a) k).set = (nd (listL b t a) ((stays b t a).getD k 0)).set := by
  rw [newT_at hk]
  exact (lastL_same _).2
theorem newT_par {b : Bu} {t : List Nd} {a : Int} (h : treeB b t = true) {k : Nat} (hk : k < (stays b t a).length) :
    (k = 0 → (nd (newT b t a) k).parent = -1) ∧ (0 < k → ∃ r, r < k ∧ (nd (newT b t a) k).parent = (r : Int) ∧ (nd (listL b t a) ((stays b t a).getD k 0)).parent = ((stays b t a).getD r 0 : Nat) ∧ goodL (listL b t a) ((stays b t a).getD r 0) = false) := by
  have e : (nd (newT b t a) k).parent = if 0 ≤ (nd (listL b t a) ((stays b t a).getD k 0)).parent then ((mks (stay b t a) (nd (listL b t a) ((stays b t a).getD k 0)).parent.toNat).length : Int) else (nd (listL b t a) ((stays b t a).getD k 0)).parent := by
    rw [newT_at hk, ← (lastL_same ((stays b t a).getD k 0)).1]
    rfl
  refine ⟨fun k0 => ?_, fun k0 => ?_⟩
  · subst k0
    rw [stays_zero h hk] at e
    have hr := (listL_lamL (a := a) h).root (by rw [listL_len]; have := (stays_at hk).1; omega)
    rw [e, if_neg (by omega)]
    exact hr
  · have h0 : 0 < (stays b t a).getD k 0 := by have := stays_inc k0 hk; omega
    obtain ⟨r, r1, r2, r3, r4⟩ := stays_up h hk h0
    refine ⟨r, r1, ?_, r2, r4⟩
    rw [e, if_pos (by omega), r3]
theorem newT_lam {b : Bu} {t : List Nd} {a : Int} (h : treeB b t = true) : LamL (newT b t a) where
  lam := by
    rw [newT_len]
    refine ⟨fun k hk k0 => ?_, fun k hk k0 x hx => ?_, fun k m hkm hm k0 hp x hx hxm => ?_⟩
    · obtain ⟨r, r1, r2, _⟩ := (newT_par h hk).2 k0
      simp only [r2]
      omega
    · obtain ⟨r, r1, r2, r3, _⟩ := (newT_par h hk).2 k0
      simp only [r2, Int.toNat_natCast]
      simp only [newT_set hk] at hx
      rw [newT_set (by omega)]
      have h0 : 0 < (stays b t a).getD k 0 := by have := stays_inc k0 hk; omega
      have := (listL_lam (a := a) h).sub _ (stays_at hk).1 h0 x hx
      simp only [r3, Int.toNat_natCast] at this
      exact this
    · have hk : k < (stays b t a).length := by omega
      obtain ⟨r, r1, r2, r3, _⟩ := (newT_par h hk).2 k0
      obtain ⟨s, s1, s2, s3, _⟩ := (newT_par h hm).2 (by omega)
      simp only [r2, s2] at hp
      obtain rfl : r = s := by omega
      simp only [newT_set hk] at hx
      simp only [newT_set hm] at hxm
      have h0 : 0 < (stays b t a).getD k 0 := by have := stays_inc k0 hk; omega
      exact (listL_lam (a := a) h).apart _ _ (stays_inc hkm hm) (stays_at hm).1 h0 (r3.trans s3.symm) x hx hxm
  root hp := by
    rw [newT_len] at hp
    exact (newT_par h hp).1 rfl
  inc k hk := by
    rw [newT_len] at hk
    rw [newT_set hk]
    exact (listL_lamL h).inc _ (by rw [listL_len]; exact (stays_at hk).1)
theorem newT_own {b : Bu} {t : List Nd} {a : Int} (h : treeB b t = true) {k : Nat} (hk : k < (stays b t a).length) : ∃ x, OwnS (newT b t a).length (fun i => (nd (newT b t a) i).parent) (fun i => (nd (newT b t a) i).set) k x := by
  obtain ⟨hi, hs⟩ := stays_at hk
  rw [newT_len]
  by_cases hg : goodL (listL b t a) ((stays b t a).getD k 0) = true
  · have hne := ((stay_iff h hi).1 hs).1
    obtain ⟨x, hx⟩ := List.exists_mem_of_ne_nil _ hne
    refine ⟨x, by simp only [newT_set hk]; exact hx, fun c c0 hc hp => ?_⟩
    obtain ⟨r, r1, r2, r3, r4⟩ := (newT_par h hc).2 c0
    simp only [r2] at hp
    obtain rfl : r = k := by omega
    rw [r4] at hg; cases hg
  · have hg : goodL (listL b t a) ((stays b t a).getD k 0) = false := by simpa using hg
    have hil : (stays b t a).getD k 0 < (listL b t a).length := by rw [listL_len]; exact hi
    have h2 := (flg_eq (listL_Up (a := a) h) hil).2
    have hs' : goneL (listL b t a) ((stays b t a).getD k 0) = false := by unfold stay at hs; simpa using hs
    rw [hg, hs'] at h2
    have h3 : (unionZ (listL b t a) ((stays b t a).getD k 0 : Nat)).length ≠ (nd (listL b t a) ((stays b t a).getD k 0)).set.length := by simpa using h2.symm
    have h4 := lam_union_le (listL_lamL (a := a) h) ((stays b t a).getD k 0)
    obtain ⟨x, hx, hc⟩ := (union_own (listL_lamL (a := a) h) hil).1 (by omega)
    refine ⟨x, by simp only [newT_set hk]; exact hx, fun c c0 hcl hp hxc => ?_⟩
    obtain ⟨r, r1, r2, r3, r4⟩ := (newT_par h hcl).2 c0
    simp only [r2] at hp
    obtain rfl : r = k := by omega
    simp only [newT_set hcl] at hxc
    exact hc _ (by have := stays_inc c0 hcl; omega) (by rw [listL_len]; exact (stays_at hcl).1) r3 hxc
theorem newT_count {b : Bu} {t : List Nd} {a : Int} (h : treeB b t = true) : (newT b t a).length ≤ b.next.length := by
  refine (newT_lam (a := a) h).lam.count (fun k hk x hx => ?_) fun k hk => newT_own h (by rw [newT_len] at hk; exact hk)
  rw [newT_len] at hk
  simp only [newT_set hk] at hx
  exact (trimmed_sets b t a (Nat.le_refl _) (stays_at hk).1).2 x hx
end Go.Proofs.Ythhknonaebnooaa
set_option linter.unusedVariables false
set_option linter.unusedSimpArgs false
namespace Go.Proofs.Ythhknonaebnooaa

/-- The places below k that get a name. -/
def fresh (sk : Nat → Bool) (k : Nat) : List Nat := mks (fun i => !sk i) k
/-- The number that place i is given. -/
def numL (used : List Int) (L : List Nd) (sk : Nat → Bool) (i : Nat) : Int := freeN used used.length (nmL used L sk i).2
theorem nmL_next (used : List Int) (L : List Nd) (sk : Nat → Bool) (k : Nat) : (nmL used L sk (k + 1)).2 = if sk k then (nmL used L sk k).2 else numL used L sk k + 1 := by
  conv => lhs; unfold nmL
  split <;> rfl
theorem numL_free (used : List Int) (L : List Nd) (sk : Nat → Bool) (k : Nat) : IsFree used (nmL used L sk k).2 (numL used L sk k) := freeN_free _ _ _ (Nat.le_refl _)
theorem nmL_one (used : List Int) (L : List Nd) (sk : Nat → Bool) : ∀ k, 1 ≤ (nmL used L sk k).2
  | 0 => Int.le_refl _
  | k + 1 => by
    have ih := nmL_one used L sk k
    have := (numL_free used L sk k).1
    rw [nmL_next]
    split <;> omega
theorem nmL_mono (used : List Int) (L : List Nd) (sk : Nat → Bool) {i : Nat} : ∀ k, i ≤ k → (nmL used L sk i).2 ≤ (nmL used L sk k).2
  | 0, h => by obtain rfl : i = 0 := by omega
               exact Int.le_refl _
  | k + 1, h => by
    by_cases e : i = k + 1
    · subst e; exact Int.le_refl _
    · have ih := nmL_mono used L sk (i := i) k (by omega)
      have := (numL_free used L sk k).1
      rw [nmL_next]
      split <;> omega
theorem num_lt (used : List Int) (L : List Nd) (sk : Nat → Bool) {i j : Nat} (hij : i < j) (hi : sk i = false) : numL used L sk i < numL used L sk j := by
  have h1 := nmL_mono used L sk (i := i + 1) j (by omega)
  rw [nmL_next, hi] at h1
  simp only [Bool.false_eq_true, if_false] at h1
  have := (numL_free used L sk j).1
  omega
/-- The numbers below the next one are in use or were given. -/
theorem nmL_full (used : List Int) (L : List Nd) (sk : Nat → Bool) : ∀ k z, 1 ≤ z → z < (nmL used L sk k).2 → z ∈ used ∨ z ∈ (fresh sk k).map (numL used L sk)
  | 0, z, h1, h2 => by
    have : (nmL used L sk 0).2 = 1 := rfl
    omega
  | k + 1, z, h1, h2 => by
    have ih := nmL_full used L sk k z h1
    rw [nmL_next] at h2
    unfold fresh
    rw [mks_succ]
    cases hk : sk k
    · rw [hk] at h2
      simp only [Bool.false_eq_true, if_false] at h2
      simp only [Bool.not_false, if_true, List.map_append, List.map_cons, List.map_nil, List.mem_append, List.mem_singleton]
      by_cases e : z < (nmL used L sk k).2
      · rcases ih e with h | h
        · exact .inl h
        · exact .inr (.inl h)
      · by_cases e2 : z = numL used L sk k
        · exact .inr (.inr e2)
        · exact .inl ((numL_free used L sk k).all z (by omega) (by omega))
    · rw [hk] at h2
      simp only [if_true] at h2
      simp only [Bool.not_true, Bool.false_eq_true, if_false]
      exact ih h2
theorem num_le (used : List Int) (L : List Nd) (sk : Nat → Bool) (k : Nat) : numL used L sk k ≤ (used.length : Int) + (fresh sk k).length + 1 := by
  have h1 := nmL_one used L sk k
  have hf := numL_free used L sk k
  have hl : ((List.range (numL used L sk k - 1).toNat).map fun i : Nat => (i : Int) + 1).length ≤ (used ++ (fresh sk k).map (numL used L sk)).length := by
    refine nodup_sub ?_ fun z hz => ?_
    · rw [List.nodup_iff_pairwise_ne, List.pairwise_map]
      exact (List.pairwise_lt_range).imp fun h => by omega
    · obtain ⟨i, hi, rfl⟩ := List.mem_map.1 hz
      have hi := List.mem_range.1 hi
      rw [List.mem_append]
      by_cases e : (i : Int) + 1 < (nmL used L sk k).2
      · exact nmL_full used L sk k _ (by omega) e
      · exact .inl (hf.all _ (by omega) (by omega))
  rw [List.length_map, List.length_range, List.length_append, List.length_map] at hl
  have := hf.1
  omega
/-- The name of a place that gets one. -/
theorem nmL_name (used : List Int) (L : List Nd) (sk : Nat → Bool) {i : Nat} (hs : sk i = false) : ∀ k, i < k → i < L.length → (nd (nmL used L sk k).1 i).name = numL used L sk i
  | 0, h, _ => by omega
  | k + 1, h, hl => by
    unfold nmL
    by_cases e : i = k
    · subst e
      rw [hs]
      have h2 : i < (nmL used L sk i).1.length := by rw [nmL_len]; exact hl
      simp only [Bool.false_eq_true, if_false]
      simp only [nd, List.getD, List.getElem?_set, h2, if_true, Option.getD_some]
      rfl
    · have ih := nmL_name used L sk hs k (by omega) hl
      split
      · exact ih
      · rw [← ih]
        simp only [nd, List.getD, List.getElem?_set, Ne.symm e, if_false]
end Go.Proofs.Ythhknonaebnooaa
set_option linter.unusedVariables false
set_option linter.unusedSimpArgs false
namespace Go.Proofs.Ythhknonaebnooaa

theorem mks_mono {m m' : Nat → Bool} (h : ∀ i, m i = true → m' i = true) : ∀ k, (mks m k).length ≤ (mks m' k).length
  | 0 => Nat.le_refl _
  | k + 1 => by
    have ih := mks_mono h k
    rw [mks_succ, mks_succ]
    by_cases e : m k = true
    · rw [if_pos e, if_pos (h k e)]; simp; omega
    · rw [if_neg e]
      split
      · simp; omega
      · exact ih
theorem mks_grow (m : Nat → Bool) {j k : Nat} (h : j ≤ k) : (mks m j).length ≤ (mks m k).length := by
  have := congrArg List.length (mks_take m k h)
  rw [List.length_take] at this
  omega
/-- The step's own skip. -/
def skS (b : Bu) (t : List Nd) (a : Int) (i : Nat) : Bool := skipL (listL b t a) t.length i
theorem newT_name {b : Bu} {t : List Nd} {a : Int} {k : Nat} (hk : k < (stays b t a).length) :
    ((stays b t a).getD k 0 < t.length → (nd (newT b t a) k).name = (nd t ((stays b t a).getD k 0)).name) ∧
    (t.length ≤ (stays b t a).getD k 0 → skS b t a ((stays b t a).getD k 0) = false ∧ (nd (newT b t a) k).name = numL (namesZ t) (listL b t a) (skS b t a) ((stays b t a).getD k 0)) := by
  obtain ⟨hi, hs⟩ := stays_at hk
  have e : (nd (newT b t a) k).name = (nd (lastL b t a) ((stays b t a).getD k 0)).name := by rw [newT_at hk]; rfl
  have hg : goneL (listL b t a) ((stays b t a).getD k 0) = false := by unfold stay at hs; simpa using hs
  rw [e]
  refine ⟨fun h => ?_, fun h => ?_⟩
  · have h1 := (nmL_same (namesZ t) (listL b t a) (skS b t a) (2 * t.length) ((stays b t a).getD k 0)).2.2 (.inr (by unfold skS skipL; rw [decide_eq_true h, Bool.true_or]))
    show (nd (nmL (namesZ t) (listL b t a) (skS b t a) (2 * t.length)).1 _).name = _
    rw [h1, (listL_same b t a _).2, grownP_get b t a hi]
    unfold grownP
    rw [if_pos h]
  · have h1 : skS b t a ((stays b t a).getD k 0) = false := by unfold skS skipL; rw [hg]; simp; exact h
    refine ⟨h1, ?_⟩
    exact nmL_name (namesZ t) (listL b t a) (skS b t a) h1 (2 * t.length) hi (by rw [listL_len]; exact hi)
theorem newT_rng {b : Bu} {t : List Nd} {a : Int} (h : treeB b t = true) {k : Nat} (hk : k < (stays b t a).length) : 1 ≤ (nd (newT b t a) k).name ∧ (nd (newT b t a) k).name ≤ 2 * (b.next.length : Int) := by
  obtain ⟨hb, hl, ht⟩ := treeB_all h
  by_cases e : (stays b t a).getD k 0 < t.length
  · rw [(newT_name hk).1 e]
    exact ⟨(tree_up ht e).1, (tree_up ht e).2.1⟩
  · obtain ⟨h1, h2⟩ := (newT_name hk).2 (by omega)
    rw [h2]
    have h3 := nmL_one (namesZ t) (listL b t a) (skS b t a) ((stays b t a).getD k 0)
    have h4 := (numL_free (namesZ t) (listL b t a) (skS b t a) ((stays b t a).getD k 0)).1
    have h5 := num_le (namesZ t) (listL b t a) (skS b t a) ((stays b t a).getD k 0)
    have h6 : (fresh (skS b t a) ((stays b t a).getD k 0)).length + 1 ≤ (stays b t a).length := by
      have e1 : (fresh (skS b t a) ((stays b t a).getD k 0 + 1)).length = (fresh (skS b t a) ((stays b t a).getD k 0)).length + 1 := by
        unfold fresh
        rw [mks_succ, h1]
        simp
      rw [← e1]
      refine Nat.le_trans (mks_grow _ (k := 2 * t.length) (by have := (stays_at hk).1; omega)) (mks_mono (fun i hi => ?_) _)
      unfold skS skipL at hi
      unfold stay
      simp only [Bool.not_or, Bool.and_eq_true] at hi
      exact hi.2
    have h7 := newT_count (a := a) h
    rw [newT_len] at h7
    have h8 : (namesZ t).length = t.length := by simp [namesZ]
    rw [h8] at h5
    omega
theorem tree_names {n : Nat} {t : List Nd} (h : allN t.length (nodeB n t) = true) {i k : Nat} (hi : i < t.length) (hk : k < i) : (nd t k).name ≠ (nd t i).name := by
  have h1 := allN_true.1 h i hi
  rw [nodeB_eq] at h1
  unfold n1B at h1
  simp only [Bool.and_eq_true] at h1
  exact (sbB_iff.1 (allN_true.1 h1.1.2 k hk)).1
theorem newT_diff {b : Bu} {t : List Nd} {a : Int} (h : treeB b t = true) {k m : Nat} (hkm : k < m) (hm : m < (stays b t a).length) : (nd (newT b t a) k).name ≠ (nd (newT b t a) m).name := by
  obtain ⟨hb, hl, ht⟩ := treeB_all h
  have hk : k < (stays b t a).length := by omega
  have hlt := stays_inc hkm hm
  by_cases e : (stays b t a).getD m 0 < t.length
  · rw [(newT_name hk).1 (by omega), (newT_name hm).1 e]
    exact tree_names ht e hlt
  · obtain ⟨m1, m2⟩ := (newT_name hm).2 (by omega)
    rw [m2]
    by_cases e2 : (stays b t a).getD k 0 < t.length
    · rw [(newT_name hk).1 e2]
      intro he
      refine (numL_free (namesZ t) (listL b t a) (skS b t a) ((stays b t a).getD m 0)).no ?_
      rw [← he]
      unfold namesZ
      rw [nd_at e2]
      exact List.mem_map.2 ⟨_, List.getElem_mem e2, rfl⟩
    · obtain ⟨k1, k2⟩ := (newT_name hk).2 (by omega)
      rw [k2]
      have := num_lt (namesZ t) (listL b t a) (skS b t a) hlt k1
      omega
theorem newT_tree {b : Bu} {t : List Nd} {a : Int} (h : treeB b t = true) : treeB b (newT b t a) = true := by
  obtain ⟨hb, hl, ht⟩ := treeB_all h
  have hc := newT_count (a := a) h
  have hlam := newT_lam (a := a) h
  unfold treeB
  rw [hb, decide_eq_true hc, Bool.true_and, Bool.true_and]
  refine allN_of fun k hk => ?_
  have hk' := hk
  rw [newT_len] at hk'
  rw [nodeB_eq]
  unfold n1B
  have hsets := trimmed_sets b t a (Nat.le_refl _) (stays_at hk').1
  have hsets2 : (nd (newT b t a) k).set.Pairwise (· < ·) ∧ ∀ z ∈ (nd (newT b t a) k).set, 0 ≤ z ∧ z < (b.next.length : Int) := by rw [newT_set hk']; exact hsets
  have hmem : ∀ j, j < (nd (newT b t a) k).set.length → (nd (newT b t a) k).set.getD j 0 ∈ (nd (newT b t a) k).set := fun j hj => by
    simp only [List.getD, List.getElem?_eq_getElem hj, Option.getD_some]; exact List.getElem_mem hj
  simp only [Bool.and_eq_true]
  refine ⟨⟨⟨hdB_iff.2 ⟨(newT_rng h hk').1, (newT_rng h hk').2, ?_, (newT_par h hk').1, fun k0 => ?_⟩, allN_of fun j hj => stB_iff.2 ⟨(hsets2.2 _ (hmem j hj)).1, (hsets2.2 _ (hmem j hj)).2, fun j0 => ?_, fun k0 => ?_⟩⟩, allN_of fun j hj => sbB_iff.2 ⟨newT_diff h hj hk', fun hp x hx hxj => ?_⟩⟩, ?_⟩
  · rw [newT_set hk']
    have := ((stay_iff h (stays_at hk').1).1 (stays_at hk').2).1
    exact List.length_pos_iff.2 this
  · obtain ⟨r, r1, r2, _⟩ := (newT_par h hk').2 k0
    rw [r2]; omega
  · have := List.pairwise_iff_getElem.1 hsets2.1 (j - 1) j (by omega) hj (by omega)
    have hj1 : j - 1 < (nd (newT b t a) k).set.length := by omega
    simp only [List.getD, List.getElem?_eq_getElem hj, List.getElem?_eq_getElem hj1, Option.getD_some]
    exact this
  · exact hlam.lam.sub k hk k0 _ (hmem j hj)
  · have j0 : 0 < j := by
      rcases Nat.eq_zero_or_pos j with e | e
      · subst e
        obtain ⟨r, r1, r2, _⟩ := (newT_par h hk').2 hj
        have := (newT_par h (by omega : 0 < (stays b t a).length)).1 rfl
        omega
      · exact e
    exact hlam.lam.apart j k hj hk j0 hp x hxj hx
  · unfold n2B
    exact decide_eq_true ((union_own hlam hk).2 (newT_own h hk'))
end Go.Proofs.Ythhknonaebnooaa
