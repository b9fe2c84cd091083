/-
  Walk of the law TreeOrder.
  What the law TreeNames says, plain.
-/
import Derived.Test.YthhknonaebnooaaZ14
set_option linter.unusedVariables false
set_option linter.unusedSimpArgs false
namespace Go.Proofs.Ythhknonaebnooaa
open Go.RowKit
attribute [local go_sem] cell_alloc_old build_c

theorem small_sizes {t : List Nd} (h : smallTB t = true) : t.length ≤ 20 ∧ ∀ k, k < t.length → (nd t k).set.length ≤ 20 := by
  unfold smallTB at h
  simp only [Bool.and_eq_true, decide_eq_true_eq] at h
  exact ⟨h.1, fun k hk => by simpa using allN_true.1 h.2 k hk⟩
theorem few_row {b : Bu} (h : fewB b = true) {i : Nat} (hi : i < b.next.length) : b.next.length ≤ 10 ∧ (b.next.getD i []).length ≤ 20 ∧ ∀ j, j < (b.next.getD i []).length → ((b.next.getD i []).getD j []).length ≤ 20 := by
  unfold fewB at h
  simp only [Bool.and_eq_true, decide_eq_true_eq] at h
  have h1 := allN_true.1 h.2 i hi
  simp only [Bool.and_eq_true, decide_eq_true_eq] at h1
  exact ⟨h.1.2, h1.1, fun j hj => by simpa using allN_true.1 h1.2 j hj⟩
theorem few_len {b : Bu} (h : fewB b = true) : b.next.length ≤ 10 := by
  unfold fewB at h
  simp only [Bool.and_eq_true, decide_eq_true_eq] at h
  exact h.1.2
theorem tree_buchi {b : Bu} {t : List Nd} (h : treeB b t = true) : buchiB b = true := by
  unfold treeB at h
  simp only [Bool.and_eq_true] at h
  exact h.1.1
theorem HB_start {w : World} {D : Dom} {As An : Option Addr} {cs cn n m : Nat} {x0 : Value} {b : Bu} (h : RdBu w D (.agg #[x0, .slice As n cs, .slice An m cn]) b) : RdI w D As cs b.start := by
  obtain ⟨As', cs', An', cn', e, h1, h2⟩ := h
  injection e with e
  injection e with e
  simp only [List.cons.injEq, Value.slice.injEq] at e
  obtain ⟨_, ⟨rfl, _, rfl⟩, _⟩ := e
  exact h1
theorem RdBu.any {w w' : World} {D : Dom} {v : Value} {b : Bu} (h : RdBu w D v b) (hb : Below w.heap.size w w') : RdBu w' Any v b := ((h.mono fun _ _ hl => hl : RdBu w (· < w.heap.size) v b).keep (Keeps.of_below hb fun _ h => h)).mono fun _ _ _ => trivial
theorem Oc.kept {w W wr w7 : World} {kb : Nat} {cs : Array Value} {x0 x1 : Value} {b : Bu} {i : Nat} {A : Option Addr} {c : Nat} {vs : List Value} (h : Oc w W kb cs x0 x1 b i A c vs) (hb : Below W.heap.size W wr) (o : Obj) (hg : (wr.alloc o).grownBy w7 (Value.slice A i c).ownBlock) : w7.heap[kb]? = some (.cells #[x0, x1, .slice A i c] 25 (0, 0)) := by
  have hb6 : Below W.heap.size W (wr.alloc o) := hb.trans ((Below.refl _ _).alloc hb.size o)
  have ho6 : (wr.alloc o).ownsRow (kb + 1) 51 1 (.slice A i c) i vs := own_below h.own hb6
  have hbk6 := (hb6.block _ (lt_of_block h.out)).trans h.out
  exact (hg.block _ (lt_of_block hbk6) (fun e => own_ne ho6 hbk6 (by decide) e.symm)).trans hbk6
/-- What is made reads as the thinned automaton. -/
theorem Oc.reads {w wr : World} {kb cs' : Nat} {cs : Array Value} {b : Bu} {As A : Option Addr} {c : Nat} {vs : List Value} (h : Oc w wr kb cs (.int .i64 b.letters) (.slice As b.start.length cs') b b.next.length A c vs) (hs : RdI w (· < w.heap.size) As cs' b.start) (hn : b.next.length ≤ 140737488355328) :
    RdBu wr Any (.agg #[.int .i64 b.letters, .slice As b.start.length cs', .slice A b.next.length c]) (thinB b) := by
  have hl : (thinB b).next.length = b.next.length := by simp [thinB]
  refine ⟨As, cs', A, c, by rw [hl]; rfl, (hs.keep (Keeps.of_below h.below fun _ h => h)).mono fun _ _ _ => trivial, ?_⟩
  have hr := h.rows
  rw [List.take_of_length_le (Nat.le_refl _)] at hr
  refine ⟨vs, ?_, hr.turn fun _ _ _ h => monoVV h fun _ _ _ => trivial⟩
  rw [hl]
  exact Rd.own h.own hn fun _ _ => trivial
/-- One more row of moves. -/
theorem trV_next {W wr w6 : World} {B : Nat} {rows : List (List Mv)} {us : List Value} (h : TR RdV W (TyD W B isMv) rows us) (hb : Below W.heap.size W wr) {v : Value} {m : Nat} (hl : us.length = rows.length) {A : Option Addr} {c : Nat} {r : List Mv} (hr : RdV wr (TyD wr B isMv) A c r) (o : Obj) (ho : wr.ownsRow B 52 1 v m us) (hg : (wr.alloc o).grownBy w6 v.ownBlock) :
    TR RdV w6 (TyD w6 B isMv) (rows ++ [r]) (us ++ [.slice A r.length c]) :=
  trV_keep (trV_keep ((trV_keep h (TyD.below hb (Nat.le_refl _))).snoc hl hr) (TyD.below ((Below.refl wr.heap.size wr).alloc (Nat.le_refl _) o) (Nat.le_refl _))) (TyD.grown (ho.alloc o) hg not_isMv)
set_option maxRecDepth 100000 in
set_option maxHeartbeats 4000000 in
theorem order_any {D E : Dom} (v : Value) (b : Bu) (A : Option Addr) (c : Nat) (t : List Nd) (a : Int) (w : World) (h : RdBu w D v b) (ht : RdN w E A c t) :
    Calls Try.prog 7 #[v, .slice A t.length c, .int .i64 a] w fun e w' => e = .returned (.bool true) ∧ Below w.heap.size w w' := by
  obtain ⟨i0, hti, hz0, hz1, hz2⟩ := info_parts move_info
  obtain ⟨i1, htj, hy0, hy1, hy2⟩ := info_parts row_info
  obtain ⟨i2, htk, hx0, hx1, hx2⟩ := info_parts rows_info
  have HV := hid h.old
  have HT := hid ht.old
  have htl := ht.len.1
  obtain ⟨As, cs, An, cn, rfl, hs, hn⟩ := h
  have HN0 := hid (show RdVVV w (· < w.heap.size) An cn b.next from monoVVV hn fun _ _ hl => hl)
  clear hs hn ht
  go_enter Try.func7, Try.ntmps7
  go_upto_region 1 with (fail)
  refine wp_gen fun W hW => ?_
  have hB : HasB W w.heap.size #[.int .i64 b.letters, .slice As b.start.length cs, .slice An b.next.length cn] b := by rw [hW]; exact HasB.new HV.out
  have hb : Below w.heap.size w W := by rw [hW]; go_grown
  have HB := hid hB
  have HBW := hid hb
  have HT0 := hid HT.out
  have HT := hid (HT.out.keep (Keeps.of_below (hb.mono (Nat.le_refl _)) fun _ h => h))
  clear hB hb hW
  go_wp2_with fail
  refine (head_any W).mono ?_
  rintro e W1 ⟨rfl, hb⟩
  have HB := hid (HB.out.below hb)
  have HT := hid (HT.out.old.keep (Keeps.of_below hb fun _ h => h))
  have HBW := hid (HBW.out.trans (hb.mono HBW.out.size))
  clear hb
  obtain ⟨o0, o1, o2, ol⟩ := HB.out.cells
  go_wp2_with fail
  refine (few_any _ b W1 HB.out.rd).mono ?_
  rintro e W2 ⟨rfl, hb⟩
  have HB := hid (HB.out.below hb)
  have HT := hid (HT.out.old.keep (Keeps.of_below hb fun _ h => h))
  have HBW := hid (HBW.out.trans (hb.mono HBW.out.size))
  clear hb
  clear o0 o1 o2 ol
  obtain ⟨o0, o1, o2, ol⟩ := HB.out.cells
  by_cases hf : fewB b = true
  rotate_left
  · have hf : fewB b = false := by simpa using hf
    go_wp2_with fail
    exact bodyPost_ret (v := .bool true) (by simp [results, Try.results7, go_sem]) rfl ⟨rfl, HBW.out⟩
  have HF := hid hf
  go_wp2_with fail
  refine (smallt_any A c t W2 HT.out).mono ?_
  rintro e W3 ⟨rfl, rfl⟩
  by_cases hm : smallTB t = true
  rotate_left
  · have hm : smallTB t = false := by simpa using hm
    go_wp2_with fail
    exact bodyPost_ret (v := .bool true) (by simp [results, Try.results7, go_sem]) rfl ⟨rfl, HBW.out⟩
  have hsm := small_sizes hm
  have HSM := hid hsm
  clear hsm
  go_wp2_with fail
  refine (rtvalid_any _ b A c t W3 HB.out.rd HT.out (by have := HSM.out.1; omega) (fun k hk => by have := HSM.out.2 k hk; omega)).mono ?_
  rintro e W4 ⟨rfl, hb⟩
  have HB := hid (HB.out.below hb)
  have HT := hid (HT.out.old.keep (Keeps.of_below hb fun _ h => h))
  have HBW := hid (HBW.out.trans (hb.mono HBW.out.size))
  clear hb
  clear o0 o1 o2 ol
  obtain ⟨o0, o1, o2, ol⟩ := HB.out.cells
  by_cases hv : treeB b t = true
  rotate_left
  · have hv : treeB b t = false := by simpa using hv
    go_wp2_with fail
    exact bodyPost_ret (v := .bool true) (by simp [results, Try.results7, go_sem]) rfl ⟨rfl, HBW.out⟩
  have HTR := hid hv
  by_cases ha0 : a < 0
  · have hd0 : decide (a < 0) = true := decide_eq_true ha0
    go_wp2_with fail
    exact bodyPost_ret (v := .bool true) (by simp [results, Try.results7, go_sem]) rfl ⟨rfl, HBW.out⟩
  by_cases ha1 : b.letters ≤ a
  · have hd0 : decide (a < 0) = false := decide_eq_false ha0
    have hd1 : decide (b.letters ≤ a) = true := decide_eq_true ha1
    go_wp2_with fail
    exact bodyPost_ret (v := .bool true) (by simp [results, Try.results7, go_sem]) rfl ⟨rfl, HBW.out⟩
  have hd0 : decide (a < 0) = false := decide_eq_false ha0
  have hd1 : decide (b.letters ≤ a) = false := decide_eq_false ha1
  have HL := hid (And.intro ha0 ha1)
  clear hf hm hv o0 o1 o2
  obtain ⟨o0, o1, o2, ol⟩ := HB.out.cells
  go_upto_region 5 with (fail)
  refine wp_gen fun W5 hW5 => ?_
  obtain ⟨kb, hkb⟩ : ∃ kb, kb = W4.heap.size := ⟨_, rfl⟩
  have hb5 : Below W4.heap.size W4 W5 := by rw [hW5]; go_grown
  have hM : Oc w W5 kb #[.int .i64 b.letters, .slice As b.start.length cs, .slice An b.next.length cn] (.int .i64 b.letters) (.slice As b.start.length cs) b 0 none 0 [] := by
    refine ⟨HBW.out.trans (hb5.mono HBW.out.size), by omega, HB.out.below hb5, ?_, ⟨by simp, .inl ⟨rfl, rfl⟩⟩, TR.nil _ _ _⟩
    rw [hW5, hkb]; exact heap_alloc_new W4 _
  have hs5 : W5.heap.size = kb + 1 := by rw [hW5, hkb]; simp
  have HM := hid hM
  have HT5 := hid hs5
  rw [← hkb]
  clear hW5 hM hb5 hkb o0 o1 o2 ol HT hs5
  go_wp2_with fail
  go_loopw [9] (fun q wr => ∃ (i : Nat) (A' : Option Addr) (c' : Nat) (vs : List Value), i ≤ b.next.length ∧ q = .int .i64 (i : Int) ∧ Oc w wr kb #[.int .i64 b.letters, .slice As b.start.length cs, .slice An b.next.length cn] (.int .i64 b.letters) (.slice As b.start.length cs) b i A' c' vs) (fun q _ => b.next.length - (intOf q).toNat)
  case atStart => exact ⟨0, none, 0, [], Nat.zero_le _, rfl, HM.out⟩
  case round =>
    obtain ⟨i, A', c', vs, hi, rfl, hoc⟩ := hrel
    have HOC := hid hoc
    obtain ⟨o0, o1, o2, ol⟩ := hoc.box.cells
    have hkw := lt_of_block hoc.out
    have HB1 := hid hoc.below
    have hlt0 := hoc.lt
    clear hoc
    by_cases hlt : i < b.next.length
    · have hii : (i : Int) < b.next.length := by omega
      obtain ⟨g2, o2', A2, c2, row, hAn, _, hgl2, HR, hr, hc2⟩ := HN0.out.get hlt
      subst hAn
      have hrl := hr.len.1
      have hf6 := few_row HF.out hlt
      rw [HR.out] at hf6
      have HF6 := hid hf6
      have hr20 := hf6.2.1
      have hn10 := hf6.1
      have HROW := hid hr
      have HC2 := hid hc2
      have hc2 := (HB1.out.cell (p := ⟨g2, o2' + i, none⟩) hgl2).trans hc2
      obtain ⟨W1x, hW1x⟩ : ∃ W1x, W1x = wr := ⟨_, rfl⟩
      rw [← hW1x] at HOC HB1 o0 o1 o2 ol hkw hc2 ⊢
      clear hW1x hr hf6
      go_upto_region 9 with (fail)
      refine wp_gen fun W6 hW6 => ?_
      have hb6 : Below W1x.heap.size W1x W6 := by rw [hW6]; go_grown
      have ho6 : W6.ownsRow W1x.heap.size 52 1 (.slice (some ⟨W1x.heap.size, 0, none⟩) 0 0) 0 [] := by rw [hW6]; exact own_lit0 _ _ _
      have HB6 := hid hb6
      have HO6 := hid ho6
      clear hW6 hb6 ho6 o0 o1 o2 hc2
      go_wp2_with fail
      go_loopw [10, 11] (fun s q wr => ∃ (j : Nat) (A3 : Option Addr) (c3 : Nat) (us : List Value), j ≤ row.length ∧ q = .int .i64 (j : Int) ∧ s = .slice A3 j c3 ∧ Below W1x.heap.size W1x wr ∧ wr.ownsRow W1x.heap.size 52 1 (.slice A3 j c3) j us ∧ TR RdV wr (TyD wr W1x.heap.size isMv) ((row.take j).map thin) us) (fun _ q _ => row.length - (intOf q).toNat)
      case atStart => exact ⟨0, _, 0, [], Nat.zero_le _, rfl, rfl, HB6.out, HO6.out, TR.nil _ _ _⟩
      case round =>
        obtain ⟨j, A3, c3, us, hj, rfl, rfl, hb, ho, htr⟩ := hrel
        have HB2 := hid hb
        have HO2 := hid ho
        have HTRR := hid htr
        have HBW2 := hid (HB1.out.trans (hb.mono HB1.out.size))
        have hsz2 := hb.size
        have hul : us.length = j := by have := ho.1; simpa using this
        have HUL := hid hul
        have hc2 := (HBW2.out.cell (p := ⟨g2, o2' + i, none⟩) hgl2).trans HC2.out
        have hc0 := block_cell ((hb.block _ hkw).trans HOC.out.out) (i := 2) rfl
        clear hb ho htr hul
        obtain ⟨o0, o1, o2, ol2⟩ := (HOC.out.box.below HB2.out).cells
        by_cases hlj : j < row.length
        · have hji : (j : Int) < row.length := by omega
          clear hc0
          obtain ⟨g3, o3, A4, c4, l, hA2, _, hgl3, HL3, hl, hc3⟩ := RdOf.get HROW.out hlj
          subst hA2
          have hl20 : l.length ≤ 20 := by have := HF6.out.2.2 j hlj; rw [HL3.out] at this; exact this
          have HLR := hid hl
          have hc3 := (HBW2.out.cell (p := ⟨g3, o3 + j, none⟩) hgl3).trans hc3
          obtain ⟨W2x, hW2x⟩ : ∃ W2x, W2x = wr := ⟨_, rfl⟩
          rw [← hW2x] at HB2 HO2 HTRR HBW2 hsz2 hc2 hc3 o0 o1 o2 ol2 ⊢
          clear hW2x hl
          go_upto_region 14 with (fail)
          refine wp_gen fun W8 hW8 => ?_
          have hb8 : Below W2x.heap.size W2x W8 := by rw [hW8]; go_grown
          have ho8 : W8.ownsRow W2x.heap.size 54 2 (.slice (some ⟨W2x.heap.size, 0, none⟩) 0 0) 0 [] := by rw [hW8]; exact own_lit0 _ _ _
          have HB8 := hid hb8
          have HO8 := hid ho8
          clear hW8 hb8 ho8 o0 o1 o2 hc2 hc3
          go_wp2_with fail
          go_loopw [13, 14] (fun s q wr => ∃ (k n : Nat) (A5 : Option Addr) (c5 : Nat), k ≤ l.length ∧ n = (thinTo l k).length ∧ q = .int .i64 (k : Int) ∧ s = .slice A5 n c5 ∧ Below W2x.heap.size W2x wr ∧ wr.ownsRow W2x.heap.size 54 2 (.slice A5 n c5) n ((thinTo l k).flatMap vcells)) (fun _ q _ => l.length - (intOf q).toNat)
          case atStart => exact ⟨0, 0, _, 0, Nat.zero_le _, rfl, rfl, rfl, HB8.out, HO8.out⟩
          case round =>
            obtain ⟨k, n, A5, c5, hk, hn, rfl, rfl, hb, ho⟩ := hrel
            have HB3 := hid hb
            have HO3 := hid ho
            have HNN := hid hn
            have hnb : n ≤ k := by rw [hn]; exact thinTo_len l k
            have hsz3 := hb.size
            have HLW := hid (HLR.out.keep (Keeps.of_below (HBW2.out.trans (hb.mono HBW2.out.size)) fun _ h => h))
            clear hb ho hn
            by_cases hlk : k < l.length
            · have hki : (k : Int) < l.length := by omega
              obtain ⟨g4, o4, m, hA4, _, hgl4, HMM, hm0, hm1⟩ := HLW.out.get hlk
              subst hA4
              have HSN := hid (thinTo_snoc l k)
              by_cases hk1 : k + 1 < l.length
              · have hk1i : (k : Int) + 1 < l.length := by omega
                obtain ⟨g5, o5, m', hA5, _, _, HM1, hn0, hn1⟩ := HLW.out.get hk1
                injection hA5 with hA5
                injection hA5 with e1 e2
                subst e1 e2
                by_cases he : m'.dst = m.dst
                · have hee : (m'.dst == m.dst) = true := beq_iff_eq.2 he
                  have HKJ : Hid (keepJ l k = false) := hid (by unfold keepJ; rw [HMM.out, HM1.out, decide_eq_true hk1, decide_eq_true he]; rfl)
                  clear he
                  go_wp2_with fail
                  go_quiet (fail)
                  go_wp2_with fail
                  go_roundw
                  case rel =>
                    refine ⟨k + 1, n, A5, c5, by omega, ?_, by go_num, rfl, HB3.out.trans ((Drawn.n wr _).below _), ?_⟩
                    · rw [HSN.out, HKJ.out]; simpa using HNN.out
                    · rw [HSN.out, HKJ.out]; simpa using own_below HO3.out ((Drawn.n wr _).below _)
                  case measure => simp [intOf]; omega
                · have hee : (m'.dst == m.dst) = false := beq_eq_false_iff_ne.2 he
                  have HKJ : Hid (keepJ l k = true) := hid (by unfold keepJ; rw [HMM.out, HM1.out, decide_eq_false he]; simp)
                  clear he
                  go_wp2_with fail
                  go_quiet (fail)
                  obtain ⟨W9, hW9, hd9⟩ : ∃ W9, W9 = wr.drewN nq ∧ Drawn wr W9 := ⟨_, rfl, Drawn.n _ _⟩
                  rw [← hW9]
                  have HO9 := hid (own_below HO3.out (hd9.below _))
                  have HB9 := hid (HB3.out.trans (hd9.below _))
                  have hs9 := HB9.out.size
                  have hm0 := (hd9.below wr.heap.size).cell (p := ⟨g4, o4 + k * 2, none⟩) hgl4 |>.trans hm0
                  have hm1 := (hd9.below wr.heap.size).cell (p := ⟨g4, o4 + k * 2 + 1, none⟩) hgl4 |>.trans hm1
                  clear hd9 hW9
                  go_wp2_with (at_builtin; go_must (refine wpList_append_rd _ rfl (.tmp 102) (.tmp 107) 52 rfl W2x.heap.size 54 i0 _ 2 16 Try.underlying52 hti hz0 hz1 hz2 rfl (by omega) (.slice A5 n c5) n _ rfl (HO9.out.alloc _) _ (some ⟨W9.heap.size, 0, none⟩) 1 1 _ rfl (Rd.fresh (D := fun _ => True) rfl trivial rfl (by omega)) (by simp [Value.oneCell']) (by omega) (maxLen_le (by omega)) (by simp; omega) ?_); intro A6 c6 w6 hown6 hg6 hat6)
                  have hb6 := Below.grown (B := W2x.heap.size) (HB9.out.trans ((show Below W9.heap.size W9 _ from by go_grown).mono HB9.out.size)) hg6 (by simp; omega) (fun k hk => (HO9.out.lt k hk).1)
                  have HO6 := hid hown6
                  have HB6 := hid hb6
                  clear hown6 hg6 hat6 hb6
                  go_roundw
                  case rel =>
                    refine ⟨k + 1, n + 1, A6, c6, by omega, ?_, by go_num, rfl, HB6.out, ?_⟩
                    · rw [HSN.out, HKJ.out, List.length_append, ← HNN.out]; rfl
                    · rw [HSN.out, HKJ.out, HMM.out, List.flatMap_append]; simpa [vcells] using HO6.out
                  case measure => simp [intOf]; omega
              · have hk1i : ¬ (k : Int) + 1 < l.length := by omega
                have hk1d : decide ((k : Int) + 1 < l.length) = false := decide_eq_false hk1i
                have HKJ : Hid (keepJ l k = true) := hid (by unfold keepJ; rw [decide_eq_false hk1]; rfl)
                go_wp2_with fail
                go_quiet (fail)
                obtain ⟨W9, hW9, hd9⟩ : ∃ W9, W9 = wr.drewN nq ∧ Drawn wr W9 := ⟨_, rfl, Drawn.n _ _⟩
                rw [← hW9]
                have HO9 := hid (own_below HO3.out (hd9.below _))
                have HB9 := hid (HB3.out.trans (hd9.below _))
                have hs9 := HB9.out.size
                have hm0 := (hd9.below wr.heap.size).cell (p := ⟨g4, o4 + k * 2, none⟩) hgl4 |>.trans hm0
                have hm1 := (hd9.below wr.heap.size).cell (p := ⟨g4, o4 + k * 2 + 1, none⟩) hgl4 |>.trans hm1
                clear hd9 hW9
                go_wp2_with (at_builtin; go_must (refine wpList_append_rd _ rfl (.tmp 102) (.tmp 107) 52 rfl W2x.heap.size 54 i0 _ 2 16 Try.underlying52 hti hz0 hz1 hz2 rfl (by omega) (.slice A5 n c5) n _ rfl (HO9.out.alloc _) _ (some ⟨W9.heap.size, 0, none⟩) 1 1 _ rfl (Rd.fresh (D := fun _ => True) rfl trivial rfl (by omega)) (by simp [Value.oneCell']) (by omega) (maxLen_le (by omega)) (by simp; omega) ?_); intro A6 c6 w6 hown6 hg6 hat6)
                have hb6 := Below.grown (B := W2x.heap.size) (HB9.out.trans ((show Below W9.heap.size W9 _ from by go_grown).mono HB9.out.size)) hg6 (by simp; omega) (fun k hk => (HO9.out.lt k hk).1)
                have HO6 := hid hown6
                have HB6 := hid hb6
                clear hown6 hg6 hat6 hb6
                go_roundw
                case rel =>
                  refine ⟨k + 1, n + 1, A6, c6, by omega, ?_, by go_num, rfl, HB6.out, ?_⟩
                  · rw [HSN.out, HKJ.out, List.length_append, ← HNN.out]; rfl
                  · rw [HSN.out, HKJ.out, HMM.out, List.flatMap_append]; simpa [vcells] using HO6.out
                case measure => simp [intOf]; omega
            · have hke : k = l.length := by omega
              have hth : thinTo l k = thin l := by rw [hke]; exact thinTo_all l
              have HTH := hid hth
              clear hke hth
              go_wp2_with (at_builtin; go_must (refine wpList_append_rd _ rfl (.tmp 109) (.tmp 111) 51 rfl W1x.heap.size 52 i1 _ 1 24 Try.underlying51 htj hy0 hy1 hy2 rfl (by omega) (.slice A3 j c3) j _ rfl ((own_below HO2.out HB3.out).alloc _) _ (some ⟨wr.heap.size, 0, none⟩) 1 1 _ rfl (Rd.cell1 (cell_new wr _ _ _ _ _ rfl rfl)) (by simp [Value.oneCell']) (by omega) (maxLen_le (by omega)) (by simp; omega) ?_); intro A6 c6 w6 hown6 hg6 hat6)
              have hb6 := Below.grown (B := W1x.heap.size) ((HB2.out.trans (HB3.out.mono HB2.out.size)).trans ((show Below wr.heap.size wr _ from by go_grown).mono (by omega))) hg6 (by simp; omega) (fun k hk => (HO2.out.lt k hk).1)
              have hrow : RdV wr (TyD wr W1x.heap.size isMv) A5 c5 (thin l) := by
                have ho := HO3.out
                rw [HTH.out] at ho
                have hn := HNN.out
                rw [HTH.out] at hn
                unfold RdV
                rw [← hn]
                exact TyD.of_own hsz2 ho rfl (by omega)
              have hrow6 := trV_next HTRR.out HB3.out (by rw [HUL.out, List.length_map, List.length_take]; omega) hrow _ (own_below HO2.out HB3.out) hg6
              have HR6 := hid hrow6
              have HO6 := hid hown6
              have HB6 := hid hb6
              have HN6 := hid (show n = (thin l).length by rw [← HTH.out]; exact HNN.out)
              clear hown6 hg6 hat6 hb6 hrow hrow6
              go_roundw
              case rel =>
                refine ⟨j + 1, A6, c6, us ++ [.slice A5 n c5], by omega, by go_num, rfl, HB6.out, HO6.out, ?_⟩
                rw [take_succ_getD row [] hlj, HL3.out, List.map_append, HN6.out]
                exact HR6.out
              case measure => simp [intOf]; omega
        · have hjr : j = row.length := by omega
          have hrj : row.take j = row := List.take_of_length_le (by omega)
          have HRJ := hid hrj
          have HW2X := hid (show W1x.heap.size ≤ wr.heap.size from hsz2)
          have hkw2 : kb < wr.heap.size := by omega
          have hrows : RdVV wr (TyD wr (kb + 1) isVV) A3 c3 (row.map thin) := by
            have htr := HTRR.out
            rw [HRJ.out] at htr
            have hjl : j = (row.map thin).length := by rw [List.length_map]; exact hjr
            refine ⟨us, ?_, htr.turn fun _ _ _ h => h.mono fun k hk _ => ⟨by have := hk.lo; omega, by obtain ⟨_, cs', t', fr, h1, h2⟩ := hk; exact ⟨cs', t', fr, h1, .inl h2⟩⟩⟩
            rw [← hjl]
            exact TyD.of_own (by omega) HO2.out (.inr rfl) (by omega)
          have HROWS := hid hrows
          have hjl : j = (row.map thin).length := by rw [List.length_map]; exact hjr
          have HJL := hid hjl
          clear hjr hrj hrows hjl
          go_wp2_with (at_builtin; go_must (refine wpList_append_rd _ rfl (.tmp 114) (.tmp 116) 23 rfl (kb + 1) 51 i2 _ 1 24 Try.underlying23 htk hx0 hx1 hx2 rfl (by omega) (.slice A' i c') i _ rfl ((own_below HOC.out.own HB2.out).alloc _) _ (some ⟨wr.heap.size, 0, none⟩) 1 1 _ rfl (Rd.cell1 (cell_new wr _ _ _ _ _ rfl rfl)) (by simp [Value.oneCell']) (by omega) (maxLen_le (by omega)) (by simp; omega) ?_); intro A7 c7 w7 hown7 hg7 hat7; have e7c := HOC.out.kept HB2.out _ hg7; have e7d := block_cell e7c (i := 2) rfl; have e7f := block_free e7c (i := 2))
          have hnext := HOC.out.next HV.out hlt HB2.out (r := row.map thin) (by rw [HR.out]) HROWS.out _ hg7 (by rw [← HJL.out]; exact hown7)
          have HNX := hid hnext
          clear hown7 hg7 hat7 hnext e7c e7d e7f
          go_roundw
          case rel => exact ⟨i + 1, A7, c7, _, by omega, by go_num, HNX.out⟩
          case measure => simp [intOf]; omega
    · obtain rfl : i = b.next.length := by omega
      have hrd := HOC.out.reads (HB_start HV.out) (by have := few_len HF.out; omega)
      have q0 := block_cell HOC.out.out (i := 0) rfl
      have q1 := block_cell HOC.out.out (i := 1) rfl
      have q2 := block_cell HOC.out.out (i := 2) rfl
      obtain ⟨W7x, hW7x⟩ : ∃ W7x, W7x = wr := ⟨_, rfl⟩
      rw [← hW7x] at HOC HB1 o0 o1 o2 ol hkw hrd q0 q1 q2 ⊢
      have HRD := hid hrd
      have HX7 := hid HOC.out.out
      have HBX := hid HOC.out.box
      have HTX := hid (HT0.out.any HB1.out)
      have HT0W := hid (HT0.out.keep (Keeps.of_below HB1.out fun _ h => h))
      clear hW7x hrd q0 q1 q2 HOC
      go_wp2_with fail
      refine (pstepf_any _ b A c t a W7x HBX.out.rd HT0W.out HF.out).mono ?_
      rintro e W8 ⟨A1, AG, AB, c1, cG, cB, rfl, hb, h1, h2, h3⟩
      have HB8 := hid (HB1.out.trans (hb.mono HB1.out.size))
      have HX8 := hid ((hb.block _ hkw).trans HX7.out)
      have HRD8 := hid (HRD.out.any hb)
      have HT8 := hid (HT0W.out.any hb)
      have H1 := hid h1
      have H2 := hid h2
      have H3 := hid h3
      have hkw8 : kb < W8.heap.size := lt_of_block HX8.out
      clear hb h1 h2 h3 o0 o1 o2
      go_upto_region 22 with (fail)
      refine wp_gen fun W9 hW9 => ?_
      have hb9 : Below W8.heap.size W8 W9 := by rw [hW9]; go_grown
      have hev : W9.heap[W8.heap.size]? = some (.cells #[.slice AG (stepF b t a).good.length cG, .slice AB (stepF b t a).bad.length cB] 31 (0, 0)) := by rw [hW9]; exact heap_alloc_new W8 _
      have HB9 := hid (HB8.out.trans (hb9.mono HB8.out.size))
      have hx9 := (hb9.block _ hkw8).trans HX8.out
      have q0 := block_cell hx9 (i := 0) rfl
      have q1 := block_cell hx9 (i := 1) rfl
      have q2 := block_cell hx9 (i := 2) rfl
      have HRD9 := hid (HRD8.out.any hb9)
      have HT9 := hid (HT8.out.any hb9)
      have H19 := hid (H1.out.any hb9)
      have H29 := hid (H2.out.any hb9)
      have H39 := hid (H3.out.any hb9)
      have HEV := hid hev
      have hl9 := lt_of_block hev
      clear hW9 hb9 hev hx9
      go_wp2_with fail
      refine (pstepf_any _ (thinB b) A c t a W9 HRD9.out HT9.out (thinB_few HF.out)).mono ?_
      rw [thinB_step (tree_buchi HTR.out)]
      rintro e W10 ⟨A2, BG, BB, d1, dG, dB, rfl, hb, h1, h2, h3⟩
      have HB10 := hid (HB9.out.trans (hb.mono HB9.out.size))
      have H110 := hid (H19.out.any hb)
      have H210 := hid (H29.out.any hb)
      have H310 := hid (H39.out.any hb)
      have HEV10 := hid ((hb.block _ hl9).trans HEV.out)
      have HG1 := hid h1
      have HG2 := hid h2
      have HG3 := hid h3
      clear hb h1 h2 h3 q0 q1 q2
      go_upto_region 23 with (fail)
      refine wp_gen fun W11 hW11 => ?_
      have hb11 : Below W10.heap.size W10 W11 := by rw [hW11]; go_grown
      have hev2 : W11.heap[W10.heap.size]? = some (.cells #[.slice BG (stepF b t a).good.length dG, .slice BB (stepF b t a).bad.length dB] 31 (0, 0)) := by rw [hW11]; exact heap_alloc_new W10 _
      have hev1 := (hb11.block _ (lt_of_block HEV10.out)).trans HEV10.out
      have HB11 := hid (HB10.out.trans (hb11.mono HB10.out.size))
      have H111 := hid (H110.out.any hb11)
      have H211 := hid (H210.out.any hb11)
      have H311 := hid (H310.out.any hb11)
      have G111 := hid (HG1.out.any hb11)
      have G211 := hid (HG2.out.any hb11)
      have G311 := hid (HG3.out.any hb11)
      have HEV2 := hid hev2
      have HEV1 := hid hev1
      clear hW11 hb11 hev1 hev2
      go_wp2_with fail
      refine (samet_any A1 A2 c1 d1 (stepF b t a).tree (stepF b t a).tree W11 H111.out G111.out).mono ?_
      rw [decide_eq_true (rfl : (stepF b t a).tree = (stepF b t a).tree)]
      rintro e W12 ⟨rfl, hd⟩
      have hb12 := hd.below W11.heap.size
      have HB12 := hid (HB11.out.trans (hb12.mono HB11.out.size))
      have H212 := hid (H211.out.any hb12)
      have H312 := hid (H311.out.any hb12)
      have G212 := hid (G211.out.any hb12)
      have G312 := hid (G311.out.any hb12)
      have hv1 := (hb12.block _ (lt_of_block HEV1.out)).trans HEV1.out
      have hv2 := (hb12.block _ (lt_of_block HEV2.out)).trans HEV2.out
      have v10 := block_cell hv1 (i := 0) rfl
      have v11 := block_cell hv1 (i := 1) rfl
      have v20 := block_cell hv2 (i := 0) rfl
      have v21 := block_cell hv2 (i := 1) rfl
      clear hd hb12 hv1 hv2
      go_wp2_with fail
      refine (sameev_any AG AB BG BB cG cB dG dB (stepF b t a).good (stepF b t a).bad (stepF b t a).good (stepF b t a).bad W12 H212.out H312.out G212.out G312.out).mono ?_
      rw [decide_eq_true (rfl : (stepF b t a).good = (stepF b t a).good), decide_eq_true (rfl : (stepF b t a).bad = (stepF b t a).bad)]
      rintro e W13 ⟨rfl, hb⟩
      have HB13 := hid (HB12.out.trans (hb.mono HB12.out.size))
      clear hb
      go_wp2_with fail
      exact bodyPost_ret (v := .bool true) (by simp [results, Try.results7, go_sem]) rfl ⟨rfl, HB13.out⟩
end Go.Proofs.Ythhknonaebnooaa
set_option linter.unusedVariables false
set_option linter.unusedSimpArgs false
namespace Go.Proofs.Ythhknonaebnooaa

theorem place_of {t : List Nd} {n : Int} {i : Nat} (hi : i < t.length) (hn : (nd t i).name = n) (hd : ∀ j, j < i → (nd t j).name ≠ n) : placeZ t n = (i : Int) := by
  have e : t.findIdx? (fun x => decide (x.name = n)) = some i := by
    rw [List.findIdx?_eq_some_iff_getElem]
    have hxk : t[i] = nd t i := by simp [nd, List.getD, hi]
    refine ⟨hi, by rw [hxk]; simp [hn], fun j hj => ?_⟩
    have h1 := hd j hj
    have hjl : j < t.length := by omega
    have hxj : t[j] = nd t j := by simp [nd, List.getD, hjl]
    rw [hxj]; simpa using h1
  unfold placeZ
  rw [e]
theorem place_none {t : List Nd} {n : Int} (h : ∀ j, j < t.length → (nd t j).name ≠ n) : placeZ t n = -1 := by
  have e : t.findIdx? (fun x => decide (x.name = n)) = none := by
    rw [List.findIdx?_eq_none_iff]
    intro x hx
    obtain ⟨j, hj, rfl⟩ := List.getElem_of_mem hx
    have := h j hj
    simpa [nd, List.getD, hj] using this
  unfold placeZ
  rw [e]
theorem place_pos {t : List Nd} {n : Int} {i : Nat} (hi : i < t.length) (hn : (nd t i).name = n) : 0 ≤ placeZ t n := by
  unfold placeZ
  cases e : t.findIdx? (fun x => decide (x.name = n)) with
  | some k => show (0 : Int) ≤ (k : Int); omega
  | none =>
    exfalso
    rw [List.findIdx?_eq_none_iff] at e
    have hxk : t[i] = nd t i := by simp [nd, List.getD, hi]
    have := e t[i] (List.getElem_mem hi)
    rw [hxk, hn] at this
    simp at this
theorem sortM_mem {l : List Int} {x : Int} : x ∈ sortM l ↔ x ∈ l := by unfold sortM; exact List.mem_mergeSort
theorem sortM_strict {l : List Int} (h : l.Nodup) : (sortM l).Pairwise (· < ·) := by
  have h1 : (sortM l).Pairwise (fun x y => decide (x ≤ y) = true) := List.pairwise_mergeSort (le := fun x y : Int => decide (x ≤ y)) (fun a b c hab hbc => by simp only [decide_eq_true_eq] at *; omega) (fun a b => by simp only [Bool.or_eq_true, decide_eq_true_eq]; omega) l
  have h2 : (sortM l).Nodup := (List.mergeSort_perm l _).nodup_iff.2 h
  refine (h1.and h2).imp fun {a b} hab => ?_
  have := hab.1
  simp only [decide_eq_true_eq] at this
  have := hab.2
  omega
theorem strict_at {l : List Int} (h : l.Pairwise (· < ·)) {j : Nat} (hj : j < l.length) (h0 : 0 < j) : l.getD (j - 1) 0 < l.getD j 0 := by
  have := List.pairwise_iff_getElem.1 h (j - 1) j (by omega) hj (by omega)
  simpa [List.getD, hj, show j - 1 < l.length by omega] using this
theorem mem_getD {l : List Int} {j : Nat} (hj : j < l.length) : l.getD j 0 ∈ l := by
  have e : l.getD j 0 = l[j] := by simp [List.getD, hj]
  rw [e]; exact List.getElem_mem hj
theorem names_inj {n : Nat} {t : List Nd} (h : allN t.length (nodeB n t) = true) {i k : Nat} (hi : i < t.length) (hk : k < t.length) (e : (nd t i).name = (nd t k).name) : i = k := by
  rcases Nat.lt_trichotomy i k with h1 | h1 | h1
  · exact absurd e (tree_names h hk h1)
  · exact h1
  · exact absurd e.symm (tree_names h hi h1)
theorem filt_nodup {n m : Nat} {t : List Nd} (h : allN t.length (nodeB n t) = true) (p : Nat → Bool) (hp : ∀ i, i < m → p i = true → i < t.length) : (((List.range m).filter p).map fun i => (nd t i).name).Nodup := by
  unfold List.Nodup
  rw [List.pairwise_map]
  have h1 : ((List.range m).filter p).Pairwise (· < ·) := List.Pairwise.filter _ List.pairwise_lt_range
  rw [List.pairwise_iff_getElem] at h1 ⊢
  intro i j hi hj hij e
  have h2 := h1 i j hi hj hij
  have mi := List.mem_filter.1 (List.getElem_mem hi)
  have mj := List.mem_filter.1 (List.getElem_mem hj)
  have := names_inj h (hp _ (List.mem_range.1 mi.1) mi.2) (hp _ (List.mem_range.1 mj.1) mj.2) e
  omega

/-- So many nodes stay among the first i. -/
def cnt (b : Bu) (t : List Nd) (a : Int) (i : Nat) : Nat := (mks (stay b t a) i).length
/-- What TreeNames looks at. -/
structure NamesOk (b : Bu) (t : List Nd) (a : Int) (X : List Nd) (G B : List Int) : Prop where
  old : ∀ i, i < t.length → placeZ X (nd t i).name = if stay b t a i then (cnt b t a i : Int) else -1
  bad : ∀ i, i < t.length → inB B (nd t i).name = !stay b t a i
  new : ∀ k, k < X.length → 0 ≤ placeZ t (nd X k).name ∨ placeZ t (nd X k).name < 0 ∧ cnt b t a t.length ≤ k ∧ inB G (nd X k).name = false ∧ inB B (nd X k).name = false
  good : ∀ j, j < G.length → 0 ≤ placeZ t (G.getD j 0) ∧ 0 ≤ placeZ X (G.getD j 0) ∧ (0 < j → G.getD (j - 1) 0 < G.getD j 0)
  badS : ∀ j, j < B.length → 0 ≤ placeZ t (B.getD j 0) ∧ (0 < j → B.getD (j - 1) 0 < B.getD j 0)
theorem cnt_succ (b : Bu) (t : List Nd) (a : Int) (i : Nat) : cnt b t a (i + 1) = if stay b t a i then cnt b t a i + 1 else cnt b t a i := by
  unfold cnt
  rw [mks_succ]
  split <;> simp
theorem names_ok {b : Bu} {t : List Nd} {a : Int} (h : treeB b t = true) (a0 : 0 ≤ a) (a1 : a < b.letters) : NamesOk b t a (stepF b t a).tree (stepF b t a).good (stepF b t a).bad := by
  obtain ⟨hb, hl, ht⟩ := treeB_all h
  have hX : (stepF b t a).tree = newT b t a := step_tree h a0 a1
  have hXl : (newT b t a).length = (stays b t a).length := newT_len b t a
  have hlast : ∀ i, i < t.length → (nd (lastL b t a) i).name = (nd t i).name := fun i hi => by
    have h1 := (nmL_same (namesZ t) (listL b t a) (skS b t a) (2 * t.length) i).2.2 (.inr (by unfold skS skipL; rw [decide_eq_true hi, Bool.true_or]))
    show (nd (nmL (namesZ t) (listL b t a) (skS b t a) (2 * t.length)).1 _).name = _
    rw [h1, (listL_same b t a _).2, grownP_get b t a (by omega)]
    unfold grownP
    rw [if_pos hi]
  have hG : (stepF b t a).good = sortM (((List.range (2 * t.length)).filter (goodL (listL b t a))).map fun i => (nd t i).name) := by
    unfold stepF
    rw [if_pos ⟨h, a0, a1⟩]
    show sortM _ = sortM _
    congr 1
    refine List.map_congr_left fun i hi => ?_
    obtain ⟨h1, h2⟩ := List.mem_filter.1 hi
    exact hlast i (good_old h (List.mem_range.1 h1) h2).1
  have hB : (stepF b t a).bad = sortM (((List.range t.length).filter (goneL (listL b t a))).map fun i => (nd t i).name) := by
    unfold stepF
    rw [if_pos ⟨h, a0, a1⟩]
  have hGm : ∀ x, x ∈ (stepF b t a).good → ∃ i, i < t.length ∧ stay b t a i = true ∧ (nd t i).name = x := fun x hx => by
    rw [hG, sortM_mem] at hx
    obtain ⟨i, hi, e⟩ := List.mem_map.1 hx
    obtain ⟨h1, h2⟩ := List.mem_filter.1 hi
    have := good_old h (List.mem_range.1 h1) h2
    exact ⟨i, this.1, this.2, e⟩
  have hBm : ∀ x, x ∈ (stepF b t a).bad ↔ ∃ i, i < t.length ∧ stay b t a i = false ∧ (nd t i).name = x := fun x => by
    rw [hB, sortM_mem, List.mem_map]
    constructor
    · rintro ⟨i, hi, e⟩
      obtain ⟨h1, h2⟩ := List.mem_filter.1 hi
      exact ⟨i, List.mem_range.1 h1, by unfold stay; rw [h2]; rfl, e⟩
    · rintro ⟨i, h1, h2, e⟩
      exact ⟨i, List.mem_filter.2 ⟨List.mem_range.2 h1, by unfold stay at h2; simpa using h2⟩, e⟩
  have hplace : ∀ i, i < t.length → stay b t a i = true → placeZ (newT b t a) (nd t i).name = (cnt b t a i : Int) := fun i hi hs => by
    obtain ⟨k1, k2⟩ := mks_at (m := stay b t a) (show i < 2 * t.length by omega) hs
    have hk : cnt b t a i < (stays b t a).length := k1
    have e : (stays b t a).getD (cnt b t a i) 0 = i := k2
    have hnm := (newT_name (a := a) hk).1 (by rw [e]; exact hi)
    rw [e] at hnm
    refine place_of (by rw [hXl]; exact hk) hnm fun j hj => ?_
    rw [← hnm]
    exact newT_diff h hj hk
  have hnone : ∀ k, k < (stays b t a).length → t.length ≤ (stays b t a).getD k 0 → ∀ j, j < t.length → (nd t j).name ≠ (nd (newT b t a) k).name := fun k hk e j hj he => by
    obtain ⟨_, m2⟩ := (newT_name (a := a) hk).2 e
    refine (numL_free (namesZ t) (listL b t a) (skS b t a) ((stays b t a).getD k 0)).no ?_
    show numL (namesZ t) (listL b t a) (skS b t a) ((stays b t a).getD k 0) ∈ namesZ t
    rw [← m2, ← he]
    unfold namesZ
    rw [nd_at hj]
    exact List.mem_map.2 ⟨_, List.getElem_mem hj, rfl⟩
  rw [hX]
  refine ⟨fun i hi => ?_, fun i hi => ?_, fun k hk => ?_, fun j hj => ?_, fun j hj => ?_⟩
  · by_cases hs : stay b t a i = true
    · rw [if_pos hs]; exact hplace i hi hs
    · rw [if_neg hs]
      refine place_none fun k hk he => ?_
      rw [hXl] at hk
      by_cases e : (stays b t a).getD k 0 < t.length
      · rw [(newT_name hk).1 e] at he
        have := names_inj ht e hi he
        have h2 := (stays_at hk).2
        rw [this] at h2
        exact hs h2
      · exact hnone k hk (by omega) i hi he.symm
  · by_cases hs : stay b t a i = true
    · rw [hs]
      refine Bool.eq_false_iff.2 fun hm => ?_
      obtain ⟨j, hj, h1, h2⟩ := (hBm _).1 (inB_iff.1 hm)
      rw [names_inj ht hj hi h2, hs] at h1
      cases h1
    · have hs : stay b t a i = false := by simpa using hs
      rw [hs]
      exact inB_iff.2 ((hBm _).2 ⟨i, hi, hs, rfl⟩)
  · rw [hXl] at hk
    by_cases e : (stays b t a).getD k 0 < t.length
    · exact .inl (place_pos e ((newT_name hk).1 e).symm)
    · have hn := hnone k hk (by omega)
      refine .inr ⟨by rw [place_none hn]; decide, ?_, ?_, ?_⟩
      · rcases Nat.lt_or_ge k (cnt b t a t.length) with hc | hc
        · exfalso
          have h1 : (mks (stay b t a) t.length).getD k 0 < t.length := by
            have hm : (mks (stay b t a) t.length).getD k 0 ∈ mks (stay b t a) t.length := by
              have hc' : k < (mks (stay b t a) t.length).length := hc
              simp only [List.getD, List.getElem?_eq_getElem hc', Option.getD_some]; exact List.getElem_mem hc'
            exact (mks_lt _ hm).1
          have h2 := mks_take (stay b t a) (2 * t.length) (show t.length ≤ 2 * t.length by omega)
          rw [← h2, getD_take _ _ (show k < (mks (stay b t a) t.length).length from hc)] at h1
          exact e h1
        · exact hc
      · refine Bool.eq_false_iff.2 fun hm => ?_
        obtain ⟨j, hj, _, h2⟩ := hGm _ (inB_iff.1 hm)
        exact hn j hj h2
      · refine Bool.eq_false_iff.2 fun hm => ?_
        obtain ⟨j, hj, _, h2⟩ := (hBm _).1 (inB_iff.1 hm)
        exact hn j hj h2
  · obtain ⟨i, hi, hs, hn⟩ := hGm _ (mem_getD hj)
    refine ⟨place_pos hi hn, by rw [← hn, hplace i hi hs]; omega, fun h0 => strict_at ?_ hj h0⟩
    rw [hG]
    exact sortM_strict (filt_nodup ht _ fun i hi hg => (good_old h hi hg).1)
  · obtain ⟨i, hi, _, hn⟩ := (hBm _).1 (mem_getD hj)
    refine ⟨place_pos hi hn, fun h0 => strict_at ?_ hj h0⟩
    rw [hB]
    exact sortM_strict (filt_nodup ht _ fun i hi _ => hi)
end Go.Proofs.Ythhknonaebnooaa
