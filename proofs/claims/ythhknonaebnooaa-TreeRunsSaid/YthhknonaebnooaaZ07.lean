/-
  Walk of the program: valid (nodes).
-/
import Derived.IntWalk
import Derived.Test.YthhknonaebnooaaZ06
set_option linter.unusedVariables false
set_option linter.unusedSimpArgs false
namespace Go.Proofs.Ythhknonaebnooaa
open Go.RowKit
attribute [local go_sem] cell_alloc_old

/-- What holds before is in no earlier node with the same parent. -/
def sibB (t : List Nd) (i k : Nat) : Bool := decide (i = 0) || allN i (fun j => !decide ((nd t j).parent = (nd t i).parent) || !inB (nd t j).set ((nd t i).set.getD k 0))
def stsB (n : Nat) (t : List Nd) (i k : Nat) : Bool := stB n t i k && sibB t i k
theorem sibB_iff {t : List Nd} {i k : Nat} (hi : 0 < i) : sibB t i k = true ↔ ¬ TookT t i (nd t i).parent ((nd t i).set.getD k 0) := by
  unfold sibB
  rw [decide_eq_false (by omega), Bool.false_or, allN_true]
  constructor
  · rintro h ⟨j, hj, h1, h2⟩
    have := h j hj
    rw [h1, inB_iff.2 h2] at this
    simp at this
  · intro h j hj
    by_cases e : (nd t j).parent = (nd t i).parent
    · cases hm : inB (nd t j).set ((nd t i).set.getD k 0)
      · simp
      · exact absurd ⟨j, hj, e, inB_iff.1 hm⟩ h
    · simp [e]
/-- All that is looked at of node i in the first loop. -/
def m1B (n : Nat) (t : List Nd) (i : Nat) : Bool := hdB n t i && allN i (fun k => !decide ((nd t k).name = (nd t i).name)) && allN (nd t i).set.length (stsB n t i)
theorem m1_n1 (n : Nat) (t : List Nd) (i : Nat) : m1B n t i = n1B n t i := by
  rw [Bool.eq_iff_iff]
  unfold m1B n1B
  simp only [Bool.and_eq_true]
  constructor
  · rintro ⟨⟨h1, h2⟩, h3⟩
    refine ⟨⟨h1, allN_of fun k hk => ?_⟩, allN_of fun k hk => sbB_iff.2 ⟨?_, fun hp s hs => ?_⟩⟩
    · have := allN_true.1 h3 k hk
      unfold stsB at this
      rw [Bool.and_eq_true] at this
      exact this.1
    · simpa using allN_true.1 h2 k hk
    · obtain ⟨q, hq, rfl⟩ := List.getElem_of_mem hs
      have := allN_true.1 h3 q hq
      unfold stsB at this
      rw [Bool.and_eq_true] at this
      have hi : 0 < i := by omega
      have h4 := (sibB_iff hi).1 this.2
      intro hm
      refine h4 ⟨k, hk, hp, ?_⟩
      simpa [List.getD, hq] using hm
  · rintro ⟨⟨h1, h2⟩, h3⟩
    refine ⟨⟨h1, allN_of fun k hk => ?_⟩, allN_of fun k hk => ?_⟩
    · simpa using (sbB_iff.1 (allN_true.1 h3 k hk)).1
    · unfold stsB
      rw [Bool.and_eq_true]
      refine ⟨allN_true.1 h2 k hk, ?_⟩
      rcases Nat.eq_zero_or_pos i with h0 | h0
      · unfold sibB; simp [h0]
      · refine (sibB_iff h0).2 ?_
        rintro ⟨j, hj, h4, h5⟩
        refine (sbB_iff.1 (allN_true.1 h3 j hj)).2 h4 _ ?_ h5
        have : (nd t i).set.getD k 0 = (nd t i).set[k] := by simp [List.getD, hk]
        rw [this]; exact List.getElem_mem hk
theorem bad_m1 {n : Nat} {t : List Nd} {i : Nat} (hi : i < t.length) (h : m1B n t i = false) : allN t.length (nodeB n t) = false :=
  allN_false hi (by rw [nodeB_eq, ← m1_n1, h]; rfl)
theorem bad_hd {n : Nat} {t : List Nd} {i : Nat} (hi : i < t.length) (h : ¬ (1 ≤ (nd t i).name ∧ (nd t i).name ≤ 2 * (n : Int) ∧ 0 < (nd t i).set.length ∧ (i = 0 → (nd t i).parent = -1) ∧ (0 < i → 0 ≤ (nd t i).parent ∧ (nd t i).parent < (i : Int)))) : allN t.length (nodeB n t) = false :=
  bad_m1 hi (by
    have : hdB n t i = false := Bool.eq_false_iff.2 fun e => h (hdB_iff.1 e)
    unfold m1B; rw [this]; rfl)
theorem bad_nm {n : Nat} {t : List Nd} {i j : Nat} (hi : i < t.length) (hj : j < i) (h : (nd t j).name = (nd t i).name) : allN t.length (nodeB n t) = false :=
  bad_m1 hi (by
    have : allN i (fun k => !decide ((nd t k).name = (nd t i).name)) = false := allN_false hj (by simp [h])
    unfold m1B; rw [this]; simp)
theorem bad_st {n : Nat} {t : List Nd} {i k : Nat} (hi : i < t.length) (hk : k < (nd t i).set.length) (h : stsB n t i k = false) : allN t.length (nodeB n t) = false :=
  bad_m1 hi (by
    have : allN (nd t i).set.length (stsB n t i) = false := allN_false hk h
    unfold m1B; rw [this]; simp)
theorem stsB_iff {n : Nat} {t : List Nd} {i k : Nat} : stsB n t i k = true ↔ (0 ≤ (nd t i).set.getD k 0 ∧ (nd t i).set.getD k 0 < (n : Int) ∧ (0 < k → (nd t i).set.getD (k - 1) 0 < (nd t i).set.getD k 0) ∧ (0 < i → (nd t i).set.getD k 0 ∈ (nd t (nd t i).parent.toNat).set)) ∧ (0 < i → ¬ TookT t i (nd t i).parent ((nd t i).set.getD k 0)) := by
  unfold stsB
  rw [Bool.and_eq_true, stB_iff]
  refine and_congr Iff.rfl ?_
  rcases Nat.eq_zero_or_pos i with h0 | h0
  · exact ⟨fun _ h => by omega, fun _ => by unfold sibB; simp [h0]⟩
  · rw [sibB_iff h0]; exact ⟨fun h _ => h, fun h => h h0⟩
theorem inc_fresh {l : List Int} {k : Nat} (hk : k < l.length) (h : ∀ j, 0 < j → j ≤ k → l.getD (j - 1) 0 < l.getD j 0) : l.getD k 0 ∉ l.take k := by
  have hx : l[k] = l.getD k 0 := by simp [List.getD, hk]
  have hp : (l.take (k + 1)).Pairwise (· < ·) := inc_nodup fun j hj hjl => by
    have hjk : j < k + 1 := by rw [List.length_take] at hjl; omega
    rw [getD_take _ _ (by omega), getD_take _ _ (by omega)]
    exact h j hj (by omega)
  rw [List.take_succ_eq_append_getElem hk, hx, List.pairwise_append] at hp
  intro hm
  have := hp.2.2 _ hm (l.getD k 0) (by simp)
  omega
/-- All cells are kept. -/
def CK (w w' : World) : Prop := ∀ b o u, w.cell? ⟨b, o, none⟩ = some u → w'.cell? ⟨b, o, none⟩ = some u
theorem CK.refl (w : World) : CK w w := fun _ _ _ h => h
theorem CK.trans {w w' w'' : World} (h : CK w w') (k : CK w' w'') : CK w w'' := fun b o u hu => k b o u (h b o u hu)

set_option maxRecDepth 100000 in
set_option maxHeartbeats 8000000 in
theorem valid_any {D : Dom} (n : Nat) (A : Option Addr) (c : Nat) (t : List Nd) (w : World) (h : RdN w D A c t) (hn : n ≤ 3000) (htl : t.length ≤ 3000) :
    Calls Try.prog 47 #[.int .i64 (n : Int), .slice A t.length c] w fun e w' => e = .returned (.bool (allN t.length (nodeB n t))) ∧ Below w.heap.size w w' := by
  obtain ⟨i0, hti, hz0, hz1, hz2⟩ := info_parts mapb_info
  have hmk := run_make_zrow (P := Try.prog) 98 65 i0 (.map none) 8 Try.underlying98 hti hz0 hz1 hz2 rfl .i64 .i64 t.length (by omega) (by omega)
  have hmm := @run_makeMap Try.prog
  have HT := hid h.old
  clear h
  go_enter Try.func47, Try.ntmps47
  go_upto_region 4 with (fail)
  refine wp_gen fun W hW => ?_
  have hI : VdS w W t.length [(w.heap.size, [])] 0 := by
    have hb1 : Below w.heap.size w W := by rw [hW]; go_grown
    have e1 : W.heap[w.heap.size]? = some (.map #[] 0) := by
      rw [hW]
      exact (Below.heap_alloc _ _ _ (by simp only [World.size_alloc]; omega)).trans ((Below.heap_alloc _ _ _ (by simp)).trans (heap_alloc_new w _))
    have e2 : W.heap[w.heap.size + 1]? = some (zrow (.map none) t.length 65) := by
      rw [hW]
      refine (Below.heap_alloc _ _ _ (by simp)).trans ?_
      have := heap_alloc_new (w.alloc (.map #[] 0)) (zrow (.map none) t.length 65)
      rwa [World.size_alloc] at this
    have e3 : W.heap[w.heap.size + 1 + 1]? = some (zrow (.map none) t.length 65) := by
      rw [hW]
      have := heap_alloc_new ((w.alloc (.map #[] 0)).alloc (zrow (.map none) t.length 65)) (zrow (.map none) t.length 65)
      rwa [World.size_alloc, World.size_alloc] at this
    refine ⟨hb1, ⟨fun j hj => ?_, fun j j' hj hj' hne => ?_⟩, rfl, rfl, ⟨_, e2, by simp, fun j hj => absurd hj (Nat.not_lt_zero _)⟩, ⟨_, e3, by simp, fun j hj => absurd hj (Nat.not_lt_zero _)⟩, fun j hj => ?_⟩
    · obtain rfl : j = 0 := by simpa using hj
      exact ⟨⟨#[], 0, e1, rfl, rfl⟩, List.nodup_nil⟩
    · simp at hj hj'; omega
    · obtain rfl : j = 0 := by simpa using hj
      exact Nat.le_refl _
  have hC : VdC t [(w.heap.size, [])] 0 0 0 0 := ⟨fun z => ⟨fun h => (by cases h), fun ⟨j, hj, _⟩ => absurd hj (Nat.not_lt_zero _)⟩, fun j hj => absurd hj (Nat.not_lt_zero _), fun h => absurd h (Nat.lt_irrefl _), fun j hj => absurd hj (Nat.not_lt_zero _)⟩
  have HI := hid hI
  have HC := hid hC
  clear hW hI hC hmk
  go_wp2_with fail
  go_loopw [23] (fun t' wr => ∃ (i : Nat) (F : List (Nat × List Int)), i ≤ t.length ∧ t' = .int .i64 (i : Int) ∧ VdS w wr t.length F i ∧ VdC t F i i i 0 ∧ SoFar i (m1B n t)) (fun t' _ => t.length - (intOf t').toNat)
  case atStart => exact ⟨0, _, Nat.zero_le _, rfl, HI.out, HC.out, SoFar.zero _⟩
  case round =>
    obtain ⟨i, F, hi, rfl, hS, hC, hso⟩ := hrel
    have HS := hid hS
    have HC := hid hC
    have HSO := hid hso
    have hws := hS.below.size
    have hnl := hS.fam.lt (j := 0) (by rw [hS.len]; omega)
    rw [hS.nmb] at hnl
    clear hS hC hso
    by_cases hlt : i < t.length
    · obtain ⟨g, o, A2, c2, x, rfl, _, hgl, HX, hr, h0', h1', h2'⟩ := HT.out.get hlt
      have h0 := (HS.out.below.cell (p := ⟨g, o + i * 3, none⟩) hgl).trans h0'
      have h1 := (HS.out.below.cell (p := ⟨g, o + i * 3 + 1, none⟩) hgl).trans h1'
      have h2 := (HS.out.below.cell (p := ⟨g, o + i * 3 + 2, none⟩) hgl).trans h2'
      have hii : (i : Int) < t.length := by omega
      have hnd : nd t i = x := HX.out
      have HND := hid hnd
      have HRX := hid hr
      have hxl := hr.len.1
      have hbad := fun h => bad_hd (n := n) hlt h
      rw [hnd] at hbad
      have HBAD := hid hbad
      clear hr hnd hbad h0' h1' h2'
      obtain ⟨W2, hW2⟩ : ∃ W2, W2 = wr := ⟨_, rfl⟩
      rw [← hW2] at HS hws hnl h0 h1 h2 ⊢
      clear hW2
      go_upto_region 7 with (fail)
      refine wp_gen fun W3 hW3 => ?_
      have hb3 : Below W2.heap.size W2 W3 := by rw [hW3]; go_grown
      have y0 : W3.cell? ⟨W2.heap.size, 0, none⟩ = some (.int .i64 x.name) := by rw [hW3]; exact cell_new W2 _ _ _ 0 _ rfl rfl
      have y1 : W3.cell? ⟨W2.heap.size, 1, none⟩ = some (.int .i64 x.parent) := by rw [hW3]; exact cell_new W2 _ _ _ 1 _ rfl rfl
      have y2 : W3.cell? ⟨W2.heap.size, 2, none⟩ = some (.slice A2 x.set.length c2) := by rw [hW3]; exact cell_new W2 _ _ _ 2 _ rfl rfl
      have hs3 : W2.heap.size < W3.heap.size := by rw [hW3]; simp only [World.size_alloc]; omega
      have HB3 := hid hb3
      have HS3 := hid (HS.out.next hb3)
      have HBE := hid (HS3.out.below)
      clear hW3 hb3 h0 h1 h2
      -- the names that are there
      have hlk := (HS3.out.fam.set 0 (by rw [HS3.out.len]; omega)).look x.name
      rw [HS3.out.nmb] at hlk
      by_cases hz : i = 0
      · have hze : ((i : Int) == 0) = true := by simp [hz]
        have hzd : decide ((0 : Int) < (i : Int)) = false := decide_eq_false (by omega)
        have hzn : ¬ 0 < i := by omega
        have HZ := hid hz
        clear hz
        by_cases hp : x.parent = -1
        · have hpe : (x.parent != (-1 : Int)) = false := by simp [hp]
          have HP := hid hp
          clear hp
          obtain ⟨ln, hln⟩ : ∃ ln, ln = x.set.length := ⟨_, rfl⟩
          rw [← hln] at y2 hxl
          have HLN := hid hln
          clear hln
          by_cases n1 : x.name < 1
          · have n1d : decide (x.name < 1) = true := decide_eq_true n1
            have N1 := hid n1
            clear n1
            go_wp2_with fail
            go_ret
            exact ⟨ret_bool (Eq.symm (HBAD.out (fun h => by have := h.1; have := N1.out; omega))), HBE.out⟩
          · have n1d : decide (x.name < 1) = false := decide_eq_false n1
            by_cases n2 : 2 * (n : Int) < x.name
            · have n2d : decide (2 * (n : Int) < x.name) = true := decide_eq_true n2
              have N2 := hid n2
              clear n1 n2
              go_wp2_with fail
              go_ret
              exact ⟨ret_bool (Eq.symm (HBAD.out (fun h => by have := h.2.1; have := N2.out; omega))), HBE.out⟩
            · have n2d : decide (2 * (n : Int) < x.name) = false := decide_eq_false n2
              by_cases n3 : x.name ∈ (F.getD 0 (0, [])).2
              · rw [decide_eq_true n3] at hlk
                have N3 := hid n3
                clear n1 n2 n3
                go_wp2_with fail
                go_ret
                exact ⟨ret_bool (Eq.symm (by obtain ⟨j, hj, he⟩ := (HC.out.nms _).1 N3.out; exact bad_nm hlt hj (by rw [he, HND.out]))), HBE.out⟩
              · rw [decide_eq_false n3] at hlk
                by_cases n4 : ln = 0
                · have n4d : ((ln : Int) == 0) = true := by simp [n4]
                  have N4 := hid n4
                  clear n1 n2 n3 n4
                  go_wp2_with fail
                  go_ret
                  exact ⟨ret_bool (Eq.symm (HBAD.out (fun h => by have := h.2.2.1; have := N4.out; have := HLN.out; omega))), HBE.out⟩
                · have n4d : ((ln : Int) == 0) = false := beq_eq_false_iff_ne.2 (by omega)
                  have HN := hid (show 1 ≤ x.name ∧ x.name ≤ 2 * (n : Int) ∧ 0 < ln ∧ x.name ∉ (F.getD 0 (0, [])).2 from ⟨by omega, by omega, by omega, n3⟩)
                  obtain ⟨w4, hrun4, hs4, hck4, hz4⟩ := HS3.out.put (j := 0) (by rw [HS3.out.len]; omega) x.name
                  rw [HS3.out.nmb] at hrun4
                  obtain ⟨⟨u1, hu1⟩, ⟨u2, hu2⟩, hf1, hf2⟩ := hs4.slot hlt
                  have hsl4 : w.heap.size + 1 < w4.heap.size := World.block_lt_of_cell? w4 _ hu1
                  have y1 := hck4 _ _ _ y1
                  have y2' := hck4 _ _ _ y2
                  have hC4 := HC.out.name (by rw [HS3.out.len]; omega)
                  rw [HND.out] at hC4
                  obtain ⟨F4, hF4⟩ : ∃ F4, F4 = putF F 0 x.name := ⟨_, rfl⟩
                  rw [← hF4] at hC4 hs4
                  have HF4 := hid hF4
                  have HS4 := hid hs4
                  have HC4 := hid hC4
                  have hbl4 : W2.heap.size < w4.heap.size := by omega
                  clear hF4 hs4 hck4 hC4 n1 n2 n3 n4 hu2 hf2 hz4
                  go_upto_region 13 with (fail)
                  refine wp_gen fun w5 hw5 => ?_
                  obtain ⟨d, b1, b2, b3⟩ := HS4.out.bk
                  have hbb : w5.heap[w.heap.size + 1 + 1]? = some (.cells d 65 (0, 0)) := by
                    rw [hw5]
                    exact (Below.heap_alloc _ _ _ (by simpa using lt_of_block b1)).trans ((Below.heap_setCell _ _ _ _ (by show w.heap.size + 1 + 1 ≠ w.heap.size + 1; omega)).trans b1)
                  obtain ⟨v2, hv2⟩ : ∃ v2, d[i]? = some v2 := ⟨_, Array.getElem?_eq_getElem (by omega)⟩
                  have hc5 := block_cell hbb (i := i) hv2
                  have hf5 := block_free (i := i) hbb
                  have hsl5 : w.heap.size + 1 + 1 < w5.heap.size := lt_of_block hbb
                  have HW5 := hid hw5
                  clear hw5 b1 b2 b3 hbb hv2 hu1 hf1
                  go_upto_region 14 with (fail)
                  refine wp_gen fun w6 hw6 => ?_
                  have hs6 := HS4.out.more HW5.out hw6 hlt
                  have hcell6 : ∀ o u, w4.cell? ⟨W2.heap.size, o, none⟩ = some u → w6.cell? ⟨W2.heap.size, o, none⟩ = some u := fun o u h => by
                    rw [← h]
                    refine World.cell?_of_block (w := w4) (a := ⟨W2.heap.size, o, none⟩) ?_
                    have h5 : w5.heap[W2.heap.size]? = w4.heap[W2.heap.size]? := by
                      rw [HW5.out]
                      exact (Below.heap_alloc _ _ _ (by simpa using hbl4)).trans (Below.heap_setCell _ _ _ _ (by show W2.heap.size ≠ w.heap.size + 1; have := HS.out.sk; obtain ⟨c9, a1, _⟩ := this; have := lt_of_block a1; omega))
                    have hl5 : W2.heap.size < w5.heap.size := by rw [HW5.out]; simp; omega
                    refine Eq.trans ?_ h5
                    rw [hw6]
                    exact (Below.heap_alloc _ _ _ (by simpa using hl5)).trans (Below.heap_setCell _ _ _ _ (by show W2.heap.size ≠ w.heap.size + 1 + 1; have := HS.out.bk; obtain ⟨c9, a1, _⟩ := this; have := lt_of_block a1; omega))
                  have y1 := hcell6 _ _ y1
                  have y2 := hcell6 _ _ y2'
                  obtain ⟨F6, hF6⟩ : ∃ F6, F6 = F4 ++ [(w4.heap.size, [])] ++ [(w5.heap.size, [])] := ⟨_, rfl⟩
                  have hC6 := HC4.out.more HS4.out.len w4.heap.size w5.heap.size (fun j hj => by
                    have := HSO.out j hj
                    unfold m1B at this
                    rw [Bool.and_eq_true, Bool.and_eq_true] at this
                    have hh := hdB_iff.1 this.1.1
                    rcases Nat.eq_zero_or_pos j with h0 | h0
                    · have := hh.2.2.2.1 h0; omega
                    · have := hh.2.2.2.2 h0; omega)
                  rw [← hF6] at hs6 hC6
                  have HS6 := hid hs6
                  have HC6 := hid hC6
                  clear hw6 hs6 hC6 hcell6 y0 y2' hc5 hf5 hF6 hrun4 hlk
                  go_wp2_with fail
                  go_loopw [86] (fun t' wr => ∃ (k : Nat) (F' : List (Nat × List Int)), k ≤ ln ∧ t' = .int .i64 (k : Int) ∧ VdS w wr t.length F' (i + 1) ∧ VdC t F' (i + 1) i (i + 1) k ∧ SoFar k (stsB n t i) ∧ CK w6 wr) (fun t' _ => ln - (intOf t').toNat)
                  case atStart => exact ⟨0, _, Nat.zero_le _, rfl, HS6.out, HC6.out, SoFar.zero _, CK.refl _⟩
                  case round =>
                    obtain ⟨k, F', hk, rfl, hS, hC, hso, hck⟩ := hrel
                    have HSR := hid hS
                    have HCR := hid hC
                    have HSOR := hid hso
                    have HCK := hid hck
                    have HBE := hid hS.below
                    have y1 := hck _ _ _ y1
                    have y2 := hck _ _ _ y2
                    have HSET := hid (HRX.out.keep (Keeps.of_below hS.below fun _ h => h))
                    clear hS hC hso hck
                    by_cases hlk : k < ln
                    · obtain ⟨b5, o5, s, rfl, _, hsl, HSV, hcs⟩ := HSET.out.get (show k < x.set.length by rw [← HLN.out]; exact hlk)
                      have hki : (k : Int) < ln := by omega
                      have hst := stsB_iff (n := n) (t := t) (i := i) (k := k)
                      rw [HND.out, HSV.out] at hst
                      have HST := hid hst
                      clear hst
                      by_cases c1 : s < 0
                      · have c1d : decide (s < 0) = true := decide_eq_true c1
                        have C1 := hid c1
                        clear c1
                        go_wp2_with fail
                        go_ret
                        exact ⟨ret_bool (Eq.symm (bad_st hlt (by rw [HND.out, ← HLN.out]; exact hlk) (Bool.eq_false_iff.2 fun e => by have := (HST.out.1 e).1.1; have := C1.out; omega))), HBE.out⟩
                      · have c1d : decide (s < 0) = false := decide_eq_false c1
                        by_cases c2 : (n : Int) ≤ s
                        · have c2d : decide ((n : Int) ≤ s) = true := decide_eq_true c2
                          have C2 := hid c2
                          clear c1 c2
                          go_wp2_with fail
                          go_ret
                          exact ⟨ret_bool (Eq.symm (bad_st hlt (by rw [HND.out, ← HLN.out]; exact hlk) (Bool.eq_false_iff.2 fun e => by have := (HST.out.1 e).1.2.1; have := C2.out; omega))), HBE.out⟩
                        · have c2d : decide ((n : Int) ≤ s) = false := decide_eq_false c2
                          by_cases hk0 : k = 0
                          · have kd : decide ((0 : Int) < (k : Int)) = false := decide_eq_false (by omega)
                            have kn : ¬ 0 < k := by omega
                            have HOK := hid (show 0 ≤ s ∧ s < (n : Int) ∧ (0 < k → x.set.getD (k - 1) 0 < s) from ⟨by omega, by omega, fun h => absurd h kn⟩)
                            have HFR := hid (show s ∉ x.set.take k by rw [hk0]; simp)
                            clear c1 c2 hk0
                            have hbel := HSR.out.below
                            obtain ⟨w8, hrun8, hs8, hck8, hz8⟩ := HSR.out.put (j := 1 + 2 * i) (by rw [HSR.out.len]; omega) s
                            have hcs1 := (HSR.out.cells (j := i) (by omega)).1
                            obtain ⟨bi, hbi⟩ : ∃ bi, (F'.getD (1 + 2 * i) (0, [])).1 = bi := ⟨_, rfl⟩
                            rw [hbi] at hrun8 hcs1
                            obtain ⟨F8, hF8⟩ : ∃ F8, putF F' (1 + 2 * i) s = F8 := ⟨_, rfl⟩
                            rw [hF8] at hs8
                            have y1 := hck8 _ _ _ y1
                            have y2 := hck8 _ _ _ y2
                            have HF8 := hid hF8
                            have HS8 := hid hs8
                            have HCK8 := hid (HCK.out.trans hck8)
                            clear hbi hF8 hs8 hck8 hz8 hbel
                            go_wp2_with fail
                            go_roundw
                            case rel =>
                              have hc := HCR.out.one HSR.out.len (by rw [HND.out, ← HLN.out]; exact hlk) (by rw [HND.out]; exact HP.out)
                              rw [HND.out, HSV.out, HF8.out] at hc
                              exact ⟨k + 1, F8, by omega, by go_num, HS8.out, hc, HSOR.out.succ (HST.out.2 ⟨⟨HOK.out.1, HOK.out.2.1, HOK.out.2.2, fun h => absurd h hzn⟩, fun h => absurd h hzn⟩), HCK8.out⟩
                            case measure => simp [intOf]; omega
                          · have kd : decide ((0 : Int) < (k : Int)) = true := decide_eq_true (by omega)
                            have kn : 0 < k := by omega
                            obtain ⟨k', hk'⟩ : ∃ k', k = k' + 1 := ⟨k - 1, by omega⟩
                            obtain ⟨b6, o6, y, hA6, _, _, HY, hcy⟩ := HSET.out.get (show k' < x.set.length by rw [← HLN.out]; omega)
                            injection hA6 with hA6
                            injection hA6 with e1 e2
                            subst e1 e2
                            have hw1 : IntKind.i64.wrap ((k : Int) - 1) = (k' : Int) := by rw [IntWalk.i64_in _ (by omega)]; omega
                            have hw2 : (k : Int) - 1 = (k' : Int) := by omega
                            have hk2 : (k' : Int) < ln := by omega
                            have hky : x.set.getD (k - 1) 0 = y := by rw [show k - 1 = k' by omega]; exact HY.out
                            have HKY := hid hky
                            by_cases c4 : s ≤ y
                            · have c4d : decide (s ≤ y) = true := decide_eq_true c4
                              have C4 := hid c4
                              clear c1 c2 hk0 hk' hky c4
                              go_wp2_with fail
                              go_ret
                              exact ⟨ret_bool (Eq.symm (bad_st hlt (by rw [HND.out, ← HLN.out]; exact hlk) (Bool.eq_false_iff.2 fun e => by have := (HST.out.1 e).1.2.2.1 kn; rw [HKY.out] at this; have := C4.out; omega))), HBE.out⟩
                            · have c4d : decide (s ≤ y) = false := decide_eq_false c4
                              have HOK := hid (show 0 ≤ s ∧ s < (n : Int) ∧ (0 < k → x.set.getD (k - 1) 0 < s) from ⟨by omega, by omega, fun _ => by rw [hky]; omega⟩)
                              have HFR := hid (show s ∉ x.set.take k by
                                have := inc_fresh (l := x.set) (k := k) (by rw [← HLN.out]; exact hlk) (fun j hj hjk => by
                                  by_cases e : j = k
                                  · rw [e, hky, HSV.out]; omega
                                  · have h1 := HSOR.out j (by omega)
                                    have h2 := (stsB_iff.1 h1).1.2.2.1 hj
                                    rw [HND.out] at h2; exact h2)
                                rw [HSV.out] at this; exact this)
                              clear c1 c2 hk0 hk' hky c4
                              have hbel := HSR.out.below
                              obtain ⟨w8, hrun8, hs8, hck8, hz8⟩ := HSR.out.put (j := 1 + 2 * i) (by rw [HSR.out.len]; omega) s
                              have hcs1 := (HSR.out.cells (j := i) (by omega)).1
                              obtain ⟨bi, hbi⟩ : ∃ bi, (F'.getD (1 + 2 * i) (0, [])).1 = bi := ⟨_, rfl⟩
                              rw [hbi] at hrun8 hcs1
                              obtain ⟨F8, hF8⟩ : ∃ F8, putF F' (1 + 2 * i) s = F8 := ⟨_, rfl⟩
                              rw [hF8] at hs8
                              have y1 := hck8 _ _ _ y1
                              have y2 := hck8 _ _ _ y2
                              have HF8 := hid hF8
                              have HS8 := hid hs8
                              have HCK8 := hid (HCK.out.trans hck8)
                              clear hbi hF8 hs8 hck8 hz8 hbel
                              go_wp2_with fail
                              go_roundw
                              case rel =>
                                have hc := HCR.out.one HSR.out.len (by rw [HND.out, ← HLN.out]; exact hlk) (by rw [HND.out]; exact HP.out)
                                rw [HND.out, HSV.out, HF8.out] at hc
                                exact ⟨k + 1, F8, by omega, by go_num, HS8.out, hc, HSOR.out.succ (HST.out.2 ⟨⟨HOK.out.1, HOK.out.2.1, HOK.out.2.2, fun h => absurd h hzn⟩, fun h => absurd h hzn⟩), HCK8.out⟩
                              case measure => simp [intOf]; omega
                    · have hke : k = ln := by omega
                      have HKE := hid hke
                      clear hke
                      go_wp2_with fail
                      go_roundw
                      case rel =>
                        have hkl : k = (nd t i).set.length := by rw [HND.out, ← HLN.out, HKE.out]
                        have hc := HCR.out
                        have hso := HSOR.out
                        rw [hkl] at hc hso
                        refine ⟨i + 1, F', by omega, by go_num, HSR.out, hc.done, HSO.out.succ ?_⟩
                        unfold m1B
                        rw [Bool.and_eq_true, Bool.and_eq_true]
                        refine ⟨⟨hdB_iff.2 ?_, allN_of fun j hj => ?_⟩, hso.all (Nat.le_refl _)⟩
                        · rw [HND.out, ← HLN.out]
                          exact ⟨HN.out.1, HN.out.2.1, HN.out.2.2.1, fun _ => HP.out, fun h => absurd h hzn⟩
                        · have := HN.out.2.2.2
                          rw [HC.out.nms] at this
                          rw [HND.out]
                          simp only [Bool.not_eq_true', decide_eq_false_iff_not]
                          exact fun e => this ⟨j, hj, e⟩
                      case measure => simp [intOf]; omega
        · have hpe : (x.parent != (-1 : Int)) = true := by simp [hp]
          have HP := hid hp
          clear hp
          go_wp2_with fail
          go_ret
          exact ⟨ret_bool (HBAD.out (fun h => HP.out (h.2.2.2.1 HZ.out))).symm, HBE.out⟩
      · have hze : ((i : Int) == 0) = false := beq_eq_false_iff_ne.2 (by omega)
        have hzd : decide ((0 : Int) < (i : Int)) = true := decide_eq_true (by omega)
        have hzn : 0 < i := by omega
        have HZ := hid hz
        clear hz
        by_cases hp1 : x.parent < 0
        · have hpe : decide (x.parent < 0) = true := decide_eq_true hp1
          have HP := hid hp1
          clear hp1
          go_wp2_with fail
          go_ret
          exact ⟨ret_bool (HBAD.out (fun h => by have := (h.2.2.2.2 hzn).1; have := HP.out; omega)).symm, HBE.out⟩
        · have hpe : decide (x.parent < 0) = false := decide_eq_false hp1
          by_cases hp2 : (i : Int) ≤ x.parent
          · have hpf : decide ((i : Int) ≤ x.parent) = true := decide_eq_true hp2
            have HP := hid hp2
            clear hp1 hp2
            go_wp2_with fail
            go_ret
            exact ⟨ret_bool (HBAD.out (fun h => by have := (h.2.2.2.2 hzn).2; have := HP.out; omega)).symm, HBE.out⟩
          · have hpf : decide ((i : Int) ≤ x.parent) = false := decide_eq_false hp2
            obtain ⟨pn, hpn⟩ : ∃ pn : Nat, x.parent = (pn : Int) := ⟨x.parent.toNat, by omega⟩
            have hpi : pn < i := by omega
            have HPN := hid hpn
            clear hp1 hp2
            rw [hpn] at y1 hpe hpf
            clear hpn
            obtain ⟨ln, hln⟩ : ∃ ln, ln = x.set.length := ⟨_, rfl⟩
            rw [← hln] at y2 hxl
            have HLN := hid hln
            clear hln
            by_cases n1 : x.name < 1
            · have n1d : decide (x.name < 1) = true := decide_eq_true n1
              have N1 := hid n1
              clear n1
              go_wp2_with fail
              go_ret
              exact ⟨ret_bool (Eq.symm (HBAD.out (fun h => by have := h.1; have := N1.out; omega))), HBE.out⟩
            · have n1d : decide (x.name < 1) = false := decide_eq_false n1
              by_cases n2 : 2 * (n : Int) < x.name
              · have n2d : decide (2 * (n : Int) < x.name) = true := decide_eq_true n2
                have N2 := hid n2
                clear n1 n2
                go_wp2_with fail
                go_ret
                exact ⟨ret_bool (Eq.symm (HBAD.out (fun h => by have := h.2.1; have := N2.out; omega))), HBE.out⟩
              · have n2d : decide (2 * (n : Int) < x.name) = false := decide_eq_false n2
                by_cases n3 : x.name ∈ (F.getD 0 (0, [])).2
                · rw [decide_eq_true n3] at hlk
                  have N3 := hid n3
                  clear n1 n2 n3
                  go_wp2_with fail
                  go_ret
                  exact ⟨ret_bool (Eq.symm (by obtain ⟨j, hj, he⟩ := (HC.out.nms _).1 N3.out; exact bad_nm hlt hj (by rw [he, HND.out]))), HBE.out⟩
                · rw [decide_eq_false n3] at hlk
                  by_cases n4 : ln = 0
                  · have n4d : ((ln : Int) == 0) = true := by simp [n4]
                    have N4 := hid n4
                    clear n1 n2 n3 n4
                    go_wp2_with fail
                    go_ret
                    exact ⟨ret_bool (Eq.symm (HBAD.out (fun h => by have := h.2.2.1; have := N4.out; have := HLN.out; omega))), HBE.out⟩
                  · have n4d : ((ln : Int) == 0) = false := beq_eq_false_iff_ne.2 (by omega)
                    have HN := hid (show 1 ≤ x.name ∧ x.name ≤ 2 * (n : Int) ∧ 0 < ln ∧ x.name ∉ (F.getD 0 (0, [])).2 from ⟨by omega, by omega, by omega, n3⟩)
                    obtain ⟨w4, hrun4, hs4, hck4, hz4⟩ := HS3.out.put (j := 0) (by rw [HS3.out.len]; omega) x.name
                    rw [HS3.out.nmb] at hrun4
                    obtain ⟨⟨u1, hu1⟩, ⟨u2, hu2⟩, hf1, hf2⟩ := hs4.slot hlt
                    have hsl4 : w.heap.size + 1 < w4.heap.size := World.block_lt_of_cell? w4 _ hu1
                    have y1 := hck4 _ _ _ y1
                    have y2' := hck4 _ _ _ y2
                    have hC4 := HC.out.name (by rw [HS3.out.len]; omega)
                    rw [HND.out] at hC4
                    obtain ⟨F4, hF4⟩ : ∃ F4, F4 = putF F 0 x.name := ⟨_, rfl⟩
                    rw [← hF4] at hC4 hs4
                    have HF4 := hid hF4
                    have HS4 := hid hs4
                    have HC4 := hid hC4
                    have hbl4 : W2.heap.size < w4.heap.size := by omega
                    clear hF4 hs4 hck4 hC4 n1 n2 n3 n4 hu2 hf2 hz4
                    go_upto_region 13 with (fail)
                    refine wp_gen fun w5 hw5 => ?_
                    obtain ⟨d, b1, b2, b3⟩ := HS4.out.bk
                    have hbb : w5.heap[w.heap.size + 1 + 1]? = some (.cells d 65 (0, 0)) := by
                      rw [hw5]
                      exact (Below.heap_alloc _ _ _ (by simpa using lt_of_block b1)).trans ((Below.heap_setCell _ _ _ _ (by show w.heap.size + 1 + 1 ≠ w.heap.size + 1; omega)).trans b1)
                    obtain ⟨v2, hv2⟩ : ∃ v2, d[i]? = some v2 := ⟨_, Array.getElem?_eq_getElem (by omega)⟩
                    have hc5 := block_cell hbb (i := i) hv2
                    have hf5 := block_free (i := i) hbb
                    have hsl5 : w.heap.size + 1 + 1 < w5.heap.size := lt_of_block hbb
                    have HW5 := hid hw5
                    clear hw5 b1 b2 b3 hbb hv2 hu1 hf1
                    go_upto_region 14 with (fail)
                    refine wp_gen fun w6 hw6 => ?_
                    have hs6 := HS4.out.more HW5.out hw6 hlt
                    have hcell6 : ∀ o u, w4.cell? ⟨W2.heap.size, o, none⟩ = some u → w6.cell? ⟨W2.heap.size, o, none⟩ = some u := fun o u h => by
                      rw [← h]
                      refine World.cell?_of_block (w := w4) (a := ⟨W2.heap.size, o, none⟩) ?_
                      have h5 : w5.heap[W2.heap.size]? = w4.heap[W2.heap.size]? := by
                        rw [HW5.out]
                        exact (Below.heap_alloc _ _ _ (by simpa using hbl4)).trans (Below.heap_setCell _ _ _ _ (by show W2.heap.size ≠ w.heap.size + 1; have := HS.out.sk; obtain ⟨c9, a1, _⟩ := this; have := lt_of_block a1; omega))
                      have hl5 : W2.heap.size < w5.heap.size := by rw [HW5.out]; simp; omega
                      refine Eq.trans ?_ h5
                      rw [hw6]
                      exact (Below.heap_alloc _ _ _ (by simpa using hl5)).trans (Below.heap_setCell _ _ _ _ (by show W2.heap.size ≠ w.heap.size + 1 + 1; have := HS.out.bk; obtain ⟨c9, a1, _⟩ := this; have := lt_of_block a1; omega))
                    have y1 := hcell6 _ _ y1
                    have y2 := hcell6 _ _ y2'
                    obtain ⟨F6, hF6⟩ : ∃ F6, F6 = F4 ++ [(w4.heap.size, [])] ++ [(w5.heap.size, [])] := ⟨_, rfl⟩
                    have hC6 := HC4.out.more HS4.out.len w4.heap.size w5.heap.size (fun j hj => by
                      have := HSO.out j hj
                      unfold m1B at this
                      rw [Bool.and_eq_true, Bool.and_eq_true] at this
                      have hh := hdB_iff.1 this.1.1
                      rcases Nat.eq_zero_or_pos j with h0 | h0
                      · have := hh.2.2.2.1 h0; omega
                      · have := hh.2.2.2.2 h0; omega)
                    rw [← hF6] at hs6 hC6
                    have HS6 := hid hs6
                    have HC6 := hid hC6
                    clear hw6 hs6 hC6 hcell6 y0 y2' hc5 hf5 hF6 hrun4 hlk
                    go_wp2_with fail
                    go_loopw [86] (fun t' wr => ∃ (k : Nat) (F' : List (Nat × List Int)), k ≤ ln ∧ t' = .int .i64 (k : Int) ∧ VdS w wr t.length F' (i + 1) ∧ VdC t F' (i + 1) i (i + 1) k ∧ SoFar k (stsB n t i) ∧ CK w6 wr) (fun t' _ => ln - (intOf t').toNat)
                    case atStart => exact ⟨0, _, Nat.zero_le _, rfl, HS6.out, HC6.out, SoFar.zero _, CK.refl _⟩
                    case round =>
                      obtain ⟨k, F', hk, rfl, hS, hC, hso, hck⟩ := hrel
                      have HSR := hid hS
                      have HCR := hid hC
                      have HSOR := hid hso
                      have HCK := hid hck
                      have HBE := hid hS.below
                      have y1 := hck _ _ _ y1
                      have y2 := hck _ _ _ y2
                      have HSET := hid (HRX.out.keep (Keeps.of_below hS.below fun _ h => h))
                      clear hS hC hso hck
                      by_cases hlk : k < ln
                      · obtain ⟨b5, o5, s, rfl, _, hsl, HSV, hcs⟩ := HSET.out.get (show k < x.set.length by rw [← HLN.out]; exact hlk)
                        have hki : (k : Int) < ln := by omega
                        have hst := stsB_iff (n := n) (t := t) (i := i) (k := k)
                        rw [HND.out, HSV.out] at hst
                        have HST := hid hst
                        clear hst
                        by_cases c1 : s < 0
                        · have c1d : decide (s < 0) = true := decide_eq_true c1
                          have C1 := hid c1
                          clear c1
                          go_wp2_with fail
                          go_ret
                          exact ⟨ret_bool (Eq.symm (bad_st hlt (by rw [HND.out, ← HLN.out]; exact hlk) (Bool.eq_false_iff.2 fun e => by have := (HST.out.1 e).1.1; have := C1.out; omega))), HBE.out⟩
                        · have c1d : decide (s < 0) = false := decide_eq_false c1
                          by_cases c2 : (n : Int) ≤ s
                          · have c2d : decide ((n : Int) ≤ s) = true := decide_eq_true c2
                            have C2 := hid c2
                            clear c1 c2
                            go_wp2_with fail
                            go_ret
                            exact ⟨ret_bool (Eq.symm (bad_st hlt (by rw [HND.out, ← HLN.out]; exact hlk) (Bool.eq_false_iff.2 fun e => by have := (HST.out.1 e).1.2.1; have := C2.out; omega))), HBE.out⟩
                          · have c2d : decide ((n : Int) ≤ s) = false := decide_eq_false c2
                            by_cases hk0 : k = 0
                            · have kd : decide ((0 : Int) < (k : Int)) = false := decide_eq_false (by omega)
                              have kn : ¬ 0 < k := by omega
                              have HOK := hid (show 0 ≤ s ∧ s < (n : Int) ∧ (0 < k → x.set.getD (k - 1) 0 < s) from ⟨by omega, by omega, fun h => absurd h kn⟩)
                              have HFR := hid (show s ∉ x.set.take k by rw [hk0]; simp)
                              clear c1 c2 hk0
                              have hbel := HSR.out.below
                              obtain ⟨w8, hrun8, hs8, hck8, hz8⟩ := HSR.out.put (j := 1 + 2 * i) (by rw [HSR.out.len]; omega) s
                              have hcs1 := (HSR.out.cells (j := i) (by omega)).1
                              obtain ⟨bi, hbi⟩ : ∃ bi, (F'.getD (1 + 2 * i) (0, [])).1 = bi := ⟨_, rfl⟩
                              rw [hbi] at hrun8 hcs1
                              obtain ⟨F8, hF8⟩ : ∃ F8, putF F' (1 + 2 * i) s = F8 := ⟨_, rfl⟩
                              rw [hF8] at hs8
                              have y1 := hck8 _ _ _ y1
                              have y2 := hck8 _ _ _ y2
                              have HF8 := hid hF8
                              have HS8 := hid hs8
                              have HCK8 := hid (HCK.out.trans hck8)
                              obtain ⟨hca, hcb⟩ := hs8.cells (j := pn) (by omega)
                              have hlen8 := hs8.len
                              have hla := (hs8.fam.set (1 + 2 * pn) (by omega)).look s
                              have hlb := (hs8.fam.set (2 + 2 * pn) (by omega)).look s
                              have hq1 : s ∈ (F8.getD (1 + 2 * pn) (0, [])).2 ↔ s ∈ (nd t pn).set := by
                                rw [← hF8, putF_mem F' (by rw [HSR.out.len]; omega), HCR.out.lo pn hpi]
                                exact ⟨fun h => h.elim id (fun h => absurd h.1 (by omega)), .inl⟩
                              have hq2 : s ∈ (F8.getD (2 + 2 * pn) (0, [])).2 ↔ TookT t i x.parent s := by
                                rw [← hF8, putF_mem F' (by rw [HSR.out.len]; omega), HCR.out.bel pn (by omega), HND.out, HPN.out]
                                exact ⟨fun h => h.elim (fun h => h.elim id (fun h => absurd h.2 HFR.out)) (fun h => absurd h.1 (by omega)), fun h => .inl (.inl h)⟩
                              obtain ⟨qa, hqa⟩ : ∃ qa, (F8.getD (1 + 2 * pn) (0, [])).1 = qa := ⟨_, rfl⟩
                              obtain ⟨qb, hqb⟩ : ∃ qb, (F8.getD (2 + 2 * pn) (0, [])).1 = qb := ⟨_, rfl⟩
                              rw [hqa] at hca hla
                              rw [hqb] at hcb hlb
                              have hpt : (pn : Int) < t.length := by omega
                              have HQ1 := hid hq1
                              have HQ2 := hid hq2
                              have hpar : x.parent.toNat = pn := by rw [HPN.out]; exact Int.toNat_natCast pn
                              have HPAR := hid hpar
                              by_cases d1 : s ∈ (nd t pn).set
                              · rw [decide_eq_true (hq1.2 d1)] at hla
                                by_cases d2 : TookT t i x.parent s
                                · rw [decide_eq_true (hq2.2 d2)] at hlb
                                  have D2 := hid d2
                                  clear hbi hF8 hs8 hck8 hz8 d1 d2 hq1 hq2 hpar hlen8 hqa hqb hbel
                                  go_wp2_with fail
                                  go_ret
                                  exact ⟨ret_bool (Eq.symm (bad_st hlt (by rw [HND.out, ← HLN.out]; exact hlk) (Bool.eq_false_iff.2 fun e => (HST.out.1 e).2 hzn D2.out))), HS8.out.below⟩
                                · rw [decide_eq_false (fun h => d2 (hq2.1 h))] at hlb
                                  obtain ⟨w9, hrun9, hs9, hck9, hz9⟩ := hs8.put (j := 2 + 2 * pn) (by omega) s
                                  rw [hqb] at hrun9
                                  have D1 := hid d1
                                  have D2 := hid d2
                                  have HS9 := hid hs9
                                  have HCK9 := hid (HCK8.out.trans hck9)
                                  clear hbi hF8 hs8 hck8 hz8 d1 d2 hq1 hq2 hpar hlen8 hqa hqb hbel hs9 hck9 hz9
                                  go_wp2_with fail
                                  go_roundw
                                  case rel =>
                                    have hc := HCR.out.two HSR.out.len (by rw [HND.out, ← HLN.out]; exact hlk) (p := pn) (by rw [HND.out]; exact HPN.out) hpi
                                    rw [HND.out, HSV.out, HF8.out] at hc
                                    exact ⟨k + 1, _, by omega, by go_num, HS9.out, hc, HSOR.out.succ (HST.out.2 ⟨⟨HOK.out.1, HOK.out.2.1, HOK.out.2.2, fun _ => by rw [HPAR.out]; exact D1.out⟩, fun _ => D2.out⟩), HCK9.out⟩
                                  case measure => simp [intOf]; omega
                              · rw [decide_eq_false (fun h => d1 (hq1.1 h))] at hla
                                have D1 := hid d1
                                clear hbi hF8 hs8 hck8 hz8 d1 hq1 hq2 hpar hlen8 hqa hqb hbel
                                go_wp2_with fail
                                go_ret
                                exact ⟨ret_bool (Eq.symm (bad_st hlt (by rw [HND.out, ← HLN.out]; exact hlk) (Bool.eq_false_iff.2 fun e => D1.out (by have := (HST.out.1 e).1.2.2.2 hzn; rw [HPAR.out] at this; exact this)))), HS8.out.below⟩
                            · have kd : decide ((0 : Int) < (k : Int)) = true := decide_eq_true (by omega)
                              have kn : 0 < k := by omega
                              obtain ⟨k', hk'⟩ : ∃ k', k = k' + 1 := ⟨k - 1, by omega⟩
                              obtain ⟨b6, o6, y, hA6, _, _, HY, hcy⟩ := HSET.out.get (show k' < x.set.length by rw [← HLN.out]; omega)
                              injection hA6 with hA6
                              injection hA6 with e1 e2
                              subst e1 e2
                              have hw1 : IntKind.i64.wrap ((k : Int) - 1) = (k' : Int) := by rw [IntWalk.i64_in _ (by omega)]; omega
                              have hw2 : (k : Int) - 1 = (k' : Int) := by omega
                              have hk2 : (k' : Int) < ln := by omega
                              have hky : x.set.getD (k - 1) 0 = y := by rw [show k - 1 = k' by omega]; exact HY.out
                              have HKY := hid hky
                              by_cases c4 : s ≤ y
                              · have c4d : decide (s ≤ y) = true := decide_eq_true c4
                                have C4 := hid c4
                                clear c1 c2 hk0 hk' hky c4
                                go_wp2_with fail
                                go_ret
                                exact ⟨ret_bool (Eq.symm (bad_st hlt (by rw [HND.out, ← HLN.out]; exact hlk) (Bool.eq_false_iff.2 fun e => by have := (HST.out.1 e).1.2.2.1 kn; rw [HKY.out] at this; have := C4.out; omega))), HBE.out⟩
                              · have c4d : decide (s ≤ y) = false := decide_eq_false c4
                                have HOK := hid (show 0 ≤ s ∧ s < (n : Int) ∧ (0 < k → x.set.getD (k - 1) 0 < s) from ⟨by omega, by omega, fun _ => by rw [hky]; omega⟩)
                                have HFR := hid (show s ∉ x.set.take k by
                                  have := inc_fresh (l := x.set) (k := k) (by rw [← HLN.out]; exact hlk) (fun j hj hjk => by
                                    by_cases e : j = k
                                    · rw [e, hky, HSV.out]; omega
                                    · have h1 := HSOR.out j (by omega)
                                      have h2 := (stsB_iff.1 h1).1.2.2.1 hj
                                      rw [HND.out] at h2; exact h2)
                                  rw [HSV.out] at this; exact this)
                                clear c1 c2 hk0 hk' hky c4
                                have hbel := HSR.out.below
                                obtain ⟨w8, hrun8, hs8, hck8, hz8⟩ := HSR.out.put (j := 1 + 2 * i) (by rw [HSR.out.len]; omega) s
                                have hcs1 := (HSR.out.cells (j := i) (by omega)).1
                                obtain ⟨bi, hbi⟩ : ∃ bi, (F'.getD (1 + 2 * i) (0, [])).1 = bi := ⟨_, rfl⟩
                                rw [hbi] at hrun8 hcs1
                                obtain ⟨F8, hF8⟩ : ∃ F8, putF F' (1 + 2 * i) s = F8 := ⟨_, rfl⟩
                                rw [hF8] at hs8
                                have y1 := hck8 _ _ _ y1
                                have y2 := hck8 _ _ _ y2
                                have HF8 := hid hF8
                                have HS8 := hid hs8
                                have HCK8 := hid (HCK.out.trans hck8)
                                obtain ⟨hca, hcb⟩ := hs8.cells (j := pn) (by omega)
                                have hlen8 := hs8.len
                                have hla := (hs8.fam.set (1 + 2 * pn) (by omega)).look s
                                have hlb := (hs8.fam.set (2 + 2 * pn) (by omega)).look s
                                have hq1 : s ∈ (F8.getD (1 + 2 * pn) (0, [])).2 ↔ s ∈ (nd t pn).set := by
                                  rw [← hF8, putF_mem F' (by rw [HSR.out.len]; omega), HCR.out.lo pn hpi]
                                  exact ⟨fun h => h.elim id (fun h => absurd h.1 (by omega)), .inl⟩
                                have hq2 : s ∈ (F8.getD (2 + 2 * pn) (0, [])).2 ↔ TookT t i x.parent s := by
                                  rw [← hF8, putF_mem F' (by rw [HSR.out.len]; omega), HCR.out.bel pn (by omega), HND.out, HPN.out]
                                  exact ⟨fun h => h.elim (fun h => h.elim id (fun h => absurd h.2 HFR.out)) (fun h => absurd h.1 (by omega)), fun h => .inl (.inl h)⟩
                                obtain ⟨qa, hqa⟩ : ∃ qa, (F8.getD (1 + 2 * pn) (0, [])).1 = qa := ⟨_, rfl⟩
                                obtain ⟨qb, hqb⟩ : ∃ qb, (F8.getD (2 + 2 * pn) (0, [])).1 = qb := ⟨_, rfl⟩
                                rw [hqa] at hca hla
                                rw [hqb] at hcb hlb
                                have hpt : (pn : Int) < t.length := by omega
                                have HQ1 := hid hq1
                                have HQ2 := hid hq2
                                have hpar : x.parent.toNat = pn := by rw [HPN.out]; exact Int.toNat_natCast pn
                                have HPAR := hid hpar
                                by_cases d1 : s ∈ (nd t pn).set
                                · rw [decide_eq_true (hq1.2 d1)] at hla
                                  by_cases d2 : TookT t i x.parent s
                                  · rw [decide_eq_true (hq2.2 d2)] at hlb
                                    have D2 := hid d2
                                    clear hbi hF8 hs8 hck8 hz8 d1 d2 hq1 hq2 hpar hlen8 hqa hqb hbel
                                    go_wp2_with fail
                                    go_ret
                                    exact ⟨ret_bool (Eq.symm (bad_st hlt (by rw [HND.out, ← HLN.out]; exact hlk) (Bool.eq_false_iff.2 fun e => (HST.out.1 e).2 hzn D2.out))), HS8.out.below⟩
                                  · rw [decide_eq_false (fun h => d2 (hq2.1 h))] at hlb
                                    obtain ⟨w9, hrun9, hs9, hck9, hz9⟩ := hs8.put (j := 2 + 2 * pn) (by omega) s
                                    rw [hqb] at hrun9
                                    have D1 := hid d1
                                    have D2 := hid d2
                                    have HS9 := hid hs9
                                    have HCK9 := hid (HCK8.out.trans hck9)
                                    clear hbi hF8 hs8 hck8 hz8 d1 d2 hq1 hq2 hpar hlen8 hqa hqb hbel hs9 hck9 hz9
                                    go_wp2_with fail
                                    go_roundw
                                    case rel =>
                                      have hc := HCR.out.two HSR.out.len (by rw [HND.out, ← HLN.out]; exact hlk) (p := pn) (by rw [HND.out]; exact HPN.out) hpi
                                      rw [HND.out, HSV.out, HF8.out] at hc
                                      exact ⟨k + 1, _, by omega, by go_num, HS9.out, hc, HSOR.out.succ (HST.out.2 ⟨⟨HOK.out.1, HOK.out.2.1, HOK.out.2.2, fun _ => by rw [HPAR.out]; exact D1.out⟩, fun _ => D2.out⟩), HCK9.out⟩
                                    case measure => simp [intOf]; omega
                                · rw [decide_eq_false (fun h => d1 (hq1.1 h))] at hla
                                  have D1 := hid d1
                                  clear hbi hF8 hs8 hck8 hz8 d1 hq1 hq2 hpar hlen8 hqa hqb hbel
                                  go_wp2_with fail
                                  go_ret
                                  exact ⟨ret_bool (Eq.symm (bad_st hlt (by rw [HND.out, ← HLN.out]; exact hlk) (Bool.eq_false_iff.2 fun e => D1.out (by have := (HST.out.1 e).1.2.2.2 hzn; rw [HPAR.out] at this; exact this)))), HS8.out.below⟩
                      · have hke : k = ln := by omega
                        have HKE := hid hke
                        clear hke
                        go_wp2_with fail
                        go_roundw
                        case rel =>
                          have hkl : k = (nd t i).set.length := by rw [HND.out, ← HLN.out, HKE.out]
                          have hc := HCR.out
                          have hso := HSOR.out
                          rw [hkl] at hc hso
                          refine ⟨i + 1, F', by omega, by go_num, HSR.out, hc.done, HSO.out.succ ?_⟩
                          unfold m1B
                          rw [Bool.and_eq_true, Bool.and_eq_true]
                          refine ⟨⟨hdB_iff.2 ?_, allN_of fun j hj => ?_⟩, hso.all (Nat.le_refl _)⟩
                          · rw [HND.out, ← HLN.out]
                            exact ⟨HN.out.1, HN.out.2.1, HN.out.2.2.1, fun h => absurd h (by omega), fun _ => ⟨by rw [HPN.out]; omega, by rw [HPN.out]; omega⟩⟩
                          · have := HN.out.2.2.2
                            rw [HC.out.nms] at this
                            rw [HND.out]
                            simp only [Bool.not_eq_true', decide_eq_false_iff_not]
                            exact fun e => this ⟨j, hj, e⟩
                        case measure => simp [intOf]; omega
    · obtain rfl : i = t.length := by omega
      have hm1 : ∀ j, j < t.length → n1B n t j = true := fun j hj => by rw [← m1_n1]; exact HSO.out j hj
      have HM1 := hid hm1
      clear hm1
      go_wp2_with fail
      go_loopw [146] (fun t' wr => ∃ k : Nat, k ≤ t.length ∧ t' = .int .i64 (k : Int) ∧ VdS w wr t.length F t.length ∧ SoFar k (n2B t)) (fun t' _ => t.length - (intOf t').toNat)
      case atStart => exact ⟨0, Nat.zero_le _, rfl, HS.out, SoFar.zero _⟩
      case round =>
        obtain ⟨k, hk, rfl, hS, hso⟩ := hrel
        have HS2 := hid hS
        have HSO2 := hid hso
        have hws2 := hS.below.size
        clear hS hso
        by_cases hlk : k < t.length
        · obtain ⟨g, o, A2, c2, x, rfl, _, hgl, HX, hr, h0', h1', h2'⟩ := HT.out.get hlk
          have h0 := (HS2.out.below.cell (p := ⟨g, o + k * 3, none⟩) hgl).trans h0'
          have h1 := (HS2.out.below.cell (p := ⟨g, o + k * 3 + 1, none⟩) hgl).trans h1'
          have h2 := (HS2.out.below.cell (p := ⟨g, o + k * 3 + 2, none⟩) hgl).trans h2'
          have hki : (k : Int) < t.length := by omega
          have hnd : nd t k = x := HX.out
          have HND := hid hnd
          have hxl := hr.len.1
          clear hr hnd h0' h1' h2'
          obtain ⟨W2, hW2⟩ : ∃ W2, W2 = wr := ⟨_, rfl⟩
          rw [← hW2] at HS2 hws2 h0 h1 h2 ⊢
          clear hW2
          go_upto_region 29 with (fail)
          refine wp_gen fun W3 hW3 => ?_
          have hb3 : Below W2.heap.size W2 W3 := by rw [hW3]; go_grown
          have y2 : W3.cell? ⟨W2.heap.size, 2, none⟩ = some (.slice A2 x.set.length c2) := by rw [hW3]; exact cell_new W2 _ _ _ 2 _ rfl rfl
          have HS3 := hid (HS2.out.next hb3)
          have hcb := (HS3.out.cells hlk).2
          obtain ⟨qb, hqb⟩ : ∃ qb, (F.getD (2 + 2 * k) (0, [])).1 = qb := ⟨_, rfl⟩
          have hms := HS3.out.fam.set (2 + 2 * k) (by rw [HS3.out.len]; omega)
          rw [hqb] at hcb hms
          obtain ⟨kl, hkl⟩ : ∃ kl, kl = (unionZ t (k : Int)).length := ⟨_, rfl⟩
          have hlen : (F.getD (2 + 2 * k) (0, [])).2.length = kl := by
            rw [hkl]
            refine List.Perm.length_eq (perm_of hms.nd (by have := union_nodup HM1.out (k : Int) (Nat.le_refl t.length); rwa [List.take_length] at this) fun z => ?_)
            rw [HC.out.bel k hlk z]
            have h3 := union_mem t (k : Int) z (Nat.le_refl t.length)
            rw [List.take_length] at h3
            rw [h3]
            exact ⟨fun h => h.elim id (fun h => by have := h.2; simp at this), .inl⟩
          have hlr : ∀ m ty, (Builtin.len_ #[65] ty #[.map (some qb)]).run Try.prog (W3.drewN m) = .ok (.int .i64 (kl : Int)) (W3.drewN m) := fun m ty => by
            have := (hms.of_block (w' := W3.drewN m) rfl).len_run ty
            rw [hlen] at this; exact this
          have hlr1 := hlr 1
          rw [show W3.drewN 1 = W3.drew from rfl] at hlr1
          obtain ⟨ln, hln⟩ : ∃ ln, ln = x.set.length := ⟨_, rfl⟩
          rw [← hln] at y2 hxl
          have HLN := hid hln
          have HKL := hid hkl
          have hule := union_le HM1.out k
          rw [HND.out, ← hln, ← hkl] at hule
          clear hW3 hb3 h0 h1 h2 hms hqb hlen hln hkl
          by_cases he : kl = ln
          · have hed : ((kl : Int) == (ln : Int)) = true := by simp [he]
            have HE := hid he
            clear he
            go_wp2_with fail
            go_quiet (fail)
            go_wp2_with fail
            go_ret
            refine ⟨ret_bool (Eq.symm (allN_false hlk ?_)), HS3.out.below.trans ((Drawn.n W3 _).below _)⟩
            rw [nodeB_eq]
            have : n2B t k = false := by
              unfold n2B
              rw [HND.out, ← HLN.out, ← HKL.out, HE.out]
              simp
            rw [this]; simp
          · have hed : ((kl : Int) == (ln : Int)) = false := beq_eq_false_iff_ne.2 (by omega)
            have HE := hid (show kl < ln by omega)
            clear he
            go_wp2_with fail
            go_quiet (fail)
            go_wp2_with fail
            go_roundw
            case rel =>
              refine ⟨k + 1, by omega, by go_num, HS3.out.next ((Drawn.n W3 _).below _), HSO2.out.succ ?_⟩
              unfold n2B
              rw [HND.out, ← HLN.out, ← HKL.out]
              exact decide_eq_true HE.out
            case measure => simp [intOf]; omega
        · go_wp2_with fail
          go_ret
          refine ⟨ret_bool (Eq.symm (allN_of fun j hj => ?_)), HS2.out.below⟩
          rw [nodeB_eq, HM1.out j hj, HSO2.out j (by omega)]; rfl
end Go.Proofs.Ythhknonaebnooaa
