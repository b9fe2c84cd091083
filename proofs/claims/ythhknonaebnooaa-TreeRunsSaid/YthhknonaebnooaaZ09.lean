/-
  Walk of the program: Step, where there is a tree with nodes, and such a letter.
-/
import Derived.Test.YthhknonaebnooaaZ08
set_option linter.unusedVariables false
set_option linter.unusedSimpArgs false
namespace Go.Proofs.Ythhknonaebnooaa
open Go.RowKit
attribute [local go_sem] cell_alloc_old

theorem PSets.mono {w : World} {B C : Nat} {R : List PR} (h : PSets w B R) (hc : C ≤ B) : PSets w C R := ⟨h.set, fun i hi => Nat.le_trans hc (h.lo i hi), h.ne⟩
theorem PSets.same {w : World} {B : Nat} {R R' : List PR} (h : PSets w B R) (hl : R'.length = R.length) (hs : ∀ i, i < R.length → (R'.getD i default).mb = (R.getD i default).mb ∧ (R'.getD i default).nd.set = (R.getD i default).nd.set) : PSets w B R' :=
  ⟨fun i hi => by rw [hl] at hi; rw [(hs i hi).1, (hs i hi).2]; exact h.set i hi, fun i hi => by rw [hl] at hi; rw [(hs i hi).1]; exact h.lo i hi, fun i j hi hj hne => by rw [hl] at hi hj; rw [(hs i hi).1, (hs j hj).1]; exact h.ne i j hi hj hne⟩
theorem PSets.after {w w' : World} {B g : Nat} {R : List PR} (h : PSets w B R) (hp : PB w g R) (hc : Chg (fun k => k = g) w w') : PSets w' B R :=
  h.keep fun i hi => hc.block _ (h.lt hi) fun e => hp.ne_map (h.set i hi) e
theorem grown_nds {b : Bu} {t : List Nd} {a : Int} {R : List PR} (h : RGrown b t a (2 * t.length) R) : ndsP R = grownZ b t a := by
  refine nd_ext (by rw [ndsP_len, h.1, grown_len]) fun i hi => ?_
  rw [ndsP_len, h.1] at hi
  rw [ndsP_get R (by rw [h.1]; exact hi), (h.2 i hi).1, grownP_get b t a hi]
theorem tree_up {n : Nat} {t : List Nd} (h : allN t.length (nodeB n t) = true) {i : Nat} (hi : i < t.length) : 1 ≤ (nd t i).name ∧ (nd t i).name ≤ 2 * (n : Int) ∧ 0 < (nd t i).set.length ∧ (i = 0 → (nd t i).parent = -1) ∧ (0 < i → 0 ≤ (nd t i).parent ∧ (nd t i).parent < (i : Int)) := by
  have h1 := allN_true.1 h i hi
  rw [nodeB_eq] at h1
  unfold n1B at h1
  simp only [Bool.and_eq_true] at h1
  exact hdB_iff.1 h1.1.1.1
theorem grown_up {b : Bu} {t : List Nd} {a : Int} {n : Nat} (h : allN t.length (nodeB n t) = true) {R : List PR} (hR : RGrown b t a (2 * t.length) R) : UpP R := fun i hi => by
  rw [hR.1] at hi
  rw [(hR.2 i hi).1]
  unfold grownP
  by_cases e : i < t.length
  · rw [if_pos e]
    exact ⟨(tree_up h e).2.2.2.1, (tree_up h e).2.2.2.2⟩
  · rw [if_neg e]
    refine ⟨fun h0 => ?_, fun h0 => ?_⟩
    · omega
    · show 0 ≤ ((i - t.length : Nat) : Int) ∧ ((i - t.length : Nat) : Int) < (i : Int)
      omega
theorem keepTo_len (t : List Nd) (m : Nat → Bool) : ∀ k, (keepTo t m k).2.length = t.length
  | 0 => by simp [keepTo]
  | k + 1 => by
    unfold keepTo
    split
    · rw [List.length_set]; exact keepTo_len t m k
    · exact keepTo_len t m k
theorem keepTo_le (t : List Nd) (m : Nat → Bool) : ∀ k, (keepTo t m k).1.length ≤ k
  | 0 => by simp [keepTo]
  | k + 1 => by
    have := keepTo_le t m k
    unfold keepTo
    split
    · simp; omega
    · omega
theorem namesP_snoc (P : PR → Bool) (R : List PR) {k : Nat} (hk : k < R.length) : namesP ((R.take (k + 1)).filter P) = namesP ((R.take k).filter P) ++ (if P (R.getD k default) then [(R.getD k default).nd.name] else []) := by
  rw [filtP_snoc P R hk]
  unfold namesP
  rw [List.map_append]
  cases P (R.getD k default) <;> simp
/-- While the tree is laid: i rows have been looked at. -/
def StR (w wr : World) (g : Nat) (R : List PR) (eb pb i : Nat) (s9 : Value) : Prop :=
  ∃ (AG AB : Option Addr) (cG cB : Nat) (D : Dom) (sl : List (Option Addr × Nat)) (A : Option Addr) (c : Nat), s9 = .slice A (keepTo (ndsP R) (stayP R) i).1.length c ∧
    StI w wr g R eb pb (keepTo (ndsP R) (stayP R) i).2 AG AB cG cB (namesP ((R.take i).filter goodP)) (namesP ((R.take i).filter badP)) D sl A c (keepTo (ndsP R) (stayP R) i).1
theorem keepTo_skip {t : List Nd} {m : Nat → Bool} {i : Nat} (h : m i = false) : keepTo t m (i + 1) = keepTo t m i := by
  conv => lhs; unfold keepTo
  rw [h]; rfl
theorem keepTo_take {t : List Nd} {m : Nat → Bool} {i : Nat} (h : m i = true) : keepTo t m (i + 1) = ((keepTo t m i).1 ++ [{ nd t i with parent := if 0 ≤ (nd t i).parent then (keepTo t m i).2.getD (nd t i).parent.toNat 0 else (nd t i).parent }], (keepTo t m i).2.set i ((keepTo t m i).1.length : Int)) := by
  conv => lhs; unfold keepTo
  rw [h]; rfl

set_option maxRecDepth 100000 in
set_option maxHeartbeats 16000000 in
theorem step_yes {D0 E0 : Dom} (v : Value) (b : Bu) (A : Option Addr) (c : Nat) (t : List Nd) (a : Int) (w : World) (h : RdBu w D0 v b) (ht : RdN w E0 A c t) (htb : treeB b t = true) (a0 : 0 ≤ a) (a1 : a < b.letters) (hf : fewB b = true) (hpos : 0 < t.length) :
    Calls Try.prog 12 #[v, .slice A t.length c, .int .i64 a] w (StepSays b t a w) := by
  have HV := hid h.old
  have HT := hid ht.old
  have HTB := hid htb
  have HFEW := hid hf
  have hb : buchiB b = true ∧ t.length ≤ b.next.length ∧ allN t.length (nodeB b.next.length t) = true := by
    unfold treeB at htb
    simp only [Bool.and_eq_true, decide_eq_true_eq] at htb
    exact ⟨htb.1.1, htb.1.2, htb.2⟩
  have HBU := hid hb.1
  have HTR := hid hb.2.2
  have hnx : b.next.length ≤ 10 := by
    unfold fewB at hf
    simp only [Bool.and_eq_true, decide_eq_true_eq] at hf
    exact hf.1.2
  have htl := hb.2.1
  obtain ⟨As, cs, An, cn, rfl, ho, hn⟩ := h
  obtain ⟨i0, hti, hz0, hz1, hz2⟩ := info_parts int_info
  obtain ⟨i1, htn, hy0, hy1, hy2⟩ := info_parts tnode_info
  have hmk := run_make_zrow (P := Try.prog) 22 3 i0 (.int .i64 0) 8 Try.underlying22 hti hz0 hz1 hz2 rfl .i64 .i64 (2 * t.length) (by omega) (by omega)
  obtain ⟨W0, hW0⟩ : ∃ W0, W0 = w.alloc (.cells #[.int .i64 b.letters, .slice As b.start.length cs, .slice An b.next.length cn] 25) := ⟨_, rfl⟩
  have hbox0 : HasB W0 w.heap.size #[.int .i64 b.letters, .slice As b.start.length cs, .slice An b.next.length cn] b := by rw [hW0]; exact HasB.new HV.out
  obtain ⟨W, hW⟩ : ∃ W, W = W0.alloc (.cells #[.slice none 0 0, .slice none 0 0] 31) := ⟨_, rfl⟩
  have hb0 : Below W0.heap.size W0 W := by rw [hW]; go_grown
  have hbox := hbox0.below hb0
  have hb1 : Below w.heap.size w W0 := by rw [hW0]; go_grown
  have hz0' : W0.heap.size = w.heap.size + 1 := by rw [hW0]; simp
  have hb2 : Below w.heap.size w W := hb1.trans (hb0.mono (by omega))
  have hev : W.heap[w.heap.size + 1]? = some (.cells #[.slice none 0 0, .slice none 0 0] 31 (0, 0)) := by rw [hW, ← hz0']; exact heap_alloc_new W0 _
  have hcall := tvalid_any (.agg #[.int .i64 b.letters, .slice As b.start.length cs, .slice An b.next.length cn]) b A c t W hbox.rd (HT.out.keep (Keeps.of_below hb2 fun _ h => h))
  rw [hW, hW0, htb] at hcall
  have HCALL := hid hcall
  have HBOX := hid hbox
  have HEV := hid hev
  have HB2 := hid hb2
  have HWE := hid (show W = (w.alloc (.cells #[.int .i64 b.letters, .slice As b.start.length cs, .slice An b.next.length cn] 25)).alloc (.cells #[.slice none 0 0, .slice none 0 0] 31) by rw [hW, hW0])
  have h1d : decide (a < 0) = false := decide_eq_false (by omega)
  have h2d : decide (b.letters ≤ a) = false := decide_eq_false (by omega)
  clear hW0 hbox0 hW hb0 hbox hb1 hz0' hb2 hev hcall ho hn ht htb hf hb
  go_enter Try.func12, Try.ntmps12
  go_wp2_with (first | (go_at_call 19; refine HCALL.out.mono ?_; rintro e w1 ⟨rfl, hb3⟩; rw [← HWE.out] at hb3; have HB3 := hid (HB2.out.trans (hb3.mono HB2.out.size)); have hbx := HBOX.out.below hb3; obtain ⟨x0, x1, x2, xl⟩ := hbx.cells; have HBX := hid hbx; have HEV1 := hid ((hb3.block _ (lt_of_block HEV.out)).trans HEV.out); clear hb3 hbx) | (go_at_call 33; refine (grown_any _ b A c t a _ HBX.out.rd (HT.out.keep (Keeps.of_below HB3.out fun _ h => h)) HBU.out HFEW.out HTR.out a0 a1 (by omega)).mono ?_; rintro e w2 ⟨A2, c2, R1, rfl, hb4, ho4, hs4, hg4⟩; have HB4 := hid (HB3.out.trans (hb4.mono HB3.out.size)); have HEV2 := hid ((hb4.block _ (lt_of_block HEV1.out)).trans HEV1.out); have HO4 := hid ho4; have HS4 := hid hs4; have HG4 := hid hg4; have hw12 := HB3.out.size; clear hb4 ho4 hs4 hg4))
  obtain ⟨g, hA2, hg2, hpb2⟩ := PB.own HO4.out HG4.out.1 (by omega)
  subst hA2
  have hR1 := HG4.out.1
  have hw24 := HB4.out.size
  have hdiv := divide_any w.heap.size g c2 R1 w2 hpb2 (HS4.out.mono hw12) (grown_up HTR.out HG4.out) hw24 (by omega) (by omega)
  rw [hR1] at hdiv
  have HDIV := hid hdiv
  have HPB2 := hid hpb2
  have HR1 := hid hR1
  clear hdiv hpb2 hR1
  refine HDIV.out.mono ?_
  rintro e w3 ⟨R2, rfl, hl2, hpb3, hs3, hn3, hf3, hc3⟩
  -- the rows after divide
  have hl2' : R2.length = 2 * t.length := by rw [hl2]; exact HR1.out
  have hnd2 : ndsP R2 = trimTo (grownZ b t a) (2 * t.length) := by rw [hn3, grown_nds HG4.out, HR1.out]
  have hset2 : ∀ j, j < R2.length → (R2.getD j default).nd.set.Pairwise (· < ·) ∧ (∀ z ∈ (R2.getD j default).nd.set, 0 ≤ z ∧ z < (b.next.length : Int)) := fun j hj => by
    rw [← ndsP_get R2 hj, hnd2]
    exact trimmed_sets b t a (Nat.le_refl _) (by omega)
  have hup2 : UpP R2 := fun j hj => by
    have h1 := grown_up HTR.out HG4.out j (by rw [HR1.out]; omega)
    have h2 := (trimTo_sub (grownZ b t a) (2 * t.length) (by rw [grown_len]; omega) j).2.1
    rw [← ndsP_get R2 hj, hnd2, h2]
    rw [← ndsP_get R1 (by rw [HR1.out]; omega), grown_nds HG4.out] at h1
    exact h1
  have hB3 : Below w.heap.size w w3 := HB4.out.trans (hc3.below (fun b hb hv => by omega) hw24)
  have hcol := collapse_any w.heap.size g c2 R2 w3 hpb3 hs3 hup2 (by omega) (by omega) (fun j hj => Nat.le_trans (range_sub (inc_nd (hset2 j hj).1) (hset2 j hj).2) (by omega)) (fun j hj => (hf3 j (by rw [← hl2]; exact hj)).2.2.1)
  rw [hl2'] at hcol
  have HL2 := hid hl2'
  have HND2 := hid hnd2
  have HSET2 := hid hset2
  have HUP2 := hid hup2
  have HS3 := hid hs3
  have HPB3 := hid hpb3
  have HF3 := hid hf3
  have HB3' := hid hB3
  have HEV3 := hid (show w3.heap[w.heap.size + 1]? = some (.cells #[.slice none 0 0, .slice none 0 0] 31 (0, 0)) from (hc3.block _ (lt_of_block HEV2.out) (fun e => HPB2.out.ne_type HEV2.out (by decide) e)).trans HEV2.out)
  have HCOL := hid hcol
  clear hl2 hl2' hpb3 hs3 hn3 hf3 hc3 hnd2 hset2 hup2 hB3 hcol
  go_wp2_with fail
  refine HCOL.out.mono ?_
  rintro e w4 ⟨R3, rfl, hl3, hpb4, hf4, hc4⟩
  have hl3' : R3.length = 2 * t.length := by rw [hl3]; exact HL2.out
  have hnd3 : ndsP R3 = ndsP R2 := by
    refine nd_ext (by rw [ndsP_len, ndsP_len, hl3]) fun i hi => ?_
    rw [ndsP_len] at hi
    rw [ndsP_get R3 hi, ndsP_get R2 (by rw [← hl3]; exact hi), hf4 i (by rw [← hl3]; exact hi)]
  have hs4' : PSets w4 w.heap.size R3 := (HS3.out.after HPB3.out hc4).same hl3 fun i hi => by rw [hf4 i hi]; exact ⟨rfl, rfl⟩
  have hB4 : Below w.heap.size w w4 := HB3'.out.trans (hc4.below (fun b hb hv => by omega) HB3'.out.size)
  have hold3 : ∀ j, j < R3.length → (R3.getD j default).old = decide (j < t.length) ∧ (j < t.length → (R3.getD j default).nd.name = (nd t j).name) := fun j hj => by
    have hj2 : j < R2.length := by rw [← hl3]; exact hj
    have hj1 : j < R1.length := by rw [HR1.out, ← hl3']; exact hj
    rw [hf4 j hj2]
    refine ⟨?_, fun hjt => ?_⟩
    · show (R2.getD j default).old = _
      rw [(HF3.out j hj1).1]
      exact (HG4.out.2 j (by rw [← HR1.out]; exact hj1)).2.1
    · show (R2.getD j default).nd.name = _
      rw [← ndsP_get R2 hj2, HND2.out, (trimTo_sub (grownZ b t a) (2 * t.length) (by rw [grown_len]; omega) j).2.2, grownP_get b t a (by omega)]
      unfold grownP
      rw [if_pos hjt]
  have hnm3 : ∀ z ∈ (R3.filter (·.old)).map (fun x => x.nd.name), z ≤ 2 * (b.next.length : Int) := fun z hz => by
    obtain ⟨x, hx, rfl⟩ := List.mem_map.1 hz
    obtain ⟨hx1, hx2⟩ := List.mem_filter.1 hx
    obtain ⟨j, hj, rfl⟩ := List.getElem_of_mem hx1
    have e1 : R3.getD j default = R3[j] := by simp [List.getD, hj]
    have h1 := hold3 j hj
    rw [e1] at h1
    have hjt : j < t.length := by
      rw [h1.1] at hx2
      exact of_decide_eq_true hx2
    rw [h1.2 hjt]
    exact (tree_up HTR.out hjt).2.1
  have hnam := name_any g c2 R3 w4 hpb4 (by omega) hnm3 (by omega) (by omega)
  rw [hl3'] at hnam
  have HL3 := hid hl3'
  have HND3 := hid hnd3
  have HS4' := hid hs4'
  have HPB4 := hid hpb4
  have HF4 := hid hf4
  have HB4' := hid hB4
  have HOLD3 := hid hold3
  have HEV4 := hid (show w4.heap[w.heap.size + 1]? = some (.cells #[.slice none 0 0, .slice none 0 0] 31 (0, 0)) from (hc4.block _ (lt_of_block HEV3.out) (fun e => HPB3.out.ne_type HEV3.out (by decide) e)).trans HEV3.out)
  have HNAM := hid hnam
  have HLL := hid hl3
  clear hl3 hl3' hpb4 hf4 hc4 hnd3 hs4' hB4 hold3 hnm3 hnam
  go_wp2_with fail
  refine HNAM.out.mono ?_
  rintro e w5 ⟨rfl, hpb5, hc5⟩
  obtain ⟨R, hR⟩ : ∃ R, R = (nmP ((R3.filter (·.old)).map fun x => x.nd.name) R3 R3.length).1 := ⟨_, rfl⟩
  rw [← hR] at hpb5
  have hRl : R.length = 2 * t.length := by rw [hR, nmP_len]; exact HL3.out
  have hsame : ∀ j, j < R3.length → (R.getD j default).mb = (R3.getD j default).mb ∧ (R.getD j default).nd.set = (R3.getD j default).nd.set ∧ (R.getD j default).nd.parent = (R3.getD j default).nd.parent := fun j _ => by
    have := nmP_same ((R3.filter (·.old)).map fun x => x.nd.name) R3 R3.length j
    rw [← hR] at this
    exact ⟨this.1, this.2.1, this.2.2.1⟩
  have hs5 : PSets w5 w.heap.size R := (HS4'.out.after HPB4.out hc5).same (by rw [hRl, HL3.out]) fun i hi => ⟨(hsame i hi).1, (hsame i hi).2.1⟩
  have hB5 : Below w.heap.size w w5 := HB4'.out.trans (hc5.below (fun b hb hv => by omega) HB4'.out.size)
  have hsets : ∀ j, j < R.length → (R.getD j default).nd.set.Pairwise (· < ·) ∧ (∀ z ∈ (R.getD j default).nd.set, 0 ≤ z ∧ z ≤ 3000) ∧ (R.getD j default).nd.set.length ≤ 3000 := fun j hj => by
    have hj3 : j < R3.length := by rw [HL3.out, ← hRl]; exact hj
    have hj2 : j < R2.length := by rw [← HLL.out]; exact hj3
    have h1 := HSET2.out j hj2
    have e1 : (R.getD j default).nd.set = (R2.getD j default).nd.set := by rw [(hsame j hj3).2.1, HF4.out j hj2]
    rw [e1]
    exact ⟨h1.1, fun z hz => ⟨(h1.2 z hz).1, by have := (h1.2 z hz).2; omega⟩, Nat.le_trans (range_sub (inc_nd h1.1) h1.2) (by omega)⟩
  have hup : UpP R := fun j hj => by
    have hj3 : j < R3.length := by rw [HL3.out, ← hRl]; exact hj
    have hj2 : j < R2.length := by rw [← HLL.out]; exact hj3
    have e1 : (R.getD j default).nd.parent = (R2.getD j default).nd.parent := by rw [(hsame j hj3).2.2, HF4.out j hj2]
    rw [e1]
    exact HUP2.out j hj2
  have hrows : Rows4 b t a R := ⟨R3, HL3.out, by rw [HND3.out, HND2.out], fun j hj => by
    refine ⟨(HOLD3.out j hj).1, ?_, ?_⟩
    · rw [HND3.out, HF4.out j (by rw [← HLL.out]; exact hj)]
    · rw [HND3.out, HF4.out j (by rw [← HLL.out]; exact hj)], hR⟩
  have HPB5 := hid hpb5
  have HS5 := hid hs5
  have HB5 := hid hB5
  have HSETS := hid hsets
  have HUP := hid hup
  have HROWS := hid hrows
  have HRL := hid hRl
  have HEV5 := hid (show w5.heap[w.heap.size + 1]? = some (.cells #[.slice none 0 0, .slice none 0 0] 31 (0, 0)) from (hc5.block _ (lt_of_block HEV4.out) (fun e => HPB4.out.ne_type HEV4.out (by decide) e)).trans HEV4.out)
  clear hpb5 hc5 hR hsame hs5 hB5 hsets hup hrows
  rw [← hRl] at hmk ⊢
  have hRN : R.length ≤ 20 := by omega
  have hRpos : 0 < R.length := by omega
  clear hRl
  have hw5s := HB5.out.size
  go_upto_region 10 with (fail)
  refine wp_gen fun W6 hW6 => ?_
  have hST : StR w W6 g R w5.heap.size (w5.heap.size + 1) 0 (.slice none 0 0) := by
    have hb6 : Below w5.heap.size w5 W6 := by rw [hW6]; go_grown
    have e1 : W6.heap[w5.heap.size]? = some (.cells #[.slice none 0 0, .slice none 0 0] 31 (0, 0)) := by
      rw [hW6]
      exact (Below.heap_alloc _ _ _ (by simp)).trans (heap_alloc_new w5 _)
    have e2 : W6.heap[w5.heap.size + 1]? = some (zrow (.int .i64 0) R.length 3) := by
      rw [hW6]
      have := heap_alloc_new (w5.alloc (.cells #[.slice none 0 0, .slice none 0 0] 31)) (zrow (.int .i64 0) R.length 3)
      rwa [World.size_alloc] at this
    refine ⟨none, none, 0, 0, fun _ => False, [], none, 0, rfl, HB5.out.trans (hb6.mono hw5s), HPB5.out.of_block (hb6.block g HPB5.out.lt), by omega, HS5.out.below hb6, ⟨e1, ?_, ⟨rfl, .inl ⟨rfl, rfl⟩⟩, ⟨rfl, .inl ⟨rfl, rfl⟩⟩, by simp [Value.ownBlock], by simp [Value.ownBlock], fun k hk => by simp [Value.ownBlock] at hk, hw5s, by omega⟩, ⟨rfl, ⟨rfl, .inl ⟨rfl, rfl⟩⟩, fun i hi => absurd hi (Nat.not_lt_zero _)⟩, fun k hk => hk.elim, fun k hk => hk.elim, fun k hk => hk.elim, fun k hk => hk.elim, (hb6.block _ (lt_of_block HEV5.out)).trans HEV5.out, lt_of_block HEV5.out⟩
    rw [e2]
    simp [keepTo, zrow, ndsP_len]
  have HST := hid hST
  clear hW6 hST hmk
  go_wp2_with fail
  go_loopw [9, 44] (fun s9 q wr => ∃ i : Nat, i ≤ R.length ∧ q = .int .i64 (i : Int) ∧ StR w wr g R w5.heap.size (w5.heap.size + 1) i s9) (fun _ q _ => R.length - (intOf q).toNat)
  case atStart => exact ⟨0, Nat.zero_le _, rfl, HST.out⟩
  case round =>
    obtain ⟨i, hi, rfl, AG, AB, cG, cB, D, sl, A9, c9, rfl, hst⟩ := hrel
    have HSI := hid hst
    have hws := hst.below.size
    clear hst
    by_cases hlt : i < R.length
    · have hii : (i : Int) < R.length := by omega
      have hcs := HSI.out.lst.cells hlt
      obtain ⟨x, hx⟩ : ∃ x, R.getD i default = x := ⟨_, rfl⟩
      have hup := HUP.out i hlt
      have hsts := HSETS.out i hlt
      have hnm1 := namesP_snoc goodP R hlt
      have hnm2 := namesP_snoc badP R hlt
      rw [hx] at hcs hup hsts hnm1 hnm2
      obtain ⟨g0, g1, g2, g3, g4, g5, g6⟩ := hcs
      obtain ⟨nG, hnG⟩ : ∃ nG, nG = (namesP ((R.take i).filter goodP)).length := ⟨_, rfl⟩
      obtain ⟨nB, hnB⟩ : ∃ nB, nB = (namesP ((R.take i).filter badP)).length := ⟨_, rfl⟩
      obtain ⟨nT, hnT⟩ : ∃ nT, nT = (keepTo (ndsP R) (stayP R) i).1.length := ⟨_, rfl⟩
      have hnGb : nG ≤ i := by rw [hnG]; unfold namesP; rw [List.length_map]; exact Nat.le_trans (List.length_filter_le _ _) (by rw [List.length_take]; omega)
      have hnBb : nB ≤ i := by rw [hnB]; unfold namesP; rw [List.length_map]; exact Nat.le_trans (List.length_filter_le _ _) (by rw [List.length_take]; omega)
      have hnTb : nT ≤ i := by rw [hnT]; exact keepTo_le _ _ _
      have hpll : (keepTo (ndsP R) (stayP R) i).2.length = R.length := by rw [keepTo_len, ndsP_len]
      have HX := hid hx
      have HUPX := hid hup
      have HSTS := hid hsts
      have HN1 := hid hnm1
      have HN2 := hid hnm2
      have HNG := hid hnG
      have HNB := hid hnB
      have HNT := hid hnT
      have HPLL := hid hpll
      rw [← hnT]
      obtain ⟨W2, hW2⟩ : ∃ W2, W2 = wr := ⟨_, rfl⟩
      rw [← hW2] at HSI hws g0 g1 g2 g3 g4 g5 g6 ⊢
      clear hW2 hx hup hsts hnm1 hnm2 hnG hnB hnT hpll
      go_upto_region 13 with (fail)
      refine wp_gen fun W3 hW3 => ?_
      have hb3 : Below W2.heap.size W2 W3 := by rw [hW3]; go_grown
      have hbx : W3.heap[W2.heap.size]? = some (.cells #[.int .i64 x.nd.name, .int .i64 x.nd.parent, .slice x.sv.1 x.sv.2.1 x.sv.2.2, .map (some x.mb), .bool x.old, .bool x.good, .bool x.gone] 67 (0, 0)) := by rw [hW3]; exact heap_alloc_new W2 _
      have HS3 := hid (HSI.out.fresh hb3)
      have HSDL := hid (fun k => HSI.out.sdlt (k := k))
      have HBX3 := hid hbx
      have hs3 : W2.heap.size < W3.heap.size := lt_of_block hbx
      obtain ⟨go, hgo⟩ : ∃ go, x.gone = go := ⟨_, rfl⟩
      obtain ⟨od, hod⟩ : ∃ od, x.old = od := ⟨_, rfl⟩
      obtain ⟨gd, hgd⟩ : ∃ gd, x.good = gd := ⟨_, rfl⟩
      rw [hgo, hod, hgd] at hbx
      have y0 := block_cell hbx (i := 0) rfl
      have y4 := block_cell hbx (i := 4) rfl
      have y5 := block_cell hbx (i := 5) rfl
      have y6 := block_cell hbx (i := 6) rfl
      have HGO := hid hgo
      have HOD := hid hod
      have HGD := hid hgd
      have HBXN := hid hbx
      clear hW3 hb3 hbx hgo hod hgd g0 g1 g2 g3 g4 g5 g6
      cases go
      · cases gd
        · have e1 : goodP x = false := by unfold goodP; rw [HGD.out]; simp
          have e2 : badP x = false := by unfold badP; rw [HGO.out]; rfl
          have hst2 : StI w W3 g R w5.heap.size (w5.heap.size + 1) (keepTo (ndsP R) (stayP R) i).2 AG AB cG cB (namesP ((R.take (i + 1)).filter goodP)) (namesP ((R.take (i + 1)).filter badP)) D sl A9 c9 (keepTo (ndsP R) (stayP R) i).1 := by
            rw [HN1.out, HN2.out, e1, e2]
            simpa using HS3.out
          have hnb4 : ∀ k, StD (w.heap.size + 1) g R w5.heap.size (w5.heap.size + 1) AG AB D A9 k → k < W2.heap.size ∨ W2.heap.size < k := fun k hk => .inl (HSDL.out k hk)
          obtain ⟨AGv, rfl⟩ : ∃ AGv, AGv = AG := ⟨_, rfl⟩
          obtain ⟨cGv, rfl⟩ : ∃ cGv, cGv = cG := ⟨_, rfl⟩
          have HSV := hid hst2
          have HBV := HBXN
          have HNBD := hid hnb4
          clear e1 e2 hst2 hnb4
          have hnbd : ∀ k, StD (w.heap.size + 1) g R w5.heap.size (w5.heap.size + 1) AGv AB D A9 k → k < W2.heap.size ∨ W2.heap.size < k := HNBD.out
          have hpbl : w5.heap.size + 1 < W2.heap.size := HSDL.out _ (.inr (.inr (.inl (.inr (.inl rfl)))))
          obtain ⟨pc, pf⟩ := HSV.out.ev.place (i := i) (by rw [HPLL.out]; exact hlt)
          go_upto_region 19 with (fail)
          refine wp_gen fun W5 hW5 => ?_
          have hs5 := HSV.out.put i (nT : Int)
          rw [← hW5] at hs5
          have hbx5 : W5.heap[W2.heap.size]? = some (.cells #[.int .i64 x.nd.name, .int .i64 x.nd.parent, .slice x.sv.1 x.sv.2.1 x.sv.2.2, .map (some x.mb), .bool od, .bool false, .bool false] 67 (0, 0)) := by
            rw [hW5]; exact (Below.heap_setCell _ _ _ _ (by show W2.heap.size ≠ w5.heap.size + 1; omega)).trans HBV.out
          have HS5' := hid hs5
          have HBX5 := hid hbx5
          have z1 := block_cell hbx5 (i := 1) rfl
          have zf1 := block_free (i := 1) hbx5
          have hl5 : W2.heap.size < W5.heap.size := lt_of_block hbx5
          clear hW5 hs5 hbx5 pc pf
          by_cases hp0 : 0 ≤ x.nd.parent
          · obtain ⟨pn, hpn⟩ : ∃ pn : Nat, x.nd.parent = (pn : Int) := ⟨x.nd.parent.toNat, by omega⟩
            have hpi : pn < i := by
              rcases Nat.eq_zero_or_pos i with h0 | h0
              · have := HUPX.out.1 h0; omega
              · have := HUPX.out.2 h0; omega
            rw [hpn] at z1
            have hge : decide (0 ≤ (pn : Int)) = true := decide_eq_true (by omega)
            have hpr : (pn : Int) < R.length := by omega
            obtain ⟨pc, pf⟩ := HS5'.out.ev.place (i := pn) (by rw [List.length_set, HPLL.out]; omega)
            obtain ⟨pv, hpv⟩ : ∃ pv, pv = (((keepTo (ndsP R) (stayP R) i).2.set i (nT : Int)).getD pn 0) := ⟨_, rfl⟩
            rw [← hpv] at pc
            have hpv2 : pv = (keepTo (ndsP R) (stayP R) i).2.getD pn 0 := by rw [hpv]; simp [List.getD, show ¬ i = pn by omega]
            have HPN := hid hpn
            have HPV := hid hpv2
            clear hpn hp0 hpv hpv2
            go_upto_region 21 with (fail)
            refine wp_gen fun W6 hW6 => ?_
            have hbx6 : W6.heap[W2.heap.size]? = some (.cells #[.int .i64 x.nd.name, .int .i64 pv, .slice x.sv.1 x.sv.2.1 x.sv.2.2, .map (some x.mb), .bool od, .bool false, .bool false] 67 (0, 0)) := by
              rw [hW6, set_block HBX5.out]; rfl
            have hs6 := HS5'.out.next (wr' := W6) (by rw [hW6]; exact HS5'.out.below.setCell (p := ⟨W2.heap.size, 1, none⟩) hws _) (by rw [hW6]; simp) (fun k hk => by rw [hW6]; exact Below.heap_setCell _ _ _ _ (by show k ≠ W2.heap.size; have := hnbd k hk; omega))
            have HS6 := hid hs6
            have HBX6 := hid hbx6
            clear hW6 hs6 hbx6 z1 zf1 pc pf
            obtain ⟨nS, hnS⟩ : ∃ nS, nS = x.nd.set.length := ⟨_, rfl⟩
            have hset := HS6.out.sets.set i hlt
            rw [HX.out] at hset
            have hks := keys_any x.mb W6
            have hso := sorted_any x.mb x.nd.set W6 hset HSTS.out.1 HSTS.out.2.1 HSTS.out.2.2
            rw [← hnS] at hso
            have HKS := hid hks
            have HSO := hid hso
            have HNS := hid hnS
            have hl6 : W2.heap.size < W6.heap.size := lt_of_block HBX6.out
            have z3 := block_cell HBX6.out (i := 3) rfl
            have hnSb : nS ≤ 3000 := by rw [hnS]; exact HSTS.out.2.2
            clear hset hks hso hnS
            go_upto_region 22 with (first | (go_at_call 38; refine HKS.out.mono ?_; rintro e w' ⟨rfl, rfl⟩) | (go_at_call 37; refine HSO.out.mono ?_; rintro e w7 ⟨A2, c2, rfl, hb7, hr7⟩; have hbx7 := (hb7.block _ hl6).trans HBX6.out; have u2 := block_cell hbx7 (i := 2) rfl; have uf2 := block_free (i := 2) hbx7; have HB7 := hid hb7; have HR7 := hid hr7; have HBX7 := hid hbx7; clear hb7 hr7 hbx7))
            refine wp_gen fun W8 hW8 => ?_
            have hbx8 : W8.heap[W2.heap.size]? = some (.cells #[.int .i64 x.nd.name, .int .i64 pv, .slice A2 nS c2, .map (some x.mb), .bool od, .bool false, .bool false] 67 (0, 0)) := by
              rw [hW8, set_block HBX7.out]; rfl
            have hw78 : w7.heap.size = W8.heap.size := by rw [hW8]; simp
            have hbw8 : Below w.heap.size w W8 := by
              rw [hW8]; exact (HS6.out.below.trans (HB7.out.mono HS6.out.below.size)).setCell (p := ⟨W2.heap.size, 2, none⟩) hws _
            have hkp8 : ∀ k, StD (w.heap.size + 1) g R w5.heap.size (w5.heap.size + 1) AGv AB D A9 k → W8.heap[k]? = W6.heap[k]? := fun k hk => by
              rw [hW8]; exact (Below.heap_setCell _ _ _ _ (by show k ≠ W2.heap.size; have := hnbd k hk; omega)).trans (HB7.out.block k (HS6.out.sdlt hk))
            have hr8 : RdI W8 (fun k => W6.heap.size ≤ k ∧ k < W8.heap.size) A2 c2 x.nd.set := by
              have h1 := HR7.out.keep (w' := W8) ⟨by omega, fun k hk _ => by rw [hW8]; exact Below.heap_setCell _ _ _ _ (by show k ≠ W2.heap.size; have hk : W6.heap.size ≤ k := hk; omega)⟩
              exact h1.mono fun k hk hl => ⟨hk, hl⟩
            have hoa := own_agree HS6.out.af.own (W := W8) (fun k hk => hkp8 k (.inr (.inr (.inr (.inl (by rw [hk]; exact ownB _ _ _ _ _))))))
            rw [← HNT.out] at hoa
            have hs68 : W6.heap.size ≤ W8.heap.size := by rw [← hw78]; exact HB7.out.size
            have v0 := block_cell hbx8 (i := 0) rfl
            have v1 := block_cell hbx8 (i := 1) rfl
            have v2 := block_cell hbx8 (i := 2) rfl
            have HOA := hid hoa
            have HR8 := hid hr8
            have HKP8 := hid hkp8
            have HBW8 := hid hbw8
            have hws8 := hbw8.size
            clear hW8 hbx8 hw78 hbw8 hkp8 hr8 hoa u2 uf2 z3
            go_wp2_with (at_builtin; go_must (refine wpList_append_rd _ rfl (.tmp 94) (.tmp 97) 26 rfl w.heap.size 43 i1 _ 3 40 Try.underlying26 htn hy0 hy1 hy2 rfl (by omega) (.slice A9 nT c9) nT _ rfl (HOA.out.alloc _) _ (some ⟨W8.heap.size, 0, none⟩) 1 1 _ rfl (Rd.fresh (D := fun _ => True) rfl trivial rfl (by omega)) (by simp [Value.oneCell']) (by omega) (maxLen_le (by omega)) (by simp; omega) ?_); intro A5 c5 w9 hown5 hg5 hat5; have HO5 := hid hown5; have HG5 := hid hg5; have HAT5 := hid hat5; clear hown5 hg5 hat5)
            go_roundw
            case rel =>
              have ho5 := HO5.out
              have hg5 := HG5.out
              have ha5 := HAT5.out
              rw [HNT.out] at ho5 hg5 ha5
              have hkt := keepTo_take (t := ndsP R) (m := stayP R) (i := i) (by unfold stayP; rw [HX.out, HGO.out]; rfl)
              rw [ndsP_get R hlt, HX.out, ← HNT.out] at hkt
              have hpe : (if 0 ≤ x.nd.parent then (keepTo (ndsP R) (stayP R) i).2.getD x.nd.parent.toNat 0 else x.nd.parent) = pv := by rw [HPN.out, if_pos (by omega), Int.toNat_natCast, ← HPV.out]
              rw [hpe] at hkt
              have hst := HS6.out.snoc (x := { x.nd with parent := pv }) HBW8.out hs68 HKP8.out HR8.out (fun k hk => hk) _ hg5 (by rw [HNS.out] at ho5; exact ho5) ha5
              have hlen : (keepTo (ndsP R) (stayP R) (i + 1)).1.length = nT + 1 := by
                rw [hkt]
                show ((keepTo (ndsP R) (stayP R) i).1 ++ [_]).length = _
                rw [List.length_append, ← HNT.out]; rfl
              refine ⟨i + 1, by omega, by go_num, AGv, AB, cGv, cB, (fun k => D k ∨ (W6.heap.size ≤ k ∧ k < W8.heap.size)), sl ++ [(A2, c2)], A5, c5, ?_, ?_⟩
              · rw [hlen]
              · rw [hkt]
                exact hst
            case measure => simp [intOf]; omega
          · have hge : decide (0 ≤ x.nd.parent) = false := decide_eq_false hp0
            go_upto_region 21 with (fail)
            have HP0 := hid hp0
            have HS6 := HS5'
            have HBX6 := HBX5
            obtain ⟨W6, hW6⟩ : ∃ W6, W6 = W5 := ⟨_, rfl⟩
            rw [← hW6] at HS6 HBX6 hl5 ⊢
            clear hW6 hp0 z1 zf1 HS5' HBX5
            obtain ⟨nS, hnS⟩ : ∃ nS, nS = x.nd.set.length := ⟨_, rfl⟩
            have hset := HS6.out.sets.set i hlt
            rw [HX.out] at hset
            have hks := keys_any x.mb W6
            have hso := sorted_any x.mb x.nd.set W6 hset HSTS.out.1 HSTS.out.2.1 HSTS.out.2.2
            rw [← hnS] at hso
            have HKS := hid hks
            have HSO := hid hso
            have HNS := hid hnS
            have hl6 : W2.heap.size < W6.heap.size := lt_of_block HBX6.out
            have z3 := block_cell HBX6.out (i := 3) rfl
            have hnSb : nS ≤ 3000 := by rw [hnS]; exact HSTS.out.2.2
            clear hset hks hso hnS
            go_upto_region 22 with (first | (go_at_call 38; refine HKS.out.mono ?_; rintro e w' ⟨rfl, rfl⟩) | (go_at_call 37; refine HSO.out.mono ?_; rintro e w7 ⟨A2, c2, rfl, hb7, hr7⟩; have hbx7 := (hb7.block _ hl6).trans HBX6.out; have u2 := block_cell hbx7 (i := 2) rfl; have uf2 := block_free (i := 2) hbx7; have HB7 := hid hb7; have HR7 := hid hr7; have HBX7 := hid hbx7; clear hb7 hr7 hbx7))
            refine wp_gen fun W8 hW8 => ?_
            have hbx8 : W8.heap[W2.heap.size]? = some (.cells #[.int .i64 x.nd.name, .int .i64 x.nd.parent, .slice A2 nS c2, .map (some x.mb), .bool od, .bool false, .bool false] 67 (0, 0)) := by
              rw [hW8, set_block HBX7.out]; rfl
            have hw78 : w7.heap.size = W8.heap.size := by rw [hW8]; simp
            have hbw8 : Below w.heap.size w W8 := by
              rw [hW8]; exact (HS6.out.below.trans (HB7.out.mono HS6.out.below.size)).setCell (p := ⟨W2.heap.size, 2, none⟩) hws _
            have hkp8 : ∀ k, StD (w.heap.size + 1) g R w5.heap.size (w5.heap.size + 1) AGv AB D A9 k → W8.heap[k]? = W6.heap[k]? := fun k hk => by
              rw [hW8]; exact (Below.heap_setCell _ _ _ _ (by show k ≠ W2.heap.size; have := hnbd k hk; omega)).trans (HB7.out.block k (HS6.out.sdlt hk))
            have hr8 : RdI W8 (fun k => W6.heap.size ≤ k ∧ k < W8.heap.size) A2 c2 x.nd.set := by
              have h1 := HR7.out.keep (w' := W8) ⟨by omega, fun k hk _ => by rw [hW8]; exact Below.heap_setCell _ _ _ _ (by show k ≠ W2.heap.size; have hk : W6.heap.size ≤ k := hk; omega)⟩
              exact h1.mono fun k hk hl => ⟨hk, hl⟩
            have hoa := own_agree HS6.out.af.own (W := W8) (fun k hk => hkp8 k (.inr (.inr (.inr (.inl (by rw [hk]; exact ownB _ _ _ _ _))))))
            rw [← HNT.out] at hoa
            have hs68 : W6.heap.size ≤ W8.heap.size := by rw [← hw78]; exact HB7.out.size
            have v0 := block_cell hbx8 (i := 0) rfl
            have v1 := block_cell hbx8 (i := 1) rfl
            have v2 := block_cell hbx8 (i := 2) rfl
            have HOA := hid hoa
            have HR8 := hid hr8
            have HKP8 := hid hkp8
            have HBW8 := hid hbw8
            have hws8 := hbw8.size
            clear hW8 hbx8 hw78 hbw8 hkp8 hr8 hoa u2 uf2 z3
            go_wp2_with (at_builtin; go_must (refine wpList_append_rd _ rfl (.tmp 94) (.tmp 97) 26 rfl w.heap.size 43 i1 _ 3 40 Try.underlying26 htn hy0 hy1 hy2 rfl (by omega) (.slice A9 nT c9) nT _ rfl (HOA.out.alloc _) _ (some ⟨W8.heap.size, 0, none⟩) 1 1 _ rfl (Rd.fresh (D := fun _ => True) rfl trivial rfl (by omega)) (by simp [Value.oneCell']) (by omega) (maxLen_le (by omega)) (by simp; omega) ?_); intro A5 c5 w9 hown5 hg5 hat5; have HO5 := hid hown5; have HG5 := hid hg5; have HAT5 := hid hat5; clear hown5 hg5 hat5)
            go_roundw
            case rel =>
              have ho5 := HO5.out
              have hg5 := HG5.out
              have ha5 := HAT5.out
              rw [HNT.out] at ho5 hg5 ha5
              have hkt := keepTo_take (t := ndsP R) (m := stayP R) (i := i) (by unfold stayP; rw [HX.out, HGO.out]; rfl)
              rw [ndsP_get R hlt, HX.out, ← HNT.out] at hkt
              have hpe : (if 0 ≤ x.nd.parent then (keepTo (ndsP R) (stayP R) i).2.getD x.nd.parent.toNat 0 else x.nd.parent) = x.nd.parent := by rw [if_neg (by have := HP0.out; omega)]
              rw [hpe] at hkt
              have hst := HS6.out.snoc (x := { x.nd with parent := x.nd.parent }) HBW8.out hs68 HKP8.out HR8.out (fun k hk => hk) _ hg5 (by rw [HNS.out] at ho5; exact ho5) ha5
              have hlen : (keepTo (ndsP R) (stayP R) (i + 1)).1.length = nT + 1 := by
                rw [hkt]
                show ((keepTo (ndsP R) (stayP R) i).1 ++ [_]).length = _
                rw [List.length_append, ← HNT.out]; rfl
              refine ⟨i + 1, by omega, by go_num, AGv, AB, cGv, cB, (fun k => D k ∨ (W6.heap.size ≤ k ∧ k < W8.heap.size)), sl ++ [(A2, c2)], A5, c5, ?_, ?_⟩
              · rw [hlen]
              · rw [hkt]
                exact hst
            case measure => simp [intOf]; omega
        · obtain ⟨q0, q1, qf0, qf1⟩ := HS3.out.ev.cells
          rw [← HNG.out] at q0
          have hob := HS3.out.ev.og
          rw [← HNG.out] at hob
          have HOB := hid hob
          have hne := HS3.out.ev.eb_ne.2.1
          rw [← HNG.out] at hne
          have HNE := hid hne
          have hel := lt_of_block HS3.out.ev.ev
          clear hob hne q1
          go_upto_region 18 with (at_builtin; go_must (refine wpList_append_rd _ rfl (.tmp 64) (.tmp 68) 22 rfl w.heap.size 3 i0 _ 1 8 Try.underlying22 hti hz0 hz1 hz2 rfl (by omega) (.slice AG nG cG) nG _ rfl (HOB.out.alloc _) _ (some ⟨W3.heap.size, 0, none⟩) 1 1 _ rfl (Rd.cell1 (cell_new W3 _ _ _ _ _ rfl rfl)) (by simp [Value.oneCell']) (by omega) (maxLen_le (by omega)) (by simp; omega) ?_); intro A5 c5 w9 hown5 hg5 hat5; have he9 := (hg5.block w5.heap.size (by simp; omega) (fun e => HNE.out e)).trans ((Below.heap_alloc W3 _ _ hel).trans HS3.out.ev.ev); have q1' := block_cell he9 (i := 0) rfl; have qf1' := block_free (i := 0) he9; have HO5 := hid hown5; have HG5 := hid hg5; have HAT5 := hid hat5; clear hown5 hg5 hat5 he9)
          refine wp_gen fun W4 hW4 => ?_
          have ho5 := HO5.out
          have hg5 := HG5.out
          have ha5 := HAT5.out
          rw [HNG.out] at ho5 hg5 ha5
          obtain ⟨hev, hchg, hdis⟩ := HS3.out.ev.addGood (z := x.nd.name) ((Below.refl _ _).alloc (Nat.le_refl _) _) hg5 ho5 ha5
          rw [← HNG.out, ← hW4] at hev hchg
          have hst := HS3.out.evchg hev hchg hdis
          have hbx4 := (hchg.block W2.heap.size (lt_of_block HBXN.out) (fun hv => by have := (HSI.out.ev.dlt hv).1; omega)).trans HBXN.out
          have e1 : goodP x = true := by unfold goodP; rw [HGO.out, HGD.out]; rfl
          have e2 : badP x = false := by unfold badP; rw [HGO.out]; rfl
          have hst2 : StI w W4 g R w5.heap.size (w5.heap.size + 1) (keepTo (ndsP R) (stayP R) i).2 A5 AB c5 cB (namesP ((R.take (i + 1)).filter goodP)) (namesP ((R.take (i + 1)).filter badP)) D sl A9 c9 (keepTo (ndsP R) (stayP R) i).1 := by
            rw [HN1.out, HN2.out, e1, e2]
            simpa using hst
          have hnb4 : ∀ k, StD (w.heap.size + 1) g R w5.heap.size (w5.heap.size + 1) A5 AB D A9 k → k < W2.heap.size ∨ W2.heap.size < k := fun k hk => by
            rcases hk with hk | hk | hk | hk | hk | hk
            · exact .inl (HSDL.out k (.inl hk))
            · exact .inl (HSDL.out k (.inr (.inl hk)))
            · rcases hdis k hk with h9 | h9
              · exact .inl (HSDL.out k (.inr (.inr (.inl h9))))
              · right; omega
            · exact .inl (HSDL.out k (.inr (.inr (.inr (.inl hk)))))
            · exact .inl (HSDL.out k (.inr (.inr (.inr (.inr (.inl hk))))))
            · exact .inl (HSDL.out k (.inr (.inr (.inr (.inr (.inr hk))))))
          obtain ⟨AGv, rfl⟩ : ∃ AGv, AGv = A5 := ⟨_, rfl⟩
          obtain ⟨cGv, rfl⟩ : ∃ cGv, cGv = c5 := ⟨_, rfl⟩
          have HSV := hid hst2
          have HBV := hid hbx4
          have HNBD := hid hnb4
          have hl3 : W2.heap.size < W4.heap.size := lt_of_block hbx4
          clear hW4 ho5 hg5 ha5 hev hchg hdis hst hbx4 e1 e2 hst2 hnb4 q0 qf0 qf1 q1' qf1' y0 y4 y5 y6
          have hnbd : ∀ k, StD (w.heap.size + 1) g R w5.heap.size (w5.heap.size + 1) AGv AB D A9 k → k < W2.heap.size ∨ W2.heap.size < k := HNBD.out
          have hpbl : w5.heap.size + 1 < W2.heap.size := HSDL.out _ (.inr (.inr (.inl (.inr (.inl rfl)))))
          obtain ⟨pc, pf⟩ := HSV.out.ev.place (i := i) (by rw [HPLL.out]; exact hlt)
          go_upto_region 19 with (fail)
          refine wp_gen fun W5 hW5 => ?_
          have hs5 := HSV.out.put i (nT : Int)
          rw [← hW5] at hs5
          have hbx5 : W5.heap[W2.heap.size]? = some (.cells #[.int .i64 x.nd.name, .int .i64 x.nd.parent, .slice x.sv.1 x.sv.2.1 x.sv.2.2, .map (some x.mb), .bool od, .bool true, .bool false] 67 (0, 0)) := by
            rw [hW5]; exact (Below.heap_setCell _ _ _ _ (by show W2.heap.size ≠ w5.heap.size + 1; omega)).trans HBV.out
          have HS5' := hid hs5
          have HBX5 := hid hbx5
          have z1 := block_cell hbx5 (i := 1) rfl
          have zf1 := block_free (i := 1) hbx5
          have hl5 : W2.heap.size < W5.heap.size := lt_of_block hbx5
          clear hW5 hs5 hbx5 pc pf
          by_cases hp0 : 0 ≤ x.nd.parent
          · obtain ⟨pn, hpn⟩ : ∃ pn : Nat, x.nd.parent = (pn : Int) := ⟨x.nd.parent.toNat, by omega⟩
            have hpi : pn < i := by
              rcases Nat.eq_zero_or_pos i with h0 | h0
              · have := HUPX.out.1 h0; omega
              · have := HUPX.out.2 h0; omega
            rw [hpn] at z1
            have hge : decide (0 ≤ (pn : Int)) = true := decide_eq_true (by omega)
            have hpr : (pn : Int) < R.length := by omega
            obtain ⟨pc, pf⟩ := HS5'.out.ev.place (i := pn) (by rw [List.length_set, HPLL.out]; omega)
            obtain ⟨pv, hpv⟩ : ∃ pv, pv = (((keepTo (ndsP R) (stayP R) i).2.set i (nT : Int)).getD pn 0) := ⟨_, rfl⟩
            rw [← hpv] at pc
            have hpv2 : pv = (keepTo (ndsP R) (stayP R) i).2.getD pn 0 := by rw [hpv]; simp [List.getD, show ¬ i = pn by omega]
            have HPN := hid hpn
            have HPV := hid hpv2
            clear hpn hp0 hpv hpv2
            go_upto_region 21 with (fail)
            refine wp_gen fun W6 hW6 => ?_
            have hbx6 : W6.heap[W2.heap.size]? = some (.cells #[.int .i64 x.nd.name, .int .i64 pv, .slice x.sv.1 x.sv.2.1 x.sv.2.2, .map (some x.mb), .bool od, .bool true, .bool false] 67 (0, 0)) := by
              rw [hW6, set_block HBX5.out]; rfl
            have hs6 := HS5'.out.next (wr' := W6) (by rw [hW6]; exact HS5'.out.below.setCell (p := ⟨W2.heap.size, 1, none⟩) hws _) (by rw [hW6]; simp) (fun k hk => by rw [hW6]; exact Below.heap_setCell _ _ _ _ (by show k ≠ W2.heap.size; have := hnbd k hk; omega))
            have HS6 := hid hs6
            have HBX6 := hid hbx6
            clear hW6 hs6 hbx6 z1 zf1 pc pf
            obtain ⟨nS, hnS⟩ : ∃ nS, nS = x.nd.set.length := ⟨_, rfl⟩
            have hset := HS6.out.sets.set i hlt
            rw [HX.out] at hset
            have hks := keys_any x.mb W6
            have hso := sorted_any x.mb x.nd.set W6 hset HSTS.out.1 HSTS.out.2.1 HSTS.out.2.2
            rw [← hnS] at hso
            have HKS := hid hks
            have HSO := hid hso
            have HNS := hid hnS
            have hl6 : W2.heap.size < W6.heap.size := lt_of_block HBX6.out
            have z3 := block_cell HBX6.out (i := 3) rfl
            have hnSb : nS ≤ 3000 := by rw [hnS]; exact HSTS.out.2.2
            clear hset hks hso hnS
            go_upto_region 22 with (first | (go_at_call 38; refine HKS.out.mono ?_; rintro e w' ⟨rfl, rfl⟩) | (go_at_call 37; refine HSO.out.mono ?_; rintro e w7 ⟨A2, c2, rfl, hb7, hr7⟩; have hbx7 := (hb7.block _ hl6).trans HBX6.out; have u2 := block_cell hbx7 (i := 2) rfl; have uf2 := block_free (i := 2) hbx7; have HB7 := hid hb7; have HR7 := hid hr7; have HBX7 := hid hbx7; clear hb7 hr7 hbx7))
            refine wp_gen fun W8 hW8 => ?_
            have hbx8 : W8.heap[W2.heap.size]? = some (.cells #[.int .i64 x.nd.name, .int .i64 pv, .slice A2 nS c2, .map (some x.mb), .bool od, .bool true, .bool false] 67 (0, 0)) := by
              rw [hW8, set_block HBX7.out]; rfl
            have hw78 : w7.heap.size = W8.heap.size := by rw [hW8]; simp
            have hbw8 : Below w.heap.size w W8 := by
              rw [hW8]; exact (HS6.out.below.trans (HB7.out.mono HS6.out.below.size)).setCell (p := ⟨W2.heap.size, 2, none⟩) hws _
            have hkp8 : ∀ k, StD (w.heap.size + 1) g R w5.heap.size (w5.heap.size + 1) AGv AB D A9 k → W8.heap[k]? = W6.heap[k]? := fun k hk => by
              rw [hW8]; exact (Below.heap_setCell _ _ _ _ (by show k ≠ W2.heap.size; have := hnbd k hk; omega)).trans (HB7.out.block k (HS6.out.sdlt hk))
            have hr8 : RdI W8 (fun k => W6.heap.size ≤ k ∧ k < W8.heap.size) A2 c2 x.nd.set := by
              have h1 := HR7.out.keep (w' := W8) ⟨by omega, fun k hk _ => by rw [hW8]; exact Below.heap_setCell _ _ _ _ (by show k ≠ W2.heap.size; have hk : W6.heap.size ≤ k := hk; omega)⟩
              exact h1.mono fun k hk hl => ⟨hk, hl⟩
            have hoa := own_agree HS6.out.af.own (W := W8) (fun k hk => hkp8 k (.inr (.inr (.inr (.inl (by rw [hk]; exact ownB _ _ _ _ _))))))
            rw [← HNT.out] at hoa
            have hs68 : W6.heap.size ≤ W8.heap.size := by rw [← hw78]; exact HB7.out.size
            have v0 := block_cell hbx8 (i := 0) rfl
            have v1 := block_cell hbx8 (i := 1) rfl
            have v2 := block_cell hbx8 (i := 2) rfl
            have HOA := hid hoa
            have HR8 := hid hr8
            have HKP8 := hid hkp8
            have HBW8 := hid hbw8
            have hws8 := hbw8.size
            clear hW8 hbx8 hw78 hbw8 hkp8 hr8 hoa u2 uf2 z3
            go_wp2_with (at_builtin; go_must (refine wpList_append_rd _ rfl (.tmp 94) (.tmp 97) 26 rfl w.heap.size 43 i1 _ 3 40 Try.underlying26 htn hy0 hy1 hy2 rfl (by omega) (.slice A9 nT c9) nT _ rfl (HOA.out.alloc _) _ (some ⟨W8.heap.size, 0, none⟩) 1 1 _ rfl (Rd.fresh (D := fun _ => True) rfl trivial rfl (by omega)) (by simp [Value.oneCell']) (by omega) (maxLen_le (by omega)) (by simp; omega) ?_); intro A5 c5 w9 hown5 hg5 hat5; have HO5 := hid hown5; have HG5 := hid hg5; have HAT5 := hid hat5; clear hown5 hg5 hat5)
            go_roundw
            case rel =>
              have ho5 := HO5.out
              have hg5 := HG5.out
              have ha5 := HAT5.out
              rw [HNT.out] at ho5 hg5 ha5
              have hkt := keepTo_take (t := ndsP R) (m := stayP R) (i := i) (by unfold stayP; rw [HX.out, HGO.out]; rfl)
              rw [ndsP_get R hlt, HX.out, ← HNT.out] at hkt
              have hpe : (if 0 ≤ x.nd.parent then (keepTo (ndsP R) (stayP R) i).2.getD x.nd.parent.toNat 0 else x.nd.parent) = pv := by rw [HPN.out, if_pos (by omega), Int.toNat_natCast, ← HPV.out]
              rw [hpe] at hkt
              have hst := HS6.out.snoc (x := { x.nd with parent := pv }) HBW8.out hs68 HKP8.out HR8.out (fun k hk => hk) _ hg5 (by rw [HNS.out] at ho5; exact ho5) ha5
              have hlen : (keepTo (ndsP R) (stayP R) (i + 1)).1.length = nT + 1 := by
                rw [hkt]
                show ((keepTo (ndsP R) (stayP R) i).1 ++ [_]).length = _
                rw [List.length_append, ← HNT.out]; rfl
              refine ⟨i + 1, by omega, by go_num, AGv, AB, cGv, cB, (fun k => D k ∨ (W6.heap.size ≤ k ∧ k < W8.heap.size)), sl ++ [(A2, c2)], A5, c5, ?_, ?_⟩
              · rw [hlen]
              · rw [hkt]
                exact hst
            case measure => simp [intOf]; omega
          · have hge : decide (0 ≤ x.nd.parent) = false := decide_eq_false hp0
            go_upto_region 21 with (fail)
            have HP0 := hid hp0
            have HS6 := HS5'
            have HBX6 := HBX5
            obtain ⟨W6, hW6⟩ : ∃ W6, W6 = W5 := ⟨_, rfl⟩
            rw [← hW6] at HS6 HBX6 hl5 ⊢
            clear hW6 hp0 z1 zf1 HS5' HBX5
            obtain ⟨nS, hnS⟩ : ∃ nS, nS = x.nd.set.length := ⟨_, rfl⟩
            have hset := HS6.out.sets.set i hlt
            rw [HX.out] at hset
            have hks := keys_any x.mb W6
            have hso := sorted_any x.mb x.nd.set W6 hset HSTS.out.1 HSTS.out.2.1 HSTS.out.2.2
            rw [← hnS] at hso
            have HKS := hid hks
            have HSO := hid hso
            have HNS := hid hnS
            have hl6 : W2.heap.size < W6.heap.size := lt_of_block HBX6.out
            have z3 := block_cell HBX6.out (i := 3) rfl
            have hnSb : nS ≤ 3000 := by rw [hnS]; exact HSTS.out.2.2
            clear hset hks hso hnS
            go_upto_region 22 with (first | (go_at_call 38; refine HKS.out.mono ?_; rintro e w' ⟨rfl, rfl⟩) | (go_at_call 37; refine HSO.out.mono ?_; rintro e w7 ⟨A2, c2, rfl, hb7, hr7⟩; have hbx7 := (hb7.block _ hl6).trans HBX6.out; have u2 := block_cell hbx7 (i := 2) rfl; have uf2 := block_free (i := 2) hbx7; have HB7 := hid hb7; have HR7 := hid hr7; have HBX7 := hid hbx7; clear hb7 hr7 hbx7))
            refine wp_gen fun W8 hW8 => ?_
            have hbx8 : W8.heap[W2.heap.size]? = some (.cells #[.int .i64 x.nd.name, .int .i64 x.nd.parent, .slice A2 nS c2, .map (some x.mb), .bool od, .bool true, .bool false] 67 (0, 0)) := by
              rw [hW8, set_block HBX7.out]; rfl
            have hw78 : w7.heap.size = W8.heap.size := by rw [hW8]; simp
            have hbw8 : Below w.heap.size w W8 := by
              rw [hW8]; exact (HS6.out.below.trans (HB7.out.mono HS6.out.below.size)).setCell (p := ⟨W2.heap.size, 2, none⟩) hws _
            have hkp8 : ∀ k, StD (w.heap.size + 1) g R w5.heap.size (w5.heap.size + 1) AGv AB D A9 k → W8.heap[k]? = W6.heap[k]? := fun k hk => by
              rw [hW8]; exact (Below.heap_setCell _ _ _ _ (by show k ≠ W2.heap.size; have := hnbd k hk; omega)).trans (HB7.out.block k (HS6.out.sdlt hk))
            have hr8 : RdI W8 (fun k => W6.heap.size ≤ k ∧ k < W8.heap.size) A2 c2 x.nd.set := by
              have h1 := HR7.out.keep (w' := W8) ⟨by omega, fun k hk _ => by rw [hW8]; exact Below.heap_setCell _ _ _ _ (by show k ≠ W2.heap.size; have hk : W6.heap.size ≤ k := hk; omega)⟩
              exact h1.mono fun k hk hl => ⟨hk, hl⟩
            have hoa := own_agree HS6.out.af.own (W := W8) (fun k hk => hkp8 k (.inr (.inr (.inr (.inl (by rw [hk]; exact ownB _ _ _ _ _))))))
            rw [← HNT.out] at hoa
            have hs68 : W6.heap.size ≤ W8.heap.size := by rw [← hw78]; exact HB7.out.size
            have v0 := block_cell hbx8 (i := 0) rfl
            have v1 := block_cell hbx8 (i := 1) rfl
            have v2 := block_cell hbx8 (i := 2) rfl
            have HOA := hid hoa
            have HR8 := hid hr8
            have HKP8 := hid hkp8
            have HBW8 := hid hbw8
            have hws8 := hbw8.size
            clear hW8 hbx8 hw78 hbw8 hkp8 hr8 hoa u2 uf2 z3
            go_wp2_with (at_builtin; go_must (refine wpList_append_rd _ rfl (.tmp 94) (.tmp 97) 26 rfl w.heap.size 43 i1 _ 3 40 Try.underlying26 htn hy0 hy1 hy2 rfl (by omega) (.slice A9 nT c9) nT _ rfl (HOA.out.alloc _) _ (some ⟨W8.heap.size, 0, none⟩) 1 1 _ rfl (Rd.fresh (D := fun _ => True) rfl trivial rfl (by omega)) (by simp [Value.oneCell']) (by omega) (maxLen_le (by omega)) (by simp; omega) ?_); intro A5 c5 w9 hown5 hg5 hat5; have HO5 := hid hown5; have HG5 := hid hg5; have HAT5 := hid hat5; clear hown5 hg5 hat5)
            go_roundw
            case rel =>
              have ho5 := HO5.out
              have hg5 := HG5.out
              have ha5 := HAT5.out
              rw [HNT.out] at ho5 hg5 ha5
              have hkt := keepTo_take (t := ndsP R) (m := stayP R) (i := i) (by unfold stayP; rw [HX.out, HGO.out]; rfl)
              rw [ndsP_get R hlt, HX.out, ← HNT.out] at hkt
              have hpe : (if 0 ≤ x.nd.parent then (keepTo (ndsP R) (stayP R) i).2.getD x.nd.parent.toNat 0 else x.nd.parent) = x.nd.parent := by rw [if_neg (by have := HP0.out; omega)]
              rw [hpe] at hkt
              have hst := HS6.out.snoc (x := { x.nd with parent := x.nd.parent }) HBW8.out hs68 HKP8.out HR8.out (fun k hk => hk) _ hg5 (by rw [HNS.out] at ho5; exact ho5) ha5
              have hlen : (keepTo (ndsP R) (stayP R) (i + 1)).1.length = nT + 1 := by
                rw [hkt]
                show ((keepTo (ndsP R) (stayP R) i).1 ++ [_]).length = _
                rw [List.length_append, ← HNT.out]; rfl
              refine ⟨i + 1, by omega, by go_num, AGv, AB, cGv, cB, (fun k => D k ∨ (W6.heap.size ≤ k ∧ k < W8.heap.size)), sl ++ [(A2, c2)], A5, c5, ?_, ?_⟩
              · rw [hlen]
              · rw [hkt]
                exact hst
            case measure => simp [intOf]; omega
      · cases od
        · go_wp2_with fail
          go_roundw
          case rel =>
            refine ⟨i + 1, by omega, by go_num, AG, AB, cG, cB, D, sl, A9, c9, ?_, ?_⟩
            · rw [keepTo_skip (by unfold stayP; rw [HX.out, HGO.out]; rfl), ← HNT.out]
            · rw [keepTo_skip (by unfold stayP; rw [HX.out, HGO.out]; rfl), HN1.out, HN2.out]
              have e1 : goodP x = false := by unfold goodP; rw [HGO.out]; rfl
              have e2 : badP x = false := by unfold badP; rw [HOD.out]; simp
              rw [e1, e2]
              simpa using HS3.out
          case measure => simp [intOf]; omega
        · obtain ⟨q0, q1, qf0, qf1⟩ := HS3.out.ev.cells
          rw [← HNB.out] at q1
          have hob := HS3.out.ev.ob
          rw [← HNB.out] at hob
          have HOB := hid hob
          have hne := HS3.out.ev.eb_ne.2.2
          rw [← HNB.out] at hne
          have HNE := hid hne
          have hel := lt_of_block HS3.out.ev.ev
          clear hob hne q0
          go_wp2_with (at_builtin; go_must (refine wpList_append_rd _ rfl (.tmp 54) (.tmp 58) 22 rfl w.heap.size 3 i0 _ 1 8 Try.underlying22 hti hz0 hz1 hz2 rfl (by omega) (.slice AB nB cB) nB _ rfl (HOB.out.alloc _) _ (some ⟨W3.heap.size, 0, none⟩) 1 1 _ rfl (Rd.cell1 (cell_new W3 _ _ _ _ _ rfl rfl)) (by simp [Value.oneCell']) (by omega) (maxLen_le (by omega)) (by simp; omega) ?_); intro A5 c5 w9 hown5 hg5 hat5; have he9 := (hg5.block w5.heap.size (by simp; omega) (fun e => HNE.out e)).trans ((Below.heap_alloc W3 _ _ hel).trans HS3.out.ev.ev); have q1' := block_cell he9 (i := 1) rfl; have qf1' := block_free (i := 1) he9; have HO5 := hid hown5; have HG5 := hid hg5; have HAT5 := hid hat5; clear hown5 hg5 hat5 he9)
          go_roundw
          case rel =>
            have ho5 := HO5.out
            have hg5 := HG5.out
            have ha5 := HAT5.out
            rw [HNB.out] at ho5 hg5 ha5
            obtain ⟨hev, hchg, hdis⟩ := HS3.out.ev.addBad (z := x.nd.name) ((Below.refl _ _).alloc (Nat.le_refl _) _) hg5 ho5 ha5
            have hst := HS3.out.evchg hev hchg hdis
            refine ⟨i + 1, by omega, by go_num, AG, A5, cG, c5, D, sl, A9, c9, ?_, ?_⟩
            · rw [keepTo_skip (by unfold stayP; rw [HX.out, HGO.out]; rfl), ← HNT.out]
            · rw [keepTo_skip (by unfold stayP; rw [HX.out, HGO.out]; rfl), HN1.out, HN2.out]
              have e1 : goodP x = false := by unfold goodP; rw [HGO.out]; rfl
              have e2 : badP x = true := by unfold badP; rw [HOD.out, HGO.out]; rfl
              rw [e1, e2, HNB.out]
              simpa using hst
          case measure => simp [intOf]; omega
    · obtain rfl : i = R.length := by omega
      obtain ⟨q0, q1, -, -⟩ := HSI.out.ev.cells
      obtain ⟨m1, m2, m3⟩ := HSI.out.ev.eb_ne
      obtain ⟨Gd, hGd⟩ : ∃ Gd, Gd = namesP ((R.take R.length).filter goodP) := ⟨_, rfl⟩
      obtain ⟨Bd, hBd⟩ : ∃ Bd, Bd = namesP ((R.take R.length).filter badP) := ⟨_, rfl⟩
      obtain ⟨T, hT⟩ : ∃ T, T = (keepTo (ndsP R) (stayP R) R.length).1 := ⟨_, rfl⟩
      have hGl : Gd.length ≤ 20 := by rw [hGd]; unfold namesP; rw [List.length_map]; exact Nat.le_trans (List.length_filter_le _ _) (by rw [List.length_take]; omega)
      have hBl : Bd.length ≤ 20 := by rw [hBd]; unfold namesP; rw [List.length_map]; exact Nat.le_trans (List.length_filter_le _ _) (by rw [List.length_take]; omega)
      have hTl : T.length ≤ 20 := by rw [hT]; exact Nat.le_trans (keepTo_le _ _ _) hRN
      have hog := HSI.out.ev.og
      have hob := HSI.out.ev.ob
      have hgb := HSI.out.ev.gb
      have hout : OutP R T (Gd.mergeSort fun x y => decide (x ≤ y)) (Bd.mergeSort fun x y => decide (x ≤ y)) := ⟨by rw [hT]; unfold keepZ; rw [ndsP_len], by rw [hGd, List.take_length], by rw [hBd, List.take_length]⟩
      rw [← hGd] at q0 m2 hog hgb
      rw [← hBd] at q1 m3 hob hgb
      have hST := HSI.out
      rw [← hT] at hST
      obtain ⟨nG, hnG⟩ : ∃ nG, nG = Gd.length := ⟨_, rfl⟩
      obtain ⟨nB, hnB⟩ : ∃ nB, nB = Bd.length := ⟨_, rfl⟩
      have hsg := sorti_any w.heap.size AG cG Gd wr hog (by omega)
      rw [← hnG] at hsg q0
      have hsb := fun w8 h => sorti_any w.heap.size AB cB Bd w8 h (by omega)
      rw [← hnB] at hsb q1
      have hev := HSI.out.ev.ev
      rw [← hGd, ← hBd, ← hnG, ← hnB] at hev
      rw [← hT]
      rw [← hnG] at hgb m2 hog
      rw [← hnB] at hgb m3 hob
      have HNG := hid hnG
      have HNB := hid hnB
      have HOUT := hid hout
      have HSTT := hid hST
      have HSG := hid hsg
      have HSB := hid hsb
      have HEVW := hid hev
      have HOBW := hid hob
      have HGB := hid hgb
      have HM2 := hid m2
      have HM3 := hid m3
      have HOGW := hid hog
      have hel := lt_of_block hev
      clear hGd hBd hT hog hob hgb hout hST hnG hnB hsg hsb hev m1 m2 m3
      obtain ⟨nT, hnT⟩ : ∃ nT, nT = T.length := ⟨_, rfl⟩
      rw [← hnT]
      have HNT := hid hnT
      clear hnT
      go_wp2_with fail
      refine HSG.out.mono ?_
      rintro e w8 ⟨rfl, ho8, hg8⟩
      have he8 := (hg8.block _ hel (fun e => HM2.out e)).trans HEVW.out
      have hob8 : w8.ownsRow w.heap.size 3 1 (.slice AB nB cB) nB (Bd.map (.int .i64)) := own_agree HOBW.out fun k hk => hg8.block k (own_some HOBW.out hk).2.1 (fun e => HGB.out k e hk)
      have v1 := block_cell he8 (i := 1) rfl
      have HO8 := hid ho8
      have HG8 := hid hg8
      have HE8 := hid he8
      have HOB8 := hid hob8
      clear ho8 hg8 he8 hob8
      go_wp2_with fail
      refine (HSB.out w8 HOB8.out).mono ?_
      rintro e w9 ⟨rfl, ho9, hg9⟩
      have he9 := (hg9.block _ (lt_of_block HE8.out) (fun e => HM3.out e)).trans HE8.out
      have hrlt := lt_of_block HSTT.out.res
      have hrne : ∀ k, w.heap.size + 1 = k → wr.heap[k]? = some (.cells #[.slice none 0 0, .slice none 0 0] 31 (0, 0)) := fun k hk => by rw [← hk]; exact HSTT.out.res
      have hrt : ∀ {cs : Array Value}, wr.heap[w.heap.size + 1]? = some (.cells cs 3 (0, 0)) → False := fun h9 => by
        rw [HSTT.out.res] at h9
        injection h9 with h9
        injection h9 with _ h9
        exact absurd h9 (by decide)
      have hr1 : some (w.heap.size + 1) ≠ (Value.slice AG nG cG).ownBlock := fun e => by
        obtain ⟨_, _, cs, h9⟩ := own_some HOGW.out e
        exact hrt h9
      have hr2 : some (w.heap.size + 1) ≠ (Value.slice AB nB cB).ownBlock := fun e => by
        obtain ⟨_, _, cs, h9⟩ := own_some HOBW.out e
        exact hrt h9
      have hs89 : wr.heap.size ≤ w8.heap.size := HG8.out.size
      have hres9 : w9.heap[w.heap.size + 1]? = some (.cells #[.slice none 0 0, .slice none 0 0] 31 (0, 0)) := (hg9.block _ (by omega) hr2).trans ((HG8.out.block _ hrlt hr1).trans HSTT.out.res)
      have u0 := block_cell he9 (i := 0) rfl
      have u1 := block_cell he9 (i := 1) rfl
      have t0 := block_cell hres9 (i := 0) rfl
      have t1 := block_cell hres9 (i := 1) rfl
      have tf0 := block_free (i := 0) hres9
      have tf1 := block_free (i := 1) hres9
      have HO9 := hid ho9
      have HG9 := hid hg9
      have HRES9 := hid hres9
      have HR1' := hid hr1
      have HR2' := hid hr2
      clear ho9 hg9 he9 hres9 hrne hrt hr1 hr2
      go_wp2_with fail
      go_still_tail 3, (by kernel_rfl)
      simp only [World.drew_eq]
      go_wp2_with fail
      refine bodyPost_gen fun W9 hW9 => ?_
      have hres : W9.heap[w.heap.size + 1]? = some (.cells #[.slice AG nG cG, .slice AB nB cB] 31 (0, 0)) := by
        rw [hW9]
        show ((w9.setCell _ _).setCell _ _).heap[w.heap.size + 1]? = _
        rw [set_block (set_block HRES9.out _)]; rfl
      have r0 := block_cell hres (i := 0) rfl
      have r1 := block_cell hres (i := 1) rfl
      have hW9b : ∀ k, k ≠ w.heap.size + 1 → W9.heap[k]? = w9.heap[k]? := fun k hk => by
        rw [hW9]
        exact (Below.heap_setCell _ _ _ _ hk).trans (Below.heap_setCell _ _ _ _ hk)
      have hs9 : w8.heap.size ≤ w9.heap.size := HG9.out.size
      have hsW : W9.heap.size = w9.heap.size := by rw [hW9]; simp
      have hbl : Below w.heap.size w W9 := by
        have h1 := HSTT.out.below.grown HG8.out HSTT.out.below.size (fun k hk => (own_some HOGW.out hk.symm).1)
        have h2 := h1.grown HG9.out h1.size (fun k hk => (own_some HOBW.out hk.symm).1)
        rw [hW9]
        exact ((h2.setCell (p := ⟨w.heap.size + 1, 0, none⟩) (by show w.heap.size ≤ w.heap.size + 1; omega) _).setCell (p := ⟨w.heap.size + 1, 1, none⟩) (by show w.heap.size ≤ w.heap.size + 1; omega) _).drew
      have hnod := HSTT.out.nodes (wr' := W9) (by omega) (fun k hl hv hr => by
        rw [hW9b k hr]
        refine (HG9.out.block k (by omega) ?_).trans (HG8.out.block k hl ?_)
        · exact fun e => hv (.inr (.inr (.inr (by rw [e]; exact ownB _ _ _ _ _))))
        · exact fun e => hv (.inr (.inr (.inl (by rw [e]; exact ownB _ _ _ _ _))))) (by omega)
      have hgG : W9.ownsRow w.heap.size 3 1 (.slice AG nG cG) nG ((Gd.mergeSort fun x y => decide (x ≤ y)).map (.int .i64)) := by
        have h8 := HO8.out
        refine own_agree h8 fun k hk => ?_
        have h3 := own_some HOGW.out hk
        rw [hW9b k (fun e => HR1'.out (by rw [← e]; exact hk))]
        exact HG9.out.block k (by omega) (fun e => HGB.out k hk e)
      have hgB : W9.ownsRow w.heap.size 3 1 (.slice AB nB cB) nB ((Bd.mergeSort fun x y => decide (x ≤ y)).map (.int .i64)) := by
        refine own_agree HO9.out fun k hk => hW9b k (fun e => HR2'.out (by rw [← e]; exact hk))
      have hlG : (Gd.mergeSort fun x y => decide (x ≤ y)).length = nG := by rw [List.length_mergeSort, HNG.out]
      have hlB : (Bd.mergeSort fun x y => decide (x ≤ y)).length = nB := by rw [List.length_mergeSort, HNB.out]
      have hfin : StepSays b t a w (.returned (.tuple #[.slice A9 nT c9, .agg #[.slice AG nG cG, .slice AB nB cB]])) W9 := by
        refine ⟨T, Gd.mergeSort fun x y => decide (x ≤ y), Bd.mergeSort fun x y => decide (x ≤ y), A9, AG, AB, c9, cG, cB, by rw [hlG, hlB, HNT.out], hbl, hnod, ?_, ?_, ?_⟩
        · unfold RdI; rw [hlG]; exact Rd.own hgG (by have := HNG.out; omega) (fun k hk => hk)
        · unfold RdI; rw [hlB]; exact Rd.own hgB (by have := HNB.out; omega) (fun k hk => hk)
        · rw [if_pos ⟨HTB.out, a0, a1⟩]; exact ⟨R, HROWS.out, HOUT.out⟩
      exact bodyPost_ret (v := .tuple #[.slice A9 nT c9, .agg #[.slice AG nG cG, .slice AB nB cB]]) (by simp [results, Try.results12, go_sem, r0, r1]) rfl hfin
end Go.Proofs.Ythhknonaebnooaa
