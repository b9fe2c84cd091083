/-
  Walk of the reference: node.
-/
import Derived.Test.YthhknonaebnooaaZ10
set_option linter.unusedVariables false
set_option linter.unusedSimpArgs false
namespace Go.Proofs.Ythhknonaebnooaa
open Go.RowKit
attribute [local go_sem] cell_alloc_old

theorem quiet_add_same {P : Program} {f : FuncId} {args : Array Value} {w : World} {a n : Nat} {v : Value} (h : Calls P f args (w.drewN (a + n)) fun e w' => e = .returned v ∧ w' = w.drewN (a + n)) :
    Calls P f args (w.drewN (a + n)) fun e w'' => e = .returned v ∧ ∃ m, w'' = w.drewN (a + m) :=
  h.mono fun _ _ ⟨he, hm⟩ => ⟨he, n, hm⟩
theorem nd_bad_hd {n : Nat} {t : List Nd} {i : Nat} (h : ¬ (1 ≤ (nd t i).name ∧ (nd t i).name ≤ 2 * (n : Int) ∧ 0 < (nd t i).set.length ∧ (i = 0 → (nd t i).parent = -1) ∧ (0 < i → 0 ≤ (nd t i).parent ∧ (nd t i).parent < (i : Int)))) : nodeB n t i = false := by
  rw [nodeB_eq]
  have : hdB n t i = false := Bool.eq_false_iff.2 fun e => h (hdB_iff.1 e)
  unfold n1B; rw [this]; rfl
theorem nd_bad_st {n : Nat} {t : List Nd} {i k : Nat} (hk : k < (nd t i).set.length) (h : stB n t i k = false) : nodeB n t i = false := by
  rw [nodeB_eq]
  have : allN (nd t i).set.length (stB n t i) = false := allN_false hk h
  unfold n1B; rw [this]; simp
theorem nd_bad_sb {n : Nat} {t : List Nd} {i k : Nat} (hk : k < i) (h : sbB t i k = false) : nodeB n t i = false := by
  rw [nodeB_eq]
  have : allN i (sbB t i) = false := allN_false hk h
  unfold n1B; rw [this]; simp

set_option maxRecDepth 100000 in
set_option maxHeartbeats 8000000 in
theorem node_any {D E : Dom} (v : Value) (b : Bu) (A : Option Addr) (c : Nat) (t : List Nd) (i : Nat) (w : World) (h : RdBu w D v b) (ht : RdN w E A c t) (hi : i < t.length) (hn3 : b.next.length ≤ 3000) (htl : t.length ≤ 10000) (hset : ∀ k, k < t.length → (nd t k).set.length ≤ 3000) :
    Calls Try.prog 48 #[v, .slice A t.length c, .int .i64 (i : Int)] w fun e w' => e = .returned (.bool (nodeB b.next.length t i)) ∧ Below w.heap.size w w' := by
  have HV := hid h.old
  have HT := hid ht.old
  have HSE := hid hset
  obtain ⟨n, hnn⟩ : ∃ n, n = b.next.length := ⟨_, rfl⟩
  obtain ⟨As, cs, An, cn, rfl, ho, hn⟩ := h
  have HNN := hid hnn
  have hii : (i : Int) < t.length := by omega
  obtain ⟨g, o, A2, c2, x, rfl, _, hgl, HX, hr, h0, h1, h2⟩ := HT.out.get hi
  have hnd : nd t i = x := HX.out
  have HND := hid hnd
  have hxl := hr.len.1
  have hxs := HSE.out i hi
  rw [hnd] at hxs
  have HRX := hid hr
  have hbad := nd_bad_hd (n := n) (t := t) (i := i)
  rw [hnd] at hbad
  have HBAD := hid hbad
  rw [← hnn] at hn3 ⊢
  clear ho hn ht hset hr hnd hbad hnn
  go_enter Try.func48, Try.ntmps48
  go_upto_region 2 with (fail)
  refine wp_gen fun W hW => ?_
  obtain ⟨W0, hW0⟩ : ∃ W0, W0 = w.alloc (.cells #[.int .i64 b.letters, .slice As b.start.length cs, .slice An n cn] 25) := ⟨_, rfl⟩
  rw [← hW0] at hW
  have hz0 : W0.heap.size = w.heap.size + 1 := by rw [hW0]; simp
  have hb0 : Below w.heap.size w W0 := by rw [hW0]; go_grown
  have hb1 : Below W0.heap.size W0 W := by rw [hW, hz0]; go_grown
  have hbw : Below w.heap.size w W := hb0.trans (hb1.mono (by omega))
  have hB : W.heap[w.heap.size]? = some (.cells #[.int .i64 b.letters, .slice As b.start.length cs, .slice An n cn] 25 (0, 0)) := by
    refine (hb1.block _ (by omega)).trans ?_
    rw [hW0]; exact heap_alloc_new w _
  have hX : W.heap[w.heap.size + 1]? = some (.cells #[.int .i64 x.name, .int .i64 x.parent, .slice A2 x.set.length c2] 43 (0, 0)) := by
    rw [hW, ← hz0]; exact heap_alloc_new W0 _
  have HBB := hid hB
  have HXB := hid hX
  have HBW := hid hbw
  have NBE := hbw
  have b2 := block_cell hB (i := 2) rfl
  obtain ⟨ln, hln⟩ : ∃ ln, ln = x.set.length := ⟨_, rfl⟩
  rw [← hln] at hX hxl hxs
  have x0 := block_cell hX (i := 0) rfl
  have x1 := block_cell hX (i := 1) rfl
  have x2 := block_cell hX (i := 2) rfl
  have HLN := hid hln
  have hws := hbw.size
  clear hW hW0 hz0 hb0 hb1 hbw hB hX hln h0 h1 h2
  by_cases n1 : x.name < 1
  · have n1d : decide (x.name < 1) = true := decide_eq_true n1
    have N1 := hid n1
    clear n1
    go_wp2_with fail
    go_ret
    exact ⟨ret_bool (Eq.symm (HBAD.out (fun h => by have := h.1; have := N1.out; omega))), NBE⟩
  have n1d : decide (x.name < 1) = false := decide_eq_false n1
  by_cases n2 : 2 * (n : Int) < x.name
  · have n2d : decide (2 * (n : Int) < x.name) = true := decide_eq_true n2
    have N2 := hid n2
    clear n1 n2
    go_wp2_with fail
    go_ret
    exact ⟨ret_bool (Eq.symm (HBAD.out (fun h => by have := h.2.1; have := N2.out; omega))), NBE⟩
  have n2d : decide (2 * (n : Int) < x.name) = false := decide_eq_false n2
  by_cases n4 : ln = 0
  · have n4d : ((ln : Int) == 0) = true := by simp [n4]
    have N4 := hid n4
    clear n1 n2 n4
    go_wp2_with fail
    go_ret
    exact ⟨ret_bool (Eq.symm (HBAD.out (fun h => by have := h.2.2.1; have := N4.out; have := HLN.out; omega))), NBE⟩
  have n4d : ((ln : Int) == 0) = false := beq_eq_false_iff_ne.2 (by omega)
  have HN := hid (show 1 ≤ x.name ∧ x.name ≤ 2 * (n : Int) ∧ 0 < ln from ⟨by omega, by omega, by omega⟩)
  clear n1 n2 n4
  by_cases hz : i = 0
  · have hze : ((i : Int) == 0) = true := by simp [hz]
    have hzd : decide ((0 : Int) < (i : Int)) = false := decide_eq_false (by omega)
    have hzn : ¬ 0 < i := by omega
    have HZ := hid hz
    by_cases hp : x.parent = -1
    · have hpe : (x.parent == (-1 : Int)) = true := by simp [hp]
      have hp5 : decide ((i : Int) ≤ x.parent) = false := decide_eq_false (by omega)
      have hp6 : decide (x.parent < (-1 : Int)) = false := decide_eq_false (by omega)
      have HP := hid hp
      clear hz hp
      go_wp2_with fail
      go_loopw [8] (fun q wr => ∃ k : Nat, k ≤ ln ∧ q = .int .i64 (k : Int) ∧ SoFar k (stB n t i) ∧ Drawn W wr) (fun q _ => ln - (intOf q).toNat)
      case atStart => exact ⟨0, Nat.zero_le _, rfl, SoFar.zero _, Drawn.refl _⟩
      case round =>
        obtain ⟨k, hk, rfl, hso, hd⟩ := hrel
        have HSO := hid hso
        have HD := hid hd
        have hcw : ∀ p : Addr, p.block < W.heap.size → wr.cell? p = W.cell? p := fun p hp => (hd.below W.heap.size).cell hp
        have b2 := (hcw ⟨w.heap.size, 2, none⟩ (World.block_lt_of_cell? W _ b2)).trans b2
        have x0 := (hcw ⟨w.heap.size + 1, 0, none⟩ (World.block_lt_of_cell? W _ x0)).trans x0
        have x1 := (hcw ⟨w.heap.size + 1, 1, none⟩ (World.block_lt_of_cell? W _ x1)).trans x1
        have x2 := (hcw ⟨w.heap.size + 1, 2, none⟩ (World.block_lt_of_cell? W _ x2)).trans x2
        have hbe : Below w.heap.size w wr := HBW.out.trans (hd.below _)
        have HRW := hid (HRX.out.keep (Keeps.of_below hbe fun _ h => h))
        have HBE := hid hbe
        clear hso hd hcw hbe
        by_cases hlk : k < ln
        · obtain ⟨b5, o5, s, rfl, _, hsl, HSV, hcs⟩ := HRW.out.get (show k < x.set.length by rw [← HLN.out]; exact hlk)
          have hki : (k : Int) < ln := by omega
          have hst := stB_iff (n := n) (t := t) (i := i) (k := k)
          rw [HND.out, HSV.out] at hst
          have HST := hid hst
          have HKL := hid (show k < (nd t i).set.length by rw [HND.out, ← HLN.out]; exact hlk)
          clear hst
          by_cases c1 : s < 0
          · have c1d : decide (s < 0) = true := decide_eq_true c1
            have C1 := hid c1
            clear c1
            go_wp2_with fail
            go_quiet (fail)
            go_wp2_with fail
            go_ret
            exact ⟨ret_bool (Eq.symm (nd_bad_st HKL.out (Bool.eq_false_iff.2 fun e => by have := (HST.out.1 e).1; have := C1.out; omega))), HBE.out.trans ((Drawn.n wr _).below _)⟩
          have c1d : decide (s < 0) = false := decide_eq_false c1
          by_cases c2 : (n : Int) ≤ s
          · have c2d : decide ((n : Int) ≤ s) = true := decide_eq_true c2
            have C2 := hid c2
            clear c1 c2
            go_wp2_with fail
            go_quiet (fail)
            go_wp2_with fail
            go_ret
            exact ⟨ret_bool (Eq.symm (nd_bad_st HKL.out (Bool.eq_false_iff.2 fun e => by have := (HST.out.1 e).2.1; have := C2.out; omega))), HBE.out.trans ((Drawn.n wr _).below _)⟩
          have c2d : decide ((n : Int) ≤ s) = false := decide_eq_false c2
          by_cases hk0 : k = 0
          · have kd : decide ((0 : Int) < (k : Int)) = false := decide_eq_false (by omega)
            have kn : ¬ 0 < k := by omega
            have HOK := hid (show 0 ≤ s ∧ s < (n : Int) ∧ (0 < k → x.set.getD (k - 1) 0 < s) from ⟨by omega, by omega, fun h => absurd h kn⟩)
            clear c1 c2 hk0
            go_wp2_with fail
            go_quiet (fail)
            go_wp2_with fail
            go_roundw
            case rel => exact ⟨k + 1, by omega, by go_num, HSO.out.succ (HST.out.2 ⟨HOK.out.1, HOK.out.2.1, HOK.out.2.2, fun h => absurd h hzn⟩), HD.out.drewN _⟩
            case measure => simp [intOf]; omega
          · have kd : decide ((0 : Int) < (k : Int)) = true := decide_eq_true (by omega)
            have kn : 0 < k := by omega
            obtain ⟨k', hk'⟩ : ∃ k', k = k' + 1 := ⟨k - 1, by omega⟩
            obtain ⟨b6, o6, y6, hA6, _, _, HY6, hcy⟩ := HRW.out.get (show k' < x.set.length by rw [← HLN.out]; omega)
            injection hA6 with hA6
            injection hA6 with e1 e2
            subst e1 e2
            have hw1 : IntKind.i64.wrap ((k : Int) - 1) = (k' : Int) := by rw [IntWalk.i64_in _ (by omega)]; omega
            have hw2 : (k : Int) - 1 = (k' : Int) := by omega
            have hk2 : (k' : Int) < ln := by omega
            have hk20 : (0 : Int) ≤ (k' : Int) := by omega
            have hky : x.set.getD (k - 1) 0 = y6 := by rw [show k - 1 = k' by omega]; exact HY6.out
            have HKY := hid hky
            by_cases c4 : s ≤ y6
            · have c4d : decide (s ≤ y6) = true := decide_eq_true c4
              have C4 := hid c4
              clear c1 c2 hk0 hk' hky c4
              go_wp2_with fail
              go_quiet (fail)
              go_wp2_with fail
              go_ret
              exact ⟨ret_bool (Eq.symm (nd_bad_st HKL.out (Bool.eq_false_iff.2 fun e => by have := (HST.out.1 e).2.2.1 kn; rw [HKY.out] at this; have := C4.out; omega))), HBE.out.trans ((Drawn.n wr _).below _)⟩
            · have c4d : decide (s ≤ y6) = false := decide_eq_false c4
              have HOK := hid (show 0 ≤ s ∧ s < (n : Int) ∧ (0 < k → x.set.getD (k - 1) 0 < s) from ⟨by omega, by omega, fun _ => by rw [hky]; omega⟩)
              clear c1 c2 hk0 hk' hky c4
              go_wp2_with fail
              go_quiet (fail)
              go_wp2_with fail
              go_roundw
              case rel => exact ⟨k + 1, by omega, by go_num, HSO.out.succ (HST.out.2 ⟨HOK.out.1, HOK.out.2.1, HOK.out.2.2, fun h => absurd h hzn⟩), HD.out.drewN _⟩
              case measure => simp [intOf]; omega
        · have hke : k = ln := by omega
          have HALL := hid (show allN (nd t i).set.length (stB n t i) = true from HSO.out.all (by rw [HND.out, ← HLN.out]; omega))
          clear hke
          have HWR := HD
          go_wp2_with fail
          go_loopw [9] (fun q wr => ∃ k : Nat, k ≤ i ∧ q = .int .i64 (k : Int) ∧ SoFar k (sbB t i) ∧ Drawn W wr) (fun q _ => i - (intOf q).toNat)
          case atStart => exact ⟨0, Nat.zero_le _, rfl, SoFar.zero _, HD.out⟩
          case round =>
            clear HSO HD HRW HBE
            obtain ⟨k, hk, rfl, hso, hd⟩ := hrel
            have HSO := hid hso
            have HD := hid hd
            have hcw : ∀ p : Addr, p.block < W.heap.size → wr.cell? p = W.cell? p := fun p hp => (hd.below W.heap.size).cell hp
            have hl0 := lt_of_block HXB.out
            have xb := HXB.out
            rw [← HLN.out] at xb
            have x0 := (hcw ⟨w.heap.size + 1, 0, none⟩ hl0).trans (block_cell xb (i := 0) rfl)
            have x1 := (hcw ⟨w.heap.size + 1, 1, none⟩ hl0).trans (block_cell xb (i := 1) rfl)
            have x2 := (hcw ⟨w.heap.size + 1, 2, none⟩ hl0).trans (block_cell xb (i := 2) rfl)
            have hbe : Below w.heap.size w wr := HBW.out.trans (hd.below _)
            have HRW := hid (HRX.out.keep (Keeps.of_below hbe fun _ h => h))
            have HTW := hid (HT.out.keep (Keeps.of_below hbe fun _ h => h))
            have HBE := hid hbe
            have hwl : w.heap.size ≤ wr.heap.size := hbe.size
            clear hso hd hcw hbe hl0 xb
            by_cases hlk : k < i
            · exact absurd hlk (by have := HZ.out; omega)
            · have HAL2 := hid (show allN i (sbB t i) = true from HSO.out.all (by omega))
              obtain ⟨un, hun⟩ : ∃ un, un = (unionZ t (i : Int)).length := ⟨_, rfl⟩
              have hcall : ∀ W', Below wr.heap.size wr W' → Calls Try.prog 67 #[.slice (some ⟨g, o, none⟩) t.length c, .int .i64 (i : Int)] W' fun e w' => ∃ A' c', e = .returned (.slice A' un c') ∧ Below W'.heap.size W' w' := fun W' hb => by
                refine (union_any (some ⟨g, o, none⟩) c t (i : Int) W' (HTW.out.keep (Keeps.of_below hb fun k hk => by have hk : k < w.heap.size := hk; omega)) htl HSE.out).mono ?_
                rintro e w' ⟨A', c', rfl, hb', _⟩
                exact ⟨A', c', by rw [hun], hb'⟩
              have HCALL := hid hcall
              have HUN := hid hun
              have hnode : nodeB n t i = decide (un < ln) := by
                rw [nodeB_eq]
                unfold n1B n2B
                rw [HALL.out, HAL2.out, HND.out, ← HLN.out, ← hun]
                have : hdB n t i = true := hdB_iff.2 (by rw [HND.out, ← HLN.out]; exact ⟨HN.out.1, HN.out.2.1, HN.out.2.2, fun _ => HP.out, fun h => absurd h hzn⟩)
                rw [this]; rfl
              have HNODE := hid hnode
              have hxl9 : w.heap.size + 1 < wr.heap.size := World.block_lt_of_cell? wr _ x2
              have HKX := hid (fun (W' : World) (hb : Below wr.heap.size wr W') => show W'.cell? ⟨w.heap.size + 1, 2, none⟩ = some (.slice A2 ln c2) from (hb.cell (p := ⟨w.heap.size + 1, 2, none⟩) hxl9).trans x2)
              have HB0 := hid (show Below wr.heap.size wr wr.drew from (Below.refl _ _).drew)
              clear hun hcall hnode
              by_cases hu : un < ln
              · have hud : decide (un < ln) = true := decide_eq_true hu
                have hui : decide ((un : Int) < (ln : Int)) = true := decide_eq_true (by omega)
                have HU := hid hu
                clear hu
                go_upto_region 19 with (fail)
                go_region_held3 (fun w' => w'.cell? ⟨w.heap.size + 1, 2, none⟩ = some (.slice A2 ln c2)) (first | (with_reducible exact HKX.out _ HB0.out) | (with_reducible exact HKX.out _ (HB0.out.trans (hb9.mono (Nat.le_refl _)))) | (go_keep; done)) (first | (go_at_call 67; with_reducible refine (HCALL.out _ HB0.out).mono ?_; rintro e w9 ⟨A9, c9, rfl, hb9⟩))
                all_goals
                  go_wp2_with fail
                  go_ret
                  exact ⟨ret_bool (by rw [HNODE.out]; exact (decide_eq_true HU.out).symm), HBE.out.trans ((HB0.out.trans (hb9.mono (Nat.le_refl _))).mono hwl)⟩
              · have hud : decide (un < ln) = false := decide_eq_false hu
                have hui : decide ((un : Int) < (ln : Int)) = false := decide_eq_false (by omega)
                have HU := hid hu
                clear hu
                go_upto_region 19 with (fail)
                go_region_held3 (fun w' => w'.cell? ⟨w.heap.size + 1, 2, none⟩ = some (.slice A2 ln c2)) (first | (with_reducible exact HKX.out _ HB0.out) | (with_reducible exact HKX.out _ (HB0.out.trans (hb9.mono (Nat.le_refl _)))) | (go_keep; done)) (first | (go_at_call 67; with_reducible refine (HCALL.out _ HB0.out).mono ?_; rintro e w9 ⟨A9, c9, rfl, hb9⟩))
                all_goals
                  go_wp2_with fail
                  go_ret
                  exact ⟨ret_bool (by rw [HNODE.out]; exact (decide_eq_false HU.out).symm), HBE.out.trans ((HB0.out.trans (hb9.mono (Nat.le_refl _))).mono hwl)⟩
    · have hpe : (x.parent == (-1 : Int)) = false := beq_eq_false_iff_ne.2 hp
      have HP := hid hp
      clear hz hp
      go_wp2_with fail
      go_ret
      exact ⟨ret_bool (Eq.symm (HBAD.out (fun h => HP.out (h.2.2.2.1 HZ.out)))), NBE⟩
  · have hze : ((i : Int) == 0) = false := beq_eq_false_iff_ne.2 (by omega)
    have hzd : decide ((0 : Int) < (i : Int)) = true := decide_eq_true (by omega)
    have hzn : 0 < i := by omega
    by_cases hp : x.parent = -1
    · have hpe : (x.parent == (-1 : Int)) = true := by simp [hp]
      have HP := hid hp
      clear hz hp
      go_wp2_with fail
      go_ret
      exact ⟨ret_bool (Eq.symm (HBAD.out (fun h => by have := (h.2.2.2.2 hzn).1; have := HP.out; omega))), NBE⟩
    · have hpe : (x.parent == (-1 : Int)) = false := beq_eq_false_iff_ne.2 hp
      by_cases h5 : (i : Int) ≤ x.parent
      · have h5d : decide ((i : Int) ≤ x.parent) = true := decide_eq_true h5
        have HP := hid h5
        clear hz hp h5
        go_wp2_with fail
        go_ret
        exact ⟨ret_bool (Eq.symm (HBAD.out (fun h => by have := (h.2.2.2.2 hzn).2; have := HP.out; omega))), NBE⟩
      · have h5d : decide ((i : Int) ≤ x.parent) = false := decide_eq_false h5
        by_cases h6 : x.parent < -1
        · have h6d : decide (x.parent < (-1 : Int)) = true := decide_eq_true h6
          have HP := hid h6
          clear hz hp h5 h6
          go_wp2_with fail
          go_ret
          exact ⟨ret_bool (Eq.symm (HBAD.out (fun h => by have := (h.2.2.2.2 hzn).1; have := HP.out; omega))), NBE⟩
        · have h6d : decide (x.parent < (-1 : Int)) = false := decide_eq_false h6
          obtain ⟨pn, hpn⟩ : ∃ pn : Nat, x.parent = (pn : Int) := ⟨x.parent.toNat, by omega⟩
          have hpi : pn < i := by omega
          have HPN := hid hpn
          obtain ⟨gp, op, AP, cP, y, hAP, _, _, HY, hy, p0, p1, p2⟩ := HT.out.get (show pn < t.length by omega)
          injection hAP with hAP
          injection hAP with e1 e2
          subst e1 e2
          have hyl := hy.len.1
          have hpt : (pn : Int) < t.length := by omega
          have p2 := (HBW.out.cell (p := ⟨g, o + pn * 3 + 2, none⟩) hgl).trans p2
          have HYR := hid hy
          have HYN := hid (show nd t x.parent.toNat = y by rw [hpn, Int.toNat_natCast]; exact HY.out)
          clear hy p0 p1 hz hp h5 h6
          rw [hpn] at x1 hpe h5d h6d
          clear hpn
          go_wp2_with fail
          go_loopw [8] (fun q wr => ∃ k : Nat, k ≤ ln ∧ q = .int .i64 (k : Int) ∧ SoFar k (stB n t i) ∧ Drawn W wr) (fun q _ => ln - (intOf q).toNat)
          case atStart => exact ⟨0, Nat.zero_le _, rfl, SoFar.zero _, Drawn.refl _⟩
          case round =>
            obtain ⟨k, hk, rfl, hso, hd⟩ := hrel
            have HSO := hid hso
            have HD := hid hd
            have hcw : ∀ p : Addr, p.block < W.heap.size → wr.cell? p = W.cell? p := fun p hp => (hd.below W.heap.size).cell hp
            have b2 := (hcw ⟨w.heap.size, 2, none⟩ (World.block_lt_of_cell? W _ b2)).trans b2
            have x0 := (hcw ⟨w.heap.size + 1, 0, none⟩ (World.block_lt_of_cell? W _ x0)).trans x0
            have x1 := (hcw ⟨w.heap.size + 1, 1, none⟩ (World.block_lt_of_cell? W _ x1)).trans x1
            have x2 := (hcw ⟨w.heap.size + 1, 2, none⟩ (World.block_lt_of_cell? W _ x2)).trans x2
            have p2 := (hcw ⟨g, o + pn * 3 + 2, none⟩ (World.block_lt_of_cell? W _ p2)).trans p2
            have hbe : Below w.heap.size w wr := HBW.out.trans (hd.below _)
            have HRW := hid (HRX.out.keep (Keeps.of_below hbe fun _ h => h))
            have HBE := hid hbe
            clear hso hd hcw hbe
            by_cases hlk : k < ln
            · obtain ⟨b5, o5, s, rfl, _, hsl, HSV, hcs⟩ := HRW.out.get (show k < x.set.length by rw [← HLN.out]; exact hlk)
              have hki : (k : Int) < ln := by omega
              have hst := stB_iff (n := n) (t := t) (i := i) (k := k)
              rw [HND.out, HSV.out] at hst
              have HST := hid hst
              have HKL := hid (show k < (nd t i).set.length by rw [HND.out, ← HLN.out]; exact hlk)
              clear hst
              by_cases c1 : s < 0
              · have c1d : decide (s < 0) = true := decide_eq_true c1
                have C1 := hid c1
                clear c1
                go_wp2_with fail
                go_quiet (fail)
                go_wp2_with fail
                go_ret
                exact ⟨ret_bool (Eq.symm (nd_bad_st HKL.out (Bool.eq_false_iff.2 fun e => by have := (HST.out.1 e).1; have := C1.out; omega))), HBE.out.trans ((Drawn.n wr _).below _)⟩
              have c1d : decide (s < 0) = false := decide_eq_false c1
              by_cases c2 : (n : Int) ≤ s
              · have c2d : decide ((n : Int) ≤ s) = true := decide_eq_true c2
                have C2 := hid c2
                clear c1 c2
                go_wp2_with fail
                go_quiet (fail)
                go_wp2_with fail
                go_ret
                exact ⟨ret_bool (Eq.symm (nd_bad_st HKL.out (Bool.eq_false_iff.2 fun e => by have := (HST.out.1 e).2.1; have := C2.out; omega))), HBE.out.trans ((Drawn.n wr _).below _)⟩
              have c2d : decide ((n : Int) ≤ s) = false := decide_eq_false c2
              by_cases hk0 : k = 0
              · have kd : decide ((0 : Int) < (k : Int)) = false := decide_eq_false (by omega)
                have kn : ¬ 0 < k := by omega
                have HOK := hid (show 0 ≤ s ∧ s < (n : Int) ∧ (0 < k → x.set.getD (k - 1) 0 < s) from ⟨by omega, by omega, fun h => absurd h kn⟩)
                clear c1 c2 hk0
                obtain ⟨bi, hbi⟩ : ∃ bi, inB y.set s = bi := ⟨_, rfl⟩
                have hin : ∀ m, Calls Try.prog 26 #[.slice AP y.set.length cP, .int .i64 s] (wr.drewN m) fun e w' => e = .returned (.bool bi) ∧ w' = wr.drewN m := fun m => by
                  rw [← hbi]; exact in_any _ _ _ _ _ (HYR.out.keep (Keeps.of_below (HBE.out.trans ((Drawn.n wr m).below _)) fun _ h => h))
                have HIN := hid hin
                have HBI := hid hbi
                clear hin hbi
                cases bi
                · go_wp2_with fail
                  go_quiet ((go_at_call 26; exact Calls.quiet_of_same (HIN.out _)))
                  go_wp2_with fail
                  go_ret
                  exact ⟨ret_bool (Eq.symm (nd_bad_st HKL.out (Bool.eq_false_iff.2 fun e => by have h9 := inB_iff.2 ((HST.out.1 e).2.2.2 hzn); rw [HYN.out, HBI.out] at h9; cases h9))), HBE.out.trans ((Drawn.n wr _).below _)⟩
                · go_wp2_with fail
                  go_quiet ((go_at_call 26; exact Calls.quiet_of_same (HIN.out _)))
                  go_wp2_with fail
                  go_roundw
                  case rel => exact ⟨k + 1, by omega, by go_num, HSO.out.succ (HST.out.2 ⟨HOK.out.1, HOK.out.2.1, HOK.out.2.2, fun _ => by rw [HYN.out]; exact inB_iff.1 HBI.out⟩), HD.out.drewN _⟩
                  case measure => simp [intOf]; omega
              · have kd : decide ((0 : Int) < (k : Int)) = true := decide_eq_true (by omega)
                have kn : 0 < k := by omega
                obtain ⟨k', hk'⟩ : ∃ k', k = k' + 1 := ⟨k - 1, by omega⟩
                obtain ⟨b6, o6, y6, hA6, _, _, HY6, hcy⟩ := HRW.out.get (show k' < x.set.length by rw [← HLN.out]; omega)
                injection hA6 with hA6
                injection hA6 with e1 e2
                subst e1 e2
                have hw1 : IntKind.i64.wrap ((k : Int) - 1) = (k' : Int) := by rw [IntWalk.i64_in _ (by omega)]; omega
                have hw2 : (k : Int) - 1 = (k' : Int) := by omega
                have hk2 : (k' : Int) < ln := by omega
                have hk20 : (0 : Int) ≤ (k' : Int) := by omega
                have hky : x.set.getD (k - 1) 0 = y6 := by rw [show k - 1 = k' by omega]; exact HY6.out
                have HKY := hid hky
                by_cases c4 : s ≤ y6
                · have c4d : decide (s ≤ y6) = true := decide_eq_true c4
                  have C4 := hid c4
                  clear c1 c2 hk0 hk' hky c4
                  go_wp2_with fail
                  go_quiet (fail)
                  go_wp2_with fail
                  go_ret
                  exact ⟨ret_bool (Eq.symm (nd_bad_st HKL.out (Bool.eq_false_iff.2 fun e => by have := (HST.out.1 e).2.2.1 kn; rw [HKY.out] at this; have := C4.out; omega))), HBE.out.trans ((Drawn.n wr _).below _)⟩
                · have c4d : decide (s ≤ y6) = false := decide_eq_false c4
                  have HOK := hid (show 0 ≤ s ∧ s < (n : Int) ∧ (0 < k → x.set.getD (k - 1) 0 < s) from ⟨by omega, by omega, fun _ => by rw [hky]; omega⟩)
                  clear c1 c2 hk0 hk' hky c4
                  obtain ⟨bi, hbi⟩ : ∃ bi, inB y.set s = bi := ⟨_, rfl⟩
                  have hin : ∀ m, Calls Try.prog 26 #[.slice AP y.set.length cP, .int .i64 s] (wr.drewN m) fun e w' => e = .returned (.bool bi) ∧ w' = wr.drewN m := fun m => by
                    rw [← hbi]; exact in_any _ _ _ _ _ (HYR.out.keep (Keeps.of_below (HBE.out.trans ((Drawn.n wr m).below _)) fun _ h => h))
                  have HIN := hid hin
                  have HBI := hid hbi
                  clear hin hbi
                  cases bi
                  · go_wp2_with fail
                    go_quiet ((go_at_call 26; exact Calls.quiet_of_same (HIN.out _)))
                    go_wp2_with fail
                    go_ret
                    exact ⟨ret_bool (Eq.symm (nd_bad_st HKL.out (Bool.eq_false_iff.2 fun e => by have h9 := inB_iff.2 ((HST.out.1 e).2.2.2 hzn); rw [HYN.out, HBI.out] at h9; cases h9))), HBE.out.trans ((Drawn.n wr _).below _)⟩
                  · go_wp2_with fail
                    go_quiet ((go_at_call 26; exact Calls.quiet_of_same (HIN.out _)))
                    go_wp2_with fail
                    go_roundw
                    case rel => exact ⟨k + 1, by omega, by go_num, HSO.out.succ (HST.out.2 ⟨HOK.out.1, HOK.out.2.1, HOK.out.2.2, fun _ => by rw [HYN.out]; exact inB_iff.1 HBI.out⟩), HD.out.drewN _⟩
                    case measure => simp [intOf]; omega
            · have hke : k = ln := by omega
              have HALL := hid (show allN (nd t i).set.length (stB n t i) = true from HSO.out.all (by rw [HND.out, ← HLN.out]; omega))
              clear hke
              have HWR := HD
              go_wp2_with fail
              go_loopw [9] (fun q wr => ∃ k : Nat, k ≤ i ∧ q = .int .i64 (k : Int) ∧ SoFar k (sbB t i) ∧ Drawn W wr) (fun q _ => i - (intOf q).toNat)
              case atStart => exact ⟨0, Nat.zero_le _, rfl, SoFar.zero _, HD.out⟩
              case round =>
                clear HSO HD HRW HBE
                obtain ⟨k, hk, rfl, hso, hd⟩ := hrel
                have HSO := hid hso
                have HD := hid hd
                have hcw : ∀ p : Addr, p.block < W.heap.size → wr.cell? p = W.cell? p := fun p hp => (hd.below W.heap.size).cell hp
                have hl0 := lt_of_block HXB.out
                have xb := HXB.out
                rw [← HLN.out, HPN.out] at xb
                have x0 := (hcw ⟨w.heap.size + 1, 0, none⟩ hl0).trans (block_cell xb (i := 0) rfl)
                have x1 := (hcw ⟨w.heap.size + 1, 1, none⟩ hl0).trans (block_cell xb (i := 1) rfl)
                have x2 := (hcw ⟨w.heap.size + 1, 2, none⟩ hl0).trans (block_cell xb (i := 2) rfl)
                have hbe : Below w.heap.size w wr := HBW.out.trans (hd.below _)
                have HRW := hid (HRX.out.keep (Keeps.of_below hbe fun _ h => h))
                have HTW := hid (HT.out.keep (Keeps.of_below hbe fun _ h => h))
                have HBE := hid hbe
                have hwl : w.heap.size ≤ wr.heap.size := hbe.size
                clear hso hd hcw hbe hl0 xb
                by_cases hlk : k < i
                · obtain ⟨g7, o7, AZ, cZ, z, hAZ, _, _, HZZ, hzr, q0, q1, q2⟩ := HTW.out.get (show k < t.length by omega)
                  injection hAZ with hAZ
                  injection hAZ with e1 e2
                  subst e1 e2
                  have hzl := hzr.len.1
                  have hki : (k : Int) < i := by omega
                  have hkt : (k : Int) < t.length := by omega
                  have HZN := hid (show nd t k = z from HZZ.out)
                  have hsb := sbB_iff (t := t) (i := i) (k := k)
                  rw [HND.out, HZN.out] at hsb
                  have HSB := hid hsb
                  have HZR := hid hzr
                  clear hsb hzr
                  by_cases d1 : z.name = x.name
                  · have d1e : (z.name == x.name) = true := beq_iff_eq.2 d1
                    have D1 := hid d1
                    clear d1
                    go_wp2_with fail
                    go_quiet (fail)
                    go_wp2_with fail
                    go_ret
                    exact ⟨ret_bool (Eq.symm (nd_bad_sb hlk (Bool.eq_false_iff.2 fun e => (HSB.out.1 e).1 D1.out))), HBE.out.trans ((Drawn.n wr _).below _)⟩
                  · have d1e : (z.name == x.name) = false := beq_eq_false_iff_ne.2 d1
                    have D1 := hid d1
                    clear d1
                    obtain ⟨W5, hW5⟩ : ∃ W5, W5 = wr := ⟨_, rfl⟩
                    rw [← hW5] at HD HRW HTW HBE HZR hwl x0 x1 x2 q0 q1 q2 ⊢
                    clear hW5
                    by_cases d2 : z.parent = (pn : Int)
                    · have d2e : (z.parent == (pn : Int)) = true := beq_iff_eq.2 d2
                      have D2 := hid d2
                      clear d2
                      go_wp2_with fail
                      go_quiet (fail)
                      go_wp2_with fail
                      go_loopw [10] (fun q wr => ∃ j : Nat, j ≤ ln ∧ q = .int .i64 (j : Int) ∧ (∀ q, q < j → x.set.getD q 0 ∉ z.set) ∧ Drawn W5 wr) (fun q _ => ln - (intOf q).toNat)
                      case atStart => exact ⟨0, Nat.zero_le _, rfl, fun q hq => absurd hq (Nat.not_lt_zero _), (Drawn.refl _).drewN _⟩
                      case round =>
                        obtain ⟨j, hj, rfl, hno, hd⟩ := hrel
                        have HNO := hid hno
                        have HD6 := hid hd
                        have hcw : ∀ p : Addr, p.block < W5.heap.size → wr.cell? p = W5.cell? p := fun p hp => (hd.below W5.heap.size).cell hp
                        have x1 := (hcw ⟨w.heap.size + 1, 1, none⟩ (World.block_lt_of_cell? W5 _ x1)).trans x1
                        have x2 := (hcw ⟨w.heap.size + 1, 2, none⟩ (World.block_lt_of_cell? W5 _ x2)).trans x2
                        have q1 := (hcw ⟨g, o + k * 3 + 1, none⟩ (World.block_lt_of_cell? W5 _ q1)).trans q1
                        have q2 := (hcw ⟨g, o + k * 3 + 2, none⟩ (World.block_lt_of_cell? W5 _ q2)).trans q2
                        have HZ6 := hid (HZR.out.keep hd.keeps)
                        have HR6 := hid (HRW.out.keep hd.keeps)
                        clear hno hd hcw
                        by_cases hjl : j < ln
                        · obtain ⟨b8, o8, s, hA8, _, _, HSV, hcs⟩ := HR6.out.get (show j < x.set.length by rw [← HLN.out]; exact hjl)
                          subst hA8
                          have hji : (j : Int) < ln := by omega
                          have hjd : decide ((j : Int) < (ln : Int)) = true := decide_eq_true hji
                          obtain ⟨bi, hbi⟩ : ∃ bi, inB z.set s = bi := ⟨_, rfl⟩
                          have hin : ∀ m, Calls Try.prog 26 #[.slice AZ z.set.length cZ, .int .i64 s] (wr.drewN m) fun e w' => e = .returned (.bool bi) ∧ w' = wr.drewN m := fun m => by
                            rw [← hbi]; exact in_any _ _ _ _ _ (HZ6.out.keep (Drawn.n wr m).keeps)
                          have HIN := hid hin
                          have HBI := hid hbi
                          clear hin hbi
                          cases bi
                          · go_wp2_with fail
                            go_quiet (fail)
                            go_wp2_with fail
                            go_quiet ((go_at_call 26; first | exact Calls.quiet_of_same (HIN.out _) | exact quiet_add_same (HIN.out _)))
                            go_wp2_with fail
                            go_roundw
                            case rel =>
                              refine ⟨j + 1, by omega, by go_num, fun q hq => ?_, HD6.out.drewN _⟩
                              by_cases e : q = j
                              · rw [e, HSV.out]; intro hm; have h9 := HBI.out; rw [inB_iff.2 hm] at h9; cases h9
                              · exact HNO.out q (by omega)
                            case measure => simp [intOf]; omega
                          · go_wp2_with fail
                            go_quiet (fail)
                            go_wp2_with fail
                            go_quiet ((go_at_call 26; first | exact Calls.quiet_of_same (HIN.out _) | exact quiet_add_same (HIN.out _)))
                            go_wp2_with fail
                            go_ret
                            refine ⟨ret_bool (Eq.symm (nd_bad_sb hlk (Bool.eq_false_iff.2 fun e => (HSB.out.1 e).2 (by rw [D2.out, HPN.out]) s ?_ (inB_iff.1 HBI.out)))), HBE.out.trans (((HD6.out.drewN _).drewN _).below _)⟩
                            have h9 := HSV.out
                            have hjx : j < x.set.length := by rw [← HLN.out]; exact hjl
                            rw [← h9]; simp [List.getD, hjx]
                        · have hje : j = ln := by omega
                          have hjd : decide ((j : Int) < (ln : Int)) = false := decide_eq_false (by omega)
                          have HJE := hid hje
                          clear hje
                          go_wp2_with fail
                          go_quiet (fail)
                          go_wp2_with fail
                          go_roundw
                          case rel =>
                            refine ⟨k + 1, by omega, by go_num, HSO.out.succ (HSB.out.2 ⟨D1.out, fun _ s hs hz => ?_⟩), (HD.out.trans HD6.out).drewN _⟩
                            obtain ⟨q, hq, rfl⟩ := List.getElem_of_mem hs
                            refine HNO.out q (by rw [HJE.out, HLN.out]; exact hq) ?_
                            simpa [List.getD, hq] using hz
                          case measure => simp [intOf]; omega
                    · have d2e : (z.parent == (pn : Int)) = false := beq_eq_false_iff_ne.2 d2
                      have D2 := hid d2
                      have hl0 : (0 : Int) < (ln : Int) := by have := HN.out; omega
                      have hl0n : 0 < ln := by omega
                      have hl0d : decide ((0 : Int) < (ln : Int)) = true := decide_eq_true hl0
                      clear d2
                      go_wp2_with fail
                      go_quiet (fail)
                      go_wp2_with fail
                      go_loopw [10] (fun q wr => q = .int .i64 0 ∧ Drawn W5 wr) (fun _ _ => 0)
                      case atStart => exact ⟨rfl, (Drawn.refl _).drewN _⟩
                      case round =>
                        obtain ⟨rfl, hd⟩ := hrel
                        have HD6 := hid hd
                        have hcw : ∀ p : Addr, p.block < W5.heap.size → wr.cell? p = W5.cell? p := fun p hp => (hd.below W5.heap.size).cell hp
                        have x1 := (hcw ⟨w.heap.size + 1, 1, none⟩ (World.block_lt_of_cell? W5 _ x1)).trans x1
                        have x2 := (hcw ⟨w.heap.size + 1, 2, none⟩ (World.block_lt_of_cell? W5 _ x2)).trans x2
                        have q1 := (hcw ⟨g, o + k * 3 + 1, none⟩ (World.block_lt_of_cell? W5 _ q1)).trans q1
                        clear hd hcw
                        go_wp2_with fail
                        go_quiet (fail)
                        go_wp2_with fail
                        go_roundw
                        case rel => exact ⟨k + 1, by omega, by go_num, HSO.out.succ (HSB.out.2 ⟨D1.out, fun e => absurd e (by rw [HPN.out]; exact D2.out)⟩), (HD.out.trans HD6.out).drewN _⟩
                        case measure => simp [intOf]; omega
                · have HAL2 := hid (show allN i (sbB t i) = true from HSO.out.all (by omega))
                  obtain ⟨un, hun⟩ : ∃ un, un = (unionZ t (i : Int)).length := ⟨_, rfl⟩
                  have hcall : ∀ W', Below wr.heap.size wr W' → Calls Try.prog 67 #[.slice (some ⟨g, o, none⟩) t.length c, .int .i64 (i : Int)] W' fun e w' => ∃ A' c', e = .returned (.slice A' un c') ∧ Below W'.heap.size W' w' := fun W' hb => by
                    refine (union_any (some ⟨g, o, none⟩) c t (i : Int) W' (HTW.out.keep (Keeps.of_below hb fun k hk => by have hk : k < w.heap.size := hk; omega)) htl HSE.out).mono ?_
                    rintro e w' ⟨A', c', rfl, hb', _⟩
                    exact ⟨A', c', by rw [hun], hb'⟩
                  have HCALL := hid hcall
                  have HUN := hid hun
                  have hnode : nodeB n t i = decide (un < ln) := by
                    rw [nodeB_eq]
                    unfold n1B n2B
                    rw [HALL.out, HAL2.out, HND.out, ← HLN.out, ← hun]
                    have : hdB n t i = true := hdB_iff.2 (by rw [HND.out, ← HLN.out]; exact ⟨HN.out.1, HN.out.2.1, HN.out.2.2, fun h => absurd h (by omega), fun _ => by rw [HPN.out]; omega⟩)
                    rw [this]; rfl
                  have HNODE := hid hnode
                  have hxl9 : w.heap.size + 1 < wr.heap.size := World.block_lt_of_cell? wr _ x2
                  have HKX := hid (fun (W' : World) (hb : Below wr.heap.size wr W') => show W'.cell? ⟨w.heap.size + 1, 2, none⟩ = some (.slice A2 ln c2) from (hb.cell (p := ⟨w.heap.size + 1, 2, none⟩) hxl9).trans x2)
                  have HB0 := hid (show Below wr.heap.size wr wr.drew from (Below.refl _ _).drew)
                  clear hun hcall hnode
                  by_cases hu : un < ln
                  · have hud : decide (un < ln) = true := decide_eq_true hu
                    have hui : decide ((un : Int) < (ln : Int)) = true := decide_eq_true (by omega)
                    have HU := hid hu
                    clear hu
                    go_upto_region 19 with (fail)
                    go_region_held3 (fun w' => w'.cell? ⟨w.heap.size + 1, 2, none⟩ = some (.slice A2 ln c2)) (first | (with_reducible exact HKX.out _ HB0.out) | (with_reducible exact HKX.out _ (HB0.out.trans (hb9.mono (Nat.le_refl _)))) | (go_keep; done)) (first | (go_at_call 67; with_reducible refine (HCALL.out _ HB0.out).mono ?_; rintro e w9 ⟨A9, c9, rfl, hb9⟩))
                    all_goals
                      go_wp2_with fail
                      go_ret
                      exact ⟨ret_bool (by rw [HNODE.out]; exact (decide_eq_true HU.out).symm), HBE.out.trans ((HB0.out.trans (hb9.mono (Nat.le_refl _))).mono hwl)⟩
                  · have hud : decide (un < ln) = false := decide_eq_false hu
                    have hui : decide ((un : Int) < (ln : Int)) = false := decide_eq_false (by omega)
                    have HU := hid hu
                    clear hu
                    go_upto_region 19 with (fail)
                    go_region_held3 (fun w' => w'.cell? ⟨w.heap.size + 1, 2, none⟩ = some (.slice A2 ln c2)) (first | (with_reducible exact HKX.out _ HB0.out) | (with_reducible exact HKX.out _ (HB0.out.trans (hb9.mono (Nat.le_refl _)))) | (go_keep; done)) (first | (go_at_call 67; with_reducible refine (HCALL.out _ HB0.out).mono ?_; rintro e w9 ⟨A9, c9, rfl, hb9⟩))
                    all_goals
                      go_wp2_with fail
                      go_ret
                      exact ⟨ret_bool (by rw [HNODE.out]; exact (decide_eq_false HU.out).symm), HBE.out.trans ((HB0.out.trans (hb9.mono (Nat.le_refl _))).mono hwl)⟩
end Go.Proofs.Ythhknonaebnooaa
