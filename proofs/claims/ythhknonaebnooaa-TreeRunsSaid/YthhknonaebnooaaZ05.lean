/-
  Walk of the program: collapse.
  Walk of the program: chosen (nodes), name.
-/
import Derived.Test.YthhknonaebnooaaZ04
set_option linter.unusedVariables false
set_option linter.unusedSimpArgs false
namespace Go.Proofs.Ythhknonaebnooaa
open Go.RowKit
attribute [local go_sem] cell_alloc_old

/-- While collapse marks: the first i nodes have their marks. -/
structure ClI (w wr : World) (g : Nat) (R R' : List PR) (i : Nat) : Prop where
  len : R'.length = R.length
  pb : PB wr g R'
  lo : ∀ j, j < i → j < R.length → R'.getD j default = { R.getD j default with good := goodL (ndsP R) j, gone := goneL (ndsP R) j }
  hi : ∀ j, i ≤ j → j < R.length → R'.getD j default = R.getD j default
  chg : Chg (fun k => k = g) w wr
theorem ClI.nd {w wr : World} {g : Nat} {R R' : List PR} {i : Nat} (h : ClI w wr g R R' i) {j : Nat} (hj : j < R.length) : (R'.getD j default).nd = (R.getD j default).nd ∧ (R'.getD j default).mb = (R.getD j default).mb := by
  by_cases e : j < i
  · rw [h.lo j e hj]; exact ⟨rfl, rfl⟩
  · rw [h.hi j (by omega) hj]; exact ⟨rfl, rfl⟩
theorem ClI.put {w wr wr' : World} {g : Nat} {R R' : List PR} {i : Nat} (h : ClI w wr g R R' i) (hi : i < R.length) (x : PR) (hx : x = { R.getD i default with good := goodL (ndsP R) i, gone := goneL (ndsP R) i }) (hp : PB wr' g (R'.set i x)) (hc : Chg (fun k => k = g) w wr') : ClI w wr' g R (R'.set i x) (i + 1) := by
  have hil : i < R'.length := by rw [h.len]; exact hi
  have hat : ∀ j, (R'.set i x).getD j default = if i = j then x else R'.getD j default := fun j => by
    by_cases e : i = j
    · subst e; simp [List.getD, hil]
    · simp [List.getD, e]
  refine ⟨by rw [List.length_set]; exact h.len, hp, fun j hj hjl => ?_, fun j hj hjl => ?_, hc⟩
  · rw [hat j]; split
    · rename_i e; subst e; exact hx
    · exact h.lo j (by omega) hjl
  · rw [hat j, if_neg (by omega)]
    exact h.hi j (by omega) hjl

set_option maxRecDepth 100000 in
set_option maxHeartbeats 4000000 in
theorem collapse_any (B g : Nat) (c : Nat) (R : List PR) (w : World) (hpb : PB w g R) (hs : PSets w B R) (hu : UpP R) (hn0 : 0 < R.length) (hn : R.length ≤ 1000) (hm : ∀ j, j < R.length → (R.getD j default).nd.set.length ≤ 3000) (hgo : ∀ j, j < R.length → (R.getD j default).gone = (R.getD j default).nd.set.isEmpty) :
    Calls Try.prog 35 #[.slice (some ⟨g, 0, none⟩) R.length c] w (ColSays g R w) := by
  obtain ⟨i0, hti, hz0, hz1, hz2⟩ := info_parts int_info
  have hmk := run_make_zrow (P := Try.prog) 22 3 i0 (.int .i64 0) 8 Try.underlying22 hti hz0 hz1 hz2 rfl .i64 .i64 R.length (by omega) (by omega)
  have HPB := hid hpb
  have HPS := hid hs
  have HU := hid hu
  have HM := hid hm
  have HGO := hid hgo
  have hgl := hpb.lt
  have hUp : Up (ndsP R) := fun k hk => by
    rw [ndsP_len] at hk
    rw [ndsP_get R hk]
    have := hu k hk
    rcases Nat.eq_zero_or_pos k with h0 | h0
    · have := this.1 h0; omega
    · have := this.2 h0; omega
  have HUP := hid hUp
  clear hpb hs hu hm hgo hUp
  go_enter Try.func35, Try.ntmps35
  go_upto_region 1 with (fail)
  refine wp_gen fun W hW => ?_
  have hI : CnI w W g R 0 (List.replicate R.length 0) := by
    have hb1 : Below w.heap.size w W := by rw [hW]; go_grown
    refine ⟨hb1, ?_, by simp, fun p hp => ?_⟩
    · rw [hW]; rw [heap_alloc_new]; simp [zrow]
    · simp [List.getD, hp, cntTo, unionZ]
  have HI := hid hI
  clear hW hI hmk
  go_wp2_with fail
  go_loopw [12] (fun t wr => ∃ (k : Nat) (cl : List Int), k ≤ R.length ∧ t = .int .i64 (k : Int) ∧ CnI w wr g R k cl) (fun t _ => R.length - (intOf t).toNat)
  case atStart => exact ⟨0, _, Nat.zero_le _, rfl, HI.out⟩
  case round =>
    obtain ⟨k, cl, hk, rfl, hI⟩ := hrel
    have HI := hid hI
    clear hI
    by_cases hlt : k < R.length
    · have hki : (k : Int) < R.length := by omega
      have hpb := HPB.out.of_block (HI.out.below.block g hgl)
      obtain ⟨x, hx⟩ : ∃ x, R.getD k default = x := ⟨_, rfl⟩
      have hcs := hpb.cells hlt
      have hup := HU.out k hlt
      have hset := (HPS.out.set k hlt).of_block (HI.out.below.block _ (HPS.out.lt hlt))
      rw [hx] at hcs hup hset
      obtain ⟨g0, g1, g2, g3, g4, g5, g6⟩ := hcs
      have HX := hid hx
      have HSET := hid hset
      obtain ⟨W2, hW2⟩ : ∃ W2, W2 = wr := ⟨_, rfl⟩
      rw [← hW2] at HI HSET g0 g1 g2 g3 g4 g5 g6 ⊢
      clear hW2 hx hset hpb
      go_upto_region 4 with (fail)
      refine wp_gen fun W3 hW3 => ?_
      have hb3 : Below W2.heap.size W2 W3 := by rw [hW3]; go_grown
      have y1 : W3.cell? ⟨W2.heap.size, 1, none⟩ = some (.int .i64 x.nd.parent) := by rw [hW3]; exact cell_new W2 _ _ _ 1 _ rfl rfl
      have y3 : W3.cell? ⟨W2.heap.size, 3, none⟩ = some (.map (some x.mb)) := by rw [hW3]; exact cell_new W2 _ _ _ 3 _ rfl rfl
      have HI3 := hid (HI.out.next hb3)
      have hs3 := HSET.out.below hb3 HSET.out.lt
      have HS3 := hid hs3
      clear hW3 hb3 hs3 g0 g1 g2 g3 g4 g5 g6
      by_cases hp0 : 0 ≤ x.nd.parent
      · obtain ⟨pn, hpn⟩ : ∃ pn : Nat, x.nd.parent = (pn : Int) := ⟨x.nd.parent.toNat, by omega⟩
        have hpl : pn < R.length := by
          rcases Nat.eq_zero_or_pos k with h0 | h0
          · have := hup.1 h0; omega
          · have := hup.2 h0; omega
        rw [hpn] at y1
        obtain ⟨c1, c2⟩ := HI3.out.cell hpl
        have hlr : ∀ n ty, (Builtin.len_ #[65] ty #[.map (some x.mb)]).run Try.prog (W3.drewN n) = .ok (.int .i64 (x.nd.set.length : Int)) (W3.drewN n) := fun n ty => (HS3.out.of_block (w' := W3.drewN n) rfl).len_run ty
        obtain ⟨ln, hln⟩ : ∃ ln, ln = x.nd.set.length := ⟨_, rfl⟩
        rw [← hln] at hlr
        have hlr1 := hlr 1
        rw [show W3.drewN 1 = W3.drew from rfl] at hlr1
        obtain ⟨cn, hcn⟩ : ∃ cn, cn = cntTo R k pn := ⟨_, rfl⟩
        rw [← hcn] at c1
        have hcb : cn ≤ 3000000 := by
          rw [hcn]
          exact Nat.le_trans (cntTo_le R HM.out (Nat.le_of_lt hlt) pn) (by omega)
        have hlb : ln ≤ 3000 := by rw [hln, ← HX.out]; exact HM.out k hlt
        have HCN := hid hcn
        have HLN := hid hln
        have HPN := hid hpn
        have hpi : (pn : Int) < R.length := by omega
        have hge : decide (0 ≤ (pn : Int)) = true := decide_eq_true (by omega)
        clear hcn hln hpn hp0 hup
        go_wp2_with fail
        go_still_tail 11, (by kernel_rfl)
        simp only [World.drew_eq]
        go_upto_region 6 with (fail)
        refine wp_gen fun W4 hW4 => ?_
        have hv : (cn : Int) + (ln : Int) = (cntTo R (k + 1) pn : Int) := by
          rw [cntTo_snoc R pn hlt, HX.out, HPN.out, if_pos rfl, HCN.out, HLN.out]
          omega
        have hI4 := (HI3.out.put (wr' := W3.setCell ⟨w.heap.size, pn, none⟩ (.int .i64 ((cn : Int) + (ln : Int)))) hlt hpl (by rw [HX.out]; exact HPN.out) hv rfl).next (Below.refl _ _).drew
        rw [← hW4] at hI4
        have HI4 := hid hI4
        clear hW4 hI4 hv hlr hlr1 c1 c2 y1 y3
        go_wp2_with fail
        go_roundw
        case rel => exact ⟨k + 1, _, by omega, by go_num, HI4.out⟩
        case measure => simp [intOf]; omega
      · have hge : decide (0 ≤ x.nd.parent) = false := decide_eq_false hp0
        have HI4 := hid (HI3.out.skip hlt (by rw [HX.out]; omega))
        clear hp0 hup
        go_wp2_with fail
        go_roundw
        case rel => exact ⟨k + 1, _, by omega, by go_num, HI4.out⟩
        case measure => simp [intOf]; omega
    · obtain rfl : k = R.length := by omega
      obtain ⟨W2, hW2⟩ : ∃ W2, W2 = wr := ⟨_, rfl⟩
      rw [← hW2] at HI ⊢
      clear hW2
      go_wp2_with fail
      go_loopw [34] (fun t wr => ∃ (i : Nat) (R' : List PR), i ≤ R.length ∧ t = .int .i64 (i : Int) ∧ ClI W2 wr g R R' i) (fun t _ => R.length - (intOf t).toNat)
      case atStart => exact ⟨0, R, Nat.zero_le _, rfl, rfl, HPB.out.of_block (HI.out.below.block g hgl), fun j hj => absurd hj (Nat.not_lt_zero _), fun _ _ _ => rfl, Chg.refl _ _⟩
      case round =>
        obtain ⟨i, R', hi, rfl, hI⟩ := hrel
        have HC := hid hI
        clear hI
        by_cases hlt : i < R.length
        · have hil : i < R'.length := by rw [HC.out.len]; exact hlt
          have hii : (i : Int) < R.length := by omega
          obtain ⟨x, hx⟩ : ∃ x, R.getD i default = x := ⟨_, rfl⟩
          have hxi : R'.getD i default = x := by rw [HC.out.hi i (Nat.le_refl _) hlt]; exact hx
          have hcs := HC.out.pb.cells hil
          have hup := HU.out i hlt
          rw [hxi] at hcs
          rw [hx] at hup
          obtain ⟨g0, g1, g2, g3, g4, g5, g6⟩ := hcs
          have gf5 := HC.out.pb.free (i * 7 + 5)
          have gf6 := HC.out.pb.free (i * 7 + 6)
          have hb2 : ∀ b, b < W2.heap.size → b ≠ g → wr.heap[b]? = W2.heap[b]? := fun b hb hne => HC.out.chg.block b hb hne
          have hflg := flg_eq HUP.out (i := i) (by rw [ndsP_len]; exact hlt)
          rw [ndsP_get R hlt, hx, ← cntTo_all] at hflg
          have HX := hid hx
          have HXI := hid hxi
          have HB2 := hid hb2
          have HFLG := hid hflg
          clear hx hxi hb2 hflg
          have HSET := hid (show SetIs wr x.mb x.nd.set by
            have h0 := HPS.out.set i hlt
            have h1 := h0.of_block (HI.out.below.block _ (HPS.out.lt hlt))
            have h2 := h1.of_block (HB2.out _ h1.lt (by
              obtain ⟨cur, hc1, _⟩ := HPB.out.of_block (HI.out.below.block g hgl)
              obtain ⟨es, cl2, hc2⟩ := h1.block
              intro e
              rw [e, hc1] at hc2; cases hc2))
            rw [HX.out] at h2; exact h2)
          have HCC := hid (show wr.cell? ⟨w.heap.size, i, none⟩ = some (.int .i64 (cntTo R R.length i : Int)) ∧ True from ⟨(World.cell?_of_block (w := W2) (a := ⟨w.heap.size, i, none⟩) (HB2.out _ (lt_of_block HI.out.row) (by show w.heap.size ≠ g; omega))).trans (HI.out.cell hlt).1, trivial⟩)
          by_cases hp0 : 0 ≤ x.nd.parent
          · obtain ⟨pn, hpn⟩ : ∃ pn : Nat, x.nd.parent = (pn : Int) := ⟨x.nd.parent.toNat, by omega⟩
            have hpni : pn < i := by
              rcases Nat.eq_zero_or_pos i with h0 | h0
              · have := hup.1 h0; omega
              · have := hup.2 h0; omega
            have hpl : pn < R'.length := by omega
            rw [hpn] at g1
            have hct := HC.out.pb.cells hpl
            rw [HC.out.lo pn hpni (by omega)] at hct
            obtain ⟨-, -, -, -, -, q5, q6⟩ := hct
            have hpi : (pn : Int) < R.length := by omega
            have hge : decide (0 ≤ (pn : Int)) = true := decide_eq_true (by omega)
            have hub : upB (ndsP R) i = (goodL (ndsP R) pn || goneL (ndsP R) pn) := by
              unfold upB
              rw [ndsP_get R hlt, HX.out, hpn, Int.toNat_natCast, decide_eq_true (show (0 : Int) ≤ (pn : Int) by omega)]; rfl
            obtain ⟨gd, hgd⟩ : ∃ gd, goodL (ndsP R) pn = gd := ⟨_, rfl⟩
            obtain ⟨gn, hgn⟩ : ∃ gn, goneL (ndsP R) pn = gn := ⟨_, rfl⟩
            rw [hgd, hgn] at hub
            dsimp only at q5 q6
            rw [hgd] at q5
            rw [hgn] at q6
            have HPN := hid hpn
            clear hgd hgn hpn hp0 hup
            cases gd
            · cases gn
              · have HUB := hid (show upB (ndsP R) i = false from hub)
                clear hub
                obtain ⟨em, hem⟩ : ∃ em, x.nd.set.isEmpty = em := ⟨_, rfl⟩
                have hgn : x.gone = em := by rw [← HX.out, HGO.out i hlt, HX.out]; exact hem
                have HEM := hid hem
                have HGN := hid hgn
                rw [hgn] at g6
                clear hem hgn
                cases em
                · have hlr : ∀ n ty, (Builtin.len_ #[65] ty #[.map (some x.mb)]).run Try.prog (wr.drewN n) = .ok (.int .i64 (x.nd.set.length : Int)) (wr.drewN n) := fun n ty => (HSET.out.of_block (w' := wr.drewN n) rfl).len_run ty
                  obtain ⟨ln, hln⟩ : ∃ ln, ln = x.nd.set.length := ⟨_, rfl⟩
                  rw [← hln] at hlr
                  have hlr1 := hlr 1
                  rw [show wr.drewN 1 = wr.drew from rfl] at hlr1
                  obtain ⟨c1, c2⟩ := HCC.out
                  obtain ⟨cn, hcn⟩ : ∃ cn, cn = cntTo R R.length i := ⟨_, rfl⟩
                  rw [← hcn] at c1
                  obtain ⟨bq, hbq⟩ : ∃ bq, ((cn : Int) == (ln : Int)) = bq := ⟨_, rfl⟩
                  have HLN := hid hln
                  have HCN := hid hcn
                  have HBQ := hid hbq
                  clear hln hcn
                  go_wp2_with fail
                  refine wp_region_still_tail 20 (by kernel_rfl) (by kernel_rfl) ?_
                  simp only [List.take_succ_cons, List.take_zero, List.drop_succ_cons, List.drop_zero]
                  repeat ((with_reducible refine wpStill_step (fun K hK => ?_)); go_simp; (with_reducible refine hK _ ?_); clear hK K)
                  with_reducible refine wpStill_nil ?_
                  simp only [World.drew_eq]
                  go_upto_region 14 with (fail)
                  refine wp_gen fun W5 hW5 => ?_
                  have hC5 : ∃ R5, ClI W2 W5 g R R5 (i + 1) := by
                    refine ⟨_, HC.out.put hlt { x with good := bq } ?_ ?_ ?_⟩
                    · have hf := HFLG.out
                      rw [HUB.out, HEM.out, Bool.or_false] at hf
                      have h2 := hf.2
                      rw [hf.1] at h2
                      have hbe : decide (cntTo R R.length i = x.nd.set.length) = bq := by
                        rw [← HBQ.out, ← HCN.out, ← HLN.out, Bool.eq_iff_iff, decide_eq_true_eq, beq_iff_eq]; omega
                      rw [HX.out, hf.1, h2, hbe]
                      show _ = _
                      have hgn : x.gone = false := HGN.out
                      cases x
                      simp only at hgn
                      subst hgn
                      simp
                    · have hp5 := HC.out.pb.set hil (j := 5) (by omega) (.bool bq) { x with good := bq } (by rw [HXI.out]; rfl)
                      rw [hW5]; exact hp5.of_block (w' := (wr.setCell ⟨g, i * 7 + 5, none⟩ (.bool bq)).drew) rfl
                    · rw [hW5]; exact (HC.out.chg.set _ _ (fun _ => rfl)).drew
                  obtain ⟨R5, hC5⟩ := hC5
                  have HC5 := hid hC5
                  clear hW5 hC5
                  go_wp2_with fail
                  go_roundw
                  case rel => exact ⟨i + 1, R5, by omega, by go_num, HC5.out⟩
                  case measure => simp [intOf]; omega
                · go_wp2_with fail
                  refine wp_region_still_tail 20 (by kernel_rfl) (by kernel_rfl) ?_
                  simp only [List.take_succ_cons, List.take_zero, List.drop_succ_cons, List.drop_zero]
                  repeat ((with_reducible refine wpStill_step (fun K hK => ?_)); go_simp; (with_reducible refine hK _ ?_); clear hK K)
                  with_reducible refine wpStill_nil ?_
                  simp only [World.drew_eq]
                  go_upto_region 14 with (fail)
                  refine wp_gen fun W5 hW5 => ?_
                  have hC5 : ∃ R5, ClI W2 W5 g R R5 (i + 1) := by
                    refine ⟨_, HC.out.put hlt { x with good := false } ?_ ?_ ?_⟩
                    · have hf := HFLG.out
                      rw [HUB.out, HEM.out, Bool.or_false] at hf
                      have h2 := hf.2
                      rw [hf.1] at h2
                      rw [HX.out, hf.1, h2]
                      show _ = _
                      rw [show (x.gone) = true from HGN.out]; rfl
                    · have hp5 := HC.out.pb.set hil (j := 5) (by omega) (.bool false) { x with good := false } (by rw [HXI.out]; rfl)
                      rw [hW5]; exact hp5.of_block (w' := (wr.setCell ⟨g, i * 7 + 5, none⟩ (.bool false)).drew) rfl
                    · rw [hW5]; exact (HC.out.chg.set _ _ (fun _ => rfl)).drew
                  obtain ⟨R5, hC5⟩ := hC5
                  have HC5 := hid hC5
                  clear hW5 hC5
                  go_wp2_with fail
                  go_roundw
                  case rel => exact ⟨i + 1, R5, by omega, by go_num, HC5.out⟩
                  case measure => simp [intOf]; omega
              · have HUB := hid (show upB (ndsP R) i = true from hub)
                clear hub
                go_upto_region 13 with (fail)
                refine wp_gen fun W4 hW4 => ?_
                have hp4 := HC.out.pb.set hil (j := 6) (by omega) (.bool true) { x with gone := true } (by rw [HXI.out]; rfl)
                rw [← hW4] at hp4
                have hil4 : i < (R'.set i { x with gone := true }).length := by rw [List.length_set]; exact hil
                have hat : (R'.set i { x with gone := true }).getD i default = { x with gone := true } := by simp [List.getD, hil]
                have hcs4 := hp4.cells hil4
                rw [hat] at hcs4
                obtain ⟨k0, k1, k2, k3, k4, k5, k6⟩ := hcs4
                have gk5 := hp4.free (i * 7 + 5)
                have HP4 := hid hp4
                have HAT := hid hat
                have HCH4 := hid (show Chg (fun k => k = g) W2 W4 from by rw [hW4]; exact HC.out.chg.set _ _ (fun _ => rfl))
                clear hW4 hp4 hat g0 g1 g2 g3 g4 g5 g6 gf5 gf6
                refine wp_region_still_tail 20 (by kernel_rfl) (by kernel_rfl) ?_
                simp only [List.take_succ_cons, List.take_zero, List.drop_succ_cons, List.drop_zero]
                repeat ((with_reducible refine wpStill_step (fun K hK => ?_)); go_simp; (with_reducible refine hK _ ?_); clear hK K)
                with_reducible refine wpStill_nil ?_
                simp only [World.drew_eq]
                go_upto_region 14 with (fail)
                refine wp_gen fun W5 hW5 => ?_
                have hC5 : ∃ R5, ClI W2 W5 g R R5 (i + 1) := by
                  refine ⟨_, HC.out.put hlt { x with gone := true, good := false } ?_ ?_ ?_⟩
                  · have hf := HFLG.out
                    rw [HUB.out, Bool.or_true] at hf
                    have h2 := hf.2
                    rw [hf.1] at h2
                    rw [HX.out, hf.1, h2]; rfl
                  · have hp5 := HP4.out.set hil4 (j := 5) (by omega) (.bool false) { x with gone := true, good := false } (by rw [HAT.out]; rfl)
                    rw [List.set_set] at hp5
                    rw [hW5]; exact hp5.of_block (w' := (W4.setCell ⟨g, i * 7 + 5, none⟩ (.bool false)).drew) rfl
                  · rw [hW5]; exact (HCH4.out.set _ _ (fun _ => rfl)).drew
                obtain ⟨R5, hC5⟩ := hC5
                have HC5 := hid hC5
                clear hW5 hC5
                go_wp2_with fail
                go_roundw
                case rel => exact ⟨i + 1, R5, by omega, by go_num, HC5.out⟩
                case measure => simp [intOf]; omega
            · have HUB := hid (show upB (ndsP R) i = true from hub)
              clear hub
              go_upto_region 13 with (fail)
              refine wp_gen fun W4 hW4 => ?_
              have hp4 := HC.out.pb.set hil (j := 6) (by omega) (.bool true) { x with gone := true } (by rw [HXI.out]; rfl)
              rw [← hW4] at hp4
              have hil4 : i < (R'.set i { x with gone := true }).length := by rw [List.length_set]; exact hil
              have hat : (R'.set i { x with gone := true }).getD i default = { x with gone := true } := by simp [List.getD, hil]
              have hcs4 := hp4.cells hil4
              rw [hat] at hcs4
              obtain ⟨k0, k1, k2, k3, k4, k5, k6⟩ := hcs4
              have gk5 := hp4.free (i * 7 + 5)
              have HP4 := hid hp4
              have HAT := hid hat
              have HCH4 := hid (show Chg (fun k => k = g) W2 W4 from by rw [hW4]; exact HC.out.chg.set _ _ (fun _ => rfl))
              clear hW4 hp4 hat g0 g1 g2 g3 g4 g5 g6 gf5 gf6
              refine wp_region_still_tail 20 (by kernel_rfl) (by kernel_rfl) ?_
              simp only [List.take_succ_cons, List.take_zero, List.drop_succ_cons, List.drop_zero]
              repeat ((with_reducible refine wpStill_step (fun K hK => ?_)); go_simp; (with_reducible refine hK _ ?_); clear hK K)
              with_reducible refine wpStill_nil ?_
              simp only [World.drew_eq]
              go_upto_region 14 with (fail)
              refine wp_gen fun W5 hW5 => ?_
              have hC5 : ∃ R5, ClI W2 W5 g R R5 (i + 1) := by
                refine ⟨_, HC.out.put hlt { x with gone := true, good := false } ?_ ?_ ?_⟩
                · have hf := HFLG.out
                  rw [HUB.out, Bool.or_true] at hf
                  have h2 := hf.2
                  rw [hf.1] at h2
                  rw [HX.out, hf.1, h2]; rfl
                · have hp5 := HP4.out.set hil4 (j := 5) (by omega) (.bool false) { x with gone := true, good := false } (by rw [HAT.out]; rfl)
                  rw [List.set_set] at hp5
                  rw [hW5]; exact hp5.of_block (w' := (W4.setCell ⟨g, i * 7 + 5, none⟩ (.bool false)).drew) rfl
                · rw [hW5]; exact (HCH4.out.set _ _ (fun _ => rfl)).drew
              obtain ⟨R5, hC5⟩ := hC5
              have HC5 := hid hC5
              clear hW5 hC5
              go_wp2_with fail
              go_roundw
              case rel => exact ⟨i + 1, R5, by omega, by go_num, HC5.out⟩
              case measure => simp [intOf]; omega
          · have hge : decide (0 ≤ x.nd.parent) = false := decide_eq_false hp0
            have HUB := hid (show upB (ndsP R) i = false by unfold upB; rw [ndsP_get R hlt, HX.out, decide_eq_false hp0]; rfl)
            clear hp0 hup
            obtain ⟨em, hem⟩ : ∃ em, x.nd.set.isEmpty = em := ⟨_, rfl⟩
            have hgn : x.gone = em := by rw [← HX.out, HGO.out i hlt, HX.out]; exact hem
            have HEM := hid hem
            have HGN := hid hgn
            rw [hgn] at g6
            clear hem hgn
            cases em
            · have hlr : ∀ n ty, (Builtin.len_ #[65] ty #[.map (some x.mb)]).run Try.prog (wr.drewN n) = .ok (.int .i64 (x.nd.set.length : Int)) (wr.drewN n) := fun n ty => (HSET.out.of_block (w' := wr.drewN n) rfl).len_run ty
              obtain ⟨ln, hln⟩ : ∃ ln, ln = x.nd.set.length := ⟨_, rfl⟩
              rw [← hln] at hlr
              have hlr1 := hlr 1
              rw [show wr.drewN 1 = wr.drew from rfl] at hlr1
              obtain ⟨c1, c2⟩ := HCC.out
              obtain ⟨cn, hcn⟩ : ∃ cn, cn = cntTo R R.length i := ⟨_, rfl⟩
              rw [← hcn] at c1
              obtain ⟨bq, hbq⟩ : ∃ bq, ((cn : Int) == (ln : Int)) = bq := ⟨_, rfl⟩
              have HLN := hid hln
              have HCN := hid hcn
              have HBQ := hid hbq
              clear hln hcn
              go_wp2_with fail
              refine wp_region_still_tail 20 (by kernel_rfl) (by kernel_rfl) ?_
              simp only [List.take_succ_cons, List.take_zero, List.drop_succ_cons, List.drop_zero]
              repeat ((with_reducible refine wpStill_step (fun K hK => ?_)); go_simp; (with_reducible refine hK _ ?_); clear hK K)
              with_reducible refine wpStill_nil ?_
              simp only [World.drew_eq]
              go_upto_region 14 with (fail)
              refine wp_gen fun W5 hW5 => ?_
              have hC5 : ∃ R5, ClI W2 W5 g R R5 (i + 1) := by
                refine ⟨_, HC.out.put hlt { x with good := bq } ?_ ?_ ?_⟩
                · have hf := HFLG.out
                  rw [HUB.out, HEM.out, Bool.or_false] at hf
                  have h2 := hf.2
                  rw [hf.1] at h2
                  have hbe : decide (cntTo R R.length i = x.nd.set.length) = bq := by
                    rw [← HBQ.out, ← HCN.out, ← HLN.out, Bool.eq_iff_iff, decide_eq_true_eq, beq_iff_eq]; omega
                  rw [HX.out, hf.1, h2, hbe]
                  show _ = _
                  have hgn : x.gone = false := HGN.out
                  cases x
                  simp only at hgn
                  subst hgn
                  simp
                · have hp5 := HC.out.pb.set hil (j := 5) (by omega) (.bool bq) { x with good := bq } (by rw [HXI.out]; rfl)
                  rw [hW5]; exact hp5.of_block (w' := (wr.setCell ⟨g, i * 7 + 5, none⟩ (.bool bq)).drew) rfl
                · rw [hW5]; exact (HC.out.chg.set _ _ (fun _ => rfl)).drew
              obtain ⟨R5, hC5⟩ := hC5
              have HC5 := hid hC5
              clear hW5 hC5
              go_wp2_with fail
              go_roundw
              case rel => exact ⟨i + 1, R5, by omega, by go_num, HC5.out⟩
              case measure => simp [intOf]; omega
            · go_wp2_with fail
              refine wp_region_still_tail 20 (by kernel_rfl) (by kernel_rfl) ?_
              simp only [List.take_succ_cons, List.take_zero, List.drop_succ_cons, List.drop_zero]
              repeat ((with_reducible refine wpStill_step (fun K hK => ?_)); go_simp; (with_reducible refine hK _ ?_); clear hK K)
              with_reducible refine wpStill_nil ?_
              simp only [World.drew_eq]
              go_upto_region 14 with (fail)
              refine wp_gen fun W5 hW5 => ?_
              have hC5 : ∃ R5, ClI W2 W5 g R R5 (i + 1) := by
                refine ⟨_, HC.out.put hlt { x with good := false } ?_ ?_ ?_⟩
                · have hf := HFLG.out
                  rw [HUB.out, HEM.out, Bool.or_false] at hf
                  have h2 := hf.2
                  rw [hf.1] at h2
                  rw [HX.out, hf.1, h2]
                  show _ = _
                  rw [show (x.gone) = true from HGN.out]; rfl
                · have hp5 := HC.out.pb.set hil (j := 5) (by omega) (.bool false) { x with good := false } (by rw [HXI.out]; rfl)
                  rw [hW5]; exact hp5.of_block (w' := (wr.setCell ⟨g, i * 7 + 5, none⟩ (.bool false)).drew) rfl
                · rw [hW5]; exact (HC.out.chg.set _ _ (fun _ => rfl)).drew
              obtain ⟨R5, hC5⟩ := hC5
              have HC5 := hid hC5
              clear hW5 hC5
              go_wp2_with fail
              go_roundw
              case rel => exact ⟨i + 1, R5, by omega, by go_num, HC5.out⟩
              case measure => simp [intOf]; omega
        · obtain rfl : i = R.length := by omega
          go_wp2_with fail
          go_end0
          have h := HC.out
          exact ⟨R', rfl, h.len, h.pb, fun j hj => h.lo j hj hj, (Chg.of_new (V := fun k => k = g) HI.out.below).trans h.chg⟩
end Go.Proofs.Ythhknonaebnooaa
set_option linter.unusedVariables false
set_option linter.unusedSimpArgs false
namespace Go.Proofs.Ythhknonaebnooaa
open Go.RowKit
attribute [local go_sem] cell_alloc_old

def pval (x : PR) : Value := .agg #[.int .i64 x.nd.name, .int .i64 x.nd.parent, .slice x.sv.1 x.sv.2.1 x.sv.2.2, .map (some x.mb), .bool x.old, .bool x.good, .bool x.gone]
theorem old_enter : ∀ (args : Array Value) (W : World), (callFunc 62 args).run Try.prog W = .ok (.enter 62 args) W := enters_of Try.func62 (by kernel_rfl) rfl
theorem old_call (x : PR) (W : World) : Calls Try.prog 62 #[pval x] W fun e W' => e = .returned (.bool x.old) ∧ Below W.heap.size W W' := by
  unfold pval
  go_enter Try.func62, Try.ntmps62
  go_wp2
  go_ret
  exact ⟨rfl, by go_grown⟩
theorem filtP_snoc (P : PR → Bool) (l : List PR) {k : Nat} (hk : k < l.length) : (l.take (k + 1)).filter P = (l.take k).filter P ++ (if P (l.getD k default) then [l.getD k default] else []) := by
  have hx : l[k] = l.getD k default := by simp [List.getD, hk]
  rw [List.take_succ_eq_append_getElem hk, hx, List.filter_append]
  generalize l.getD k default = y
  cases hh : P y <;> simp [hh]

set_option maxRecDepth 100000 in
set_option maxHeartbeats 2000000 in
theorem chosenp_any (g c : Nat) (R : List PR) (w : World) (h : PB w g R) (hll : R.length ≤ 10000) :
    Calls Try.prog 61 #[.slice (some ⟨g, 0, none⟩) R.length c, .func (.func 62) #[] #[]] w fun e w' => ∃ A' c', e = .returned (.slice A' (R.filter (·.old)).length c') ∧ Below w.heap.size w w' ∧
      w'.ownsRow w.heap.size 67 7 (.slice A' (R.filter (·.old)).length c') (R.filter (·.old)).length ((R.filter (·.old)).flatMap prc) := by
  obtain ⟨i0, hti, hz0, hz1, hz2⟩ := info_parts node_info
  have HR := hid h
  have hent := old_enter
  have hgl := h.lt
  clear h
  go_enter Try.func61, Try.ntmps61
  go_wp2_with fail
  go_loopw [5, 10] (fun s t wr => ∃ (k n : Nat) (A' : Option Addr) (c' : Nat), k ≤ R.length ∧ n = ((R.take k).filter (·.old)).length ∧ t = .int .i64 (k : Int) ∧ s = .slice A' n c' ∧ wr.ownsRow w.heap.size 67 7 (.slice A' n c') n (((R.take k).filter (·.old)).flatMap prc) ∧ Below w.heap.size w wr) (fun _ t _ => R.length - (intOf t).toNat)
  case atStart => exact ⟨0, 0, none, 0, Nat.zero_le _, rfl, rfl, rfl, ⟨rfl, .inl ⟨rfl, rfl⟩⟩, Below.refl _ _⟩
  case round =>
    obtain ⟨k, n, A', c', hk, hn, rfl, rfl, hown, hbr⟩ := hrel
    have HOX := hid hown
    have HBX := hid hbr
    have hnb : n ≤ k := by rw [hn]; exact Nat.le_trans (List.length_filter_le _ _) (by rw [List.length_take]; omega)
    have HNN := hid hn
    have hszr := hbr.size
    have HRW := hid (HR.out.of_block (hbr.block g hgl))
    clear hown hbr hn
    by_cases hlt : k < R.length
    · have hcs := HRW.out.cells hlt
      obtain ⟨x, hx⟩ : ∃ x, R.getD k default = x := ⟨_, rfl⟩
      rw [hx] at hcs
      obtain ⟨g0, g1, g2, g3, g4, g5, g6⟩ := hcs
      have hki : (k : Int) < R.length := by omega
      have HS := hid (filtP_snoc (·.old) R hlt)
      rw [hx] at HS
      obtain ⟨W2, hW2⟩ : ∃ W2, W2 = wr := ⟨_, rfl⟩
      rw [← hW2] at HOX HBX HRW hszr g0 g1 g2 g3 g4 g5 g6 ⊢
      clear hW2 hx
      go_upto_region 5 with (fail)
      refine wp_gen fun W hW => ?_
      have hb3 : Below W2.heap.size W2 W := by rw [hW]; go_grown
      have e0 : W.cell? ⟨W2.heap.size, 0, none⟩ = some (.int .i64 x.nd.name) := by rw [hW]; exact cell_new W2 _ _ _ 0 _ rfl rfl
      have e1 : W.cell? ⟨W2.heap.size, 1, none⟩ = some (.int .i64 x.nd.parent) := by rw [hW]; exact cell_new W2 _ _ _ 1 _ rfl rfl
      have e2 : W.cell? ⟨W2.heap.size, 2, none⟩ = some (.slice x.sv.1 x.sv.2.1 x.sv.2.2) := by rw [hW]; exact cell_new W2 _ _ _ 2 _ rfl rfl
      have e3 : W.cell? ⟨W2.heap.size, 3, none⟩ = some (.map (some x.mb)) := by rw [hW]; exact cell_new W2 _ _ _ 3 _ rfl rfl
      have e4 : W.cell? ⟨W2.heap.size, 4, none⟩ = some (.bool x.old) := by rw [hW]; exact cell_new W2 _ _ _ 4 _ rfl rfl
      have e5 : W.cell? ⟨W2.heap.size, 5, none⟩ = some (.bool x.good) := by rw [hW]; exact cell_new W2 _ _ _ 5 _ rfl rfl
      have e6 : W.cell? ⟨W2.heap.size, 6, none⟩ = some (.bool x.gone) := by rw [hW]; exact cell_new W2 _ _ _ 6 _ rfl rfl
      have hs3 : W2.heap.size < W.heap.size := by rw [hW]; simp only [World.size_alloc]; omega
      have HB3 := hid hb3
      clear hW hb3 g0 g1 g2 g3 g4 g5 g6
      obtain ⟨pv, hpv⟩ : ∃ pv, x.old = pv := ⟨_, rfl⟩
      have HPC : Hid (∀ W, Calls Try.prog 62 #[.agg #[.int .i64 x.nd.name, .int .i64 x.nd.parent, .slice x.sv.1 x.sv.2.1 x.sv.2.2, .map (some x.mb), .bool pv, .bool x.good, .bool x.gone]] W fun e W' => e = .returned (.bool pv) ∧ Below W.heap.size W W') := hid (by rw [← hpv]; exact old_call x)
      have HPV := hid hpv
      rw [hpv] at HS e4
      clear hpv
      cases pv
      · go_wp2_with (refine (HPC.out _).mono ?_; rintro e w1 ⟨rfl, hb4⟩; have HB4 := hid hb4; clear hb4)
        go_roundw
        case rel =>
          refine ⟨k + 1, n, A', c', by omega, ?_, by go_num, rfl, ?_, HBX.out.trans ((HB3.out.trans (HB4.out.mono (Nat.le_of_lt hs3))).mono hszr)⟩
          · rw [HS.out]; simpa using HNN.out
          · rw [HS.out]
            have := own_below HOX.out (HB3.out.trans (HB4.out.mono (Nat.le_of_lt hs3)))
            simpa using this
        case measure => simp [intOf]; omega
      · go_wp2_with (first | (refine (HPC.out _).mono ?_; rintro e w1 ⟨rfl, hb4⟩; have HB4 := hid hb4; have hs4 := hb4.size; have e0 := (hb4.cell (p := ⟨W2.heap.size, 0, none⟩) hs3).trans e0; have e1 := (hb4.cell (p := ⟨W2.heap.size, 1, none⟩) hs3).trans e1; have e2 := (hb4.cell (p := ⟨W2.heap.size, 2, none⟩) hs3).trans e2; have e3 := (hb4.cell (p := ⟨W2.heap.size, 3, none⟩) hs3).trans e3; have e4 := (hb4.cell (p := ⟨W2.heap.size, 4, none⟩) hs3).trans e4; have e5 := (hb4.cell (p := ⟨W2.heap.size, 5, none⟩) hs3).trans e5; have e6 := (hb4.cell (p := ⟨W2.heap.size, 6, none⟩) hs3).trans e6; have HO4 := hid (own_below HOX.out (HB3.out.trans (HB4.out.mono (Nat.le_of_lt hs3)))); have HBW := hid (HBX.out.trans ((HB3.out.trans (HB4.out.mono (Nat.le_of_lt hs3))).mono hszr)); clear hb4) | (at_builtin; go_must (refine wpList_append_rd _ rfl (.tmp 17) (.tmp 19) 62 rfl w.heap.size 67 i0 _ 7 56 Try.underlying62 hti hz0 hz1 hz2 rfl (by omega) (.slice A' n c') n _ rfl (HO4.out.alloc _) _ (some ⟨w1.heap.size, 0, none⟩) 1 1 _ rfl (Rd.fresh (D := fun _ => True) rfl trivial rfl (by omega)) (by simp [Value.oneCell']) (by omega) (maxLen_le (by omega)) (by simp; omega) ?_); intro A5 c5 w5 hown5 hg5 hat5))
        have hb5 := Below.grown (B := w.heap.size) (HBW.out.trans ((show Below w1.heap.size w1 _ from by go_grown).mono HBW.out.size)) hg5 (by simp; omega) (fun k hk => (HO4.out.lt k hk).1)
        have HO5 := hid hown5
        have HB5 := hid hb5
        clear hown5 hg5 hat5 hb5
        go_roundw
        case rel =>
          refine ⟨k + 1, n + 1, A5, c5, by omega, ?_, by go_num, rfl, ?_, HB5.out⟩
          · rw [HS.out, List.length_append, ← HNN.out]; rfl
          · rw [HS.out, List.flatMap_append]
            have ho := HO5.out
            have e : prc x = [.int .i64 x.nd.name, .int .i64 x.nd.parent, .slice x.sv.1 x.sv.2.1 x.sv.2.2, .map (some x.mb), .bool true, .bool x.good, .bool x.gone] := by unfold prc; rw [HPV.out]
            simpa [e] using ho
        case measure => simp [intOf]; omega
    · have hke : k = R.length := by omega
      have HKE := hid hke
      clear hke
      go_wp2_with fail
      go_ret
      have e2 : R.take k = R := by rw [HKE.out]; simp
      have ho := HOX.out
      have hn := HNN.out
      rw [e2] at ho hn
      refine ⟨A', c', ret_sl hn, HBX.out, ?_⟩
      rw [← hn]
      exact ho
end Go.Proofs.Ythhknonaebnooaa
