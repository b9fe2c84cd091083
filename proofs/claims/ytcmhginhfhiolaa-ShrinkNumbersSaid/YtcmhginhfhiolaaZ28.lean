/-
  Walk of findClashes.
-/
import Derived.Test.YtcmhginhfhiolaaZ27
set_option linter.unusedVariables false
set_option linter.unusedSimpArgs false
namespace Go.Proofs.Ytcmhginhfhiolaa
open Go.RowKit
attribute [local go_sem] cell_alloc_old

theorem brow_info : (Try.prog.info? 41).map (fun i => (i.zero, i.size, i.bytes)) = some (some (.slice none 0 0), 1, 24) := by kernel_rfl
def FcSays (L : Mac) (tb : Nat) (Ao : Option Addr) (co : Nat) (An : Option Addr) (cn : Nat) (c3 c4 : Value) (w : World) (e : Ending) (w' : World) : Prop :=
  ∃ cb rb cl, e = .returned (.tuple #[]) ∧ w'.heap[tb]? = some (.cells #[.slice Ao L.size co, .slice An L.size cn, .slice (some ⟨cb, 0, none⟩) L.size L.size, c3, c4] 70 (0, 0)) ∧ CmI w.heap.size w' L.size cb rb cl ∧ ClashOk L cl ∧ Chg (fun b => b = tb) w w'

set_option maxRecDepth 100000 in
set_option maxHeartbeats 8000000 in
theorem clashes_any (L : Mac) (hL : L.Ok) (hs : L.size ≤ 3000) (hi : L.ins ≤ 64) (tb : Nat) (Ao : Option Addr) (co : Nat) (An : Option Addr) (cn : Nat) (c2 c3 c4 : Value) (w : World) (hbox : w.heap[tb]? = some (.cells #[.slice Ao L.size co, .slice An L.size cn, c2, c3, c4] 70 (0, 0)))
    (ho : RdII w (fun b => b ≠ tb) Ao co (outsL L)) (hn : RdII w (fun b => b ≠ tb) An cn (nextsL L)) :
    Calls Try.prog 60 #[.pointer (some ⟨tb, 0, none⟩), .int .i64 (L.ins : Int)] w (FcSays L tb Ao co An cn c3 c4 w) := by
  obtain ⟨i0, hti, hz0, hz1, hz2⟩ := info_parts int_info2
  obtain ⟨i1, htr, hy0, hy1, hy2⟩ := info_parts row_info2
  obtain ⟨i2, ht2, hx0, hx1, hx2⟩ := info_parts rows_info2
  obtain ⟨i3, htb, hb0, hb1, hb2⟩ := info_parts brow_info
  obtain ⟨i4, htc, hc0, hc1, hc2⟩ := info_parts bool_info2
  obtain ⟨bn, on, A0, c0, r0, hAn, _, _, _, _, _⟩ := hn.get (show 0 < (nextsL L).length by rw [nextsL_len]; have := hL.st; omega)
  subst hAn
  have HO := hid ho.old
  have HO' := hid ho
  have HN' := hid hn
  have hol := ho.len
  have hnl := hn.len
  rw [outsL_len] at hol
  rw [nextsL_len] at hnl
  have HBOX := hid hbox
  have HLOK := hid hL
  have htbl : tb < w.heap.size := lt_of_block hbox
  have mk1 : ∀ W, (Instr.makeSlice 25 (.int .i64 (L.size : Int)) (.int .i64 (L.size : Int))).run Try.prog W = .ok (.slice (some ⟨W.heap.size, 0, none⟩) L.size L.size) (W.alloc (zrow (.slice none 0 0) L.size 41)) := fun W =>
    run_make_zrow _ _ _ _ 24 Try.underlying25 htb hb0 hb1 hb2 rfl _ _ _ (by omega) (by omega) W
  have mk2 : ∀ W, (Instr.makeSlice 63 (.int .i64 (L.ins : Int)) (.int .i64 (L.ins : Int))).run Try.prog W = .ok (.slice (some ⟨W.heap.size, 0, none⟩) L.ins L.ins) (W.alloc (zrow (.slice none 0 0) L.ins 22)) := fun W =>
    run_make_zrow _ _ _ _ 24 Try.underlying63 ht2 hx0 hx1 hx2 rfl _ _ _ (by omega) (by omega) W
  have mk3 : ∀ W, (Instr.makeSlice 22 (.int .i64 (L.size : Int)) (.int .i64 (L.size : Int))).run Try.prog W = .ok (.slice (some ⟨W.heap.size, 0, none⟩) L.size L.size) (W.alloc (zrow (.slice none 0 0) L.size 34)) := fun W =>
    run_make_zrow _ _ _ _ 24 Try.underlying22 htr hy0 hy1 hy2 rfl _ _ _ (by omega) (by omega) W
  have mk4 : ∀ W, (Instr.makeSlice 41 (.int .i64 (L.size : Int)) (.int .i64 (L.size : Int))).run Try.prog W = .ok (.slice (some ⟨W.heap.size, 0, none⟩) L.size L.size) (W.alloc (zrow (.bool false) L.size 4)) := fun W =>
    run_make_zrow _ _ _ _ 1 Try.underlying41 htc hc0 hc1 hc2 rfl _ _ _ (by omega) (by omega) W
  have MK3 := hid mk3
  have MK4 := hid mk4
  clear ho hn hbox hL mk3 mk4
  go_enter Try.func60, Try.ntmps60
  go_upto_region 1 with (fail)
  refine wp_gen fun W1 hW1 => ?_
  have hW1' : W1 = w.alloc (.cells #[.pointer (some ⟨tb, 0, none⟩)] 66) := hW1
  clear hW1
  have hb1 : Below w.heap.size w W1 := by rw [hW1']; go_grown
  have hv1 : W1.heap[w.heap.size]? = some (.cells #[.pointer (some ⟨tb, 0, none⟩)] 66 (0, 0)) := by rw [hW1']; exact heap_alloc_new _ _
  have ht1 := (hb1.block _ htbl).trans HBOX.out
  have HB1 := hid hb1
  have HV1 := hid hv1
  have HT1 := hid ht1
  have v0 := block_cell hv1 (i := 0) rfl
  have t1 : W1.cell? ⟨tb, 1, none⟩ = some (.slice (some ⟨bn, on, none⟩) L.size cn) := block_cell ht1 (i := 1) rfl
  have t2 : W1.cell? ⟨tb, 2, none⟩ = some c2 := block_cell ht1 (i := 2) rfl
  have tf := block_free ht1 (i := 2)
  have hvl : w.heap.size < W1.heap.size := lt_of_block hv1
  have htl1 : tb < W1.heap.size := lt_of_block ht1
  have hne : tb ≠ w.heap.size := by omega
  clear hW1' hb1 hv1 ht1
  go_wp2_with fail
  go_region_held3 (fun w' => w'.cell? ⟨w.heap.size, 0, none⟩ = some (.pointer (some ⟨tb, 0, none⟩))) (go_keep) (fail)
  go_upto_region 3 with (fail)
  refine wp_gen fun w3 hw3 => ?_
  have hw3' : w3 = ((W1.setCell ⟨tb, 2, none⟩ (.slice (some ⟨W1.heap.size, 0, none⟩) L.size L.size)).alloc (zrow (.slice none 0 0) L.size 41)).drew := hw3
  clear hw3
  obtain ⟨cb, hcb⟩ : ∃ cb, cb = W1.heap.size := ⟨_, rfl⟩
  rw [← hcb] at hw3'
  rw [← hcb]
  have hsz3 : w3.heap.size = W1.heap.size + 1 := by rw [hw3']; simp
  have ht3 : w3.heap[tb]? = some (.cells #[.slice Ao L.size co, .slice (some ⟨bn, on, none⟩) L.size cn, .slice (some ⟨cb, 0, none⟩) L.size L.size, c3, c4] 70 (0, 0)) := by
    rw [hw3']
    show ((W1.setCell _ _).alloc _).heap[tb]? = _
    rw [Below.heap_alloc _ _ _ (by simp; omega), set_block HT1.out _]; rfl
  have hv3 : w3.heap[w.heap.size]? = some (.cells #[.pointer (some ⟨tb, 0, none⟩)] 66 (0, 0)) := by
    rw [hw3']
    show ((W1.setCell _ _).alloc _).heap[w.heap.size]? = _
    rw [Below.heap_alloc _ _ _ (by simp; omega), Below.heap_setCell _ _ _ _ (Ne.symm hne)]; exact HV1.out
  have hcp3 : CmP w.heap.size w3 L.size 0 cb (fun _ => 0) := by
    refine CmP.zero (by omega) ?_
    rw [hw3']
    show ((W1.setCell _ _).alloc _).heap[cb]? = _
    exact at_new _ _ _ (by simp [hcb])
  have hch3 : Chg (fun b => b = tb) w w3 := by
    rw [hw3']
    exact (((Chg.of_new (V := fun b => b = tb) HB1.out).set _ _ (fun _ => rfl)).alloc _).drew
  have HT3 := hid ht3
  have HV3 := hid hv3
  have HCP3 := hid hcp3
  have HCH3 := hid hch3
  have hsz3' : w.heap.size ≤ w3.heap.size := by omega
  have hcbl : cb < w3.heap.size := by omega
  have hcbw : w.heap.size < cb := by omega
  have HCBW := hid hcb
  have v0 := block_cell hv3 (i := 0) rfl
  have t1 : w3.cell? ⟨tb, 1, none⟩ = some (.slice (some ⟨bn, on, none⟩) L.size cn) := block_cell ht3 (i := 1) rfl
  clear hw3' hcb hsz3 ht3 hv3 hcp3 hch3 t2 tf mk1 hvl htl1 HV1 HT1 HB1
  go_upto_region 5 with (fail)
  refine wp_gen fun w4 hw4 => ?_
  have hw4' : w4 = w3.alloc (zrow (.slice none 0 0) L.ins 22) := hw4
  clear hw4
  have hb4 : Below w3.heap.size w3 w4 := by rw [hw4']; go_grown
  have hl4 : BmL w.heap.size w4 L.size 0 w3.heap.size (fun _ => 0) L.ins := BmL.zero hsz3' (by rw [hw4']; exact heap_alloc_new _ _)
  obtain ⟨fb, hfb⟩ : ∃ fb, fb = w3.heap.size := ⟨_, rfl⟩
  rw [← hfb] at hl4
  rw [← hfb]
  have HB4 := hid hb4
  have HL4 := hid hl4
  have hs4 := hb4.size
  have hfbl : w3.heap.size ≤ fb := by omega
  have hfbl2 : fb ≤ w3.heap.size := by omega
  have mk3 := MK3.out
  clear hw4' hb4 hl4 hfb mk2 v0 t1
  go_loopw [36] (fun t wr => ∃ (k : Nat) (ib : Nat → Nat), k ≤ L.ins ∧ t = .int .i64 (k : Int) ∧ BmL w.heap.size wr L.size k fb ib L.ins ∧ Chg (fun b => b = fb) w4 wr) (fun t _ => L.ins - (intOf t).toNat)
  case atStart => exact ⟨0, _, Nat.zero_le _, rfl, HL4.out, Chg.refl _ _⟩
  case round =>
    obtain ⟨k, ib, hk, rfl, hl, hch⟩ := hrel
    have HL := hid hl
    have HCH := hid hch
    have hszr := hch.size
    clear HL4 hch
    by_cases hlt : k < L.ins
    · have hki : (k : Int) < L.ins := by omega
      obtain ⟨u, gc, gf, hfl⟩ := hl.at_fb hlt
      clear hl
      go_wp2_with fail
      have hnx := HL.out.next hlt (by omega)
      rw [World.setCell_alloc_past _ _ _ _ hfl] at hnx
      have HNX := hid hnx
      clear hnx gc gf
      go_roundw
      case rel => exact ⟨k + 1, _, by omega, by go_num, HNX.out.1, HCH.out.trans HNX.out.2⟩
      case measure => simp [intOf]; omega
    · obtain rfl : k = L.ins := by omega
      have hbm := HL.out.done
      have HBM := hid hbm
      have hk4 : ∀ (k : Nat) (o : Obj), w3.heap[k]? = some o → wr.heap[k]? = some o := fun k o h1 => by
        have h2 := lt_of_block h1
        exact (HCH.out.block k (by omega) (by omega)).trans ((HB4.out.block k h2).trans h1)
      have ht5 := hk4 _ _ HT3.out
      have hv5 := hk4 _ _ HV3.out
      have hcp5 : CmP w.heap.size wr L.size 0 cb (fun _ => 0) := by
        obtain ⟨cur, h1, h2, h3⟩ := HCP3.out.out
        exact ⟨⟨cur, hk4 _ _ h1, h2, h3⟩, fun i hi => absurd hi (Nat.not_lt_zero _), fun i _ hi => absurd hi (Nat.not_lt_zero _), ⟨HCP3.out.bnd.1, fun i hi => absurd hi (Nat.not_lt_zero _)⟩⟩
      have hch5 : Chg (fun b => b = tb) w wr := (HCH3.out.trans (Chg.of_new HB4.out)).trans' HCH.out (fun b hb e => by omega)
      have HT5 := hid ht5
      have HV5 := hid hv5
      have HCP5 := hid hcp5
      have HCH5 := hid hch5
      have t1 : wr.cell? ⟨tb, 1, none⟩ = some (.slice (some ⟨bn, on, none⟩) L.size cn) := block_cell ht5 (i := 1) rfl
      have v0 := block_cell hv5 (i := 0) rfl
      clear hbm hk4 ht5 hv5 hcp5 hch5 hl mk3 HL HCH HCP3 HT3 HV3
      obtain ⟨wa, rfl⟩ : ∃ wa : World, wa = wr := ⟨_, rfl⟩
      have hswa : w.heap.size ≤ wa.heap.size := by omega
      go_wp2_with fail
      go_loopw [50] (fun t wr => ∃ (k : Nat) (rb : Nat → Nat) (F : Nat → Value) (Lf : Nat → List Nat), k ≤ L.size ∧ t = .int .i64 (k : Int) ∧ BmI w.heap.size wr fb ib L.ins L.size F Lf ∧ CmP w.heap.size wr L.size k cb rb ∧ BefOk L Lf ∧ LenOk L k 0 Lf ∧ wr.heap[tb]? = some (.cells #[.slice Ao L.size co, .slice (some ⟨bn, on, none⟩) L.size cn, .slice (some ⟨cb, 0, none⟩) L.size L.size, c3, c4] 70 (0, 0)) ∧ wr.heap[w.heap.size]? = some (.cells #[.pointer (some ⟨tb, 0, none⟩)] 66 (0, 0)) ∧ Chg (fun b => b = tb) w wr) (fun t _ => L.size - (intOf t).toNat)
      case atStart => exact ⟨0, _, _, _, Nat.zero_le _, rfl, HBM.out, HCP5.out, BefOk.zero L, LenOk.zero L, HT5.out, HV5.out, HCH5.out⟩
      case round =>
        clear HBM HCP5 HT5 HV5 HCH5 t1 v0 hlt hk hswa
        obtain ⟨k, rb, F, Lf, hk, rfl, hbm, hcp, hbo, hle, htb, hvb, hch⟩ := hrel
        have HBM := hid hbm
        have HCP := hid hcp
        have HBO := hid hbo
        have HLE := hid hle
        have HT := hid htb
        have HV := hid hvb
        have HCH := hid hch
        have hszr := hch.size
        clear hbm hbo hle hch
        by_cases hlt : k < L.size
        · --<<
          have hki : (k : Int) < L.size := by omega
          have hki0 : (0 : Int) ≤ (k : Int) := by omega
          have hkp : Keeps (fun b => b ≠ tb) w wr := HCH.out.keeps fun b _ hd e => hd e
          obtain ⟨b1, o1, A1, c1, r, hA1, hb1d, hb1l, HR, hr, hc1w⟩ := HN'.out.get (show k < (nextsL L).length by rw [nextsL_len]; exact hlt)
          have hc1 := hkp.cell hb1d hc1w
          injection hA1 with hA1
          injection hA1 with e1 e2
          subst e1
          subst e2
          have HRW : Hid (∀ W, Keeps (fun b => b ≠ tb) w W → RdI W (fun b => b ≠ tb) A1 c1 r) := hid fun W hW => hr.keep hW
          have er := HR.out
          rw [nextsL_row L hlt] at er
          have hrl : r.length = L.ins := by rw [← er, rowf_len]
          have HRD := hid hr
          have HER := hid er
          have hrl1 : r.length ≤ L.ins := by omega
          have hrl2 : L.ins ≤ r.length := by omega
          have hrc := hr.len
          have v0 := block_cell hvb (i := 0) rfl
          have t2 : wr.cell? ⟨tb, 2, none⟩ = some (.slice (some ⟨cb, 0, none⟩) L.size L.size) := block_cell htb (i := 2) rfl
          obtain ⟨u, gc, gf, hcl⟩ := hcp.at_cb hlt
          have hvl := lt_of_block hvb
          have htl := lt_of_block htb
          have n1 : cb ≠ w.heap.size := by omega
          have n2 : cb ≠ tb := by omega
          have mk4 := MK4.out
          clear er hrl hr htb hvb hcp hkp hc1w
          go_wp2_with fail
          go_region_held3 (fun w' => w'.cell? ⟨w.heap.size, 0, none⟩ = some (.pointer (some ⟨tb, 0, none⟩)) ∧ w'.cell? ⟨tb, 2, none⟩ = some (.slice (some ⟨cb, 0, none⟩) L.size L.size)) (go_keep) (fail)
          go_upto_region 13 with (fail)
          refine wp_gen fun w6 hw6 => ?_
          have hw6' : w6 = ((wr.setCell ⟨cb, k, none⟩ (.slice (some ⟨wr.heap.size, 0, none⟩) L.size L.size)).alloc (zrow (.bool false) L.size 4)).drew := hw6
          clear hw6
          have hnx := HCP.out.next hlt hszr
          rw [World.setCell_alloc_past _ _ _ _ hcl] at hnx
          have hd6 : Below w6.heap.size ((wr.setCell ⟨cb, k, none⟩ (.slice (some ⟨wr.heap.size, 0, none⟩) L.size L.size)).alloc (zrow (.bool false) L.size 4)) w6 := by rw [hw6']; exact (Below.refl _ _).drew
          have hcp6 : CmP w.heap.size w6 L.size (k + 1) cb (upF rb k wr.heap.size) := by rw [hw6']; exact hnx.1.keep (SameT.of_below ((Below.refl _ _).drew))
          have hbm6 : BmI w.heap.size w6 fb ib L.ins L.size F Lf := by rw [hw6']; exact HBM.out.keep (hnx.2.2.trans (SameT.of_below ((Below.refl _ _).drew)))
          have hch6 : Chg (fun b => b = cb) wr w6 := by rw [hw6']; exact hnx.2.1.drew
          have ht6 := hch6.box HT.out (fun e => n2 e.symm)
          have hv6 := hch6.box HV.out (fun e => n1 e.symm)
          have hchw6 : Chg (fun b => b = tb) w w6 := HCH.out.trans' hch6 (fun b hb e => by omega)
          have HCP6 := hid hcp6
          have HBM6 := hid hbm6
          have HT6 := hid ht6
          have HV6 := hid hv6
          have HCHW6 := hid hchw6
          have hs6 := hchw6.size
          clear hw6' hnx hd6 hcp6 hbm6 hch6 ht6 hv6 hchw6 gc gf v0 t2 mk4 HBM HCP HT HV HCH hc1
          obtain ⟨rb6, hrb6⟩ : ∃ f, f = upF rb k wr.heap.size := ⟨_, rfl⟩
          rw [← hrb6] at HCP6
          clear hrb6
          go_wp2_with fail
          go_loopw [65] (fun t wr => ∃ (x : Nat) (F : Nat → Value) (Lf : Nat → List Nat), x ≤ L.ins ∧ t = .int .i64 (x : Int) ∧ BmI w.heap.size wr fb ib L.ins L.size F Lf ∧ CmP w.heap.size wr L.size (k + 1) cb rb6 ∧ BefOk L Lf ∧ LenOk L k x Lf ∧ wr.heap[tb]? = some (.cells #[.slice Ao L.size co, .slice (some ⟨bn, on, none⟩) L.size cn, .slice (some ⟨cb, 0, none⟩) L.size L.size, c3, c4] 70 (0, 0)) ∧ wr.heap[w.heap.size]? = some (.cells #[.pointer (some ⟨tb, 0, none⟩)] 66 (0, 0)) ∧ Chg (fun b => b = tb) w wr) (fun t _ => L.ins - (intOf t).toNat)
          case atStart => exact ⟨0, F, Lf, Nat.zero_le _, rfl, HBM6.out, HCP6.out, HBO.out, HLE.out, HT6.out, HV6.out, HCHW6.out⟩
          case round =>
            clear HBM6 HCP6 HBO HLE HT6 HV6 HCHW6 hs6 hszr hcl hvl htl F Lf
            obtain ⟨x, F, Lf, hx, rfl, hbm, hcp, hbo, hle, htb, hvb, hch⟩ := hrel
            have HBM := hid hbm
            have HCP := hid hcp
            have HBO := hid hbo
            have HLE := hid hle
            have HT := hid htb
            have HV := hid hvb
            have HCH := hid hch
            have hszr := hch.size
            have hkp : Keeps (fun b => b ≠ tb) w wr := hch.keeps fun b _ hd e => hd e
            clear hcp hbo hle htb hvb hch
            by_cases hxl : x < L.ins
            · have hxi : (x : Int) < r.length := by omega
              have hxi0 : (0 : Int) ≤ (x : Int) := by omega
              have hxi2 : (x : Int) < L.ins := by omega
              obtain ⟨b2, o2, z, hA2, _, _, HZ, hc2⟩ := (HRW.out wr hkp).get (show x < r.length by omega)
              subst hA2
              have hze : z = mvT L k x := by rw [← HZ.out, ← HER.out, rowf_get _ hxl]
              rcases hmv : L.mv k x with _ | ⟨o, t⟩
              · have hz1 : z = -1 := by rw [hze, (mvT_no hmv).2]
                subst hz1
                clear hze hmv hkp hbm
                go_wp2_with fail
                go_roundw
                case rel => exact ⟨x + 1, F, Lf, by omega, by go_num, HBM.out, HCP.out, HBO.out, HLE.out.skip, HT.out, HV.out, HCH.out⟩
                case measure => simp [intOf]; omega
              · have hz1 : z = (t : Int) := by rw [hze, (mvT_yes hmv).2]
                subst hz1
                have htn : t < L.size := HLOK.out.tgt k x o t hlt hxl hmv
                have HMV := hid hmv
                have hti2 : (t : Int) < L.size := by omega
                have hti0 : (0 : Int) ≤ (t : Int) := by omega
                obtain ⟨pf, pfl, pil, pI⟩ := hbm.cell hxl
                obtain ⟨pc, pcf⟩ := pI t htn
                obtain ⟨i0', hi0'⟩ : ∃ i, i = x * L.size + t := ⟨_, rfl⟩
                rw [← hi0'] at pc
                have HI0 := hid hi0'
                have hrow := hbm.fam.row i0'
                obtain ⟨AF, cF, hF⟩ := own_as hrow
                rw [hF] at pc hrow
                have HF := hid hF
                have HROW := hid hrow
                have hLl : (Lf i0').length ≤ 3000 := by
                  have := HLE.out x t hxl htn
                  rw [← hi0', if_neg (by omega)] at this
                  omega
                have hfbi : fb ≠ ib x := fun e => hbm.ib_fb hxl e.symm
                clear hze hmv hkp hbm pI hF hrow hi0'
                go_wp2_with fail
                refine wp_region_sink' (fun w' => w'.cell? ⟨fb, x, none⟩ = some (.slice (some ⟨ib x, 0, none⟩) L.size L.size) ∧ w'.cell? ⟨ib x, t, none⟩ = some (.slice AF (Lf i0').length cF)) (by kernel_rfl) (by kernel_rfl) (by kernel_rfl) ⟨pf, pc⟩ (fun hHeld => ?_)
                simp only [List.dropLast_cons_cons, List.dropLast_singleton, List.getLast_cons_cons, List.getLast_singleton]
                refine wpAnyH_take (i := 0) (v := ?_) rfl (by kernel_rfl) (by kernel_rfl) (by kernel_rfl) (fun _ _ _ h => h) (Or.inl ⟨by rfl, ?_⟩) (by assumption) ?_
                rotate_left
                · intro w hSw; (try dsimp only at hSw); go_simp; (try (with_reducible rfl))
                try simp only [Act.put, List.setIfInBounds_toArray, List.set_cons_zero, List.set_cons_succ]
                refine wpAnyH_take (i := 1) (v := ?_) rfl (by kernel_rfl) (by kernel_rfl) (by kernel_rfl) (fun _ _ _ h => h) (Or.inl ⟨by rfl, ?_⟩) (by assumption) ?_
                rotate_left
                · intro w hSw; (try dsimp only at hSw); go_simp; (try (with_reducible rfl))
                try simp only [Act.put, List.setIfInBounds_toArray, List.set_cons_zero, List.set_cons_succ]
                refine wpAnyH_take (i := 2) (v := ?_) rfl (by kernel_rfl) (by kernel_rfl) (by kernel_rfl) (fun _ _ _ h => h) (Or.inl ⟨by rfl, ?_⟩) (by assumption) ?_
                rotate_left
                · intro w hSw; (try dsimp only at hSw); go_simp; (try (with_reducible rfl))
                try simp only [Act.put, List.setIfInBounds_toArray, List.set_cons_zero, List.set_cons_succ]
                refine wpAnyH_take (i := 3) (v := ?_) rfl (by kernel_rfl) (by kernel_rfl) (by kernel_rfl) (fun _ _ _ h => h) (Or.inl ⟨by rfl, ?_⟩) (by assumption) ?_
                rotate_left
                · intro w hSw; (try dsimp only at hSw); go_simp; (try (with_reducible rfl))
                try simp only [Act.put, List.setIfInBounds_toArray, List.set_cons_zero, List.set_cons_succ]
                refine wpAnyH_take (i := 4) (v := ?_) rfl (by kernel_rfl) (by kernel_rfl) (by kernel_rfl) (fun _ _ _ h => h) (Or.inl ⟨by rfl, ?_⟩) (by assumption) ?_
                rotate_left
                · intro w hSw; (try dsimp only at hSw); go_simp; (try (with_reducible rfl))
                try simp only [Act.put, List.setIfInBounds_toArray, List.set_cons_zero, List.set_cons_succ]
                refine wpAnyH_take (i := 5) (v := ?_) rfl (by kernel_rfl) (by kernel_rfl) (by kernel_rfl) (fun _ _ _ h => h) (Or.inl ⟨by rfl, ?_⟩) (by assumption) ?_
                rotate_left
                · intro w hSw; (try dsimp only at hSw); go_simp; (try (with_reducible rfl))
                try simp only [Act.put, List.setIfInBounds_toArray, List.set_cons_zero, List.set_cons_succ]
                refine wpAnyH_take (i := 6) (v := ?_) rfl (by kernel_rfl) (by kernel_rfl) (by kernel_rfl) (fun _ _ _ h => h) (Or.inl ⟨by rfl, ?_⟩) (by assumption) ?_
                rotate_left
                · intro w hSw; (try dsimp only at hSw); go_simp; (try (with_reducible rfl))
                try simp only [Act.put, List.setIfInBounds_toArray, List.set_cons_zero, List.set_cons_succ]
                refine wpAnyH_take (i := 7) (v := ?_) rfl (by kernel_rfl) (by kernel_rfl) (by kernel_rfl) (fun _ _ _ h => h) (Or.inl ⟨by rfl, ?_⟩) (by assumption) ?_
                rotate_left
                · intro w hSw; (try dsimp only at hSw); go_simp; (try (with_reducible rfl))
                try simp only [Act.put, List.setIfInBounds_toArray, List.set_cons_zero, List.set_cons_succ]
                refine wpAnyH_take (i := 8) (v := ?_) rfl (by kernel_rfl) (by kernel_rfl) (by kernel_rfl) (fun _ _ _ h => h) (Or.inl ⟨by rfl, ?_⟩) (by assumption) ?_
                rotate_left
                · intro w hSw; (try dsimp only at hSw); go_simp; (try (with_reducible rfl))
                try simp only [Act.put, List.setIfInBounds_toArray, List.set_cons_zero, List.set_cons_succ]
                refine wpAnyH_take (i := 9) (v := ?_) rfl (by kernel_rfl) (by kernel_rfl) (by kernel_rfl) (fun _ _ _ h => h) (Or.inl ⟨by rfl, ?_⟩) (by assumption) ?_
                rotate_left
                · intro w hSw; (try dsimp only at hSw); go_simp; (try (with_reducible rfl))
                try simp only [Act.put, List.setIfInBounds_toArray, List.set_cons_zero, List.set_cons_succ]
                refine wpAnyH_take (i := 10) (v := ?_) rfl (by kernel_rfl) (by kernel_rfl) (by kernel_rfl) (fun _ _ _ h => h) (Or.inl ⟨by rfl, ?_⟩) (by assumption) ?_
                rotate_left
                · intro w hSw; (try dsimp only at hSw); go_simp; (try (with_reducible rfl))
                try simp only [Act.put, List.setIfInBounds_toArray, List.set_cons_zero, List.set_cons_succ]
                refine wpAnyH_take (i := 11) (v := ?_) rfl (by kernel_rfl) (by kernel_rfl) (by kernel_rfl) (fun _ _ _ h => h) (Or.inl ⟨by rfl, ?_⟩) (by assumption) ?_
                rotate_left
                · intro w hSw; (try dsimp only at hSw); go_simp; (try (with_reducible rfl))
                try simp only [Act.put, List.setIfInBounds_toArray, List.set_cons_zero, List.set_cons_succ]
                refine wpAnyH_take (i := 12) (v := ?_) rfl (by kernel_rfl) (by kernel_rfl) (by kernel_rfl) (fun _ _ _ h => h) (Or.inl ⟨by rfl, ?_⟩) (by assumption) ?_
                rotate_left
                · intro w hSw; (try dsimp only at hSw); go_simp; (try (with_reducible rfl))
                try simp only [Act.put, List.setIfInBounds_toArray, List.set_cons_zero, List.set_cons_succ]
                refine wpAnyH_ready (rs := [13]) (by kernel_rfl) (by simp) (AllReadyH.cons rfl (fun K hK => ?_) AllReadyH.nil)
                go_simp
                refine hK.out _ _ ?_ (fun hHeld => ?_)
                · exact ⟨(cell_alloc_old _ _ _ pfl).trans pf, (cell_alloc_old _ _ _ pil).trans pc⟩
                clear hK K
                try simp only [Act.put, List.setIfInBounds_toArray, List.set_cons_zero, List.set_cons_succ]
                refine wpAnyH_gen (fun wA hwA hHeld => ?_) hHeld
                have hbA : Below wr.heap.size wr wA := by rw [hwA]; first | exact below_da1 _ _ | exact below_ad1 _ _
                have hrA : Rd wA (fun _ => True) 1 (some ⟨wr.heap.size, 0, none⟩) 1 1 [.int .i64 (k : Int)] := by rw [hwA]; exact Rd.fresh (D := fun _ => True) rfl trivial (by simp) (by omega)
                have hszA := hbA.size
                clear hwA
                refine wpAnyH_ready (rs := [14]) (by kernel_rfl) (by simp) (AllReadyH.cons rfl (fun K hK => ?_) AllReadyH.nil)
                refine step_append_rd _ (by rfl) _ _ 34 (by rfl) w.heap.size 3 i0 _ 1 8 Try.underlying34 hti hz0 hz1 hz2 rfl (by omega) (.slice AF (Lf i0').length cF) (Lf i0').length _ (by rfl) (own_below HROW.out hbA) _ (some ⟨wr.heap.size, 0, none⟩) 1 1 _ (by rfl) hrA (by simp [Value.oneCell']) (by omega) (maxLen_le (by omega)) (by omega) ?_
                intro A8 c8 w8 hown8 hg8 hat8
                have hFb : (F i0').ownBlock = blkOf AF := by rw [HF.out, own_slice]
                rw [own_slice] at hg8 hat8
                rw [own_slice] at hat8
                have hk8 : ∀ b o u, b < wr.heap.size → some b ≠ blkOf AF → wr.cell? ⟨b, o, none⟩ = some u → w8.cell? ⟨b, o, none⟩ = some u := fun b o u h1 h2 h3 =>
                  (World.cell?_of_block (w := wr) (a := ⟨b, o, none⟩) ((hg8.block b (by omega) h2).trans (hbA.block _ h1))).trans h3
                have nf : some fb ≠ blkOf AF := fun e => HBM.out.row_fb (i := i0') (by rw [hFb]; exact e) rfl
                have ni : some (ib x) ≠ blkOf AF := fun e => HBM.out.row_ib (i := i0') (by rw [hFb]; exact e) hxl rfl
                have g8 := hk8 _ _ _ pil ni pc
                have g8f : w8.frozen? ⟨ib x, t, none⟩ = false := by
                  obtain ⟨cx, h1, _⟩ := HBM.out.ibx x hxl
                  exact block_free ((hg8.block (ib x) (by omega) ni).trans ((hbA.block _ pil).trans h1))
                refine hK.out _ _ ?_ (fun hHeld => ?_)
                · exact ⟨hk8 _ _ _ pfl nf pf, g8⟩
                clear hK K
                try simp only [Act.put, List.setIfInBounds_toArray, List.set_cons_zero, List.set_cons_succ]
                refine wpAnyH_take (i := 15) (v := ?_) rfl (by kernel_rfl) (by kernel_rfl) (by kernel_rfl) (fun _ _ _ h => h) (Or.inl ⟨by rfl, ?_⟩) (by assumption) ?_
                rotate_left
                · intro w hSw; (try dsimp only at hSw); go_simp; (try (with_reducible rfl))
                try simp only [Act.put, List.setIfInBounds_toArray, List.set_cons_zero, List.set_cons_succ]
                refine wpAnyH_done (by kernel_rfl) ?_ _
                unfold sinkQ
                go_simp
                have hpr := (HBM.out.later hbA).pred (x := x) (t := t) (q := k) (v5 := .slice A8 ((Lf i0').length + 1) c8) hxl htn (by rw [← HI0.out, hFb]; exact hg8) (by rw [← HI0.out]; exact hown8) (by rw [← HI0.out, hFb, own_slice]; exact hat8)
                obtain ⟨wF, hwF⟩ : ∃ W, W = w8.setCell ⟨ib x, t, none⟩ (.slice A8 ((Lf i0').length + 1) c8) := ⟨_, rfl⟩
                rw [← hwF] at hpr
                rw [← HI0.out] at hpr
                obtain ⟨hpr1, hpr2, hpr3⟩ := hpr
                have hsF : wA.heap.size ≤ wF.heap.size := hpr2.size
                have hcmF : SameT cmT wA wF := ⟨hsF, fun j cs T fr h1 h2 => hpr3 j cs T fr h1 fun h3 => by
                  rcases h2 with h2 | h2 <;> rcases h3 with h3 | h3 | h3 <;> (rw [h2] at h3; exact absurd h3 (by decide))⟩
                have hcp' : CmP w.heap.size wF L.size (k + 1) cb rb6 := HCP.out.keep ((SameT.of_below hbA).trans hcmF)
                have ht' := (hpr3 _ _ _ _ ((hbA.block _ (lt_of_block HT.out)).trans HT.out) (by unfold bmT; decide)).trans ((hbA.block _ (lt_of_block HT.out)).trans HT.out)
                have hv' := (hpr3 _ _ _ _ ((hbA.block _ (lt_of_block HV.out)).trans HV.out) (by unfold bmT; decide)).trans ((hbA.block _ (lt_of_block HV.out)).trans HV.out)
                have hch' : Chg (fun b => b = tb) w wF := (HCH.out.trans (Chg.of_new hbA)).trans' hpr2 (fun b hb h => by omega)
                have hbo' := HBO.out.push hlt htn HMV.out
                have hle' := HLE.out.push (l := Lf (x * L.size + t) ++ [k]) hxl htn (by simp)
                rw [← HI0.out] at hbo' hle'
                have HPR := hid hpr1
                have HCP' := hid hcp'
                have HT' := hid ht'
                have HV' := hid hv'
                have HCH' := hid hch'
                have HBO' := hid hbo'
                have HLE' := hid hle'
                rw [← hwF]
                clear hpr1 hpr2 hpr3 hcmF hcp' ht' hv' hch' hbo' hle' g8 g8f hk8 hown8 hg8 hat8 pf pc pcf hHeld nf ni hwF hrA hbA hc2
                go_wp2_with fail
                go_roundw
                case rel => exact ⟨x + 1, _, _, by omega, by go_num, HPR.out, HCP'.out, HBO'.out, HLE'.out, HT'.out, HV'.out, HCH'.out⟩
                case measure => simp [intOf]; omega
            · obtain rfl : x = L.ins := by omega
              go_wp2_with fail
              go_roundw
              case rel => exact ⟨k + 1, rb6, F, Lf, by omega, by go_num, HBM.out, HCP.out, HBO.out, HLE.out.row, HT.out, HV.out, HCH.out⟩
              case measure => simp [intOf]; omega
          -->>
        · obtain rfl : k = L.size := by omega
          have hcm := HCP.out.done
          obtain ⟨cl0, hcl0⟩ : ∃ c, c = List.replicate L.size (List.replicate L.size false) := ⟨_, rfl⟩
          rw [← hcl0] at hcm
          have hci0 : CI L cl0 [] := by rw [hcl0]; exact CI.zero hs
          have HCM := hid hcm
          have HCI0 := hid hci0
          have hvl := lt_of_block hvb
          have htl := lt_of_block htb
          have hmf : ∀ (fn : Fn) (first cap : Array Value) (w : World), (Instr.makeFunc fn first cap).run Try.prog w = .ok (.func fn first cap) w := fun _ _ _ _ => rfl
          clear hcm hcl0 hci0 htb hvb hcp HCP hlt hk
          obtain ⟨wb, rfl⟩ : ∃ wb : World, wb = wr := ⟨_, rfl⟩
          go_upto_region 23 with (fail)
          refine wp_gen fun w1 hw1 => ?_
          have hw1' : w1 = wb.alloc (.cells #[.slice none 0 0] 58) := hw1
          clear hw1
          have hb1 : Below wb.heap.size wb w1 := by rw [hw1']; go_grown
          have ho1 : w1.heap[wb.heap.size]? = some (.cells #[.slice none 0 0] 58 (0, 0)) := by rw [hw1']; exact heap_alloc_new _ _
          obtain ⟨ob, hob⟩ : ∃ ob, ob = wb.heap.size := ⟨_, rfl⟩
          rw [← hob] at ho1
          rw [← hob]
          have hobl := lt_of_block ho1
          have hs1 := hb1.size
          have hobw : w.heap.size ≤ ob := by omega
          have hclm : ClM w.heap.size w1.heap.size w1 w.heap.size tb ob cb rb L.size (.slice Ao L.size co) (.slice (some ⟨bn, on, none⟩) L.size cn) c3 c4 none 0 cl0 [] := by
            refine ⟨(hb1.block _ hvl).trans HV.out, (hb1.block _ htl).trans HT.out, HCM.out.later hb1, ho1, ⟨rfl, .inl ⟨rfl, rfl⟩⟩, ?_, fun i hi => ?_, hobl, by omega, by omega⟩
            · obtain ⟨cur, h1, _⟩ := HCM.out.out
              have := lt_of_block h1
              omega
            · have := lt_of_block (HCM.out.row i hi); omega
          have hsm : ∀ W, Chg (fun b => b = ob ∨ (∃ i, i < L.size ∧ b = rb i) ∨ w1.heap.size ≤ b) w1 W → SameT bmT w1 W := fun W hW => ⟨hW.size, fun j cs t fr h1 h2 => hW.block j (lt_of_block h1) (by
            rintro (e | ⟨i, hi, e⟩ | e)
            · have h3 := hclm.obx
              rw [e] at h1
              have h4 := heap_ty h1 h3
              rw [h4] at h2
              rcases h2 with h2 | h2 | h2 <;> exact absurd h2 (by decide)
            · have h3 := hclm.cm.row i hi
              rw [e] at h1
              have h4 := heap_ty h1 h3
              rw [h4] at h2
              rcases h2 with h2 | h2 | h2 <;> exact absurd h2 (by decide)
            · have := lt_of_block h1; omega)⟩
          have HSM := hid hsm
          have HLEN := hid (show ∀ x t, x < L.ins → t < L.size → (Lf (x * L.size + t)).length ≤ 140737488355328 from fun x t hx ht => by
            have := HLE.out x t hx ht
            split at this <;> omega)
          have HCLM := hid hclm
          have HBM1 := hid (HBM.out.later hb1)
          have HCH1 := hid (HCH.out.trans (Chg.of_new hb1))
          have hrbw : ∀ i, i < L.size → w.heap.size ≤ rb i := HCM.out.bnd.2
          have HRBW := hid hrbw
          have hsw1 : w.heap.size ≤ w1.heap.size := by omega
          clear hw1' hb1 ho1 hclm hrbw hob HBM HT HV HCH HCM hsm HLE
          go_loopw [92] (fun t wr => ∃ (p : Nat) (A : Option Addr) (c : Nat) (cl : List (List Bool)) (ts : List (Nat × Nat)), p ≤ L.size ∧ t = .int .i64 (p : Int) ∧ ClM w.heap.size w1.heap.size wr w.heap.size tb ob cb rb L.size (.slice Ao L.size co) (.slice (some ⟨bn, on, none⟩) L.size cn) c3 c4 A c cl ts ∧ CI L cl ts ∧
            Chg (fun b => b = ob ∨ (∃ i, i < L.size ∧ b = rb i) ∨ w1.heap.size ≤ b) w1 wr) (fun t _ => L.size - (intOf t).toNat)
          case atStart => exact ⟨0, none, 0, cl0, [], Nat.zero_le _, rfl, HCLM.out, HCI0.out, Chg.refl _ _⟩
          case round =>
            clear HCLM HCI0
            obtain ⟨p, A, c, cl, ts, hp, rfl, hclm, hci, hch⟩ := hrel
            have HCLM := hid hclm
            have HCI := hid hci
            have HCH := hid hch
            clear hclm hci hch
            by_cases hpl : p < L.size
            · have hpi : (p : Int) < L.size := by omega
              go_wp2_with fail
              go_loopw [96] (fun t wr => ∃ (q : Nat) (A : Option Addr) (c : Nat) (cl : List (List Bool)) (ts : List (Nat × Nat)), q ≤ p ∧ t = .int .i64 (q : Int) ∧ ClM w.heap.size w1.heap.size wr w.heap.size tb ob cb rb L.size (.slice Ao L.size co) (.slice (some ⟨bn, on, none⟩) L.size cn) c3 c4 A c cl ts ∧ CI L cl ts ∧
                Chg (fun b => b = ob ∨ (∃ i, i < L.size ∧ b = rb i) ∨ w1.heap.size ≤ b) w1 wr) (fun t _ => p - (intOf t).toNat)
              case atStart => exact ⟨0, A, c, cl, ts, Nat.zero_le _, rfl, HCLM.out, HCI.out, HCH.out⟩
              case round =>
                clear HCLM HCI HCH
                obtain ⟨q, A, c, cl, ts, hq, rfl, hclm, hci, hch⟩ := hrel
                have HCLM := hid hclm
                have HCI := hid hci
                have HCH := hid hch
                have hszr := hch.size
                by_cases hql : q < p
                · have hqi : (q : Int) < p := by omega
                  have v0 := block_cell hclm.var (i := 0) rfl
                  have t0 : wr.cell? ⟨tb, 0, none⟩ = some (.slice Ao L.size co) := block_cell hclm.box (i := 0) rfl
                  have t1 : wr.cell? ⟨tb, 1, none⟩ = some (.slice (some ⟨bn, on, none⟩) L.size cn) := block_cell hclm.box (i := 1) rfl
                  have hkr : Keeps (fun b => b ≠ tb ∧ b < w.heap.size) w wr := ⟨by omega, fun b hb hl => (hch.block b (by omega) (by
                    rintro (e | ⟨i, hi, e⟩ | e)
                    · omega
                    · have := HRBW.out i hi; omega
                    · omega)).trans (HCH1.out.block b hl hb.1)⟩
                  have hdf := differ_any L hs hi tb p q Ao _ co cn wr t0 t1 ((HO'.out.mono (E := fun b => b ≠ tb ∧ b < w.heap.size) fun b h1 h2 => ⟨h1, h2⟩).keep hkr) ((HN'.out.mono (E := fun b => b ≠ tb ∧ b < w.heap.size) fun b h1 h2 => ⟨h1, h2⟩).keep hkr) hpl (by omega)
                  have HDF := hid hdf
                  obtain ⟨df, hdfe⟩ : ∃ b, b = diffB L p q := ⟨_, rfl⟩
                  rw [← hdfe] at HDF
                  have HDE := hid hdfe
                  clear hclm hci hch t0 t1 hkr hdf hdfe
                  go_wp2_with fail
                  refine HDF.out.mono ?_
                  rintro e w2 ⟨rfl, j, rfl⟩
                  have hclm2 := HCLM.out.later ((Drawn.n wr j).below _)
                  have hch2 := HCH.out.trans (Chg.of_new (V := (fun b => b = ob ∨ (∃ i, i < L.size ∧ b = rb i) ∨ w1.heap.size ≤ b)) ((Drawn.n wr j).below wr.heap.size))
                  have HCLM2 := hid hclm2
                  have HCH2 := hid hch2
                  clear hclm2 hch2
                  cases df with
                  | false =>
                    go_wp2_with fail
                    go_roundw
                    case rel => exact ⟨q + 1, A, c, cl, ts, by omega, by go_num, HCLM2.out, HCI.out, HCH2.out⟩
                    case measure => simp [intOf]; omega
                  | true =>
                    have hcla : Clash L p q := diff_clash hpl (by omega) HDE.out.symm
                    have HCLA := hid hcla
                    have hmk := mark_any w.heap.size w1.heap.size w.heap.size tb ob cb rb L.size _ _ c3 c4 A c cl ts p q (wr.drewN j) HCLM2.out hszr hs hpl (by omega) hcla.ne (by have := HCI.out.cnt; omega)
                    have HMK := hid hmk
                    clear hcla hmk
                    go_wp2_with fail
                    refine HMK.out.mono ?_
                    rintro e w5 ⟨A5, c5, cl5, ts5, rfl, hclm5, hm5, hch5⟩
                    have hci5 := HCI.out.mark hpl (by omega) HCLA.out hm5
                    have HCLM5 := hid hclm5
                    have HCI5 := hid hci5.1
                    have HCH5 := hid (HCH2.out.trans hch5)
                    clear hclm5 hm5 hch5 hci5
                    go_wp2_with fail
                    go_roundw
                    case rel => exact ⟨q + 1, A5, c5, cl5, ts5, by omega, by go_num, HCLM5.out, HCI5.out, HCH5.out⟩
                    case measure => simp [intOf]; omega
                · obtain rfl : q = p := by omega
                  clear hclm hci hch
                  go_wp2_with fail
                  go_roundw
                  case rel => exact ⟨q + 1, A, c, cl, ts, by omega, by go_num, HCLM.out, HCI.out, HCH.out⟩
                  case measure => simp [intOf]; omega
            · obtain rfl : p = L.size := by omega
              go_wp2_with fail
              go_loopg [15] (ts.length + cntF L.size cl) (fun gk s15 wr => ∃ (A : Option Addr) (c : Nat) (cl : List (List Bool)) (ts : List (Nat × Nat)), ClM w.heap.size w1.heap.size wr w.heap.size tb ob cb rb L.size (.slice Ao L.size co) (.slice (some ⟨bn, on, none⟩) L.size cn) c3 c4 A c cl ts ∧ CI L cl ts ∧ ts.length + cntF L.size cl ≤ gk ∧ Chg (fun b => b = ob ∨ (∃ i, i < L.size ∧ b = rb i) ∨ w1.heap.size ≤ b) w1 wr)
              case atStart => exact ⟨A, c, cl, ts, HCLM.out, HCI.out, Nat.le_refl _, HCH.out⟩
              case round =>
                clear HCLM HCI HCH hpl hp
                obtain ⟨A, c, cl, ts, hclm, hci, hgk, hch⟩ := hrel
                have HCLM := hid hclm
                have HCI := hid hci
                have HCH := hid hch
                have hszr := hch.size
                have o0 := block_cell hclm.obx (i := 0) rfl
                have of0 := block_free hclm.obx (i := 0)
                rcases List.eq_nil_or_concat ts with hts | ⟨ts', ⟨p, q⟩, hts⟩
                · subst hts
                  have hfin : Chg (fun b => b = tb) w wr := HCH1.out.trans' hch fun b hb h => by
                    rcases h with e | ⟨i, hi, e⟩ | e
                    · omega
                    · have := HRBW.out i hi; omega
                    · omega
                  have HFIN := hid hfin
                  clear hclm hci hch hfin
                  go_wp2_with fail
                  refine bodyPost_ret (results_none rfl _ _ _) rfl ?_
                  exact ⟨cb, rb, cl, rfl, HCLM.out.box, HCLM.out.cm, HCI.out.ok, HFIN.out⟩
                · rw [List.concat_eq_append] at hts
                  subst hts
                  rw [List.length_append, List.length_singleton] at o0 hgk
                  have hcell := pairs_cell (k := ts'.length) hclm.own (by simp)
                  have hcap := own_cap hclm.own
                  have hgt : (ts' ++ [(p, q)]).getD ts'.length (0, 0) = (p, q) := by simp [List.getD]
                  rw [hgt] at hcell
                  obtain ⟨g, rfl, hgb, hgl, hc0, hc1⟩ := hcell
                  rw [List.length_append, List.length_singleton] at hcap
                  obtain ⟨n', hn'⟩ : ∃ n', n' = ts'.length := ⟨_, rfl⟩
                  rw [← hn'] at o0 hgk hc0 hc1 hcap
                  have HN := hid hn'
                  have hpop := HCI.out.pop
                  have hpL : p < L.size := hpop.2.1
                  have hqL : q < L.size := hpop.2.2.1
                  have HCLA := hid (show Clash L p q from hpop.2.2.2)
                  have HCI2 := hid hpop.1
                  clear hclm hci hch hgt hn' hpop
                  go_wp2_with fail
                  go_quiet (fail)
                  go_upto_region 35 with (fail)
                  refine wp_gen fun w3 hw3 => ?_
                  obtain ⟨j3, hw3'⟩ : ∃ j, w3 = ((wr.drewN j).setCell ⟨ob, 0, none⟩ (.slice (some ⟨g, 0, none⟩) n' c)) := ⟨_, hw3⟩
                  clear hw3
                  obtain ⟨hclm3, hch3⟩ : ClM w.heap.size w1.heap.size w3 w.heap.size tb ob cb rb L.size (.slice Ao L.size co) (.slice (some ⟨bn, on, none⟩) L.size cn) c3 c4 (some ⟨g, 0, none⟩) c cl ts' ∧ Chg (fun b => b = ob ∨ (∃ i, i < L.size ∧ b = rb i) ∨ w1.heap.size ≤ b) w1 w3 := by
                    have h0 := (HCLM.out.later ((Drawn.n wr j3).below _)).pop
                    rw [← HN.out, ← hw3'] at h0
                    refine ⟨h0, ?_⟩
                    rw [hw3']
                    exact (HCH.out.drewN j3).set _ _ (fun _ => .inl rfl)
                  obtain ⟨G, hG⟩ : ∃ G, G = n' + cntF L.size cl := ⟨_, rfl⟩
                  have hGk : G < gk := by omega
                  have HCLM3 := hid hclm3
                  have HCH3 := hid hch3
                  have HG := hid (show ts'.length + cntF L.size cl ≤ G by rw [hG, HN.out]; exact Nat.le_refl _)
                  clear hw3' hclm3 hch3 hG o0 of0 hc0 hc1 HCLM HCI HCH hgk hcap
                  go_wp2_with fail
                  go_loopw [133] (fun t wr => ∃ (x : Nat) (A : Option Addr) (c : Nat) (cl : List (List Bool)) (ts : List (Nat × Nat)), x ≤ L.ins ∧ t = .int .i64 (x : Int) ∧ ClM w.heap.size w1.heap.size wr w.heap.size tb ob cb rb L.size (.slice Ao L.size co) (.slice (some ⟨bn, on, none⟩) L.size cn) c3 c4 A c cl ts ∧ CI L cl ts ∧ ts.length + cntF L.size cl ≤ G ∧ Chg (fun b => b = ob ∨ (∃ i, i < L.size ∧ b = rb i) ∨ w1.heap.size ≤ b) w1 wr) (fun t _ => L.ins - (intOf t).toNat)
                  case atStart => exact ⟨0, _, c, cl, ts', Nat.zero_le _, rfl, HCLM3.out, HCI2.out, HG.out, HCH3.out⟩
                  case round =>
                    clear HCLM3 HCI2 HG HCH3
                    obtain ⟨x, A, c, cl, ts, hx, rfl, hclm, hci, hg, hch⟩ := hrel
                    have HCLM := hid hclm
                    have HCI := hid hci
                    have HG := hid hg
                    have HCH := hid hch
                    have hszr := hch.size
                    clear hclm hci hg
                    by_cases hxl : x < L.ins
                    · have hxi : (x : Int) < L.ins := by omega
                      have hpi : (p : Int) < L.size := by omega
                      have hqi : (q : Int) < L.size := by omega
                      obtain ⟨A1, k1, e1, hr1⟩ := HBM1.out.rd (HLEN.out x p hxl hpL)
                      obtain ⟨A2, k2, e2, hr2⟩ := HBM1.out.rd (HLEN.out x q hxl hqL)
                      have hbl1 := fun a ha => HBO.out x p a hxl hpL ha
                      have hbl2 := fun a ha => HBO.out x q a hxl hqL ha
                      obtain ⟨l1, hl1⟩ : ∃ l, l = Lf (x * L.size + p) := ⟨_, rfl⟩
                      obtain ⟨l2, hl2⟩ : ∃ l, l = Lf (x * L.size + q) := ⟨_, rfl⟩
                      rw [← hl1] at e1 hr1 hbl1
                      rw [← hl2] at e2 hr2 hbl2
                      have HR1 := hid hr1
                      have HR2 := hid hr2
                      have HBL1 := hid hbl1
                      have HBL2 := hid hbl2
                      have hbm := HBM1.out.keep (HSM.out _ hch)
                      obtain ⟨pf, pfl, pil, pI⟩ := hbm.cell hxl
                      have pc1 := (pI p hpL).1
                      have pc2 := (pI q hqL).1
                      rw [e1] at pc1
                      rw [e2] at pc2
                      have hlen1 := (hr1 _ (HSM.out _ hch)).len
                      have hlen2 := (hr2 _ (HSM.out _ hch)).len
                      rw [natZ_len] at hlen1 hlen2
                      have HBMC := hid (show ∀ W, Chg (fun b => b = ob ∨ (∃ i, i < L.size ∧ b = rb i) ∨ w1.heap.size ≤ b) w1 W → W.cell? ⟨fb, x, none⟩ = some (.slice (some ⟨ib x, 0, none⟩) L.size L.size) ∧ W.cell? ⟨ib x, q, none⟩ = some (.slice A2 l2.length k2) from fun W hW => by
                        obtain ⟨h1, _, _, h4⟩ := (HBM1.out.keep (HSM.out _ hW)).cell hxl
                        have h5 := (h4 q hqL).1
                        rw [e2] at h5
                        exact ⟨h1, h5⟩)
                      clear e1 e2 hr1 hr2 hbl1 hbl2 hbm pI hch hl1 hl2
                      go_wp2_with fail
                      go_loopw [144] (fun t wr => ∃ (i1 : Nat) (A : Option Addr) (c : Nat) (cl : List (List Bool)) (ts : List (Nat × Nat)), i1 ≤ l1.length ∧ t = .int .i64 (i1 : Int) ∧ ClM w.heap.size w1.heap.size wr w.heap.size tb ob cb rb L.size (.slice Ao L.size co) (.slice (some ⟨bn, on, none⟩) L.size cn) c3 c4 A c cl ts ∧ CI L cl ts ∧ ts.length + cntF L.size cl ≤ G ∧ Chg (fun b => b = ob ∨ (∃ i, i < L.size ∧ b = rb i) ∨ w1.heap.size ≤ b) w1 wr) (fun t _ => l1.length - (intOf t).toNat)
                      case atStart => exact ⟨0, A, c, cl, ts, Nat.zero_le _, rfl, HCLM.out, HCI.out, HG.out, HCH.out⟩
                      case round =>
                        clear HCLM HCI HG HCH hszr pf pc1 pc2 pil pfl
                        obtain ⟨j1, A, c, cl, ts, hj1, rfl, hclm, hci, hg, hch⟩ := hrel
                        have HCLM := hid hclm
                        have HCI := hid hci
                        have HG := hid hg
                        have HCH := hid hch
                        have hszr := hch.size
                        clear hclm hci hg
                        by_cases hjl1 : j1 < l1.length
                        · have hji : (j1 : Int) < l1.length := by omega
                          obtain ⟨sb1, so1, a, hA1, hsbl1, HQ1, ham, hac⟩ := (HR1.out _ (HSM.out _ hch)).natc hjl1
                          subst hA1
                          obtain ⟨haL, oa, hma⟩ := HBL1.out a ham
                          obtain ⟨pf, pc2⟩ := HBMC.out _ hch
                          have HMA := hid hma
                          clear ham hma hch
                          go_wp2_with fail
                          go_loopw [156] (fun t wr => ∃ (i1 : Nat) (A : Option Addr) (c : Nat) (cl : List (List Bool)) (ts : List (Nat × Nat)), i1 ≤ l2.length ∧ t = .int .i64 (i1 : Int) ∧ ClM w.heap.size w1.heap.size wr w.heap.size tb ob cb rb L.size (.slice Ao L.size co) (.slice (some ⟨bn, on, none⟩) L.size cn) c3 c4 A c cl ts ∧ CI L cl ts ∧ ts.length + cntF L.size cl ≤ G ∧ Chg (fun b => b = ob ∨ (∃ i, i < L.size ∧ b = rb i) ∨ w1.heap.size ≤ b) w1 wr) (fun t _ => l2.length - (intOf t).toNat)
                          case atStart => exact ⟨0, A, c, cl, ts, Nat.zero_le _, rfl, HCLM.out, HCI.out, HG.out, HCH.out⟩
                          case round =>
                            clear HCLM HCI HG HCH hszr pf pc2 hac
                            obtain ⟨j2, A, c, cl, ts, hj2, rfl, hclm, hci, hg, hch⟩ := hrel
                            have HCLM := hid hclm
                            have HCI := hid hci
                            have HG := hid hg
                            have HCH := hid hch
                            have hszr := hch.size
                            clear hclm hci hg
                            by_cases hjl2 : j2 < l2.length
                            · have hji2 : (j2 : Int) < l2.length := by omega
                              obtain ⟨sb2, so2, b, hA2, hsbl2, HQ2, hbm2, hbc⟩ := (HR2.out _ (HSM.out _ hch)).natc hjl2
                              subst hA2
                              obtain ⟨hbL, ob2, hmb⟩ := HBL2.out b hbm2
                              have hcla : Clash L a b := HCLA.out.back haL hbL hxl HMA.out hmb
                              have HCLB := hid hcla
                              have hmk := mark_any w.heap.size w1.heap.size w.heap.size tb ob cb rb L.size _ _ c3 c4 A c cl ts a b wr HCLM.out hszr hs haL hbL hcla.ne (by have := HCI.out.cnt; omega)
                              have HMK := hid hmk
                              clear hbm2 hmb hch hcla hmk
                              go_wp2_with fail
                              refine HMK.out.mono ?_
                              rintro e w5 ⟨A5, c5, cl5, ts5, rfl, hclm5, hm5, hch5⟩
                              have hci5 := HCI.out.mark haL hbL HCLB.out hm5
                              have HCLM5 := hid hclm5
                              have HCI5 := hid hci5.1
                              have HG5 := hid (Nat.le_trans hci5.2 HG.out)
                              have HCH5 := hid (HCH.out.trans hch5)
                              clear hclm5 hm5 hch5 hci5 hbc
                              go_wp2_with fail
                              go_roundw
                              case rel => exact ⟨j2 + 1, A5, c5, cl5, ts5, by omega, by go_num, HCLM5.out, HCI5.out, HG5.out, HCH5.out⟩
                              case measure => simp [intOf]; omega
                            · obtain rfl : j2 = l2.length := by omega
                              clear hch
                              go_wp2_with fail
                              go_roundw
                              case rel => exact ⟨j1 + 1, A, c, cl, ts, by omega, by go_num, HCLM.out, HCI.out, HG.out, HCH.out⟩
                              case measure => simp [intOf]; omega
                        · obtain rfl : j1 = l1.length := by omega
                          clear hch
                          go_wp2_with fail
                          go_roundw
                          case rel => exact ⟨x + 1, A, c, cl, ts, by omega, by go_num, HCLM.out, HCI.out, HG.out, HCH.out⟩
                          case measure => simp [intOf]; omega
                    · obtain rfl : x = L.ins := by omega
                      clear hch
                      go_wp2_with fail
                      go_roundg (ts.length + cntF L.size cl)
                      case rel => exact ⟨A, c, cl, ts, HCLM.out, HCI.out, Nat.le_refl _, HCH.out⟩
                      case measure =>
                        have := HG.out
                        omega
end Go.Proofs.Ytcmhginhfhiolaa
