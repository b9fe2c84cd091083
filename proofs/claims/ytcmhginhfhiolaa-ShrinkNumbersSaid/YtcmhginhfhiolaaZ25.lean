/-
  Walk of divide.
-/
import Derived.IntWalk
import Derived.StillTailTactics
import Derived.Test.YtcmhginhfhiolaaZ24
set_option linter.unusedVariables false
set_option linter.unusedSimpArgs false
namespace Go.Proofs.Ytcmhginhfhiolaa
open Go.RowKit
attribute [local go_sem] cell_alloc_old

set_option maxRecDepth 100000 in
set_option maxHeartbeats 8000000 in
theorem divide_any {D : Dom} (v : Value) (m : Mly) (w : World) (h : RdM w D v m) (hS : Sized m) : Calls Try.prog 39 #[v] w (DivSays (wholeM m) w) := by
  obtain ⟨i0, hti, hz0, hz1, hz2⟩ := info_parts int_info2
  obtain ⟨i1, htr, hy0, hy1, hy2⟩ := info_parts row_info2
  obtain ⟨i2, ht2, hx0, hx1, hx2⟩ := info_parts rows_info2
  obtain ⟨i3, htb, hb0, hb1, hb2⟩ := info_parts byte_info2
  have HV := hid h.old
  obtain ⟨Ao, co, An, cn, rfl, ho, hn⟩ := h
  have hol := ho.len
  have hnl := hn.len
  obtain ⟨M, hMe⟩ : ∃ M, M = wholeM m := ⟨_, rfl⟩
  have hM : M.Ok := by rw [hMe]; exact whole_ok hS
  have hT : Total M := by rw [hMe]; exact whole_total m
  have hin : (M.ins : Int) = m.ins := by rw [hMe]; show (m.ins.toNat : Int) = _; have := hS.i1; omega
  have hsz : M.size = m.out.length := by rw [hMe]; rfl
  have hi1 := hS.i1
  have hi2 := hS.i2
  have hn1 := hS.n1
  have hn2 := hS.n2
  have HM := hid hMe
  have HMO := hid hM
  have HMT := hid hT
  have HIN := hid hin
  have hin1 : (M.ins : Int) ≤ m.ins := by omega
  have hin2 : m.ins ≤ (M.ins : Int) := by omega
  have hsz1 : M.size ≤ m.out.length := by omega
  have hsz2 : m.out.length ≤ M.size := by omega
  have HS := hid hS
  have mk1 : ∀ W, (Instr.makeSlice 34 (.int .i64 (m.out.length : Int)) (.int .i64 (m.out.length : Int))).run Try.prog W = .ok (.slice (some ⟨W.heap.size, 0, none⟩) m.out.length m.out.length) (W.alloc (zrow (.int .i64 0) m.out.length 3)) := fun W =>
    run_make_zrow _ _ _ _ 8 Try.underlying34 hti hz0 hz1 hz2 rfl _ _ _ (by omega) (by omega) W
  have mk2 : ∀ W, (Instr.makeSlice 63 (.int .i64 m.ins) (.int .i64 m.ins)).run Try.prog W = .ok (.slice (some ⟨W.heap.size, 0, none⟩) M.ins M.ins) (W.alloc (zrow (.slice none 0 0) M.ins 22)) := fun W => by
    rw [← hin]
    exact run_make_zrow _ _ _ _ 24 Try.underlying63 ht2 hx0 hx1 hx2 rfl _ _ _ (by omega) (by omega) W
  have HMK1 := hid mk1
  have HMK2 := hid mk2
  have HOO := hid ho.old
  have HNN := hid hn.old
  rw [← hMe]
  clear ho hn hS hMe hM hT hin hsz mk1 mk2
  go_enter Try.func39, Try.ntmps39
  go_upto_region 1 with (fail)
  refine wp_gen fun W1 hW1 => ?_
  have hb1 : Below w.heap.size w W1 := by rw [hW1]; go_grown
  have hx1 : W1.heap[w.heap.size]? = some (.cells (mlyCells m Ao co An cn) 24 (0, 0)) := by
    rw [hW1]; exact heap_alloc_new _ _
  have HB1 := hid hb1
  have HX1 := hid hx1
  have x0 : W1.cell? ⟨w.heap.size, 0, none⟩ = some (.int .i64 m.ins) := block_cell hx1 (i := 0) rfl
  have x3 : W1.cell? ⟨w.heap.size, 3, none⟩ = some (.slice Ao m.out.length co) := block_cell hx1 (i := 3) rfl
  have hs1 : w.heap.size < W1.heap.size := lt_of_block hx1
  clear hW1 hb1 hx1
  have mk1 := HMK1.out
  have mk2 := HMK2.out
  go_upto_region 3 with (fail)
  go_cut [4] (fun s wc => ∃ ab fb pb : Nat, s = .pointer (some ⟨pb, 0, none⟩) ∧ W1.heap.size ≤ ab ∧ W1.heap.size ≤ fb ∧ W1.heap.size ≤ pb ∧ Below W1.heap.size W1 wc ∧ wc.heap[ab]? = some (zrow (.int .i64 0) m.out.length 3) ∧ wc.heap[fb]? = some (zrow (.slice none 0 0) M.ins 22) ∧
    wc.heap[pb]? = some (.cells #[.slice (some ⟨ab, 0, none⟩) m.out.length m.out.length, .slice none 0 0, .slice (some ⟨fb, 0, none⟩) M.ins M.ins, .slice none 0 0, .slice none 0 0] 65 (0, 0)))
  case first =>
    --<<
    go_region
    all_goals
      go_wp2_with fail
      go_meet
      first
        | exact ⟨W1.heap.size, W1.heap.size + 1, _, rfl, Nat.le_refl _, by omega, by omega, lay3_below _ _ _ _, (lay3 _ _ _ _).1, (lay3 _ _ _ _).2.1, (lay3 _ _ _ _).2.2⟩
        | exact ⟨W1.heap.size + 1, W1.heap.size, _, rfl, by omega, Nat.le_refl _, by omega, lay3_below _ _ _ _, (lay3 _ _ _ _).2.1, (lay3 _ _ _ _).1, (lay3 _ _ _ _).2.2⟩
    -->>
  case rest =>
    obtain ⟨ab, fb, pb, rfl, hab, hfb, hpb, hb2, ha2, hf2, hp2⟩ := hcut
    have hl1 : Lay1 W1.heap.size wc pb ⟨some ⟨ab, 0, none⟩, m.out.length, none, 0, some ⟨fb, 0, none⟩, M.ins, M.ins, none, 0, none, 0⟩ (m.out.length) 0 fb (fun _ => 0) M.ins := Lay1.zero hab hfb ha2 hf2 hp2 (by omega) (by omega)
    obtain ⟨Q, hQ⟩ : ∃ Q : PTA, Q = ⟨some ⟨ab, 0, none⟩, m.out.length, none, 0, some ⟨fb, 0, none⟩, M.ins, M.ins, none, 0, none, 0⟩ := ⟨_, rfl⟩
    rw [← hQ] at hl1
    have hqa : Q.am = none := by rw [hQ]
    have HQA := hid hqa
    have HL1 := hid hl1
    have HB2 := hid hb2
    have mk3 : ∀ W, (Instr.makeSlice 22 (.int .i64 (m.out.length : Int)) (.int .i64 (m.out.length : Int))).run Try.prog W = .ok (.slice (some ⟨W.heap.size, 0, none⟩) m.out.length m.out.length) (W.alloc (zrow (.slice none 0 0) m.out.length 34)) := fun W =>
      run_make_zrow _ _ _ _ 24 Try.underlying22 htr hy0 hy1 hy2 rfl _ _ _ (by omega) (by omega) W
    obtain ⟨w2, rfl⟩ : ∃ w2 : World, w2 = wc := ⟨_, rfl⟩
    have x2 := hl1.cell2
    clear hb2 ha2 hf2 hp2 hQ hl1 mk1 mk2 x0 x3 hqa hfb hab
    go_wp2_with fail
    go_loopw [33] (fun t wr => ∃ (k : Nat) (ib : Nat → Nat), k ≤ M.ins ∧ t = .int .i64 (k : Int) ∧ Lay1 W1.heap.size wr pb Q m.out.length k fb ib M.ins ∧ Below W1.heap.size W1 wr) (fun t _ => M.ins - (intOf t).toNat)
    case atStart => exact ⟨0, _, Nat.zero_le _, rfl, HL1.out, HB2.out⟩
    case round =>
      obtain ⟨k, ib, hk, rfl, hl, hb⟩ := hrel
      have HL := hid hl
      have HB := hid hb
      have hszb := hb.size
      clear HL1 HB2 hb x2
      by_cases hlt : k < M.ins
      · have hki : (k : Int) < M.ins := by omega
        have hki0 : (0 : Int) ≤ (k : Int) := by omega
        have x2 := hl.cell2
        obtain ⟨u, gc, gf, hfl⟩ := hl.at_fb hlt
        have hpl := hl.p.cells.2.2.2.2.2.1
        have hne : fb ≠ pb := fun e => hl.ne e
        clear hl
        --<<
        go_wp2_with fail
        go_region_held3 (fun w' => w'.cell? ⟨pb, 2, none⟩ = some (.slice (some ⟨fb, 0, none⟩) M.ins M.ins)) (go_keep) (fail)
        all_goals
          go_wp2_with fail
          have hnx := HL.out.next hlt (by omega)
          rw [World.setCell_alloc_past _ _ _ _ hfl] at hnx
          have HNX := hid hnx
          clear hnx gc gf x2
          go_roundw
          case rel => exact ⟨k + 1, _, by omega, by go_num, HNX.out.1, HB.out.trans HNX.out.2⟩
          case measure => simp [intOf]; omega
        -->>
      · obtain rfl : k = M.ins := by omega
        have hd := HL.out.done HQA.out
        have HD := hid hd
        clear hd mk3 hl
        have hmm := @run_makeMap Try.prog
        have hx3 : wr.heap[w.heap.size]? = some (.cells (mlyCells m Ao co An cn) 24 (0, 0)) := (HB.out.block _ hs1).trans HX1.out
        have x3 : wr.cell? ⟨w.heap.size, 3, none⟩ = some (.slice Ao m.out.length co) := block_cell hx3 (i := 3) rfl
        clear hx3
        obtain ⟨w3, rfl⟩ : ∃ w3 : World, w3 = wr := ⟨_, rfl⟩
        have hws : w.heap.size < w3.heap.size := by omega
        go_upto_region 9 with (fail)
        refine wp_gen fun W4 hW4 => ?_
        have hd4 := HD.out.later (w' := W4) (by rw [hW4]; go_grown)
        have hb4 : Below W1.heap.size W1 W4 := HB.out.trans ((show Below w3.heap.size w3 W4 from by rw [hW4]; go_grown).mono hszb)
        have hm4 : MapIs encStr W4 w3.heap.size [] := by rw [hW4]; exact MapIs.new w3
        have HD4 := hid hd4
        have HB4 := hid hb4
        have HM4 := hid hm4
        have x3' : W4.cell? ⟨w.heap.size, 3, none⟩ = some (.slice Ao m.out.length co) := by rw [hW4, cell_alloc_old _ _ _ hws]; exact x3
        obtain ⟨ob, hob⟩ : ∃ ob, ob = w3.heap.size := ⟨_, rfl⟩
        rw [← hob] at HM4
        have hobB : W1.heap.size ≤ ob := by omega
        rw [← hob]
        clear hW4 hd4 hb4 hm4 x3 hmm hob
        go_wp2_with fail
        go_loopw [49] (fun t wr => ∃ (k nb : Nat) (Q' : PTA) (bk : List Nat) (vm : List Value) (F : Nat → Value) (L : Nat → List Nat) (lv : List (ByteArray × Value)), k ≤ m.out.length ∧ t = .int .i64 (k : Int) ∧ DvI W1.heap.size wr pb Q' (natZ bk) vm (natZ (List.range nb)) (List.replicate nb true) fb ib M.ins m.out.length F L ∧
          vm.length = nb ∧ Ph1 M k nb bk L ∧ Ph2 M k 0 L ∧ MapIs encStr wr ob lv ∧ MapP M k bk lv ∧ Below W1.heap.size W1 wr) (fun t _ => m.out.length - (intOf t).toNat)
        case atStart => exact ⟨0, 0, Q, List.replicate m.out.length 0, [], _, _, [], Nat.zero_le _, rfl, HD4.out, rfl, Ph1.zero (by rw [List.length_replicate]; omega), Ph2.zero (fun _ => rfl), HM4.out, MapP.zero _ _, HB4.out⟩
        case round =>
          clear HD HB HL hlt hk hszb
          obtain ⟨k, nb, Q', bk, vm, F, L, lv, hk, rfl, hd, hvl, hp1, hp2, hmp, hmq, hb⟩ := hrel
          have HD := hid hd
          have HVL := hid hvl
          have HP1 := hid hp1
          have HP2 := hid hp2
          have HMP := hid hmp
          have HMQ := hid hmq
          have HB := hid hb
          have hszb := hb.size
          have hvl1 : vm.length ≤ nb := by omega
          have hvl2 : nb ≤ vm.length := by omega
          have hnbk := hp1.le
          clear hd hvl hp1 hp2 hmp hmq hb HD4 HB4 HM4 x3'
          by_cases hlt : k < m.out.length
          · --[[
            have hki : (k : Int) < m.out.length := by omega
            have hkM : k < M.size := by omega
            have HBW := hid (HB1.out.trans (HB.out.mono HB1.out.size))
            obtain ⟨b1, o1, A1, c1, r1, hA1, _, hb1l, HR1, hr1, hc1w⟩ := HOO.out.get hlt
            have hc1 := (HBW.out.cell (p := ⟨b1, o1 + k, none⟩) hb1l).trans hc1w
            subst hA1
            have e1 := HS.out.outr k 0 hlt (by omega)
            rw [HR1.out] at e1
            have hr1a : r1.length ≤ M.ins := by omega
            have hr1b : M.ins ≤ r1.length := by omega
            have HR1D := hid hr1
            have hr1c := hr1.len
            have mk4 : ∀ W, (Instr.makeSlice 33 (.int .i64 (r1.length : Int)) (.int .i64 (r1.length : Int))).run Try.prog W = .ok (.slice (some ⟨W.heap.size, 0, none⟩) r1.length r1.length) (W.alloc (zrow (.int .u8 0) r1.length 5)) := fun W =>
              run_make_zrow _ _ _ _ 1 Try.underlying33 htb hb0 hb1 hb2 rfl _ _ _ (by omega) (by omega) W
            clear e1 hr1 hc1w
            obtain ⟨wa, rfl⟩ : ∃ w3 : World, w3 = wr := ⟨_, rfl⟩
            go_upto_region 13 with (fail)
            refine wp_gen fun w5 hw5 => ?_
            have hb5 : Below wa.heap.size wa w5 := by rw [hw5]; go_grown
            have hk5 : w5.ownsRow wa.heap.size 5 1 (.slice (some ⟨wa.heap.size, 0, none⟩) r1.length r1.length) r1.length ((rowP (mvO M k) 0 r1.length).map (.int .u8)) := by
              rw [hw5, rowP_zero8]; exact own_zrow wa wa.heap.size _ _ _ (Nat.le_refl _) (maxLen_le (by omega))
            have HD5 := hid (HD.out.later hb5)
            have HK5 := hid hk5
            have HMP5 := hid (HMP.out.of_block (hb5.block _ HMP.out.lt))
            have HB5 := hid (HB.out.trans (hb5.mono hszb))
            have hs5 := hb5.size
            obtain ⟨kb, hkb⟩ : ∃ kb, kb = wa.heap.size := ⟨_, rfl⟩
            rw [← hkb] at HK5
            rw [← hkb]
            have hkbB : W1.heap.size ≤ kb := by omega
            have HKB := hid hkb
            clear hw5 hb5 hk5 mk4 hkb
            go_wp2_with fail
            go_loopw [59] (fun t wr => ∃ (x : Nat) (F : Nat → Value) (L : Nat → List Nat), x ≤ M.ins ∧ t = .int .i64 (x : Int) ∧ DvI W1.heap.size wr pb Q' (natZ bk) vm (natZ (List.range nb)) (List.replicate nb true) fb ib M.ins m.out.length F L ∧ Ph1 M k nb bk L ∧ Ph2 M k x L ∧ MapIs encStr wr ob lv ∧
              wr.ownsRow W1.heap.size 5 1 (.slice (some ⟨kb, 0, none⟩) r1.length r1.length) r1.length ((rowP (mvO M k) x r1.length).map (.int .u8)) ∧ Below W1.heap.size W1 wr) (fun t _ => M.ins - (intOf t).toNat)
            case atStart => exact ⟨0, F, L, Nat.zero_le _, rfl, HD5.out, HP1.out, HP2.out, HMP5.out, own_base HK5.out (by omega), HB5.out⟩
            case round =>
              clear HD HMP HB HD5 HK5 HMP5 HB5 HP1 HP2 F L hszb hs5 hc1
              obtain ⟨x, F, L, hx, rfl, hd, hp1, hp2, hmp, hkr, hb⟩ := hrel
              have HD := hid hd
              have HP1 := hid hp1
              have HP2 := hid hp2
              have HMP := hid hmp
              have HKR := hid hkr
              have HB := hid hb
              have hszb := hb.size
              clear hd hp1 hp2 hmp hkr hb
              by_cases hxl : x < M.ins
              · --<<
                have hxi : (x : Int) < r1.length := by omega
                have hxi2 : (x : Int) < m.ins := by omega
                have hxi0 : (0 : Int) ≤ (x : Int) := by omega
                have HBR := hid (HB1.out.trans (HB.out.mono HB1.out.size))
                obtain ⟨b2, o2, z, hA2, _, _, HZ, hc2⟩ := (HR1D.out.keep (Keeps.of_below HBR.out fun _ h => h)).get (show x < r1.length by omega)
                subst hA2
                have hnl2 : k < m.next.length := by rw [HS.out.nn]; exact hlt
                obtain ⟨b3, o3, A3, c3, r2, hA3, _, hb3l, HR2, hr2, hc3⟩ := (HNN.out.keep (Keeps.of_below HBR.out fun _ h => h)).get hnl2
                subst hA3
                have e2 := HS.out.nextr k x hlt hxi2
                rw [HR2.out] at e2
                obtain ⟨b4, o4, z2, hA4, hb4D, _, HZ2, hc4⟩ := hr2.get (show x < r2.length by omega)
                subst hA4
                rw [HZ2.out] at e2
                obtain ⟨t, rfl⟩ : ∃ t : Nat, z2 = (t : Int) := ⟨z2.toNat, by omega⟩
                have htn : t < m.out.length := by omega
                have hti3 : (t : Int) < m.out.length := by omega
                have hti0 : (0 : Int) ≤ (t : Int) := by omega
                have hki2 : (k : Int) < m.next.length := by omega
                have hxi3 : (x : Int) < r2.length := by omega
                have hr2c := hr2.len
                have e1 := HS.out.outr k x hlt hxi2
                rw [HR1.out, HZ.out] at e1
                have hz0' : 0 ≤ z := e1.2.1
                have hz64 : z < 64 := by have := HS.out.o2; omega
                have HMVO := hid (show mvO M k x = z by rw [HM.out]; show ((m.out.getD k []).getD x 0) = z; rw [HR1.out, HZ.out])
                have HDL := hid (show dl M k x = t by rw [HM.out]; show ((m.next.getD k []).getD x 0).toNat = t; rw [HR2.out, HZ2.out]; rfl)
                have hx3 := (HB.out.block _ hs1).trans HX1.out
                have x4 : wr.cell? ⟨w.heap.size, 4, none⟩ = some (.slice (some ⟨b3, o3, none⟩) m.next.length cn) := block_cell hx3 (i := 4) rfl
                obtain ⟨kg, hkg, -, hkgl, hkc, -⟩ := own_ptr HKR.out (by omega)
                injection hkg with hkg
                injection hkg with hkg
                subst hkg
                obtain ⟨gc, gf⟩ := hkc x (.int .u8 0) (by rw [List.getElem?_map]; unfold rowP; rw [List.getElem?_map, List.getElem?_range (show x < r1.length by omega)]; simp)
                clear hr2 e2 e1 hx3 hkc
                go_upto_region 17 with (fail)
                refine wp_gen fun w6 hw6 => ?_
                have hw6' : w6 = wr.setCell ⟨kb, x, none⟩ (.int .u8 z) := hw6
                clear hw6
                obtain ⟨kcs, hkcs⟩ := own_heap HKR.out (k := kb) rfl
                have key6 : ∀ j, j < wr.heap.size → j ≠ kb → w6.heap[j]? = wr.heap[j]? := fun j _ hj => by rw [hw6']; exact Below.heap_setCell _ _ _ _ hj
                have hd6 := HD.out.other hkcs (w' := w6) (by rw [hw6']; simp) key6
                have hk6 : w6.ownsRow W1.heap.size 5 1 (.slice (some ⟨kb, 0, none⟩) r1.length r1.length) r1.length ((rowP (mvO M k) (x + 1) r1.length).map (.int .u8)) := by
                  rw [hw6', ← rowP_set8 _ (show x < r1.length by omega), HMVO.out]
                  exact (HKR.out.stored x _).1
                have hmp6 : MapIs encStr w6 ob lv := HMP.out.of_block (key6 ob HMP.out.lt fun e => by
                  obtain ⟨es, ck, h1, _⟩ := HMP.out
                  rw [e, hkcs] at h1
                  cases h1)
                have hb6 : Below W1.heap.size W1 w6 := by rw [hw6']; exact HB.out.setCell (p := ⟨kb, x, none⟩) hkbB _
                have HD6 := hid hd6
                have HK6 := hid hk6
                have HMP6 := hid hmp6
                have HB6 := hid hb6
                have hs6 := hb6.size
                have c2' : w6.cell? ⟨b3, o3 + k, none⟩ = some (.slice (some ⟨b4, o4, none⟩) r2.length c3) := by
                  rw [hw6']; exact (World.cell?_of_block (w := wr) (a := ⟨b3, o3 + k, none⟩) (Below.heap_setCell _ _ _ _ (show b3 ≠ kb by omega))).trans hc3
                have c4' : w6.cell? ⟨b4, o4 + x, none⟩ = some (.int .i64 (t : Int)) := by
                  rw [hw6']; exact (World.cell?_of_block (w := wr) (a := ⟨b4, o4 + x, none⟩) (Below.heap_setCell _ _ _ _ (show b4 ≠ kb by have : b4 < w.heap.size := hb4D; omega))).trans hc4
                have x4' : w6.cell? ⟨w.heap.size, 4, none⟩ = some (.slice (some ⟨b3, o3, none⟩) m.next.length cn) := by
                  rw [hw6']; exact (World.cell?_of_block (w := wr) (a := ⟨w.heap.size, 4, none⟩) (Below.heap_setCell _ _ _ _ (show w.heap.size ≠ kb by omega))).trans x4
                clear hc3 hc4 x4 gc gf hc2 hw6' key6 hkcs hd6 hk6 hmp6 hb6
                obtain ⟨p2, pF⟩ := HD6.out.cellb
                obtain ⟨pf, pfl, pI⟩ := pF x hxl
                obtain ⟨pc, pcf, pil⟩ := pI t htn
                obtain ⟨i0', hi0'⟩ : ∃ i, i = 2 * (x * m.out.length + t) := ⟨_, rfl⟩
                rw [← hi0'] at pc
                have HI0 := hid hi0'
                have hrow := HD6.out.fam.row i0'
                obtain ⟨AF, cF, hF⟩ := own_as hrow
                rw [hF] at pc hrow
                have HF := hid hF
                have HROW := hid hrow
                have hLl : (L i0').length ≤ 3000 := by
                  have := HP2.out x t hxl (by omega)
                  rw [show 2 * (x * M.size + t) = i0' by rw [hi0', show M.size = m.out.length by omega], if_neg (by omega)] at this
                  rw [this]
                  exact Nat.le_trans (List.length_filter_le _ _) (by rw [List.length_range]; omega)
                have hpbne : pb ≠ fb := fun e => by
                  obtain ⟨cur, h1, _⟩ := HD6.out.fbx
                  rw [← e] at h1
                  exact absurd (heap_ty h1 HD6.out.p.box) (by decide)
                have hpbl : pb < w6.heap.size := lt_of_block HD6.out.p.box
                have hpbi : pb ≠ ib x := fun e => by
                  obtain ⟨cur, h1, _⟩ := HD6.out.ibx x hxl
                  rw [← e] at h1
                  exact absurd (heap_ty h1 HD6.out.p.box) (by decide)
                have hfbi : fb ≠ ib x := fun e => HD6.out.ib_fb hxl e.symm
                clear pF pI hF hrow hi0'
                go_wp2_with fail
                refine wp_region_sink' (fun w' => w'.cell? ⟨pb, 2, none⟩ = some (.slice (some ⟨fb, 0, none⟩) M.ins M.ins) ∧ w'.cell? ⟨fb, x, none⟩ = some (.slice (some ⟨ib x, 0, none⟩) m.out.length m.out.length) ∧ w'.cell? ⟨ib x, t, none⟩ = some (.slice AF (L i0').length cF)) (by kernel_rfl) (by kernel_rfl) (by kernel_rfl) ⟨p2, pf, pc⟩ (fun hHeld => ?_)
                simp only [List.dropLast_cons_cons, List.dropLast_singleton, List.getLast_cons_cons, List.getLast_singleton]
                refine wpAnyH_take (i := 0) (v := ?_) rfl (by kernel_rfl) (by kernel_rfl) (by kernel_rfl) (fun _ _ _ h => h) (Or.inl ⟨by rfl, ?_⟩) (by assumption) ?_
                rotate_left
                · intro w hSw; (try dsimp only at hSw); go_simp; (try (with_reducible rfl))
                try simp only [Act.put, List.setIfInBounds_toArray, List.set_cons_zero, List.set_cons_succ]
                refine wpAnyH_take (i := 1) (v := ?_) rfl (by kernel_rfl) (by kernel_rfl) (by kernel_rfl) (fun _ _ _ h => h) (Or.inl ⟨by rfl, ?_⟩) (by assumption) ?_
                rotate_left
                · intro w hSw; (try dsimp only at hSw); go_simp; (try (with_reducible rfl))
                try simp only [Act.put, List.setIfInBounds_toArray, List.set_cons_zero, List.set_cons_succ]
                refine wpAnyH_take (i := 2) (v := ?_) rfl (by kernel_rfl) (by kernel_rfl) (by kernel_rfl) (fun _ _ _ h => h) (Or.inl ⟨by rfl, ?_⟩) (by assumption) ?_
                rotate_left
                · intro w hSw; (try dsimp only at hSw); go_simp; (try (with_reducible rfl))
                try simp only [Act.put, List.setIfInBounds_toArray, List.set_cons_zero, List.set_cons_succ]
                refine wpAnyH_take (i := 3) (v := ?_) rfl (by kernel_rfl) (by kernel_rfl) (by kernel_rfl) (fun _ _ _ h => h) (Or.inl ⟨by rfl, ?_⟩) (by assumption) ?_
                rotate_left
                · intro w hSw; (try dsimp only at hSw); go_simp; (try (with_reducible rfl))
                try simp only [Act.put, List.setIfInBounds_toArray, List.set_cons_zero, List.set_cons_succ]
                refine wpAnyH_take (i := 4) (v := ?_) rfl (by kernel_rfl) (by kernel_rfl) (by kernel_rfl) (fun _ _ _ h => h) (Or.inl ⟨by rfl, ?_⟩) (by assumption) ?_
                rotate_left
                · intro w hSw; (try dsimp only at hSw); go_simp; (try (with_reducible rfl))
                try simp only [Act.put, List.setIfInBounds_toArray, List.set_cons_zero, List.set_cons_succ]
                refine wpAnyH_take (i := 5) (v := ?_) rfl (by kernel_rfl) (by kernel_rfl) (by kernel_rfl) (fun _ _ _ h => h) (Or.inl ⟨by rfl, ?_⟩) (by assumption) ?_
                rotate_left
                · intro w hSw; (try dsimp only at hSw); go_simp; (try (with_reducible rfl))
                try simp only [Act.put, List.setIfInBounds_toArray, List.set_cons_zero, List.set_cons_succ]
                refine wpAnyH_take (i := 6) (v := ?_) rfl (by kernel_rfl) (by kernel_rfl) (by kernel_rfl) (fun _ _ _ h => h) (Or.inl ⟨by rfl, ?_⟩) (by assumption) ?_
                rotate_left
                · intro w hSw; (try dsimp only at hSw); go_simp; (try (with_reducible rfl))
                try simp only [Act.put, List.setIfInBounds_toArray, List.set_cons_zero, List.set_cons_succ]
                refine wpAnyH_take (i := 7) (v := ?_) rfl (by kernel_rfl) (by kernel_rfl) (by kernel_rfl) (fun _ _ _ h => h) (Or.inl ⟨by rfl, ?_⟩) (by assumption) ?_
                rotate_left
                · intro w hSw; (try dsimp only at hSw); go_simp; (try (with_reducible rfl))
                try simp only [Act.put, List.setIfInBounds_toArray, List.set_cons_zero, List.set_cons_succ]
                refine wpAnyH_take (i := 8) (v := ?_) rfl (by kernel_rfl) (by kernel_rfl) (by kernel_rfl) (fun _ _ _ h => h) (Or.inl ⟨by rfl, ?_⟩) (by assumption) ?_
                rotate_left
                · intro w hSw; (try dsimp only at hSw); go_simp; (try (with_reducible rfl))
                try simp only [Act.put, List.setIfInBounds_toArray, List.set_cons_zero, List.set_cons_succ]
                refine wpAnyH_take (i := 9) (v := ?_) rfl (by kernel_rfl) (by kernel_rfl) (by kernel_rfl) (fun _ _ _ h => h) (Or.inl ⟨by rfl, ?_⟩) (by assumption) ?_
                rotate_left
                · intro w hSw; (try dsimp only at hSw); go_simp; (try (with_reducible rfl))
                try simp only [Act.put, List.setIfInBounds_toArray, List.set_cons_zero, List.set_cons_succ]
                refine wpAnyH_take (i := 10) (v := ?_) rfl (by kernel_rfl) (by kernel_rfl) (by kernel_rfl) (fun _ _ _ h => h) (Or.inl ⟨by rfl, ?_⟩) (by assumption) ?_
                rotate_left
                · intro w hSw; (try dsimp only at hSw); go_simp; (try (with_reducible rfl))
                try simp only [Act.put, List.setIfInBounds_toArray, List.set_cons_zero, List.set_cons_succ]
                refine wpAnyH_take (i := 11) (v := ?_) rfl (by kernel_rfl) (by kernel_rfl) (by kernel_rfl) (fun _ _ _ h => h) (Or.inl ⟨by rfl, ?_⟩) (by assumption) ?_
                rotate_left
                · intro w hSw; (try dsimp only at hSw); go_simp; (try (with_reducible rfl))
                try simp only [Act.put, List.setIfInBounds_toArray, List.set_cons_zero, List.set_cons_succ]
                refine wpAnyH_take (i := 12) (v := ?_) rfl (by kernel_rfl) (by kernel_rfl) (by kernel_rfl) (fun _ _ _ h => h) (Or.inl ⟨by rfl, ?_⟩) (by assumption) ?_
                rotate_left
                · intro w hSw; (try dsimp only at hSw); go_simp; (try (with_reducible rfl))
                try simp only [Act.put, List.setIfInBounds_toArray, List.set_cons_zero, List.set_cons_succ]
                refine wpAnyH_take (i := 13) (v := ?_) rfl (by kernel_rfl) (by kernel_rfl) (by kernel_rfl) (fun _ _ _ h => h) (Or.inl ⟨by rfl, ?_⟩) (by assumption) ?_
                rotate_left
                · intro w hSw; (try dsimp only at hSw); go_simp; (try (with_reducible rfl))
                try simp only [Act.put, List.setIfInBounds_toArray, List.set_cons_zero, List.set_cons_succ]
                refine wpAnyH_take (i := 14) (v := ?_) rfl (by kernel_rfl) (by kernel_rfl) (by kernel_rfl) (fun _ _ _ h => h) (Or.inl ⟨by rfl, ?_⟩) (by assumption) ?_
                rotate_left
                · intro w hSw; (try dsimp only at hSw); go_simp; (try (with_reducible rfl))
                try simp only [Act.put, List.setIfInBounds_toArray, List.set_cons_zero, List.set_cons_succ]
                refine wpAnyH_take (i := 15) (v := ?_) rfl (by kernel_rfl) (by kernel_rfl) (by kernel_rfl) (fun _ _ _ h => h) (Or.inl ⟨by rfl, ?_⟩) (by assumption) ?_
                rotate_left
                · intro w hSw; (try dsimp only at hSw); go_simp; (try (with_reducible rfl))
                try simp only [Act.put, List.setIfInBounds_toArray, List.set_cons_zero, List.set_cons_succ]
                refine wpAnyH_take (i := 16) (v := ?_) rfl (by kernel_rfl) (by kernel_rfl) (by kernel_rfl) (fun _ _ _ h => h) (Or.inl ⟨by rfl, ?_⟩) (by assumption) ?_
                rotate_left
                · intro w hSw; (try dsimp only at hSw); go_simp; (try (with_reducible rfl))
                try simp only [Act.put, List.setIfInBounds_toArray, List.set_cons_zero, List.set_cons_succ]
                refine wpAnyH_take (i := 17) (v := ?_) rfl (by kernel_rfl) (by kernel_rfl) (by kernel_rfl) (fun _ _ _ h => h) (Or.inl ⟨by rfl, ?_⟩) (by assumption) ?_
                rotate_left
                · intro w hSw; (try dsimp only at hSw); go_simp; (try (with_reducible rfl))
                try simp only [Act.put, List.setIfInBounds_toArray, List.set_cons_zero, List.set_cons_succ]
                refine wpAnyH_take (i := 18) (v := ?_) rfl (by kernel_rfl) (by kernel_rfl) (by kernel_rfl) (fun _ _ _ h => h) (Or.inl ⟨by rfl, ?_⟩) (by assumption) ?_
                rotate_left
                · intro w hSw; (try dsimp only at hSw); go_simp; (try (with_reducible rfl))
                try simp only [Act.put, List.setIfInBounds_toArray, List.set_cons_zero, List.set_cons_succ]
                refine wpAnyH_ready (rs := [19]) (by kernel_rfl) (by simp) (AllReadyH.cons rfl (fun K hK => ?_) AllReadyH.nil)
                go_simp
                refine hK.out _ _ ?_ (fun hHeld => ?_)
                · exact ⟨(cell_alloc_old _ _ _ hpbl).trans p2, (cell_alloc_old _ _ _ pfl).trans pf, (cell_alloc_old _ _ _ pil).trans pc⟩
                clear hK K
                try simp only [Act.put, List.setIfInBounds_toArray, List.set_cons_zero, List.set_cons_succ]
                refine wpAnyH_gen (fun wA hwA hHeld => ?_) hHeld
                have hbA : Below w6.heap.size w6 wA := by rw [hwA]; first | exact below_da1 _ _ | exact below_ad1 _ _
                have hrA : Rd wA (fun _ => True) 1 (some ⟨w6.heap.size, 0, none⟩) 1 1 [.int .i64 (k : Int)] := by rw [hwA]; exact Rd.fresh (D := fun _ => True) rfl trivial (by simp) (by omega)
                have hszA := hbA.size
                clear hwA
                refine wpAnyH_ready (rs := [20]) (by kernel_rfl) (by simp) (AllReadyH.cons rfl (fun K hK => ?_) AllReadyH.nil)
                refine step_append_rd _ (by rfl) _ _ 34 (by rfl) W1.heap.size 3 i0 _ 1 8 Try.underlying34 hti hz0 hz1 hz2 rfl (by omega) (.slice AF (L i0').length cF) (L i0').length _ (by rfl) (own_below HROW.out hbA) _ (some ⟨w6.heap.size, 0, none⟩) 1 1 _ (by rfl) hrA (by simp [Value.oneCell']) (by omega) (maxLen_le (by omega)) (by omega) ?_
                intro A8 c8 w8 hown8 hg8 hat8
                have hFb : (F i0').ownBlock = blkOf AF := by rw [HF.out, own_slice]
                rw [own_slice] at hg8 hat8
                rw [own_slice] at hat8
                have hk8 : ∀ b o u, b < w6.heap.size → some b ≠ blkOf AF → w6.cell? ⟨b, o, none⟩ = some u → w8.cell? ⟨b, o, none⟩ = some u := fun b o u h1 h2 h3 =>
                  (World.cell?_of_block (w := w6) (a := ⟨b, o, none⟩) ((hg8.block b (by omega) h2).trans (hbA.block _ h1))).trans h3
                have np : some pb ≠ blkOf AF := fun e => HD6.out.rowV (i := i0') (by rw [hFb]; exact e) (.inl rfl)
                have nf : some fb ≠ blkOf AF := fun e => HD6.out.row_fb (i := i0') (by rw [hFb]; exact e) rfl
                have ni : some (ib x) ≠ blkOf AF := fun e => HD6.out.row_ib (i := i0') (by rw [hFb]; exact e) hxl rfl
                have g8 := hk8 _ _ _ pil ni pc
                have g8f : w8.frozen? ⟨ib x, t, none⟩ = false := by
                  obtain ⟨cx, h1, _⟩ := HD6.out.ibx x hxl
                  exact block_free ((hg8.block (ib x) (by omega) ni).trans ((hbA.block _ pil).trans h1))
                refine hK.out _ _ ?_ (fun hHeld => ?_)
                · exact ⟨hk8 _ _ _ hpbl np p2, hk8 _ _ _ pfl nf pf, g8⟩
                clear hK K
                try simp only [Act.put, List.setIfInBounds_toArray, List.set_cons_zero, List.set_cons_succ]
                refine wpAnyH_take (i := 21) (v := ?_) rfl (by kernel_rfl) (by kernel_rfl) (by kernel_rfl) (fun _ _ _ h => h) (Or.inl ⟨by rfl, ?_⟩) (by assumption) ?_
                rotate_left
                · intro w hSw; (try dsimp only at hSw); go_simp; (try (with_reducible rfl))
                try simp only [Act.put, List.setIfInBounds_toArray, List.set_cons_zero, List.set_cons_succ]
                refine wpAnyH_done (by kernel_rfl) ?_ _
                unfold sinkQ
                go_simp
                have hpr := (HD6.out.later hbA).pred (x := x) (t := t) (q := k) (v5 := .slice A8 ((L i0').length + 1) c8) hxl htn (by rw [← HI0.out, hFb]; exact hg8) (by rw [← HI0.out]; exact hown8) (by rw [← HI0.out, hFb, own_slice]; exact hat8)
                have key8 : ∀ j, j < w6.heap.size → some j ≠ blkOf AF → j ≠ ib x → (w8.setCell ⟨ib x, t, none⟩ (.slice A8 ((L i0').length + 1) c8)).heap[j]? = w6.heap[j]? := fun j h1 h2 h3 => by
                  rw [Below.heap_setCell _ _ _ _ h3, hg8.block j (by omega) h2]
                  exact hbA.block _ h1
                obtain ⟨wF, hwF⟩ : ∃ W, W = w8.setCell ⟨ib x, t, none⟩ (.slice A8 ((L i0').length + 1) c8) := ⟨_, rfl⟩
                rw [← hwF] at hpr key8
                rw [← HI0.out] at hpr
                have hszE : M.size = m.out.length := by omega
                have hp2' := HP2.out.next HMO.out HMT.out hkM hxl
                rw [HDL.out, hszE, ← HI0.out] at hp2'
                have hp1' := HP1.out.pred (i := x * m.out.length + t) (l := L i0' ++ [k])
                rw [← HI0.out] at hp1'
                have hmp' : MapIs encStr wF ob lv := by
                  obtain ⟨es, ck, hm1, hm2⟩ := HMP6.out
                  refine ⟨es, ck, (key8 ob HMP6.out.lt (fun e => ?_) (fun e => ?_)).trans hm1, hm2⟩
                  · obtain ⟨cs, h1⟩ := own_heap (HD6.out.fam.row i0') (k := ob) (by rw [hFb]; exact e)
                    rw [h1] at hm1
                    cases hm1
                  · obtain ⟨cs, h1, _⟩ := HD6.out.ibx x hxl
                    rw [← e, hm1] at h1
                    cases h1
                have hk6l := HK6.out.lt kb rfl
                have hk6' := own_agree (W := wF) HK6.out fun j e => by
                  injection e with e
                  subst e
                  obtain ⟨cs, h1⟩ := own_heap HK6.out (k := j) rfl
                  refine key8 j hk6l.2 (fun e => ?_) (fun e => ?_)
                  · obtain ⟨cs', h2⟩ := own_heap (HD6.out.fam.row i0') (k := j) (by rw [hFb]; exact e)
                    exact absurd (heap_ty h1 h2) (by decide)
                  · obtain ⟨cs', h2, _⟩ := HD6.out.ibx x hxl
                    rw [← e] at h2
                    exact absurd (heap_ty h1 h2) (by decide)
                have hb' : Below W1.heap.size W1 wF := HB6.out.trans ((hbA.mono hs6).trans (hpr.2.below (fun b h1 h2 => by omega) (by omega)))
                have HPR := hid hpr.1
                have HP1' := hid hp1'
                have HP2' := hid hp2'
                have HMP' := hid hmp'
                have HK' := hid hk6'
                have HB' := hid hb'
                rw [← hwF]
                clear hpr key8 hp1' hp2' hmp' hk6' hb' g8 g8f hk8 hown8 hg8 hat8 p2 pf pc pcf hHeld np nf ni c2' c4' x4' hwF hrA hbA hszE
                go_wp2_with fail
                go_roundw
                case rel => exact ⟨x + 1, _, _, by omega, by go_num, HPR.out, HP1'.out, HP2'.out, HMP'.out, HK'.out, HB'.out⟩
                case measure => simp [intOf]; omega
                -->>
              · obtain rfl : x = M.ins := by omega
                have hr1e : r1.length = M.ins := by omega
                have hkey : (List.range M.ins).map (mvO M k) = rowP (mvO M k) M.ins r1.length := by rw [hr1e, rowP_full]
                obtain ⟨kg, hkg, -, hkgl, hkc, -⟩ := own_ptr HKR.out (by omega)
                injection hkg with hkg
                injection hkg with hkg
                subst hkg
                have hcv := run_convert_bytes_arg (P := Try.prog) wr 33 5 Try.underlying33 Try.underlying5 kb 0 r1.length r1.length (rowP (mvO M k) M.ins r1.length) (rowP_len _ _ _) (fun i hi => by
                  rw [Nat.zero_add]
                  refine (hkc i _ ?_).1
                  rw [List.getElem?_map, List.getElem?_eq_getElem (by rw [rowP_len]; exact hi)]
                  simp [List.getD, rowP_len, hi]) 9 Try.underlying9
                rw [← hkey] at hcv
                obtain ⟨ks, hks⟩ : ∃ s, s = keyS M k := ⟨_, rfl⟩
                have hcv' : (convert 33 9 (.slice (some ⟨kb, 0, none⟩) r1.length r1.length)).run Try.prog wr = .ok (.string ks) wr := by rw [hks]; exact hcv
                have hlk := run_lookup_b str_key (P := Try.prog) (T := 89) (E := 3) (z := .int .i64 0) (w := wr) (by kernel_rfl) (int_zero wr) HMP.out ks true
                obtain ⟨vv, hvv⟩ : ∃ v, v = (lookB lv ks).getD (.int .i64 0) := ⟨_, rfl⟩
                obtain ⟨okb, hokb⟩ : ∃ b, b = (lookB lv ks).isSome := ⟨_, rfl⟩
                have hlk' : (Instr.lookup 89 (.map (some ob)) (.string ks) true).run Try.prog wr = .ok (.tuple #[vv, .bool okb]) wr := by rw [hvv, hokb]; exact hlk
                have HKS := hid hks
                have HVV := hid hvv
                have HOKB := hid hokb
                have HR1E := hid hr1e
                have HP2R := hid HP2.out.row
                clear hr1e hkey hkc hcv hks hlk hvv hokb hk hx hxl
                go_upto_if 108 with (fail)
                go_cut [13] (fun s wc => ∃ (b nb' : Nat) (Q'' : PTA) (vm' : List Value) (lv' : List (ByteArray × Value)), s = .int .i64 (b : Int) ∧ DvI W1.heap.size wc pb Q'' (natZ bk) vm' (natZ (List.range nb')) (List.replicate nb' true) fb ib M.ins m.out.length F L ∧ vm'.length = nb' ∧ b < nb' ∧ nb' ≤ k + 1 ∧
                  Ph1 M (k + 1) nb' (bk.set k b) (upF L (2 * b + 1) (L (2 * b + 1) ++ [k])) ∧ MapIs encStr wc ob lv' ∧ MapP M (k + 1) (bk.set k b) lv' ∧ Below W1.heap.size W1 wc)
                case first =>
                  --<<
                  have hb64 : ∀ q, q < m.out.length → ∀ x, x < M.ins → 0 ≤ mvO M q x ∧ mvO M q x < 256 := fun q hq x hx => by
                    have e1 := HS.out.outr q x hq (by omega)
                    have e2 := HS.out.o2
                    have e3 : mvO M q x = (m.out.getD q []).getD x 0 := by rw [HM.out]; rfl
                    rw [e3]
                    omega
                  have hkbk : k < bk.length := by rw [HP1.out.len]; exact hkM
                  cases okb with
                  | true =>
                    obtain ⟨v0, hv0⟩ := Option.isSome_iff_exists.1 HOKB.out.symm
                    obtain ⟨q, hqk, hqs⟩ := HMQ.out.2 ks v0 hv0
                    have hq1 := HMQ.out.1 q hqk
                    rw [hqs] at hq1
                    have hve : vv = .int .i64 ((bF bk q : Nat) : Int) := by rw [HVV.out, hq1]; rfl
                    subst hve
                    have hsame := (keyS_iff (hb64 k hlt) (hb64 q (by omega))).1 (by rw [hqs, HKS.out])
                    have h1 := HP1.out.old hkM hqk hsame
                    have h2 := HMQ.out.old hkbk hqk (hqs.trans HKS.out)
                    have h3 := HP1.out.rng q hqk
                    have H1 := hid h1
                    have H2 := hid h2
                    clear hv0 hqs hq1 hsame h1 h2 hb64
                    go_wp2_with fail
                    go_meet
                    exact ⟨bF bk q, nb, Q', vm, lv, rfl, HD.out, HVL.out, h3, by omega, H1.out, HMP.out, H2.out, HB.out⟩
                  | false =>
                    have hnone : lookB lv ks = none := by
                      have := HOKB.out
                      rcases h : lookB lv ks with _ | v
                      · rfl
                      · rw [h] at this; cases this
                    have hnk : ∀ q, q < k → keyS M q ≠ keyS M k := fun q hq e => by
                      have h1 := HMQ.out.1 q hq
                      rw [e, ← HKS.out, hnone] at h1
                      cases h1
                    have hno : ∀ p, p < k → ¬ ∀ x, x < M.ins → mvO M k x = mvO M p x := fun p hp h => hnk p hp ((keyS_iff (hb64 k hlt) (hb64 p (by omega))).2 h).symm
                    have hL : L (2 * nb + 1) = [] := by
                      have h1 := HD.out.fam.row (2 * nb + 1)
                      rw [HD.out.memn nb (by omega)] at h1
                      rcases h1.2 with ⟨_, h2⟩ | ⟨g, cap, cur, h2, _⟩
                      · exact List.eq_nil_of_length_eq_zero h2
                      · cases h2
                    have h1 := HP1.out.new hkM hno hL
                    have h2 := HMQ.out.new (b := nb) hkbk hnk
                    have H1 := hid h1
                    have H2 := hid h2
                    clear hnone hnk hno hL h1 h2 hb64 hlk'
                    go_wp2_with fail
                    refine (open_any W1.heap.size pb Q' (natZ bk) vm (natZ (List.range nb)) (List.replicate nb true) wr HD.out.p hszb (by omega) (by rw [natZ_len, List.length_range]; omega) (by rw [List.length_replicate]; omega)).mono ?_
                    rintro e w8 ⟨Q8, rfl, hp8, hs8, -, -⟩
                    have hd8 := HD.out.step hp8 hs8 (.inr rfl)
                    rw [HVL.out, natZ_range, rep_snoc] at hd8
                    have hkbV : ¬ Q'.V pb kb := by
                      obtain ⟨cs, h1⟩ := own_heap HKR.out (k := kb) rfl
                      exact HD.out.p.notV h1 (fun e => absurd e (by decide)) (fun e => absurd e (by decide)) (by decide) (by decide)
                    have hm8 : MapIs encStr w8 ob lv := HMP.out.of_block (hs8.chg.block ob HMP.out.lt fun hv => ?hob)
                    case hob =>
                      obtain ⟨es, ck, h1, _⟩ := HMP.out
                      have hx : ∀ (cs : Array Value) (t : TypeId) (fr : Nat × Nat), wr.heap[ob]? = some (.cells cs t fr) → False := fun cs t fr h2 => by rw [h1] at h2; cases h2
                      rcases hv with e | e | e | e | e
                      · exact hx _ _ _ (by rw [e]; exact HD.out.p.box)
                      · obtain ⟨cs, h2⟩ := own_heap HD.out.p.bo (by rw [own_slice]; exact e)
                        exact hx _ _ _ h2
                      · obtain ⟨cs, h2⟩ := own_heap HD.out.p.mo (by rw [own_slice]; exact e)
                        exact hx _ _ _ h2
                      · obtain ⟨cs, h2⟩ := own_heap HD.out.p.wo (by rw [own_slice]; exact e)
                        exact hx _ _ _ h2
                      · obtain ⟨cs, h2⟩ := own_heap HD.out.p.two (by rw [own_slice]; exact e)
                        exact hx _ _ _ h2
                    have hb8 : Below W1.heap.size W1 w8 := HB.out.trans (hs8.chg.below (fun b hbl hv => ?hvb) hszb)
                    case hvb =>
                      rcases hv with e | e | e | e | e
                      · omega
                      · have := (HD.out.p.bo.lt b (by rw [own_slice]; exact e.symm)).1; omega
                      · have := (HD.out.p.mo.lt b (by rw [own_slice]; exact e.symm)).1; omega
                      · have := (HD.out.p.wo.lt b (by rw [own_slice]; exact e.symm)).1; omega
                      · have := (HD.out.p.two.lt b (by rw [own_slice]; exact e.symm)).1; omega
                    have hkr8 := own_agree (W := w8) HKR.out fun j e => by
                      injection e with e
                      subst e
                      exact hs8.chg.block _ hkgl hkbV
                    have hcv8 : (convert 33 9 (.slice (some ⟨kb, 0, none⟩) r1.length r1.length)).run Try.prog w8 = .ok (.string ks) w8 := by
                      rw [show rowP (mvO M k) M.ins r1.length = rowP (mvO M k) r1.length r1.length by rw [HR1E.out]] at hkr8
                      have := conv_key hkr8 (by omega)
                      rw [this, HKS.out]
                      unfold keyS
                      rw [HR1E.out]
                    obtain ⟨w9, hup, hm9, hg9, hz9⟩ := run_update_b str_key (P := Try.prog) (T := 89) (E := 3) (by kernel_rfl) hm8 ks (encI nb)
                    have hup' : (Instr.mapUpdate 89 (.map (some ob)) (.string ks) (.int .i64 (vm.length : Int))).run Try.prog w8 = .ok () w9 := by rw [HVL.out]; exact hup
                    have hd9 := hd8.mapset hm8 hg9
                    have hb9 : Below W1.heap.size W1 w9 := Below.grown hb8 hg9 (by have := hb8.size; omega) (fun j hj => by injection hj with hj; omega)
                    have HD9 := hid hd9
                    have HM9 := hid hm9
                    have HB9 := hid hb9
                    clear hup hp8 hs8 hd8 hkbV hm8 hb8 hkr8 hg9 hz9 hd9 hm9 hb9 hcv'
                    go_wp2_with fail
                    go_meet
                    exact ⟨nb, nb + 1, Q8, _, _, by rw [HVL.out], HD9.out, by simp [HVL.out], by omega, by omega, H1.out, HM9.out, by rw [HKS.out]; exact H2.out, HB9.out⟩
                  -->>
                case rest =>
                  obtain ⟨b, nb', Q'', vm', lv', rfl, hd, hvl', hbn, hnk, hp1, hmp, hmq, hb⟩ := hcut
                  have hbkl := HP1.out.len
                  have HP1N := hid hp1
                  have HMPN := hid hmp
                  have HMQN := hid hmq
                  have HDN := hid hd
                  have HBN := hid hb
                  have HVLN := hid hvl'
                  have hvlb : b < vm'.length := by omega
                  have hszn := hb.size
                  have y0 := hd.p.cells.1
                  rw [natZ_len] at y0
                  obtain ⟨g, hg, hgB, hgl, hcells, -⟩ := own_ptr hd.p.bo (by rw [natZ_len]; omega)
                  rw [hg] at y0
                  have HG := hid hg
                  obtain ⟨u, hu⟩ : ∃ u, ((natZ bk).map (Value.int .i64))[k]? = some u := ⟨_, List.getElem?_eq_getElem (by rw [List.length_map, natZ_len]; omega)⟩
                  obtain ⟨gc, gf⟩ := hcells k u hu
                  have hkbi : (k : Int) < bk.length := by omega
                  have hki0 : (0 : Int) ≤ (k : Int) := by omega
                  have hbi0 : (0 : Int) ≤ (b : Int) := by omega
                  clear hd hp1 hmp hmq hb hvl' hg hcells hu HMP HMQ HP1 HP2 HKR HB HD HVL hlk' hcv' hbkl
                  go_upto_region 25 with (fail)
                  refine wp_gen fun w5 hw5 => ?_
                  have hset := HDN.out.p.setB HG.out (b : Int) (q := k)
                  have hw5' : w5 = wc.setCell ⟨g, k, none⟩ (.int .i64 (b : Int)) := hw5
                  rw [← hw5'] at hset
                  have e5 : (natZ bk).set k (b : Int) = natZ (bk.set k b) := by unfold natZ; rw [List.map_set]
                  rw [e5] at hset
                  have hd5 := HDN.out.step hset.1 hset.2 (.inl rfl)
                  have hmp5 : MapIs encStr w5 ob lv' := by
                    obtain ⟨es, ck, hm1, hm2⟩ := HMPN.out
                    obtain ⟨cs, h1⟩ := own_heap HDN.out.p.bo (k := g) (by rw [HG.out]; rfl)
                    refine ⟨es, ck, ?_, hm2⟩
                    rw [hw5', Below.heap_setCell _ _ _ _ (fun e => ?_)]
                    · exact hm1
                    · rw [e, h1] at hm1; cases hm1
                  have hb5 : Below W1.heap.size W1 w5 := by rw [hw5']; exact HBN.out.setCell (p := ⟨g, k, none⟩) hgB _
                  have HD5 := hid hd5
                  have HM5 := hid hmp5
                  have HB5 := hid hb5
                  have hs5 := hb5.size
                  have hpbl : pb < w5.heap.size := lt_of_block hd5.p.box
                  obtain ⟨mg, hmg, hmgB, hmgl, hmc, cms, hcms⟩ := own_ptr hd5.p.mo (by omega)
                  have q1 := hd5.p.cells.2.1
                  rw [hmg] at q1
                  have HMG := hid hmg
                  obtain ⟨i0', hi0'⟩ : ∃ i, i = 2 * b + 1 := ⟨_, rfl⟩
                  obtain ⟨qc, qf⟩ := hmc b _ (hd5.mem b hvlb)
                  rw [← hi0'] at qc
                  have HI0 := hid hi0'
                  have hrow := hd5.fam.row i0'
                  obtain ⟨AF, cF, hF⟩ := own_as hrow
                  rw [hF] at qc hrow
                  have HF := hid hF
                  have HROW := hid hrow
                  have hLl : (L i0').length ≤ 3000 := by
                    have h1 := HP1N.out.memL b hbn
                    rw [← HI0.out, upF_same] at h1
                    have h2 := congrArg List.length h1
                    rw [List.length_append, List.length_singleton] at h2
                    have h3 := List.length_filter_le (fun q => decide (bF (bk.set k b) q = b)) (List.range (k + 1))
                    rw [List.length_range] at h3
                    omega
                  have hmgne : mg ≠ pb := fun e => by
                    rw [e] at hcms
                    exact absurd (heap_ty hcms hd5.p.box) (by decide)
                  have hbvi : (b : Int) < vm'.length := by omega
                  have HCMS := hid hcms
                  clear hw5 hw5' hset e5 hd5 hmp5 hb5 gc gf y0 hmg hmc hF hrow hi0' hcms
                  refine wp_region_sink' (fun w' => w'.cell? ⟨pb, 1, none⟩ = some (.slice (some ⟨mg, 0, none⟩) vm'.length Q''.cm) ∧ w'.cell? ⟨mg, b, none⟩ = some (.slice AF (L i0').length cF)) (by kernel_rfl) (by kernel_rfl) (by kernel_rfl) ⟨q1, qc⟩ (fun hHeld => ?_)
                  simp only [List.dropLast_cons_cons, List.dropLast_singleton, List.getLast_cons_cons, List.getLast_singleton]
                  refine wpAnyH_take (i := 0) (v := ?_) rfl (by kernel_rfl) (by kernel_rfl) (by kernel_rfl) (fun _ _ _ h => h) (Or.inl ⟨by rfl, ?_⟩) (by assumption) ?_
                  rotate_left
                  · intro w hSw; (try dsimp only at hSw); go_simp; (try (with_reducible rfl))
                  try simp only [Act.put, List.setIfInBounds_toArray, List.set_cons_zero, List.set_cons_succ]
                  refine wpAnyH_take (i := 1) (v := ?_) rfl (by kernel_rfl) (by kernel_rfl) (by kernel_rfl) (fun _ _ _ h => h) (Or.inl ⟨by rfl, ?_⟩) (by assumption) ?_
                  rotate_left
                  · intro w hSw; (try dsimp only at hSw); go_simp; (try (with_reducible rfl))
                  try simp only [Act.put, List.setIfInBounds_toArray, List.set_cons_zero, List.set_cons_succ]
                  refine wpAnyH_take (i := 2) (v := ?_) rfl (by kernel_rfl) (by kernel_rfl) (by kernel_rfl) (fun _ _ _ h => h) (Or.inl ⟨by rfl, ?_⟩) (by assumption) ?_
                  rotate_left
                  · intro w hSw; (try dsimp only at hSw); go_simp; (try (with_reducible rfl))
                  try simp only [Act.put, List.setIfInBounds_toArray, List.set_cons_zero, List.set_cons_succ]
                  refine wpAnyH_take (i := 3) (v := ?_) rfl (by kernel_rfl) (by kernel_rfl) (by kernel_rfl) (fun _ _ _ h => h) (Or.inl ⟨by rfl, ?_⟩) (by assumption) ?_
                  rotate_left
                  · intro w hSw; (try dsimp only at hSw); go_simp; (try (with_reducible rfl))
                  try simp only [Act.put, List.setIfInBounds_toArray, List.set_cons_zero, List.set_cons_succ]
                  refine wpAnyH_take (i := 4) (v := ?_) rfl (by kernel_rfl) (by kernel_rfl) (by kernel_rfl) (fun _ _ _ h => h) (Or.inl ⟨by rfl, ?_⟩) (by assumption) ?_
                  rotate_left
                  · intro w hSw; (try dsimp only at hSw); go_simp; (try (with_reducible rfl))
                  try simp only [Act.put, List.setIfInBounds_toArray, List.set_cons_zero, List.set_cons_succ]
                  refine wpAnyH_take (i := 5) (v := ?_) rfl (by kernel_rfl) (by kernel_rfl) (by kernel_rfl) (fun _ _ _ h => h) (Or.inl ⟨by rfl, ?_⟩) (by assumption) ?_
                  rotate_left
                  · intro w hSw; (try dsimp only at hSw); go_simp; (try (with_reducible rfl))
                  try simp only [Act.put, List.setIfInBounds_toArray, List.set_cons_zero, List.set_cons_succ]
                  refine wpAnyH_take (i := 6) (v := ?_) rfl (by kernel_rfl) (by kernel_rfl) (by kernel_rfl) (fun _ _ _ h => h) (Or.inl ⟨by rfl, ?_⟩) (by assumption) ?_
                  rotate_left
                  · intro w hSw; (try dsimp only at hSw); go_simp; (try (with_reducible rfl))
                  try simp only [Act.put, List.setIfInBounds_toArray, List.set_cons_zero, List.set_cons_succ]
                  refine wpAnyH_take (i := 7) (v := ?_) rfl (by kernel_rfl) (by kernel_rfl) (by kernel_rfl) (fun _ _ _ h => h) (Or.inl ⟨by rfl, ?_⟩) (by assumption) ?_
                  rotate_left
                  · intro w hSw; (try dsimp only at hSw); go_simp; (try (with_reducible rfl))
                  try simp only [Act.put, List.setIfInBounds_toArray, List.set_cons_zero, List.set_cons_succ]
                  refine wpAnyH_take (i := 8) (v := ?_) rfl (by kernel_rfl) (by kernel_rfl) (by kernel_rfl) (fun _ _ _ h => h) (Or.inl ⟨by rfl, ?_⟩) (by assumption) ?_
                  rotate_left
                  · intro w hSw; (try dsimp only at hSw); go_simp; (try (with_reducible rfl))
                  try simp only [Act.put, List.setIfInBounds_toArray, List.set_cons_zero, List.set_cons_succ]
                  refine wpAnyH_take (i := 9) (v := ?_) rfl (by kernel_rfl) (by kernel_rfl) (by kernel_rfl) (fun _ _ _ h => h) (Or.inl ⟨by rfl, ?_⟩) (by assumption) ?_
                  rotate_left
                  · intro w hSw; (try dsimp only at hSw); go_simp; (try (with_reducible rfl))
                  try simp only [Act.put, List.setIfInBounds_toArray, List.set_cons_zero, List.set_cons_succ]
                  refine wpAnyH_take (i := 10) (v := ?_) rfl (by kernel_rfl) (by kernel_rfl) (by kernel_rfl) (fun _ _ _ h => h) (Or.inl ⟨by rfl, ?_⟩) (by assumption) ?_
                  rotate_left
                  · intro w hSw; (try dsimp only at hSw); go_simp; (try (with_reducible rfl))
                  try simp only [Act.put, List.setIfInBounds_toArray, List.set_cons_zero, List.set_cons_succ]
                  refine wpAnyH_take (i := 11) (v := ?_) rfl (by kernel_rfl) (by kernel_rfl) (by kernel_rfl) (fun _ _ _ h => h) (Or.inl ⟨by rfl, ?_⟩) (by assumption) ?_
                  rotate_left
                  · intro w hSw; (try dsimp only at hSw); go_simp; (try (with_reducible rfl))
                  try simp only [Act.put, List.setIfInBounds_toArray, List.set_cons_zero, List.set_cons_succ]
                  refine wpAnyH_take (i := 12) (v := ?_) rfl (by kernel_rfl) (by kernel_rfl) (by kernel_rfl) (fun _ _ _ h => h) (Or.inl ⟨by rfl, ?_⟩) (by assumption) ?_
                  rotate_left
                  · intro w hSw; (try dsimp only at hSw); go_simp; (try (with_reducible rfl))
                  try simp only [Act.put, List.setIfInBounds_toArray, List.set_cons_zero, List.set_cons_succ]
                  refine wpAnyH_ready (rs := [13]) (by kernel_rfl) (by simp) (AllReadyH.cons rfl (fun K hK => ?_) AllReadyH.nil)
                  go_simp
                  refine hK.out _ _ ?_ (fun hHeld => ?_)
                  · exact ⟨(cell_alloc_old _ _ _ hpbl).trans q1, (cell_alloc_old _ _ _ hmgl).trans qc⟩
                  clear hK K
                  try simp only [Act.put, List.setIfInBounds_toArray, List.set_cons_zero, List.set_cons_succ]
                  refine wpAnyH_gen (fun wA hwA hHeld => ?_) hHeld
                  have hbA : Below w5.heap.size w5 wA := by rw [hwA]; first | exact below_da1 _ _ | exact below_ad1 _ _
                  have hrA : Rd wA (fun _ => True) 1 (some ⟨w5.heap.size, 0, none⟩) 1 1 [.int .i64 (k : Int)] := by rw [hwA]; exact Rd.fresh (D := fun _ => True) rfl trivial (by simp) (by omega)
                  have hszA := hbA.size
                  clear hwA
                  refine wpAnyH_ready (rs := [14]) (by kernel_rfl) (by simp) (AllReadyH.cons rfl (fun K hK => ?_) AllReadyH.nil)
                  refine step_append_rd _ (by rfl) _ _ 34 (by rfl) W1.heap.size 3 i0 _ 1 8 Try.underlying34 hti hz0 hz1 hz2 rfl (by omega) (.slice AF (L i0').length cF) (L i0').length _ (by rfl) (own_below HROW.out hbA) _ (some ⟨w5.heap.size, 0, none⟩) 1 1 _ (by rfl) hrA (by simp [Value.oneCell']) (by omega) (maxLen_le (by omega)) (by omega) ?_
                  intro A8 c8 w8 hown8 hg8 hat8
                  have hFb : (F i0').ownBlock = blkOf AF := by rw [HF.out, own_slice]
                  rw [own_slice] at hg8 hat8
                  rw [own_slice] at hat8
                  have hk8 : ∀ b o u, b < w5.heap.size → some b ≠ blkOf AF → w5.cell? ⟨b, o, none⟩ = some u → w8.cell? ⟨b, o, none⟩ = some u := fun b o u h1 h2 h3 =>
                    (World.cell?_of_block (w := w5) (a := ⟨b, o, none⟩) ((hg8.block b (by omega) h2).trans (hbA.block _ h1))).trans h3
                  have np : some pb ≠ blkOf AF := fun e => HD5.out.rowV (i := i0') (by rw [hFb]; exact e) (.inl rfl)
                  have nm : some mg ≠ blkOf AF := fun e => HD5.out.rowV (i := i0') (by rw [hFb]; exact e) (.inr (.inr (.inl (by rw [HMG.out]; rfl))))
                  have g8 := hk8 _ _ _ hmgl nm qc
                  have g8f : w8.frozen? ⟨mg, b, none⟩ = false := block_free ((hg8.block mg (by omega) nm).trans ((hbA.block _ hmgl).trans HCMS.out))
                  refine hK.out _ _ ?_ (fun hHeld => ?_)
                  · exact ⟨hk8 _ _ _ hpbl np q1, g8⟩
                  clear hK K
                  try simp only [Act.put, List.setIfInBounds_toArray, List.set_cons_zero, List.set_cons_succ]
                  refine wpAnyH_take (i := 15) (v := ?_) rfl (by kernel_rfl) (by kernel_rfl) (by kernel_rfl) (fun _ _ _ h => h) (Or.inl ⟨by rfl, ?_⟩) (by assumption) ?_
                  rotate_left
                  · intro w hSw; (try dsimp only at hSw); go_simp; (try (with_reducible rfl))
                  try simp only [Act.put, List.setIfInBounds_toArray, List.set_cons_zero, List.set_cons_succ]
                  refine wpAnyH_done (by kernel_rfl) ?_ _
                  unfold sinkQ
                  go_simp
                  have hpr := (HD5.out.later hbA).memb (b := b) (q := k) (mg := mg) (v5 := .slice A8 ((L i0').length + 1) c8) hvlb HMG.out (by rw [← HI0.out, hFb]; exact hg8) (by rw [← HI0.out]; exact hown8) (by rw [← HI0.out, hFb, own_slice]; exact hat8)
                  have key8 : ∀ j, j < w5.heap.size → some j ≠ blkOf AF → j ≠ mg → (w8.setCell ⟨mg, b, none⟩ (.slice A8 ((L i0').length + 1) c8)).heap[j]? = w5.heap[j]? := fun j h1 h2 h3 => by
                    rw [Below.heap_setCell _ _ _ _ h3, hg8.block j (by omega) h2]
                    exact hbA.block _ h1
                  obtain ⟨wF, hwF⟩ : ∃ W, W = w8.setCell ⟨mg, b, none⟩ (.slice A8 ((L i0').length + 1) c8) := ⟨_, rfl⟩
                  rw [← hwF] at hpr key8
                  rw [← HI0.out] at hpr
                  have hp2' : Ph2 M (k + 1) 0 (upF L i0' (L i0' ++ [k])) := by rw [HI0.out]; exact HP2R.out.mem
                  have hp1' := HP1N.out
                  rw [← HI0.out] at hp1'
                  have hmp' : MapIs encStr wF ob lv' := by
                    obtain ⟨es, ck, hm1, hm2⟩ := HM5.out
                    refine ⟨es, ck, (key8 ob HM5.out.lt (fun e => ?_) (fun e => ?_)).trans hm1, hm2⟩
                    · obtain ⟨cs, h1⟩ := own_heap (HD5.out.fam.row i0') (k := ob) (by rw [hFb]; exact e)
                      rw [h1] at hm1
                      cases hm1
                    · rw [e, HCMS.out] at hm1
                      cases hm1
                  have hb' : Below W1.heap.size W1 wF := HB5.out.trans ((hbA.mono hs5).trans (hpr.2.below (fun b h1 h2 => by omega) (by omega)))
                  have HPR := hid hpr.1
                  have HP1' := hid hp1'
                  have HP2' := hid hp2'
                  have HMP' := hid hmp'
                  have HB' := hid hb'
                  rw [← hwF]
                  clear hpr key8 hp1' hp2' hmp' hb' g8 g8f hk8 hown8 hg8 hat8 q1 qc qf hHeld np nm hwF hrA hbA
                  go_wp2_with fail
                  go_roundw
                  case rel => exact ⟨k + 1, nb', _, _, _, _, _, lv', by omega, by go_num, HPR.out, by rw [List.length_set]; exact HVLN.out, HP1'.out, HP2'.out, HMP'.out, HMQN.out, HB'.out⟩
                  case measure => simp [intOf]; omega
            --]]
          · obtain rfl : k = m.out.length := by omega
            have hszE : M.size = m.out.length := by omega
            have hp1 := HP1.out
            have hp2 := HP2.out
            rw [← hszE] at hp1 hp2
            have hst := hp1.done HMT.out (wts := List.replicate nb true) (by simp)
            have hpo : ∀ x, x < M.ins → PredOk M x (predL M L x) := fun x hx => hp2.done hx
            have hlm : ∀ b, b < vm.length → (L (2 * b + 1)).length ≤ 140737488355328 := fun b hb => by
              rw [hp1.memL b (by omega)]
              exact Nat.le_trans (List.length_filter_le _ _) (by rw [List.length_range]; omega)
            have hlp : ∀ x t, x < M.ins → t < m.out.length → (L (2 * (x * m.out.length + t))).length ≤ 140737488355328 := fun x t hx ht => by
              have := hp2 x t hx (by omega)
              rw [hszE] at this
              rw [this]
              exact Nat.le_trans (List.length_filter_le _ _) (by rw [List.length_range]; split <;> omega)
            have hrows := HD.out.rows hlm
            have hbef := HD.out.before (by omega) hlp
            have hbe2 : (fun x => (List.range m.out.length).map fun t => L (2 * (x * m.out.length + t))) = predL M L := by
              funext x
              unfold predL
              rw [hszE]
            rw [hbe2] at hbef
            rw [HVL.out] at hrows
            have hhop : Hop M (bF bk) (fun b => b ∈ List.range nb) (fun _ => False) M.ins := Hop.start (fun q hq => List.mem_range.2 (hp1.rng q hq)) HMO.out HMT.out
            obtain ⟨mem, hmem⟩ : ∃ l, l = (List.range nb).map fun b => L (2 * b + 1) := ⟨_, rfl⟩
            rw [← hmem] at hst hrows
            have hmeml : mem.length = nb := by rw [hmem]; simp
            obtain ⟨bfs, hbfs⟩ : ∃ f, f = predL M L := ⟨_, rfl⟩
            rw [← hbfs] at hbef
            have HPO := hid (show ∀ x, x < M.ins → PredOk M x (bfs x) by rw [hbfs]; exact hpo)
            have HST := hid hst
            have HROWS := hid hrows
            have HBEF := hid hbef
            have HHOP := hid hhop
            have HPT := hid HD.out.p
            have HVM := hid (show vm.length = mem.length by rw [hmeml]; exact HVL.out)
            have hble := hst.part.le
            have HMS := hid hszE
            have hins : 0 < M.ins := by omega
            clear hszE hp1 hp2 hst hpo hlm hlp hrows hbef hbe2 hhop hmem hmeml hbfs HD HP1 HP2 HMP HMQ
            obtain ⟨wb, rfl⟩ : ∃ w3 : World, w3 = wr := ⟨_, rfl⟩
            go_wp2_with fail
            go_loopg [15] (nb + (M.size - mem.length)) (fun gk s15 wr => ∃ (Q : PTA) (bk : List Nat) (mem : List (List Nat)) (vm : List Value) (wq : List Nat) (wts : List Bool), PtB W1.heap.size wr pb Q (natZ bk) vm (natZ wq) wts ∧ vm.length = mem.length ∧ RowsX Q.hot wr W1.heap.size (natR mem) vm ∧ PSt M bk mem wq wts ∧
              Hop M (bF bk) (fun b => b ∈ wq) (fun _ => False) M.ins ∧ BfI wr pb Q fb ib M.ins m.out.length bfs ∧ wq.length + (M.size - mem.length) ≤ gk ∧ Below W1.heap.size W1 wr)
            case atStart => exact ⟨Q', bk, mem, vm, List.range nb, List.replicate nb true, HPT.out, HVM.out, HROWS.out, HST.out, HHOP.out, HBEF.out, by rw [List.length_range]; exact Nat.le_refl _, HB.out⟩
            case round =>
              clear HPT HVM HROWS HST HHOP HBEF HB hvl1 hvl2 hnbk hble
              obtain ⟨Q2, bk, mem, vm, wq, wts, hp, hvm, hrw, hst, hho, hbf, hgk, hb⟩ := hrel
              have HP := hid hp
              have HVM := hid hvm
              have HRW := hid hrw
              have HST := hid hst
              have HHO := hid hho
              have HBF := hid hbf
              have HB := hid hb
              have hszr := hb.size
              have y3 := hp.cells.2.2.2.1
              rw [natZ_len] at y3
              have hble := hst.part.le
              have hwle := hst.wle
              have hvm1 : vm.length ≤ mem.length := by omega
              have hvm2 : mem.length ≤ vm.length := by omega
              clear hp hvm hrw hst hho hbf hb
              rcases List.eq_nil_or_concat wq with hwq | ⟨wq', b, hwq⟩
              · subst hwq
                --<<
                have HFIN := hid (show ∀ p q, p < M.size → q < M.size → (bF bk p = bF bk q ↔ Sim M M p q) from fun p q hp hq => HHO.out.done HST.out.part HMO.out HMT.out (fun c hc => by cases hc) hp hq)
                have HBW := hid (HB1.out.trans (HB.out.mono HB1.out.size))
                go_wp2_with fail
                go_ret
                exact ⟨W1.heap.size, pb, Q2, bk, mem, vm, [], wts, rfl, HB1.out.size, HP.out, HVM.out, HRW.out, HST.out, HFIN.out, HBW.out, hpb⟩
                -->>
              · rw [List.concat_eq_append] at hwq
                subst hwq
                rw [List.length_append, List.length_singleton] at y3 hgk hwle
                have hwo := HP.out.wo
                rw [natZ_snoc, List.length_append, List.length_singleton, natZ_len, List.map_append] at hwo
                obtain ⟨ag, hag, hagB, hagl, hcells, -⟩ := own_ptr hwo (by omega)
                have hcap := own_cap hwo
                rw [hag] at y3
                obtain ⟨n', hn'⟩ : ∃ n, n = wq'.length := ⟨_, rfl⟩
                have yc := (hcells wq'.length (.int .i64 (b : Int)) (by simp [natZ])).1
                rw [← hn'] at yc y3 hcap hgk hwle
                have HN := hid hn'
                have HAG := hid hag
                have hni0 : (0 : Int) ≤ (n' : Int) := by omega
                have hni1 : (n' : Int) < (n' : Int) + 1 := by omega
                have hni2 : (n' : Int) ≤ (Q2.cw : Int) := by omega
                have hagne : pb ≠ ag := fun e => HP.out.nw (by rw [hag, ← e]; rfl)
                have hpf := HP.out.cells.2.2.2.2.2.2.2.1
                have hpbl := HP.out.cells.2.2.2.2.2.1
                clear hwo hag hcells hn'
                go_wp2_with fail
                go_quiet (fail)
                go_wp2_with fail
                refine wp_gen fun w5 hw5 => ?_
                have hb5 : Below wr.heap.size wr w5 := by rw [hw5]; exact (Drawn.n wr _).below _
                have y3' : w5.cell? ⟨pb, 3, none⟩ = some (.slice (some ⟨ag, 0, none⟩) (n' + 1) Q2.cw) := by rw [hw5]; exact y3
                have hpf' : w5.frozen? ⟨pb, 3, none⟩ = false := by rw [hw5]; exact hpf
                have HB5 := hid hb5
                have hwr : IntKind.i64.wrap (n' : Int) = (n' : Int) := IntWalk.i64_in _ (by omega)
                clear hw5 hb5 y3 hpf yc
                go_still_tail 12, (by kernel_rfl)
                simp only [World.drew_eq]
                go_upto_region 30 with (fail)
                refine wp_gen fun w6 hw6 => ?_
                have hw6' : w6 = (w5.drew).setCell ⟨pb, 3, none⟩ (.slice (some ⟨ag, 0, none⟩) n' Q2.cw) := hw6
                clear hw6
                obtain ⟨hp6, hs6⟩ : PtB W1.heap.size w6 pb Q2 (natZ bk) vm (natZ wq') wts ∧ PtS pb Q2 Q2 wr w6 := by
                  have h0 := (HP.out.later HB5.out).later (w' := w5.drew) ((Below.refl _ _).drew)
                  rw [natZ_snoc] at h0
                  have h1 := h0.popW
                  rw [HAG.out, natZ_len, ← HN.out, ← hw6'] at h1
                  exact ⟨h1.1, ((PtS.of_below pb Q2 HB5.out).trans (PtS.of_below pb Q2 ((Below.refl _ _).drew))).trans h1.2⟩
                have hpop := HST.out.pop
                have hbml : b < mem.length := hpop.2
                have HHP := hid (Hop.popl HMO.out HMT.out HHO.out HST.out)
                have y4 := hp6.cells.2.2.2.2.1
                obtain ⟨kg, hkg, hkgB, hkgl, hkc, -⟩ := own_ptr hp6.two (by have := HST.out.wl; omega)
                rw [hkg] at y4
                obtain ⟨u, hu⟩ : ∃ u, (wts.map Value.bool)[b]? = some u := ⟨_, List.getElem?_eq_getElem (by rw [List.length_map, HST.out.wl]; exact hbml)⟩
                obtain ⟨kc, kf⟩ := hkc b u hu
                have hwtl : (b : Int) < wts.length := by have := HST.out.wl; omega
                have hbi0 : (0 : Int) ≤ (b : Int) := by omega
                have HP6 := hid hp6
                have HS6 := hid hs6
                have HKG := hid hkg
                have HPOP := hid hpop.1
                clear hp6 hs6 hw6' hwr y3' hpf' hpop hkg hkc hu
                go_upto_region 31 with (fail)
                refine wp_gen fun w7 hw7 => ?_
                have hw7' : w7 = w6.setCell ⟨kg, b, none⟩ (.bool false) := hw7
                have hset := HP6.out.setK HKG.out false (q := b)
                rw [← hw7'] at hset
                clear hw7 hw7' kc kf y4
                have hs7 := HS6.out.trans hset.2
                have hr7 := HP.out.rows HRW.out hs7
                have hbf7 := HBF.out.step hs7 hins
                have hb7 : Below W1.heap.size W1 w7 := HB.out.trans (hs7.chg.below (fun c hc hv => ?hvb) hszr)
                case hvb => exact absurd (HP.out.vge hpb hv) (by omega)
                obtain ⟨At, ct, hvb, htg⟩ := hr7.get hbml
                obtain ⟨mg, hmg, hmgB, hmgl, hmc, -⟩ := own_ptr hset.1.mo (by omega)
                have yc := (hmc b _ hvb).1
                have y1 := hset.1.cells.2.1
                rw [hmg] at y1
                obtain ⟨tg, htge⟩ : ∃ l, l = mem.getD b [] := ⟨_, rfl⟩
                rw [← htge] at yc htg
                have HTGE := hid htge
                have htgn : tg.Nodup := by rw [htge]; exact HST.out.nd b hbml
                have htgl : ∀ t ∈ tg, t < M.size := fun t ht => by rw [htge] at ht; exact ((HST.out.me b t hbml).1 ht).1
                have HTGN := hid htgn
                have HTGL := hid htgl
                have HTG := hid htg
                have HP7 := hid hset.1
                have HS7 := hid hs7
                have HR7 := hid hr7
                have HBF7 := hid hbf7
                have HB7 := hid hb7
                have hhop7 : Hop M (bF bk) (fun c => c ∈ wq') (fun q => q ∈ tg) 0 := by rw [htge]; exact HHP.out
                have HHOP7 := hid hhop7
                have hvmi : (b : Int) < vm.length := by omega
                have htll := htg.len
                rw [natZ_len] at htll
                have hx7 := (HB7.out.block _ hs1).trans HX1.out
                have x0 : w7.cell? ⟨w.heap.size, 0, none⟩ = some (.int .i64 m.ins) := block_cell hx7 (i := 0) rfl
                clear hset hs7 hr7 hbf7 hb7 hvb htg hmg hmc htge htgn htgl hhop7 hx7
                go_quiet (fail)
                go_upto_region 32 with (fail)
                refine wp_gen fun w8 hw8 => ?_
                have hb8 : Below w7.heap.size w7 w8 := by rw [hw8]; exact (Drawn.n w7 _).below _
                have hsz8 := hb8.size
                have HB8 := hid hb8
                have HP8 := hid (HP7.out.later hb8)
                have HR8 := hid (HP7.out.rows HR7.out (PtS.of_below pb _ hb8))
                have HBF8 := hid (HBF7.out.step (PtS.of_below pb _ hb8) hins)
                have HTG8 := hid (HP7.out.row HTG.out (PtS.of_below pb _ hb8))
                have HBW8 := hid (HB7.out.trans (hb8.mono HB7.out.size))
                clear hw8 hb8 y1 yc x0
                go_loopw [16] (fun t wr => ∃ (x : Nat) (Q : PTA) (bk : List Nat) (mem' : List (List Nat)) (vm : List Value) (wq : List Nat) (wts : List Bool), x ≤ M.ins ∧ t = .int .i64 (x : Int) ∧ PtB W1.heap.size wr pb Q (natZ bk) vm (natZ wq) wts ∧ vm.length = mem'.length ∧ RowsX Q.hot wr W1.heap.size (natR mem') vm ∧ PSt M bk mem' wq wts ∧
                  Hop M (bF bk) (fun b => b ∈ wq) (fun q => q ∈ tg) x ∧ BfI wr pb Q fb ib M.ins m.out.length bfs ∧ RdI wr (IBX Q.hot wr W1.heap.size) At ct (natZ tg) ∧ wq.length + mem.length = n' + mem'.length ∧ Below W1.heap.size W1 wr) (fun t _ => M.ins - (intOf t).toNat)
                case atStart => exact ⟨0, Q2, bk, mem, vm, wq', wts.set b false, Nat.zero_le _, rfl, HP8.out, HVM.out, HR8.out, HPOP.out, HHOP7.out, HBF8.out, HTG8.out, by rw [HN.out], HBW8.out⟩
                case round =>
                  clear HP8 HR8 HBF8 HTG8 HBW8 HPOP HHOP7
                  obtain ⟨x, Q3, bk3, mem3, vm3, wq3, wts3, hx, rfl, hp, hvm, hrw, hst, hho, hbf, htg, hcnt, hb⟩ := hrel
                  have HP := hid hp
                  have HVM := hid hvm
                  have HRW := hid hrw
                  have HST3 := hid hst
                  have HHO := hid hho
                  have HBF := hid hbf
                  have HTG := hid htg
                  have HCNT := hid hcnt
                  have HB := hid hb
                  have hszr := hb.size
                  have hx7 := (hb.block _ hs1).trans HX1.out
                  have x0 : wr.cell? ⟨w.heap.size, 0, none⟩ = some (.int .i64 m.ins) := block_cell hx7 (i := 0) rfl
                  have hble3 := hst.part.le
                  clear hp hvm hrw hst hho hbf htg hcnt hb hx7
                  by_cases hxl : x < M.ins
                  · have hxi : (x : Int) < M.ins := by omega
                    have hxi2 : (x : Int) < m.ins := by omega
                    have hxi0 : (0 : Int) ≤ (x : Int) := by omega
                    have y2 := HBF.out.cell2 HP.out
                    obtain ⟨yf, hrd, hbl⟩ := HBF.out.row x hxl
                    have href := refine_any M HMO.out HMT.out x hxl W1.heap.size pb Q3 bk3 mem3 vm3 wq3 wts3 (bfs x) tg (some ⟨ib x, 0, none⟩) m.out.length At ct wr HP.out hszr HVM.out HRW.out HST3.out HHO.out hrd (HPO.out x hxl) HTG.out HTGN.out HTGL.out (by omega)
                    rw [hbl] at href
                    have HREF := hid href
                    clear hrd hbl href
                    go_wp2_with fail
                    refine HREF.out.mono ?_
                    rintro e w9 ⟨Q4, bk4, mem4, vm4, wq4, wts4, rfl, hp4, hv4, hr4, hst4, hho4, hc4, hs4⟩
                    have hb9 : Below W1.heap.size W1 w9 := HB.out.trans (hs4.chg.below (fun c hc hv => ?hvb2) hszr)
                    case hvb2 => exact absurd (HP.out.vge hpb hv) (by omega)
                    have HP4 := hid hp4
                    have HV4 := hid hv4
                    have HR4 := hid hr4
                    have HST4 := hid hst4
                    have HHO4 := hid hho4
                    have HBF4 := hid (HBF.out.step hs4 hins)
                    have HTG4 := hid (HP.out.row HTG.out hs4)
                    have HC4 := hid hc4
                    have HB9 := hid hb9
                    clear hp4 hv4 hr4 hst4 hho4 hc4 hs4 hb9 y2 yf x0
                    go_wp2_with fail
                    go_roundw
                    case rel =>
                      refine ⟨x + 1, Q4, bk4, mem4, vm4, wq4, wts4, by omega, by go_num, HP4.out, HV4.out, HR4.out, HST4.out, HHO4.out, HBF4.out, HTG4.out, ?_, HB9.out⟩
                      have h1 := HC4.out
                      have h2 := HCNT.out
                      omega
                    case measure => simp [intOf]; omega
                  · obtain rfl : x = M.ins := by omega
                    have hxd : ¬ (M.ins : Int) < m.ins := by omega
                    have hho0 : Hop M (bF bk3) (fun b => b ∈ wq3) (fun _ => False) M.ins := ⟨fun p q x hp hq he hx => by
                      rcases HHO.out.h p q x hp hq he hx with h | h | h | ⟨h, _⟩
                      · exact .inl h
                      · exact .inr (.inl h)
                      · exact .inr (.inr (.inl h))
                      · omega, fun _ _ _ _ h => absurd h (fun x => x)⟩
                    have HHO0 := hid hho0
                    clear hho0
                    go_wp2_with fail
                    go_roundg (wq3.length + (M.size - mem3.length))
                    case rel => exact ⟨Q3, bk3, mem3, vm3, wq3, wts3, HP.out, HVM.out, HRW.out, HST3.out, HHO0.out, HBF.out, Nat.le_refl _, HB.out⟩
                    case measure =>
                      have h2 := HCNT.out
                      omega
end Go.Proofs.Ytcmhginhfhiolaa
