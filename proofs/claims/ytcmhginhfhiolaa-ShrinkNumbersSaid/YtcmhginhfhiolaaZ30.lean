/-
  Walk of newLoose.
-/
import Derived.Test.YtcmhginhfhiolaaZ29
set_option linter.unusedVariables false
set_option linter.unusedSimpArgs false
namespace Go.Proofs.Ytcmhginhfhiolaa
open Go.RowKit
attribute [local go_sem] cell_alloc_old

def NlSays (L : Mac) (w : World) (e : Ending) (w' : World) : Prop :=
  ∃ tb cb mb rb Q clash er, e = .returned (.pointer (some ⟨tb, 0, none⟩)) ∧ TL L w' tb cb mb rb Q clash er id ∧ ClashOk L clash ∧ RowsOk L id er ∧ Below w.heap.size w w' ∧ w.heap.size ≤ tb ∧ w.heap.size ≤ mb ∧ w.heap.size ≤ rb

set_option maxRecDepth 100000 in
set_option maxHeartbeats 8000000 in
theorem newLoose_any {D E : Dom} (v : Value) (m : Mly) (A : Option Addr) (ca : Nat) (care : List (List Bool)) (w : World) (h : RdM w D v m) (hc : RdBB w E A ca care) (hS : Sized m) (hcs : caresB m care = true) :
    Calls Try.prog 41 #[v, .slice A care.length ca] w (NlSays (posM (careM m care)) w) := by
  obtain ⟨i0, hti, hz0, hz1, hz2⟩ := info_parts int_info2
  obtain ⟨i1, htr, hy0, hy1, hy2⟩ := info_parts row_info2
  have HV := hid h.old
  have HC := hid hc.old
  obtain ⟨Ao, co, An, cn, rfl, ho, hn⟩ := h
  have HS := hid hS
  have HCS := hid hcs
  obtain ⟨M, hMe⟩ : ∃ M, M = careM m care := ⟨_, rfl⟩
  have hMok : M.Ok := by rw [hMe]; exact care_ok hS care
  have HMO := hid hMok
  have HME := hid hMe
  have hin : (M.ins : Int) = m.ins := by rw [hMe]; show (m.ins.toNat : Int) = _; have := hS.i1; omega
  have hin1 : (M.ins : Int) ≤ m.ins := by omega
  have hin2 : m.ins ≤ (M.ins : Int) := by omega
  have hi2 := hS.i2
  have hi1 := hS.i1
  have hn2 := hS.n2
  have hsz : M.size = m.out.length := by rw [hMe]; rfl
  have hsz1 : M.size ≤ m.out.length := by omega
  have hsz2 : m.out.length ≤ M.size := by omega
  have hmf : ∀ (fn : Fn) (first cap : Array Value) (w : World), (Instr.makeFunc fn first cap).run Try.prog w = .ok (.func fn first cap) w := fun _ _ _ _ => rfl
  have HIN := hid hin
  rw [← hMe]
  clear ho hn hc hS hcs hMok hMe hin hsz
  go_enter Try.func41, Try.ntmps41
  go_upto_region 1 with (fail)
  refine wp_gen fun W1 hW1 => ?_
  have hb1 : Below w.heap.size w W1 := by rw [hW1]; go_grown
  have hx1 : W1.heap[w.heap.size]? = some (.cells #[.int .i64 m.ins, .int .i64 m.outs, .int .i64 m.start, .slice Ao m.out.length co, .slice An m.next.length cn] 24 (0, 0)) := by
    rw [hW1]; (repeat (first | (refine at_new _ _ _ ?_; (simp only [World.size_alloc]; done)) | (refine (at_old _ _ _ ?_).trans ?_; (simp only [World.size_alloc]; omega))))
  have hr1 : W1.heap[w.heap.size + 1]? = some (.cells #[.slice A care.length ca] 25 (0, 0)) := by
    rw [hW1]; (repeat (first | (refine at_new _ _ _ ?_; (simp only [World.size_alloc]; done)) | (refine (at_old _ _ _ ?_).trans ?_; (simp only [World.size_alloc]; omega))))
  have hcr1 : CrI m care w.heap.size (w.heap.size + 1) W1.heap.size Ao co An cn A ca W1 := by
    have hv := HV.out.keep (Keeps.of_below hb1 (fun _ h => h))
    obtain ⟨Ao', co', An', cn', e, h1, h2⟩ := hv
    injection e with e
    simp only [Array.mk.injEq, List.cons.injEq, Value.slice.injEq] at e
    obtain ⟨-, -, -, ⟨e1, -, e2⟩, ⟨e3, -, e4⟩, -⟩ := e
    subst e1 e2 e3 e4
    have hs := hb1.size
    exact ⟨⟨hx1, h1.mono fun b h _ => by omega, h2.mono fun b h _ => by omega⟩, hr1, (HC.out.keep (Keeps.of_below hb1 (fun _ h => h))).mono fun b h _ => by omega⟩
  have hl1 : w.heap.size + 1 < W1.heap.size := lt_of_block hr1
  have hmv := newLoose1_mv m HS.out care HCS.out w.heap.size (w.heap.size + 1) W1.heap.size Ao co An cn A ca (by omega) hl1
  rw [← HME.out] at hmv
  have HMV := hid hmv
  have HCR1 := hid hcr1
  have HB1 := hid hb1
  have x0 := block_cell hx1 (i := 0) rfl
  have x1 := block_cell hx1 (i := 1) rfl
  have x2 := block_cell hx1 (i := 2) rfl
  have x3 := block_cell hx1 (i := 3) rfl
  have hmach : machV 58 #[.pointer (some ⟨w.heap.size + 1, 0, none⟩), .pointer (some ⟨w.heap.size, 0, none⟩)] M = .agg #[.int .i64 m.out.length, .int .i64 m.start, .int .i64 m.ins, .int .i64 m.outs, .func (.func 58) #[] #[.pointer (some ⟨w.heap.size + 1, 0, none⟩), .pointer (some ⟨w.heap.size, 0, none⟩)]] := by
    have e1 : (M.start : Int) = m.start := by rw [HME.out]; show (m.start.toNat : Int) = _; have := HS.out.s0; omega
    have e2 : (M.size : Int) = m.out.length := by rw [HME.out]; rfl
    have e3 : M.outs = m.outs := by rw [HME.out]; rfl
    unfold machV
    rw [e1, e2, e3, HIN.out]
  have hord := order_any _ _ M _ _ W1.heap.size HMV.out HMO.out (by omega) (by omega) W1 HCR1.out (Nat.le_refl _)
  rw [hmach] at hord
  have HORD := hid hord
  clear hW1 hb1 hx1 hr1 hcr1 hmv hmach hord
  go_wp2_with fail
  refine HORD.out.mono ?_
  rintro e w2 ⟨A2, c2, A3, c3, rfl, hI2, hch2, hr2, hr3⟩
  have HI2 := hid hI2
  have hb2 : Below W1.heap.size W1 w2 := hch2.below (fun _ _ h => h) (Nat.le_refl _)
  have HB2 := hid hb2
  have HR2 := hid hr2
  have HR3 := hid hr3
  have hs2 := hb2.size
  clear hI2 hch2 hb2 hr2 hr3 x0 x1 x2 x3 HORD
  go_wp2_with fail
  refine (newClasses_int w2).mono ?_
  rintro e w3 ⟨rfl, hcl3, hb3⟩
  have HCL3 := hid hcl3
  have HB23 := hid hb3
  have HB3 := hid (HB2.out.trans (hb3.mono hs2))
  have HR2' := hid (HR2.out.old.keep (Keeps.of_below hb3 fun _ h => h))
  have HR3' := hid (HR3.out.old.keep (Keeps.of_below hb3 fun _ h => h))
  have hs3 := hb3.size
  have hl3 := hcl3.lt
  clear hcl3 hb3 HR2 HR3
  go_upto_region 4 with (fail)
  refine wp_gen fun w4 hw4 => ?_
  have hw4' : w4 = w3.alloc (.cells #[.slice none 0 0, .slice none 0 0, .slice none 0 0, .pointer (some ⟨w2.heap.size + 1, 0, none⟩), .slice none 0 0] 70) := hw4
  clear hw4
  have hb4 : Below w3.heap.size w3 w4 := by rw [hw4']; go_grown
  have ht4 : w4.heap[w3.heap.size]? = some (.cells #[.slice none 0 0, .slice none 0 0, .slice none 0 0, .pointer (some ⟨w2.heap.size + 1, 0, none⟩), .slice none 0 0] 70 (0, 0)) := by rw [hw4']; exact heap_alloc_new _ _
  obtain ⟨tb, htb⟩ : ∃ tb, tb = w3.heap.size := ⟨_, rfl⟩
  rw [← htb] at ht4
  rw [← htb]
  have hs4 := hb4.size
  have htbl := lt_of_block ht4
  have htb1 : w3.heap.size ≤ tb := by omega
  have htb2 : tb ≤ w3.heap.size := by omega
  obtain ⟨L, hL⟩ : ∃ L, L = posM M := ⟨_, rfl⟩
  have hordl : (ord M).length = L.size := by rw [hL]; rfl
  have hLi : L.ins = M.ins := by rw [hL]; rfl
  have hLs : L.size ≤ 3000 := by have := ord_len HMO.out; omega
  rw [← hL]
  have HL := hid hL
  have HORDL := hid hordl
  have HLI := hid hLi
  have HLZ4 := hid (LzB.zero (B := w4.heap.size) ht4)
  have HCL4 := hid (HCL3.out.below hb4)
  have hb24 : Below w2.heap.size w2 w4 := HB23.out.trans (hb4.mono hs3)
  have HI4 := hid (HI2.out.keep (by omega) (by omega) (hb24.mono hs2))
  have HB4 := hid (HB3.out.trans (hb4.mono (Nat.le_trans hs2 hs3)))
  have HR2W := hid (show ∀ W, Chg (fun b => b = tb) w4 W → RdI W (fun b => b < tb) A2 c2 (ordZ M) from fun W hW => ((HR2'.out.keep (Keeps.of_below hb4 fun b h => Nat.lt_of_lt_of_le h hs3)).keep (hW.keeps fun b _ h e => by have : b < w2.heap.size := h; omega)).mono fun b h _ => by have : b < w2.heap.size := h; omega)
  have HR3W := hid (show ∀ W, Chg (fun b => b = tb) w4 W → RdI W (fun b => b < tb) A3 c3 (numsZ M) from fun W hW => ((HR3'.out.keep (Keeps.of_below hb4 fun b h => Nat.lt_of_lt_of_le h hs3)).keep (hW.keeps fun b _ h e => by have : b < w2.heap.size := h; omega)).mono fun b h _ => by have : b < w2.heap.size := h; omega)
  have HIW := hid (show ∀ W, Chg (fun b => b = tb) w4 W → CrI m care w.heap.size (w.heap.size + 1) W1.heap.size Ao co An cn A ca W from fun W hW => HI4.out.keep (by omega) (by omega) (hW.below (fun b hb e => by omega) (by omega)))
  have HBX := hid (show ∀ W, Chg (fun b => b = tb) w4 W → W.heap[w.heap.size]? = some (.cells #[.int .i64 m.ins, .int .i64 m.outs, .int .i64 m.start, .slice Ao m.out.length co, .slice An m.next.length cn] 24 (0, 0)) from fun W hW => (HIW.out W hW).mly.box)
  have hol := ordZ_len M
  have hnl := numsZ_len M
  have hrl := (HR2'.out).len
  have hrl3 := (HR3'.out).len
  have HOL := hid hol
  have HNL := hid hnl
  rw [hol, hordl] at hrl
  rw [hnl] at hrl3
  have hmk := fun W => run_make_zrow (P := Try.prog) 34 3 i0 (.int .i64 0) 8 Try.underlying34 hti hz0 hz1 hz2 rfl .i64 .i64 M.ins (by omega) (by omega) W
  rw [HIN.out] at hmk
  have HMK := hid hmk
  clear hw4' hb4 ht4 htb hL hordl hLi hb24 hol hnl hmk
  rw [HOL.out, HORDL.out, HNL.out]
  go_wp2_with fail
  go_loopw [38] (fun t wr => ∃ (k : Nat) (Q : LzA), k ≤ L.size ∧ t = .int .i64 (k : Int) ∧ LzB w4.heap.size wr tb Q (.slice none 0 0) (.pointer (some ⟨w2.heap.size + 1, 0, none⟩)) (outK L k) (nxtK L k) (erK L k) ∧ Chg (fun b => b = tb) w4 wr) (fun t _ => L.size - (intOf t).toNat)
  case atStart => exact ⟨0, _, Nat.zero_le _, rfl, HLZ4.out, Chg.refl _ _⟩
  case round =>
    obtain ⟨k, Q, hk, rfl, hlz, hch⟩ := hrel
    have HLZ := hid hlz
    have HCH := hid hch
    have hszr := hch.size
    clear HLZ4 hlz
    by_cases hlt : k < L.size
    · have hki : (k : Int) < L.size := by omega
      have hlo : k < (ord M).length := by rw [HORDL.out]; exact hlt
      obtain ⟨q, hq⟩ : ∃ q, (ord M).getD k 0 = q := ⟨_, rfl⟩
      have hqm : q ∈ ord M := by rw [← hq]; exact getD_mem _ _ hlo
      have hqs := ord_lt HMO.out q hqm
      obtain ⟨b1, o1, z, hA2, _, _, HZ, hc2⟩ := (HR2W.out wr hch).get (show k < (ordZ M).length by rw [HOL.out, HORDL.out]; exact hlt)
      subst hA2
      have hzq : z = (q : Int) := by rw [← HZ.out, ordZ_get M hlo, hq]
      subst hzq
      have x0 := block_cell (HBX.out wr hch) (i := 0) rfl
      have hbxl := lt_of_block (HBX.out wr hch)
      have HQ := hid hq
      have HQM := hid hqm
      have hmk := HMK.out
      clear hq hqm hch
      go_upto_region 8 with (fail)
      go_cut [11, 12, 13] (fun s t u wc => ∃ p1 p2 p3 : Nat, p1 ≠ p2 ∧ p1 ≠ p3 ∧ p2 ≠ p3 ∧ s = .slice (some ⟨p1, 0, none⟩) M.ins M.ins ∧ t = .slice (some ⟨p2, 0, none⟩) M.ins M.ins ∧ u = .slice (some ⟨p3, 0, none⟩) M.ins M.ins ∧ Below wr.heap.size wr wc ∧
        (∀ p, p = p1 ∨ p = p2 ∨ p = p3 → wc.ownsRow wr.heap.size 3 1 (.slice (some ⟨p, 0, none⟩) M.ins M.ins) M.ins (List.replicate M.ins (.int .i64 0))))
      case first =>
        --<<
        have h3 := lay3z wr M.ins (by omega)
        have H3 := hid h3
        have hx3 : ((((wr.alloc (zrow (.int .i64 0) M.ins 3)).alloc (zrow (.int .i64 0) M.ins 3)).alloc (zrow (.int .i64 0) M.ins 3)).drew).cell? ⟨w.heap.size, 0, none⟩ = some (.int .i64 m.ins) := (H3.out.1.cell (p := ⟨w.heap.size, 0, none⟩) hbxl).trans x0
        have HX3 := hid hx3
        clear hx3
        have hbx2 : w.heap.size < wr.heap.size + 1 := by omega
        have hbx3 : w.heap.size < wr.heap.size + 1 + 1 := by omega
        clear h3
        go_region_held3 (fun w' => w'.cell? ⟨w.heap.size, 0, none⟩ = some (.int .i64 m.ins)) (first | exact HX3.out | go_keep) (fail)
        all_goals
          go_wp2_with fail
          go_meet
          first
            | exact ⟨wr.heap.size + 0, wr.heap.size + 1, wr.heap.size + 2, by omega, by omega, by omega, rfl, rfl, rfl, H3.out.1, fun p hp => by rcases hp with rfl | rfl | rfl <;> exact H3.out.2 _ (by omega)⟩
            | exact ⟨wr.heap.size + 0, wr.heap.size + 2, wr.heap.size + 1, by omega, by omega, by omega, rfl, rfl, rfl, H3.out.1, fun p hp => by rcases hp with rfl | rfl | rfl <;> exact H3.out.2 _ (by omega)⟩
            | exact ⟨wr.heap.size + 1, wr.heap.size + 0, wr.heap.size + 2, by omega, by omega, by omega, rfl, rfl, rfl, H3.out.1, fun p hp => by rcases hp with rfl | rfl | rfl <;> exact H3.out.2 _ (by omega)⟩
            | exact ⟨wr.heap.size + 1, wr.heap.size + 2, wr.heap.size + 0, by omega, by omega, by omega, rfl, rfl, rfl, H3.out.1, fun p hp => by rcases hp with rfl | rfl | rfl <;> exact H3.out.2 _ (by omega)⟩
            | exact ⟨wr.heap.size + 2, wr.heap.size + 0, wr.heap.size + 1, by omega, by omega, by omega, rfl, rfl, rfl, H3.out.1, fun p hp => by rcases hp with rfl | rfl | rfl <;> exact H3.out.2 _ (by omega)⟩
            | exact ⟨wr.heap.size + 2, wr.heap.size + 1, wr.heap.size + 0, by omega, by omega, by omega, rfl, rfl, rfl, H3.out.1, fun p hp => by rcases hp with rfl | rfl | rfl <;> exact H3.out.2 _ (by omega)⟩
        -->>
      case rest =>
        obtain ⟨p1, p2, p3, h12, h13, h23, rfl, rfl, rfl, hbc, hop⟩ := hcut
        have R1 := hid (hop p1 (.inl rfl))
        have R2 := hid (hop p2 (.inr (.inl rfl)))
        have R3 := hid (hop p3 (.inr (.inr rfl)))
        have HBC := hid hbc
        have h21 := Ne.symm h12
        have h31 := Ne.symm h13
        have h32 := Ne.symm h23
        obtain ⟨wz, rfl⟩ : ∃ wz : World, wz = wr := ⟨_, rfl⟩
        clear hop hbc x0 hc2 hmk
        go_wp2_with fail
        go_loopw [54] (fun t wr => ∃ x : Nat, x ≤ M.ins ∧ t = .int .i64 (x : Int) ∧ wr.ownsRow wz.heap.size 3 1 (.slice (some ⟨p1, 0, none⟩) M.ins M.ins) M.ins ((rowP (mvO L k) x M.ins).map (.int .i64)) ∧ wr.ownsRow wz.heap.size 3 1 (.slice (some ⟨p2, 0, none⟩) M.ins M.ins) M.ins ((rowP (mvT L k) x M.ins).map (.int .i64)) ∧
          wr.ownsRow wz.heap.size 3 1 (.slice (some ⟨p3, 0, none⟩) M.ins M.ins) M.ins ((rowP (erV L k) x M.ins).map (.int .i64)) ∧ Below wz.heap.size wz wr) (fun t _ => M.ins - (intOf t).toNat)
        case atStart => exact ⟨0, Nat.zero_le _, rfl, by rw [rowP_zero]; exact R1.out, by rw [rowP_zero]; exact R2.out, by rw [rowP_zero]; exact R3.out, HBC.out⟩
        case round =>
          clear R1 R2 R3 HBC
          obtain ⟨x, hx, rfl, hr1, hr2, hr3, hb⟩ := hrel
          have R1 := hid hr1
          have R2 := hid hr2
          have R3 := hid hr3
          have HB := hid hb
          have hsb := hb.size
          clear hr1 hr2 hr3
          by_cases hxl : x < M.ins
          · have hxi : (x : Int) < M.ins := by omega
            have hchw : Chg (fun b => b = tb) w4 wr := HCH.out.trans (Chg.of_new hb)
            have hent := HMV.out.enter
            have hcall := HMV.out.call wr q x (HIW.out _ hchw) (by have := hchw.size; omega) hqs hxl
            have HCALL := hid hcall
            have HCHW := hid hchw
            obtain ⟨ov, hov⟩ : ∃ o, o = mvO M q x := ⟨_, rfl⟩
            obtain ⟨tv, htv⟩ : ∃ o, o = mvT M q x := ⟨_, rfl⟩
            rw [← hov, ← htv] at HCALL
            have HOV := hid hov
            have HTV := hid htv
            clear hb hchw hcall hov htv
            go_wp2_with fail
            refine HCALL.out.mono ?_
            rintro e w6 ⟨rfl, hI6, hch6⟩
            have hb6 : Below wr.heap.size wr w6 := hch6.below (fun _ _ h => h) (Nat.le_refl _)
            have S1 := own_below R1.out hb6
            have S2 := own_below R2.out hb6
            have S3 := own_below R3.out hb6
            obtain ⟨g1, hg1, -, -, hc1', -⟩ := own_ptr S1 (by omega)
            obtain ⟨g2, hg2, -, -, hc2', -⟩ := own_ptr S2 (by omega)
            obtain ⟨g3, hg3, -, -, hc3', -⟩ := own_ptr S3 (by omega)
            injection hg1 with hg1
            injection hg1 with hg1
            subst hg1
            injection hg2 with hg2
            injection hg2 with hg2
            subst hg2
            injection hg3 with hg3
            injection hg3 with hg3
            subst hg3
            obtain ⟨a1, a2⟩ := hc1' x _ (List.getElem?_eq_getElem (by rw [List.length_map, rowP_len]; exact hxl))
            obtain ⟨a3, a4⟩ := hc2' x _ (List.getElem?_eq_getElem (by rw [List.length_map, rowP_len]; exact hxl))
            obtain ⟨a5, a6⟩ := hc3' x _ (List.getElem?_eq_getElem (by rw [List.length_map, rowP_len]; exact hxl))
            have T1 := hid S1
            have T2 := hid S2
            have T3 := hid S3
            have HB6 := hid (HB.out.trans (hb6.mono hsb))
            have HCHW6 := hid (HCHW.out.trans (Chg.of_new hb6))
            have hs6 := hb6.size
            clear hI6 hch6 hb6 S1 S2 S3 hc1' hc2' hc3' hent HCALL
            have hpx : (x : Int) < M.ins := hxi
            rcases hm : M.mv q x with _ | ⟨o, t⟩
            · have hLm := pos_no HQ.out hm
              rw [← HL.out] at hLm
              have e1 : mvO L k x = ov := by rw [(mvT_no hLm).1, HOV.out, (mvT_no hm).1]
              have e2 : mvT L k x = -1 := (mvT_no hLm).2
              have e3 : erV L k x = -1 := erV_no hLm
              have htv : tv = -1 := by rw [HTV.out, (mvT_no hm).2]
              subst htv
              have E1 := hid e1
              have E2 := hid e2
              have E3 := hid e3
              clear hm hLm e1 e2 e3
              go_wp2_with fail
              have N1 := hid (own_other (own_other (own_rowP T1.out hxl E1.out) h12 (.int .i64 (-1)) (i := x)) h13 (.int .i64 (-1)) (i := x))
              have N2 := hid (own_other (own_rowP (own_other T2.out h21 (.int .i64 ov) (i := x)) hxl E2.out) h23 (.int .i64 (-1)) (i := x))
              have N3 := hid (own_rowP (own_other (own_other T3.out h31 (.int .i64 ov) (i := x)) h32 (.int .i64 (-1)) (i := x)) hxl E3.out)
              have hp1 := (T1.out.lt p1 rfl).1
              have hp2 := (T2.out.lt p2 rfl).1
              have hp3 := (T3.out.lt p3 rfl).1
              have NB := hid (((HB6.out.setCell (p := ⟨p1, x, none⟩) hp1 (.int .i64 ov)).setCell (p := ⟨p2, x, none⟩) hp2 (.int .i64 (-1))).setCell (p := ⟨p3, x, none⟩) hp3 (.int .i64 (-1)))
              clear a1 a2 a3 a4 a5 a6 T1 T2 T3 HB6
              go_roundw
              case rel => exact ⟨x + 1, by omega, by go_num, N1.out, N2.out, N3.out, NB.out⟩
              case measure => simp [intOf]; omega
            · have hLm := pos_yes HQ.out hm
              rw [← HL.out] at hLm
              have htM := HMO.out.tgt q x o t hqs hxl hm
              have htO := ord_to HMO.out HQM.out hxl hm
              obtain ⟨ix, hix⟩ : ∃ i, i = (ord M).idxOf t := ⟨_, rfl⟩
              rw [← hix] at hLm
              have e1 : mvO L k x = ov := by rw [(mvT_yes hLm).1, HOV.out, (mvT_yes hm).1]
              have e2 : mvT L k x = (ix : Int) := (mvT_yes hLm).2
              have e3 : erV L k x = (k : Int) := erV_yes hLm
              have htv : tv = (t : Int) := by rw [HTV.out, (mvT_yes hm).2]
              subst htv
              obtain ⟨b3, o3, zn, hA3, hb3d, _, HZN, hc3⟩ := (HR3W.out w6 HCHW6.out).get (show t < (numsZ M).length by rw [HNL.out]; exact htM)
              subst hA3
              have hzn : zn = (ix : Int) := by rw [← HZN.out, numsZ_get M HMO.out htO, hix]
              subst hzn
              have hti : (t : Int) < M.size := by omega
              have hti0 : (0 : Int) ≤ (t : Int) := by omega
              have hp1 := (T1.out.lt p1 rfl).1
              have hp2 := (T2.out.lt p2 rfl).1
              have hp3 := (T3.out.lt p3 rfl).1
              have hb3l : b3 < tb := hb3d
              have m1 : p1 ≠ b3 := by omega
              have m2 : p2 ≠ b3 := by omega
              have m3 : p3 ≠ b3 := by omega
              have m4 := Ne.symm m1
              have m5 := Ne.symm m2
              have m6 := Ne.symm m3
              have E1 := hid e1
              have E2 := hid e2
              have E3 := hid e3
              clear hm hLm e1 e2 e3 hix
              go_wp2_with fail
              have z1 := own_other (own_other (own_other (own_other (own_rowP T1.out hxl E1.out) h12 (.int .i64 (-1)) (i := x)) h13 (.int .i64 (-1)) (i := x)) h12 (.int .i64 (ix : Int)) (i := x)) h13 (.int .i64 (k : Int)) (i := x)
              have z2 := ((own_other (((own_other T2.out h21 (.int .i64 ov) (i := x)).stored x (.int .i64 (-1))).1) h23 (.int .i64 (-1)) (i := x)).stored x (.int .i64 (ix : Int))).1
              rw [rowP_twice _ hxl E2.out] at z2
              have z2' := own_other z2 h23 (.int .i64 (k : Int)) (i := x)
              have z3 := ((own_other (((own_other (own_other T3.out h31 (.int .i64 ov) (i := x)) h32 (.int .i64 (-1)) (i := x)).stored x (.int .i64 (-1))).1) h32 (.int .i64 (ix : Int)) (i := x)).stored x (.int .i64 (k : Int))).1
              rw [rowP_twice _ hxl E3.out] at z3
              have N1 := hid z1
              have N2 := hid z2'
              have N3 := hid z3
              have NB := hid (((((HB6.out.setCell (p := ⟨p1, x, none⟩) hp1 (.int .i64 ov)).setCell (p := ⟨p2, x, none⟩) hp2 (.int .i64 (-1))).setCell (p := ⟨p3, x, none⟩) hp3 (.int .i64 (-1))).setCell (p := ⟨p2, x, none⟩) hp2 (.int .i64 (ix : Int))).setCell (p := ⟨p3, x, none⟩) hp3 (.int .i64 (k : Int)))
              clear a1 a2 a3 a4 a5 a6 T1 T2 T3 HB6 z1 z2 z2' z3 hc3
              go_roundw
              case rel => exact ⟨x + 1, by omega, by go_num, N1.out, N2.out, N3.out, NB.out⟩
              case measure => simp [intOf]; omega
          · obtain rfl : x = M.ins := by omega
            have er : ∀ f : Nat → Int, rowP f M.ins M.ins = (List.range L.ins).map f := fun f => by rw [rowP_full, HLI.out]
            have q1 := R1.out
            have q2 := R2.out
            have q3 := R3.out
            rw [er] at q1 q2 q3
            obtain ⟨r1, hr1⟩ : ∃ r, r = (List.range L.ins).map (mvO L k) := ⟨_, rfl⟩
            obtain ⟨r2, hr2⟩ : ∃ r, r = (List.range L.ins).map (mvT L k) := ⟨_, rfl⟩
            obtain ⟨r3, hr3⟩ : ∃ r, r = (List.range L.ins).map (erV L k) := ⟨_, rfl⟩
            rw [← hr1] at q1
            rw [← hr2] at q2
            rw [← hr3] at q3
            have hrl1 : r1.length = M.ins := by rw [hr1]; simp [HLI.out]
            have hrl2 : r2.length = M.ins := by rw [hr2]; simp [HLI.out]
            have hrl3 : r3.length = M.ins := by rw [hr3]; simp [HLI.out]
            have Q1 := hid q1
            have Q2 := hid q2
            have Q3 := hid q3
            have RL1 := hid hrl1
            have RL2 := hid hrl2
            have RL3 := hid hrl3
            have HR1 := hid hr1
            have HR2 := hid hr2
            have HR3 := hid hr3
            have hlz := HLZ.out.later hb
            have hch := HCH.out.trans (Chg.of_new hb)
            have i1' : RdI wr (IB wr w4.heap.size) (some ⟨p1, 0, none⟩) M.ins r1 := IB.own (n := M.ins) (B' := wz.heap.size) hszr Q1.out hrl1.symm (by omega)
            have i2' : RdI wr (IB wr w4.heap.size) (some ⟨p2, 0, none⟩) M.ins r2 := IB.own (n := M.ins) (B' := wz.heap.size) hszr Q2.out hrl2.symm (by omega)
            have i3' : RdI wr (IB wr w4.heap.size) (some ⟨p3, 0, none⟩) M.ins r3 := IB.own (n := M.ins) (B' := wz.heap.size) hszr Q3.out hrl3.symm (by omega)
            have I1 := hid i1'
            have I2 := hid i2'
            have I3 := hid i3'
            have HLZ1 := hid hlz
            have HCH1 := hid hch
            have hszw := hch.size
            have tb0 := block_cell hlz.box (i := 0) rfl
            rw [outK_len] at tb0
            clear er q1 q2 q3 hr1 hr2 hr3 hrl1 hrl2 hrl3 hlz hch i1' i2' i3' R1 R2 R3 HB hb HLZ HCH h12 h13 h23 h21 h31 h32
            have ol0 := HLZ1.out.oo
            rw [outK_len] at ol0
            have OL0 := hid ol0
            have hBs0 : w4.heap.size ≤ wr.heap.size := HCH1.out.size
            clear ol0
            go_upto_region 17 with (at_builtin; go_must (refine wpList_append_rd _ rfl (.tmp 92) (.tmp 94) 22 rfl w4.heap.size 34 i1 _ 1 24 Try.underlying22 htr hy0 hy1 hy2 rfl (by omega) (.slice Q.ao k Q.co) k _ rfl (OL0.out.alloc _) _ (some ⟨wr.heap.size, 0, none⟩) 1 1 _ rfl (Rd.cell1 (cell_new wr _ _ _ _ _ rfl rfl)) (by simp [Value.oneCell']) (by omega) (maxLen_le (by omega)) (by simp; omega) ?_); intro A5 c5 w5 hown5 hg5 hat5; rw [own_slice] at hg5 hat5; rw [own_slice] at hat5; have e5c := ((HLZ1.out.later (by go_grown)).grow (HLZ1.out.later (by go_grown)).oo hg5 0 undef).2.2.2.2; have e5d := block_cell e5c (i := 0) rfl; have e5f := block_free e5c (i := 0))
            refine wp_gen fun y1 hy1 => ?_
            have hpp0 := (HLZ1.out.later (show Below wr.heap.size wr (wr.alloc (.cells #[.slice (some ⟨p1, 0, none⟩) M.ins M.ins] 34)) from by go_grown)).pushO (r := r1) (cr := M.ins) (Ar := some ⟨p1, 0, none⟩) (A5 := A5) (c5 := c5) (IB.keep ((Keeps.refl _ wr).alloc _) I1.out) hg5 (by rw [RL1.out, outK_len]; exact hown5) hat5
            rw [outK_len] at hpp0
            obtain ⟨Qa, hQa⟩ : ∃ Z : LzA, Z = { Q with ao := A5, co := c5, vo := Q.vo ++ [.slice (some ⟨p1, 0, none⟩) r1.length M.ins] } := ⟨_, rfl⟩
            rw [← hQa] at hpp0
            have hy1' : y1 = w5.setCell ⟨tb, 0, none⟩ (.slice A5 (k + 1) c5) := hy1
            rw [← hy1'] at hpp0
            have HLZ2 := hid hpp0.1
            have HCH2 := hid ((HCH1.out.trans (Chg.of_new (V := fun b => b = tb) (show Below wr.heap.size wr (wr.alloc (.cells #[.slice (some ⟨p1, 0, none⟩) M.ins M.ins] 34)) from by go_grown))).trans' hpp0.2.1 (fun b hb h => by rcases h with h | h; exact absurd hb (by omega); exact h))
            have I2a := hid (IB.keep hpp0.2.2.1 (IB.keep ((Keeps.refl _ wr).alloc _) I2.out))
            have I3a := hid (IB.keep hpp0.2.2.1 (IB.keep ((Keeps.refl _ wr).alloc _) I3.out))
            have tb1 := block_cell hpp0.1.box (i := 1) rfl
            rw [nxtK_len] at tb1
            clear hpp0 hy1 hy1' hown5 hg5 hat5 e5c e5d e5f hQa
            have ol1 := HLZ2.out.on
            rw [nxtK_len] at ol1
            have OL1 := hid ol1
            have hBs1 : w4.heap.size ≤ y1.heap.size := HCH2.out.size
            clear ol1
            go_upto_region 18 with (at_builtin; go_must (refine wpList_append_rd _ rfl (.tmp 102) (.tmp 104) 22 rfl w4.heap.size 34 i1 _ 1 24 Try.underlying22 htr hy0 hy1 hy2 rfl (by omega) (.slice Qa.an k Qa.cn) k _ rfl (OL1.out.alloc _) _ (some ⟨y1.heap.size, 0, none⟩) 1 1 _ rfl (Rd.cell1 (cell_new y1 _ _ _ _ _ rfl rfl)) (by simp [Value.oneCell']) (by omega) (maxLen_le (by omega)) (by simp; omega) ?_); intro A5 c5 w5 hown5 hg5 hat5; rw [own_slice] at hg5 hat5; rw [own_slice] at hat5; have e5c := ((HLZ2.out.later (by go_grown)).grow (HLZ2.out.later (by go_grown)).on hg5 0 undef).2.2.2.2; have e5d := block_cell e5c (i := 1) rfl; have e5f := block_free e5c (i := 1))
            refine wp_gen fun y2 hy2 => ?_
            have hpp1 := (HLZ2.out.later (show Below y1.heap.size y1 (y1.alloc (.cells #[.slice (some ⟨p2, 0, none⟩) M.ins M.ins] 34)) from by go_grown)).pushN (r := r2) (cr := M.ins) (Ar := some ⟨p2, 0, none⟩) (A5 := A5) (c5 := c5) (IB.keep ((Keeps.refl _ y1).alloc _) I2a.out) hg5 (by rw [RL2.out, nxtK_len]; exact hown5) hat5
            rw [nxtK_len] at hpp1
            obtain ⟨Qb, hQb⟩ : ∃ Z : LzA, Z = { Qa with an := A5, cn := c5, vn := Qa.vn ++ [.slice (some ⟨p2, 0, none⟩) r2.length M.ins] } := ⟨_, rfl⟩
            rw [← hQb] at hpp1
            have hy2' : y2 = w5.setCell ⟨tb, 1, none⟩ (.slice A5 (k + 1) c5) := hy2
            rw [← hy2'] at hpp1
            have HLZ3 := hid hpp1.1
            have HCH3 := hid ((HCH2.out.trans (Chg.of_new (V := fun b => b = tb) (show Below y1.heap.size y1 (y1.alloc (.cells #[.slice (some ⟨p2, 0, none⟩) M.ins M.ins] 34)) from by go_grown))).trans' hpp1.2.1 (fun b hb h => by rcases h with h | h; exact absurd hb (by omega); exact h))
            have I3b := hid (IB.keep hpp1.2.2.1 (IB.keep ((Keeps.refl _ y1).alloc _) I3a.out))
            have tb4 := block_cell hpp1.1.box (i := 4) rfl
            rw [erK_len] at tb4
            clear hpp1 hy2 hy2' hown5 hg5 hat5 e5c e5d e5f hQb
            have ol2 := HLZ3.out.orr
            rw [erK_len] at ol2
            have OL2 := hid ol2
            have hBs2 : w4.heap.size ≤ y2.heap.size := HCH3.out.size
            clear ol2
            go_upto_region 19 with (at_builtin; go_must (refine wpList_append_rd _ rfl (.tmp 112) (.tmp 114) 22 rfl w4.heap.size 34 i1 _ 1 24 Try.underlying22 htr hy0 hy1 hy2 rfl (by omega) (.slice Qb.ar k Qb.cr) k _ rfl (OL2.out.alloc _) _ (some ⟨y2.heap.size, 0, none⟩) 1 1 _ rfl (Rd.cell1 (cell_new y2 _ _ _ _ _ rfl rfl)) (by simp [Value.oneCell']) (by omega) (maxLen_le (by omega)) (by simp; omega) ?_); intro A5 c5 w5 hown5 hg5 hat5; rw [own_slice] at hg5 hat5; rw [own_slice] at hat5; have e5c := ((HLZ3.out.later (by go_grown)).grow (HLZ3.out.later (by go_grown)).orr hg5 0 undef).2.2.2.2; have e5d := block_cell e5c (i := 4) rfl; have e5f := block_free e5c (i := 4))
            refine wp_gen fun y3 hy3 => ?_
            have hpp2 := (HLZ3.out.later (show Below y2.heap.size y2 (y2.alloc (.cells #[.slice (some ⟨p3, 0, none⟩) M.ins M.ins] 34)) from by go_grown)).pushR (r := r3) (cr := M.ins) (Ar := some ⟨p3, 0, none⟩) (A5 := A5) (c5 := c5) (IB.keep ((Keeps.refl _ y2).alloc _) I3b.out) hg5 (by rw [RL3.out, erK_len]; exact hown5) hat5
            rw [erK_len] at hpp2
            obtain ⟨Qc, hQc⟩ : ∃ Z : LzA, Z = { Qb with ar := A5, cr := c5, vr := Qb.vr ++ [.slice (some ⟨p3, 0, none⟩) r3.length M.ins] } := ⟨_, rfl⟩
            rw [← hQc] at hpp2
            have hy3' : y3 = w5.setCell ⟨tb, 4, none⟩ (.slice A5 (k + 1) c5) := hy3
            rw [← hy3'] at hpp2
            have HLZ4 := hid hpp2.1
            have HCH4 := hid ((HCH3.out.trans (Chg.of_new (V := fun b => b = tb) (show Below y2.heap.size y2 (y2.alloc (.cells #[.slice (some ⟨p3, 0, none⟩) M.ins M.ins] 34)) from by go_grown))).trans' hpp2.2.1 (fun b hb h => by rcases h with h | h; exact absurd hb (by omega); exact h))
            clear hpp2 hy3 hy3' hown5 hg5 hat5 e5c e5d e5f hQc
            go_wp2_with fail
            go_roundw
            case rel => exact ⟨k + 1, Qc, by omega, by go_num, by rw [outK_succ, nxtK_succ, erK_succ, ← HR1.out, ← HR2.out, ← HR3.out]; exact HLZ4.out, HCH4.out⟩
            case measure => simp [intOf]; omega
    · obtain rfl : k = L.size := by omega
      have hbox := HLZ.out.box
      rw [outK_len, nxtK_len, erK_len] at hbox
      have hmbB : w2.heap.size < w4.heap.size := by omega
      have hpos : 0 < L.size := by rw [← HORDL.out]; exact ord_pos
      have hLok : L.Ok := by rw [HL.out]; exact posM_ok HMO.out
      have hTB : ∀ b, w4.heap.size ≤ b → b ≠ tb := fun b h e => by omega
      have hwB : ∀ k, some k = blkOf Q.ao → w4.heap.size ≤ k := fun k e => (HLZ.out.oo.lt k (by rw [own_slice]; exact e.symm)).1
      have hwN : ∀ k, some k = blkOf Q.an → w4.heap.size ≤ k := fun k e => (HLZ.out.on.lt k (by rw [own_slice]; exact e.symm)).1
      have hcl := clashes_any L hLok (by omega) (by rw [HLI.out]; omega) tb Q.ao Q.co Q.an Q.cn _ _ _ wr hbox (HLZ.out.rdO (by rw [outK_len]; omega) (fun k e => hTB k (hwB k e)) (fun k h => hTB k h.1)) (HLZ.out.rdN (by rw [nxtK_len]; omega) (fun k e => hTB k (hwN k e)) (fun k h => hTB k h.1))
      rw [HLI.out, HIN.out] at hcl
      have HCALL := hid hcl
      have x0 := block_cell (HBX.out wr hch) (i := 0) rfl
      obtain ⟨rb, hrb, hrbB, hrbl, -, -⟩ := own_ptr HLZ.out.orr (by rw [erK_len]; exact hpos)
      have HRB := hid hrb
      clear hbox hcl hrb hch hmbB hpos
      go_wp2_with fail
      refine HCALL.out.mono ?_
      rintro e w7 ⟨cb7, rb7, cl7, rfl, hbox7, hcm7, hok7, hch7⟩
      have hkeep : Keeps (fun b => b ≠ tb) wr w7 := hch7.keeps fun b _ hd e => hd e
      have hs7 := hch7.size
      have hmb4 : w2.heap.size < w4.heap.size := by omega
      have hoff : ∀ (A0 : Option Addr), (∀ k, some k = blkOf A0 → some k ≠ blkOf Q.ar) → (∀ k, some k = blkOf A0 → w4.heap.size ≤ k) → ∀ k, some k = blkOf A0 → (Off w2.heap.size rb k ∧ k ≠ tb) := fun A0 h1 h2 k e =>
        ⟨⟨by have := h2 k e; omega, fun e2 => h1 k e (by rw [HRB.out, e2]; rfl)⟩, by have := h2 k e; omega⟩
      have hoffI : ∀ k, IB wr w4.heap.size k → Off w2.heap.size rb k ∧ k ≠ tb := fun k h => by
        obtain ⟨h1, cs, fr, h2⟩ := h
        refine ⟨⟨by omega, fun e2 => ?_⟩, by omega⟩
        obtain ⟨cs', h3⟩ := own_heap HLZ.out.orr (k := rb) (by rw [own_slice, HRB.out]; rfl)
        rw [e2] at h2
        exact absurd (heap_ty h2 h3) (by decide)
      have ho7 : RdII w7 (Off w2.heap.size rb) Q.ao Q.co (outsL L) := ((HLZ.out.rdO (by rw [outK_len]; omega) (hoff _ HLZ.out.d2 hwB) hoffI).keep (hkeep.mono fun b hb => hb.2)).mono fun b hb _ => hb.1
      have hn7 : RdII w7 (Off w2.heap.size rb) Q.an Q.cn (nextsL L) := ((HLZ.out.rdN (by rw [nxtK_len]; omega) (hoff _ HLZ.out.d3 hwN) hoffI).keep (hkeep.mono fun b hb => hb.2)).mono fun b hb _ => hb.1
      have hc7 : RdBB w7 (Off w2.heap.size rb) (some ⟨cb7, 0, none⟩) L.size cl7 := hcm7.rd (by omega) ⟨by have := hcm7.bnd.1; omega, by have := hcm7.bnd.1; omega⟩ (fun i hi => ⟨by have := hcm7.bnd.2 i hi; omega, by have := hcm7.bnd.2 i hi; omega⟩)
      have hr7 : RowsAt w7 w2.heap.size rb L.size Q.cr (erK L L.size) := by
        have := HLZ.out.rowsAt (by rw [erK_len]; rw [← HORDL.out]; exact ord_pos) HRB.out hmb4 hch7 htbl
        rw [erK_len] at this
        exact this
      have hcls7 : Cls encI 99 w7 (w2.heap.size + 1) w2.heap.size [] id := HCL4.out.keep fun b hb hl => by
        have hb' : b < w4.heap.size ∧ b ≠ tb := by
          rcases hb with h | h | ⟨q, hq, _⟩
          · omega
          · omega
          · cases hq
        exact (hch7.block b (by omega) hb'.2).trans (HCH.out.block b hb'.1 hb'.2)
      rw [HRB.out] at hbox7
      have hTL : TL L w7 tb (w2.heap.size + 1) w2.heap.size rb ⟨Q.ao, Q.co, Q.an, Q.cn, some ⟨cb7, 0, none⟩, L.size, Q.cr⟩ cl7 (erK L L.size) id := ⟨hbox7, ho7, hn7, hc7, hcm7.sq, hr7, hcls7⟩
      have HTL := hid hTL
      have HOK7 := hid hok7
      have hbw : Below w.heap.size w w7 := (HB1.out.trans (HB4.out.mono HB1.out.size)).trans ((HCH.out.trans hch7).below (fun b hb e => by omega) (by omega))
      have HBW := hid hbw
      clear hbox7 hcm7 hok7 hch7 hkeep hoff hoffI ho7 hn7 hc7 hr7 hcls7 hTL hbw x0
      go_wp2_with fail
      go_ret
      rw [← HL.out]
      exact ⟨tb, w2.heap.size + 1, w2.heap.size, rb, _, cl7, _, rfl, HTL.out, HOK7.out, erK_ok L, HBW.out, by omega, by omega, by omega⟩
end Go.Proofs.Ytcmhginhfhiolaa
