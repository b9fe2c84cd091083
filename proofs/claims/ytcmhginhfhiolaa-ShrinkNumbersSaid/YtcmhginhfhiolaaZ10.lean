/-
  Walk of the reference's closed.
-/
import Derived.Test.YtcmhginhfhiolaaZ07
import Derived.Test.YtcmhginhfhiolaaZ05
import Derived.Test.YtcmhginhfhiolaaZ09
set_option linter.unusedVariables false
set_option linter.unusedSimpArgs false
namespace Go.Proofs.Ytcmhginhfhiolaa
open Go.RowKit Go.Shelf
attribute [local go_sem] cell_alloc_old

theorem quiet_add_same {P : Program} {f : FuncId} {args : Array Value} {w : World} {a n : Nat} {v : Value} (h : Calls P f args (w.drewN (a + n)) fun e w' => e = .returned v ∧ w' = w.drewN (a + n)) :
    Calls P f args (w.drewN (a + n)) fun e w'' => e = .returned v ∧ ∃ m, w'' = w.drewN (a + m) := h.mono fun _ _ ⟨he, hm⟩ => ⟨he, n, hm⟩

theorem relC_united {cl : List Nat} {a b i k : Nat} (hi : i < cl.length) (hk : k < cl.length) (h : RelC cl i k) : RelC (unitedN cl a b) i k := by
  unfold RelC at h ⊢
  rw [unitedN_get _ _ _ hi, unitedN_get _ _ _ hk, h]
def ClosedSays (L : Mac) (cl0 : List Nat) (w : World) (e : Ending) (w' : World) : Prop :=
  ∃ A' c' cl ok, e = .returned (.tuple #[.slice A' (natZ cl).length c', .bool ok]) ∧ Closed L cl0 cl ok ∧ cl.length = L.size ∧ Below w.heap.size w w' ∧ RdI w' (fun _ => True) A' c' (natZ cl)

set_option maxRecDepth 100000 in
set_option maxHeartbeats 8000000 in
theorem rclosed_any {D E F G : Dom} (v : Value) (m : Mly) (A : Option Addr) (ca : Nat) (care : List (List Bool)) (As : Option Addr) (cs : Nat) (Ac : Option Addr) (cc : Nat) (cl0 : List Nat) (w : World)
    (h : RdM w D v m) (hc : RdBB w E A ca care) (hst : RdI w F As cs (ordZ (careM m care))) (hcl : RdI w G Ac cc (natZ cl0)) (hS : Sized m) (hcs : caresB m care = true)
    (hl : cl0.length = (ord (careM m care)).length) (hlt : ∀ i, i < (ord (careM m care)).length → cl0.getD i 0 < (ord (careM m care)).length) :
    Calls Try.prog 46 #[v, .slice A care.length ca, .slice As (ordZ (careM m care)).length cs, .slice Ac (natZ cl0).length cc] w fun e w' => ClosedSays (posM (careM m care)) cl0 w e w' := by
  obtain ⟨i0, hti, hz0, hz1, hz2⟩ := info_parts int_info
  have HC := hid hc.old
  have HST := hid hst.old
  have HCL := hid hcl.old
  have HVM := hid h.old
  have hcal := hc.len
  have hstl := hst.len
  have hcll := hcl.len
  have HS := hid hS
  obtain ⟨Ao, co, An, cn, rfl, ho, hn⟩ := h
  have HO := hid ho.old
  have HN := hid hn.old
  have hol := ho.len
  have hnl := hn.len
  have hi1 := hS.i1
  have hi2 := hS.i2
  obtain ⟨L, hL⟩ : ∃ L, L = posM (careM m care) := ⟨_, rfl⟩
  have hok : L.Ok := by rw [hL]; exact posM_ok (care_ok hS care)
  have hsz : (ordZ (careM m care)).length = L.size := by rw [hL, ordZ_nat, natZ_len]; rfl
  have hszn : (ord (careM m care)).length = L.size := by rw [hL]; rfl
  have hin1 : m.ins ≤ (L.ins : Int) := by rw [hL, pos_ins]; omega
  have hin2 : (L.ins : Int) ≤ m.ins := by rw [hL, pos_ins]; omega
  have hszb : L.size ≤ 3000 := by
    rw [hL]
    exact Nat.le_trans (ord_len (care_ok hS care)) hS.n2
  have HL := hid hL
  have HOK := hid hok
  have HSZ := hid hsz
  have HSN := hid hszn
  have hinit : ClI L cl0 cl0 := ClI.init (by rw [hl, hszn]) (fun i hi => by rw [← hszn] at hi ⊢; exact hlt i hi)
  have HCI := hid hinit
  have HLL := hid hl
  have HCS := hid (cares_shape hcs)
  clear ho hn hc hst hcl hS hL hok hinit hl hlt hszn hcs
  rw [hsz] at hstl ⊢
  clear hsz
  rw [natZ_len] at hcll ⊢
  rw [← HL.out]
  go_enter Try.func46, Try.ntmps46
  go_upto_region 1 with (fail)
  refine wp_gen fun W1 hW1 => ?_
  have hb1 : Below w.heap.size w W1 := by rw [hW1]; go_grown
  have hx1 : W1.heap[w.heap.size]? = some (.cells #[.int .i64 m.ins, .int .i64 m.outs, .int .i64 m.start, .slice Ao m.out.length co, .slice An m.next.length cn] 24 (0, 0)) := by
    rw [hW1]; (repeat (first | (refine at_new _ _ _ ?_; (simp only [World.size_alloc]; done)) | (refine (at_old _ _ _ ?_).trans ?_; (simp only [World.size_alloc]; omega))))
  have HB1 := hid hb1
  have HX1 := hid hx1
  have hR1 : RdI W1 (fun _ => True) Ac cc (natZ cl0) := (HCL.out.keep (Keeps.of_below hb1 (fun _ h => h))).mono fun _ _ _ => trivial
  have HR1 := hid hR1
  clear hW1 hb1 hx1 hR1
  go_wp2_with fail
  have hcle := classes_le L.size cl0
  go_loopg [3, 10] (2 * classes L.size cl0 + 1) (fun gk s3 s10 wr => ∃ (cl : List Nat) (ch : Bool) (Ac : Option Addr) (cc : Nat), s3 = .slice Ac cl.length cc ∧ s10 = .bool ch ∧ ClI L cl0 cl ∧ (ch = false → Good L (RelC cl)) ∧ 2 * classes L.size cl + (if ch then 1 else 0) ≤ gk ∧
    RdI wr (fun _ => True) Ac cc (natZ cl) ∧ Below W1.heap.size W1 wr)
  case atStart => exact ⟨cl0, true, Ac, cc, rfl, rfl, HCI.out, (fun h => by cases h), by simp, HR1.out, Below.refl _ _⟩
  case round =>
    obtain ⟨cl, ch, Ac, cc, rfl, rfl, hci, hgood, hgk, hrd, hbr⟩ := hrel
    have HCI2 := hid hci
    have HG := hid hgood
    have HRD := hid hrd
    have HBR := hid hbr
    have hgk2 := hid hgk
    clear hci hgood hrd hbr hgk
    cases ch with
    | false =>
      go_wp2_with fail
      refine bodyPost_ret (v := .tuple #[.slice Ac cl.length cc, .bool true]) (by simp [results, Try.results46, go_sem]) rfl ?_
      exact ⟨Ac, cc, cl, true, by rw [natZ_len], ⟨fun _ => ⟨HCI2.out, HG.out trivial⟩, fun h => by cases h⟩, HCI2.out.len, HB1.out.trans (HBR.out.mono HB1.out.size), HRD.out⟩
    | true =>
      obtain ⟨c0, hc0⟩ : ∃ c0, c0 = classes L.size cl := ⟨_, rfl⟩
      have hgk3 : 2 * c0 < gk := by have := hgk2.out; rw [hc0]; simp at this; omega
      have HC0 := hid (show classes L.size cl ≤ c0 by omega)
      clear hc0
      go_wp2_with fail
      go_loopw [3, 10, 11] (fun s3 s10 t wr => ∃ (cl : List Nat) (ch : Bool) (Ac : Option Addr) (cc : Nat) (i : Nat), i ≤ L.size ∧ t = .int .i64 (i : Int) ∧ s3 = .slice Ac cl.length cc ∧ s10 = .bool ch ∧ ClI L cl0 cl ∧ (ch = false → SeenC L cl i 0 0) ∧ classes L.size cl + (if ch then 1 else 0) ≤ c0 ∧
        RdI wr (fun _ => True) Ac cc (natZ cl) ∧ Below W1.heap.size W1 wr) (fun _ _ t _ => L.size - (intOf t).toNat)
      case atStart => exact ⟨cl, false, Ac, cc, 0, Nat.zero_le _, rfl, rfl, rfl, HCI2.out, (fun _ => SeenC.zero), by simpa using HC0.out, HRD.out, HBR.out⟩
      case round =>
        clear HCI2 HG HRD HBR HC0 hgk2
        obtain ⟨cl, ch, Ac, cc, i, hi, rfl, rfl, rfl, hci, hseen, hcc, hrd, hbr⟩ := hrel
        have HCI := hid hci
        have HSE := hid hseen
        have HCC := hid hcc
        have HRD := hid hrd
        have HBR := hid hbr
        clear hci hseen hcc hrd hbr
        by_cases hil : i < L.size
        · have hil2 : (i : Int) < L.size := by omega
          go_wp2_with fail
          go_loopw [3, 10, 12] (fun s3 s10 t wr => ∃ (cl : List Nat) (ch : Bool) (Ac : Option Addr) (cc : Nat) (k : Nat), k ≤ i ∧ t = .int .i64 (k : Int) ∧ s3 = .slice Ac cl.length cc ∧ s10 = .bool ch ∧ ClI L cl0 cl ∧ (ch = false → SeenC L cl i k 0) ∧ classes L.size cl + (if ch then 1 else 0) ≤ c0 ∧
            RdI wr (fun _ => True) Ac cc (natZ cl) ∧ Below W1.heap.size W1 wr) (fun _ _ t _ => i - (intOf t).toNat)
          case atStart => exact ⟨cl, ch, Ac, cc, 0, Nat.zero_le _, rfl, rfl, rfl, HCI.out, HSE.out, HCC.out, HRD.out, HBR.out⟩
          case round =>
            clear HCI HSE HCC HRD HBR
            obtain ⟨cl, ch, Ac, cc, k, hk, rfl, rfl, rfl, hci, hseen, hcc, hrd, hbr⟩ := hrel
            have HCI := hid hci
            have HSE := hid hseen
            have HCC := hid hcc
            have HRD := hid hrd
            have HBR := hid hbr
            have hcl1 : cl.length ≤ L.size := by rw [hci.len]; exact Nat.le_refl _
            have hcl2 : L.size ≤ cl.length := by rw [hci.len]; exact Nat.le_refl _
            clear hci hseen hcc hrd hbr
            by_cases hki : k < i
            · have hki2 : (k : Int) < i := by omega
              obtain ⟨b1, o1, hAc, -, hbl, hcells⟩ := HRD.out.ptr (by rw [natZ_len]; omega)
              subst hAc
              have g1 := hcells i (by rw [natZ_len]; omega)
              have g2 := hcells k (by rw [natZ_len]; omega)
              rw [natZ_get _ (by omega)] at g1 g2
              clear hcells
              obtain ⟨ci, hci⟩ : ∃ x, cl.getD i 0 = x := ⟨_, rfl⟩
              obtain ⟨ck, hck⟩ : ∃ x, cl.getD k 0 = x := ⟨_, rfl⟩
              rw [hci] at g1
              rw [hck] at g2
              have HCIE := hid hci
              have HCKE := hid hck
              clear hci hck
              by_cases hrel2 : ci = ck
              · have ne1 : ((ci : Int) != (ck : Int)) = false := by rw [hrel2]; simp
                have HREL : Hid (RelC cl i k) := hid (HCIE.out.trans (hrel2.trans HCKE.out.symm))
                clear hrel2
                go_wp2_with fail
                go_quiet (fail)
                go_wp2_with fail
                go_loopw [3, 10, 13] (fun s3 s10 t wr => ∃ (cl : List Nat) (ch : Bool) (Ac : Option Addr) (cc : Nat) (x : Nat), x ≤ L.ins ∧ t = .int .i64 (x : Int) ∧ s3 = .slice Ac cl.length cc ∧ s10 = .bool ch ∧ ClI L cl0 cl ∧ RelC cl i k ∧ (ch = false → SeenC L cl i k x) ∧ classes L.size cl + (if ch then 1 else 0) ≤ c0 ∧
                  RdI wr (fun _ => True) Ac cc (natZ cl) ∧ Below W1.heap.size W1 wr) (fun _ _ t _ => L.ins - (intOf t).toNat)
                case atStart => exact ⟨cl, ch, _, cc, 0, Nat.zero_le _, rfl, rfl, rfl, HCI.out, HREL.out, HSE.out, HCC.out, HRD.out.keep (Drawn.n wr _).keeps, below_drewN HBR.out _⟩
                case round =>
                  clear HCI HSE HCC HRD HBR HREL HCIE HCKE g1 g2 ne1 hcl1 hcl2 hbl
                  obtain ⟨cl, ch, Ac, cc, x, hx, rfl, rfl, rfl, hci, hik, hseen, hcc, hrd, hbr⟩ := hrel
                  have HCI := hid hci
                  have HIK := hid hik
                  have HSE := hid hseen
                  have HCC := hid hcc
                  have HRD := hid hrd
                  have HBR := hid hbr
                  have hcl1 : cl.length ≤ L.size := by rw [hci.len]; exact Nat.le_refl _
                  have hcl2 : L.size ≤ cl.length := by rw [hci.len]; exact Nat.le_refl _
                  have hbx := (hbr.block w.heap.size (lt_of_block HX1.out)).trans HX1.out
                  have x0 := block_cell hbx (i := 0) rfl
                  have x3 := block_cell hbx (i := 3) rfl
                  have x4 := block_cell hbx (i := 4) rfl
                  have HBW := hid (HB1.out.trans (hbr.mono HB1.out.size))
                  clear hci hik hseen hcc hrd hbr hbx
                  by_cases hxl : x < L.ins
                  · have hxi : (x : Int) < m.ins := by omega
                    have hil3 : i < (ordZ (careM m care)).length := by rw [HSZ.out]; exact hil
                    have hkl3 : k < (ordZ (careM m care)).length := by rw [HSZ.out]; omega
                    have hioN : i < (ord (careM m care)).length := by rw [HSN.out]; exact hil
                    have hkoN : k < (ord (careM m care)).length := by rw [HSN.out]; omega
                    obtain ⟨q, hq⟩ : ∃ q, (ord (careM m care)).getD i 0 = q := ⟨_, rfl⟩
                    obtain ⟨p, hp⟩ : ∃ p, (ord (careM m care)).getD k 0 = p := ⟨_, rfl⟩
                    have hqs : q < m.out.length := by rw [← hq]; exact ord_lt (care_ok HS.out care) _ (getD_mem _ 0 hioN)
                    have hps : p < m.out.length := by rw [← hp]; exact ord_lt (care_ok HS.out care) _ (getD_mem _ 0 hkoN)
                    have HSTW := HST.out.keep (Keeps.of_below HBW.out fun _ h => h)
                    obtain ⟨bs, os, hAs, -, _, hcells⟩ := HSTW.ptr (by omega)
                    subst hAs
                    have s1 := hcells i hil3
                    have s2 := hcells k hkl3
                    rw [ordZ_nat, natZ_get _ hioN, hq] at s1
                    rw [ordZ_nat, natZ_get _ hkoN, hp] at s2
                    clear hcells HSTW
                    have hqc : q < care.length := by rw [HCS.out.1]; exact hqs
                    have hpc : p < care.length := by rw [HCS.out.1]; exact hps
                    obtain ⟨b1, o1, A1, c1, r1, hA1, _, _, HR1, hr1, hc1⟩ := (HC.out.keep (Keeps.of_below HBW.out fun _ h => h)).get hqc
                    subst hA1
                    obtain ⟨b2, o2, A2, c2, r2, hA2, _, _, HR2, hr2, hc2⟩ := (HC.out.keep (Keeps.of_below HBW.out fun _ h => h)).get hpc
                    injection hA2 with hA2
                    injection hA2 with hb2 ho2
                    subst hb2
                    subst ho2
                    have e1 := HCS.out.2 q hqc
                    have e2 := HCS.out.2 p hpc
                    rw [HR1.out] at e1
                    rw [HR2.out] at e2
                    have hx1 : x < r1.length := by omega
                    have hx2 : x < r2.length := by omega
                    obtain ⟨b5, o5, u1, hA5, _, _, HU1, hd1⟩ := hr1.get hx1
                    obtain ⟨b6, o6, u2, hA6, _, _, HU2, hd2⟩ := hr2.get hx2
                    subst hA5
                    subst hA6
                    have hqi : (q : Int) < care.length := by omega
                    have hpi : (p : Int) < care.length := by omega
                    have hxi1 : (x : Int) < r1.length := by omega
                    have hxi2 : (x : Int) < r2.length := by omega
                    have m1 := hr1.len.1
                    have m2 := hr2.len.1
                    have hki3 : (k : Int) < L.size := by omega
                    have HQ := hid hq
                    have HP := hid hp
                    clear hr1 hr2 e1 e2 hq hp
                    have HMV1 := hid (show L.mv i x = none ∨ u1 = true from by
                      cases hu : u1
                      · left
                        rw [HL.out, pos_mv, HQ.out, HR1.out, HU1.out, hu]; rfl
                      · right; rfl)
                    have HMV2 := hid (show L.mv k x = none ∨ u2 = true from by
                      cases hu : u2
                      · left
                        rw [HL.out, pos_mv, HP.out, HR2.out, HU2.out, hu]; rfl
                      · right; rfl)
                    --<<
                    cases u1 with
                    | false =>
                      go_wp2_with fail
                      go_roundw
                      case rel => exact ⟨cl, ch, Ac, cc, x + 1, by omega, by go_num, rfl, rfl, HCI.out, HIK.out, (fun h => (HSE.out h).step (StepC.none (.inl (HMV1.out.resolve_right (by simp))))), HCC.out, HRD.out, HBR.out⟩
                      case measure => simp [intOf]; omega
                    | true =>
                      cases u2 with
                      | false =>
                        go_wp2_with fail
                        go_roundw
                        case rel => exact ⟨cl, ch, Ac, cc, x + 1, by omega, by go_num, rfl, rfl, HCI.out, HIK.out, (fun h => (HSE.out h).step (StepC.none (.inr (HMV2.out.resolve_right (by simp))))), HCC.out, HRD.out, HBR.out⟩
                        case measure => simp [intOf]; omega
                      | true =>
                        obtain ⟨b3, o3, A3, c3, r3, hA3, _, _, HR3, hr3, hc3⟩ := (HO.out.keep (Keeps.of_below HBW.out fun _ h => h)).get hqs
                        subst hA3
                        obtain ⟨b4, o4, A4, c4, r4, hA4, _, _, HR4, hr4, hc4⟩ := (HO.out.keep (Keeps.of_below HBW.out fun _ h => h)).get hps
                        injection hA4 with hA4
                        injection hA4 with hb4 ho4
                        subst hb4
                        subst ho4
                        have hqn : q < m.next.length := by rw [HS.out.nn]; exact hqs
                        have hpn : p < m.next.length := by rw [HS.out.nn]; exact hps
                        obtain ⟨b7, o7, A7, c7, r7, hA7, _, _, HR7, hr7, hc7⟩ := (HN.out.keep (Keeps.of_below HBW.out fun _ h => h)).get hqn
                        subst hA7
                        obtain ⟨b8, o8, A8, c8, r8, hA8, _, _, HR8, hr8, hc8⟩ := (HN.out.keep (Keeps.of_below HBW.out fun _ h => h)).get hpn
                        injection hA8 with hA8
                        injection hA8 with hb8 ho8
                        subst hb8
                        subst ho8
                        have e3 := HS.out.outr q x hqs hxi
                        have e4 := HS.out.outr p x hps hxi
                        have e7 := HS.out.nextr q x hqs hxi
                        have e8 := HS.out.nextr p x hps hxi
                        rw [HR3.out] at e3
                        rw [HR4.out] at e4
                        rw [HR7.out] at e7
                        rw [HR8.out] at e8
                        have hx3 : x < r3.length := by omega
                        have hx4 : x < r4.length := by omega
                        have hx7 : x < r7.length := by omega
                        have hx8 : x < r8.length := by omega
                        obtain ⟨b11, o11, y1, hA11, _, _, HY1, hf1⟩ := hr3.get hx3
                        obtain ⟨b12, o12, y2, hA12, _, _, HY2, hf2⟩ := hr4.get hx4
                        obtain ⟨b13, o13, z1, hA13, _, _, HZ1, hf3⟩ := hr7.get hx7
                        obtain ⟨b14, o14, z2, hA14, _, _, HZ2, hf4⟩ := hr8.get hx8
                        subst hA11
                        subst hA12
                        subst hA13
                        subst hA14
                        have hcar1 : (care.getD ((ord (careM m care)).getD i 0) []).getD x false = true := by rw [HQ.out, HR1.out]; exact HU1.out
                        have hcar2 : (care.getD ((ord (careM m care)).getD k 0) []).getD x false = true := by rw [HP.out, HR2.out]; exact HU2.out
                        have hid1 := pos_idx HS.out hioN (show x < m.ins.toNat by omega) hcar1
                        have hid2 := pos_idx HS.out hkoN (show x < m.ins.toNat by omega) hcar2
                        have hmv1 : L.mv i x = some (y1, (ord (careM m care)).idxOf z1.toNat) := by
                          rw [HL.out, pos_mv, if_pos hcar1, HQ.out, HR3.out, HY1.out, HR7.out, HZ1.out]
                        have hmv2 : L.mv k x = some (y2, (ord (careM m care)).idxOf z2.toNat) := by
                          rw [HL.out, pos_mv, if_pos hcar2, HP.out, HR4.out, HY2.out, HR8.out, HZ2.out]
                        rw [HQ.out, HR7.out, HZ1.out, HSN.out] at hid1
                        rw [HP.out, HR8.out, HZ2.out, HSN.out] at hid2
                        obtain ⟨t1, ht1⟩ : ∃ t, t = (ord (careM m care)).idxOf z1.toNat := ⟨_, rfl⟩
                        obtain ⟨t2, ht2⟩ : ∃ t, t = (ord (careM m care)).idxOf z2.toNat := ⟨_, rfl⟩
                        rw [← ht1] at hid1 hmv1
                        rw [← ht2] at hid2 hmv2
                        have hT1 : t1 < L.size := hid1.2
                        have hT2 : t2 < L.size := hid2.2
                        have HMW1 := hid hmv1
                        have HMW2 := hid hmv2
                        have HRST : Hid (∀ n, RdI (wr.drewN n) (fun b => b < w.heap.size) (some ⟨bs, os, none⟩) cs (ordZ (careM m care))) := hid fun n => (HST.out.keep (Keeps.of_below HBW.out fun _ h => h)).keep (Drawn.n wr n).keeps
                        have HI1 : Hid (∀ n, Calls Try.prog 34 #[.slice (some ⟨bs, os, none⟩) L.size cs, .int .i64 z1] (wr.drewN n) fun e w' => e = .returned (.int .i64 (t1 : Int)) ∧ w' = wr.drewN n) := hid fun n => by
                          have := index_any (some ⟨bs, os, none⟩) cs (ordZ (careM m care)) z1 (wr.drewN n) (HRST.out n)
                          rw [HSZ.out, ordZ_nat, hid1.1] at this
                          exact this
                        have HI2 : Hid (∀ n, Calls Try.prog 34 #[.slice (some ⟨bs, os, none⟩) L.size cs, .int .i64 z2] (wr.drewN n) fun e w' => e = .returned (.int .i64 (t2 : Int)) ∧ w' = wr.drewN n) := hid fun n => by
                          have := index_any (some ⟨bs, os, none⟩) cs (ordZ (careM m care)) z2 (wr.drewN n) (HRST.out n)
                          rw [HSZ.out, ordZ_nat, hid2.1] at this
                          exact this
                        obtain ⟨b9, o9, hAc, -, hbl, hcells⟩ := HRD.out.ptr (by rw [natZ_len]; omega)
                        subst hAc
                        have g1 := hcells t1 (by rw [natZ_len]; omega)
                        have g2 := hcells t2 (by rw [natZ_len]; omega)
                        rw [natZ_get _ (by omega)] at g1 g2
                        obtain ⟨a1, ha1⟩ : ∃ a, cl.getD t1 0 = a := ⟨_, rfl⟩
                        obtain ⟨a2, ha2⟩ : ∃ a, cl.getD t2 0 = a := ⟨_, rfl⟩
                        rw [ha1] at g1
                        rw [ha2] at g2
                        have HA1 := hid ha1
                        have HA2 := hid ha2
                        have hqio : (q : Int) < m.out.length := by omega
                        have hpio : (p : Int) < m.out.length := by omega
                        have hqin : (q : Int) < m.next.length := by omega
                        have hpin : (p : Int) < m.next.length := by omega
                        have hxi3 : (x : Int) < r3.length := by omega
                        have hxi4 : (x : Int) < r4.length := by omega
                        have hxi7 : (x : Int) < r7.length := by omega
                        have hxi8 : (x : Int) < r8.length := by omega
                        have hti1 : (t1 : Int) < cl.length := by omega
                        have hti2 : (t2 : Int) < cl.length := by omega
                        have m3 := hr3.len.1
                        have m4 := hr4.len.1
                        have m7 := hr7.len.1
                        have m8 := hr8.len.1
                        clear hr3 hr4 hr7 hr8 e3 e4 e7 e8 hcar1 hcar2 hid1 hid2 hmv1 hmv2 ht1 ht2 hcells ha1 ha2 HMV1 HMV2
                        by_cases hou : y1 = y2
                        · have n3 : (y1 != y2) = false := by simp [hou]
                          have HOU := hid hou
                          clear hou
                          go_wp2_with fail
                          go_quiet (fail)
                          go_wp2_with fail
                          go_quiet ((go_at_call 34; exact quiet_add_same (HI1.out _)))
                          go_wp2_with fail
                          go_quiet ((go_at_call 34; exact quiet_add_same (HI2.out _)))
                          by_cases hab : a1 = a2
                          · have n5 : ((a1 : Int) != (a2 : Int)) = false := by rw [hab]; simp
                            have HAB := hid (show cl.getD t1 0 = cl.getD t2 0 by rw [HA1.out, HA2.out, hab])
                            clear hab
                            go_wp2_with fail
                            go_roundw
                            case rel => exact ⟨cl, ch, some ⟨b9, o9, none⟩, cc, x + 1, by omega, by go_num, rfl, rfl, HCI.out, HIK.out, (fun h => (HSE.out h).step (StepC.same (by rw [HMW1.out]) (by rw [HMW2.out, HOU.out]) HAB.out)), HCC.out, HRD.out.keep (Drawn.n wr _).keeps, below_drewN HBR.out _⟩
                            case measure => simp [intOf]; omega
                          · have n5 : ((a1 : Int) != (a2 : Int)) = true := by simp; omega
                            have HAB := hid (show cl.getD t1 0 ≠ cl.getD t2 0 by rw [HA1.out, HA2.out]; exact hab)
                            have HRDW : Hid (∀ n, RdI (wr.drewN n) (fun _ => True) (some ⟨b9, o9, none⟩) cc (natZ cl)) := hid fun n => HRD.out.keep (Drawn.n wr n).keeps
                            have huni : ∀ a b n, Calls Try.prog 47 #[.slice (some ⟨b9, o9, none⟩) cl.length cc, .int .i64 (a : Nat), .int .i64 (b : Nat)] (wr.drewN n) fun e w' => ∃ A' c', e = .returned (.slice A' (unitedN cl a b).length c') ∧ Below (wr.drewN n).heap.size (wr.drewN n) w' ∧ RdI w' (fun k => (wr.drewN n).heap.size ≤ k) A' c' (natZ (unitedN cl a b)) := fun a b n => by
                              have := united_any (some ⟨b9, o9, none⟩) cc (natZ cl) a b (wr.drewN n) (HRDW.out n) (by rw [natZ_len]; omega)
                              rw [unitedZ_nat, natZ_len, natZ_len] at this
                              exact this
                            have HUNI := hid huni
                            have HBW2 : Hid (∀ n w', Below (wr.drewN n).heap.size (wr.drewN n) w' → Below W1.heap.size W1 w') := hid fun n w' hw => (below_drewN HBR.out n).trans (hw.mono HBR.out.size)
                            clear huni
                            rcases Nat.lt_or_gt_of_ne hab with hlt | hlt
                            · have hlt3 : (a1 : Int) < a2 := by omega
                              have hcl3 := HCI.out.unite HOK.out hil (by omega) hxl HIK.out HMW1.out HMW2.out (a := a1) (b := a2) (.inl ⟨HA1.out.symm, HA2.out.symm⟩)
                              have hls := classes_unite HCI.out.len HCI.out.lt hT1 hT2 HAB.out (a := a1) (b := a2) (.inl ⟨HA1.out.symm, HA2.out.symm⟩)
                              have HCL3 := hid hcl3
                              have HLS := hid hls
                              have HIK3 := hid (hcl3.up)
                              clear hab hcl3 hls
                              go_wp2_with fail
                              refine (HUNI.out a1 a2 _).mono ?_
                              rintro e w2 ⟨A', c', rfl, hb2, hr2⟩
                              have HB2 := hid (HBW2.out _ _ hb2)
                              have HR2 := hid hr2
                              clear hb2 hr2
                              go_wp2_with fail
                              go_roundw
                              case rel => exact ⟨unitedN cl a1 a2, true, A', c', x + 1, by omega, by go_num, rfl, rfl, HCL3.out, relC_united (by omega) (by omega) HIK.out, (fun h => by cases h), by have := HCC.out; have := HLS.out; simp; omega, HR2.out.mono (fun _ _ _ => trivial), HB2.out⟩
                              case measure => simp [intOf]; omega
                            · have hlt3 : (a2 : Int) < a1 := by omega
                              have hcl3 := HCI.out.unite HOK.out hil (by omega) hxl HIK.out HMW1.out HMW2.out (a := a2) (b := a1) (.inr ⟨HA2.out.symm, HA1.out.symm⟩)
                              have hls := classes_unite HCI.out.len HCI.out.lt hT1 hT2 HAB.out (a := a2) (b := a1) (.inr ⟨HA2.out.symm, HA1.out.symm⟩)
                              have HCL3 := hid hcl3
                              have HLS := hid hls
                              have HIK3 := hid (hcl3.up)
                              clear hab hcl3 hls
                              go_wp2_with fail
                              refine (HUNI.out a2 a1 _).mono ?_
                              rintro e w2 ⟨A', c', rfl, hb2, hr2⟩
                              have HB2 := hid (HBW2.out _ _ hb2)
                              have HR2 := hid hr2
                              clear hb2 hr2
                              go_wp2_with fail
                              go_roundw
                              case rel => exact ⟨unitedN cl a2 a1, true, A', c', x + 1, by omega, by go_num, rfl, rfl, HCL3.out, relC_united (by omega) (by omega) HIK.out, (fun h => by cases h), by have := HCC.out; have := HLS.out; simp; omega, HR2.out.mono (fun _ _ _ => trivial), HB2.out⟩
                              case measure => simp [intOf]; omega
                        · have n3 : (y1 != y2) = true := by simp [hou]
                          have HNO := hid (HCI.out.no hil (by omega) hxl HIK.out HMW1.out HMW2.out hou)
                          clear hou
                          go_wp2_with fail
                          go_quiet (fail)
                          go_wp2_with fail
                          refine bodyPost_ret (v := .tuple #[.slice (some ⟨b9, o9, none⟩) cl.length cc, .bool false]) (by simp [results, Try.results46, go_sem]) rfl ?_
                          exact ⟨some ⟨b9, o9, none⟩, cc, cl, false, by rw [natZ_len], ⟨(fun h => by cases h), fun _ => HNO.out⟩, HCI.out.len, below_drewN HBW.out _, HRD.out.keep (Drawn.n wr _).keeps⟩
                    -->>
                  · obtain rfl : x = L.ins := by omega
                    go_wp2_with fail
                    go_roundw
                    case rel => exact ⟨cl, ch, Ac, cc, k + 1, by omega, by go_num, rfl, rfl, HCI.out, (fun h => (HSE.out h).row), HCC.out, HRD.out, HBR.out⟩
                    case measure => simp [intOf]; omega
              · have ne1 : ((ci : Int) != (ck : Int)) = true := by simp; omega
                have HREL : Hid (¬ RelC cl i k) := hid (fun h => hrel2 (HCIE.out.symm.trans (Eq.trans h HCKE.out)))
                clear hrel2
                go_wp2_with fail
                go_quiet (fail)
                go_wp2_with fail
                go_roundw
                case rel => exact ⟨cl, ch, _, cc, k + 1, by omega, by go_num, rfl, rfl, HCI.out, (fun h => (HSE.out h).skip HREL.out), HCC.out, HRD.out.keep (Drawn.n wr _).keeps, below_drewN HBR.out _⟩
                case measure => simp [intOf]; omega
            · obtain rfl : k = i := by omega
              go_wp2_with fail
              go_roundw
              case rel => exact ⟨cl, ch, Ac, cc, k + 1, by omega, by go_num, rfl, rfl, HCI.out, (fun h => (HSE.out h).next), HCC.out, HRD.out, HBR.out⟩
              case measure => simp [intOf]; omega
        · obtain rfl : i = L.size := by omega
          go_wp2_with fail
          go_roundg (gk - 1)
          case rel => exact ⟨cl, ch, Ac, cc, rfl, rfl, HCI.out, (fun h => (HSE.out h).good), by have := HCC.out; cases ch <;> simp at this ⊢ <;> omega, HRD.out, HBR.out⟩
          all_goals omega
end Go.Proofs.Ytcmhginhfhiolaa
