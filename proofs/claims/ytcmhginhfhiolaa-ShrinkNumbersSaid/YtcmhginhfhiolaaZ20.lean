/-
  Walk of mergeAll.
  The moves that matter, and the moves of the classes, as function values.
  The moves of the classes, as a function value.
-/
import Derived.Test.YtcmhginhfhiolaaZ19
import Derived.Test.YtcmhginhfhiolaaZ03
set_option linter.unusedVariables false
set_option linter.unusedSimpArgs false
namespace Go.Proofs.Ytcmhginhfhiolaa
open Go.RowKit
attribute [local go_sem] cell_alloc_old

theorem Rd.nomap {w : World} {D : Dom} {size n c x : Nat} {A : Option Addr} {xs : List Value} {lv : List (Nat × Value)} (h : Rd w D size A n c xs) (hs : 0 < size) (hm : MapIs encI w x lv) : Rd w (fun b => D b ∧ b ≠ x) size A n c xs := by
  refine ⟨h.1, fun hn => ?_⟩
  obtain ⟨b, o, e, hb, hl, hc⟩ := h.2 hn
  refine ⟨b, o, e, ⟨hb, fun hx => ?_⟩, hl, hc⟩
  subst hx
  have hlen : 0 < xs.length := by rw [h.1.1]; exact Nat.mul_pos hn hs
  have h0 := hc 0 _ (List.getElem?_eq_getElem hlen)
  obtain ⟨es, cl, h1, _⟩ := hm
  simp [World.cell?, h1] at h0
theorem RdII.nomap {w : World} {D : Dom} {c x : Nat} {A : Option Addr} {rows : List (List Int)} {lv : List (Nat × Value)} (h : RdII w D A c rows) (hm : MapIs encI w x lv) : RdII w (fun b => D b ∧ b ≠ x) A c rows := by
  obtain ⟨vs, h1, h2⟩ := h
  exact ⟨vs, h1.nomap (by omega) hm, fun i hi => by
    obtain ⟨A', c', e, hr⟩ := h2 i hi
    exact ⟨A', c', e, Rd.nomap hr (by omega) hm⟩⟩
theorem RdBB.nomap {w : World} {D : Dom} {c x : Nat} {A : Option Addr} {rows : List (List Bool)} {lv : List (Nat × Value)} (h : RdBB w D A c rows) (hm : MapIs encI w x lv) : RdBB w (fun b => D b ∧ b ≠ x) A c rows := by
  obtain ⟨vs, h1, h2⟩ := h
  exact ⟨vs, h1.nomap (by omega) hm, fun i hi => by
    obtain ⟨A', c', e, hr⟩ := h2 i hi
    exact ⟨A', c', e, Rd.nomap hr (by omega) hm⟩⟩
/-- Another map turns. -/
theorem TL.map {L : Mac} {w w' : World} {tb cb mb rb x : Nat} {Q : TLA} {clash : List (List Bool)} {er : List (List Int)} {f : Nat → Nat} {lv : List (Nat × Value)} (h : TL L w tb cb mb rb Q clash er f) (hm : MapIs encI w x lv) (hx : x ≠ mb) (hg : w.grownBy w' (some x)) : TL L w' tb cb mb rb Q clash er f := by
  have hk : Keeps (fun b => Off mb rb b ∧ b ≠ x) w w' := ⟨hg.size, fun b hb hl => hg.block b hl (fun e => hb.2 (Option.some.inj e))⟩
  obtain ⟨cur, h1, h2, h3, h4, h5, h6⟩ := h.rows
  have hcell : ∀ (b : Nat) (cs : Array Value) (t : TypeId) (fr : Nat × Nat), w.heap[b]? = some (.cells cs t fr) → w'.heap[b]? = some (.cells cs t fr) := fun b cs t fr hb => (hg.block b (lt_of_block hb) (fun e => map_ne_cells hm hb (Option.some.inj e))).trans hb
  refine ⟨hcell _ _ _ _ h.box, ((h.out.nomap hm).keep hk).mono (fun _ h _ => h.1), ((h.next.nomap hm).keep hk).mono (fun _ h _ => h.1), ((h.clh.nomap hm).keep hk).mono (fun _ h _ => h.1), h.clen,
    ⟨cur, hcell _ _ _ _ h1, h2, h3, h4, h5, fun i hi => ?_⟩, h.cls.keep fun b hb hl => ?_⟩
  · obtain ⟨A, c, e, hr⟩ := h6 i hi
    exact ⟨A, c, e, (RdI.keep (Rd.nomap hr (by omega) hm) hk).mono (fun _ h _ => h.1)⟩
  · refine hg.block b hl (fun e => ?_)
    have e' := Option.some.inj e
    rcases hb with hb | hb | ⟨q, hq, _⟩
    · obtain ⟨c', hc⟩ := h.cls.cell0
      rw [← hb] at hc
      exact map_ne_cells hm hc e'
    · exact hx (by rw [← e', hb])
    · cases hq
structure FInv (wr W : World) (cb mb : Nat) (f : Nat → Nat) : Prop where
  cls : Cls encI 99 W cb mb [] f
  chg : Chg (fun b => b = mb) wr W
theorem FInv.cell {wr W : World} {cb mb b o : Nat} {f : Nat → Nat} {u : Value} (h : FInv wr W cb mb f) (hb : b ≠ mb) (hl : b < wr.heap.size) (hc : wr.cell? ⟨b, o, none⟩ = some u) : W.cell? ⟨b, o, none⟩ = some u := by
  rw [← hc]
  exact World.cell?_of_block (w := wr) (a := ⟨b, o, none⟩) (h.chg.block b hl hb)
def AllSays (L : Mac) (tb cb mb rb : Nat) (Q : TLA) (clash : List (List Bool)) (w : World) (e : Ending) (w' : World) : Prop :=
  ∃ f er, e = .returned (.tuple #[]) ∧ TL L w' tb cb mb rb Q clash er f ∧ RepF L (final L) f ∧ RowsOk L f er ∧ (∀ i, i < L.size → f i < L.size) ∧ Chg (fun b => b = mb ∨ b = rb) w w'
theorem look_bool {l : List (Nat × Value)} {k : Nat} {w : World} {mb : Nat} (h : MapIs encI w mb l) :
    (Instr.lookup 95 (.map (some mb)) (.int .i64 (k : Int)) false).run Try.prog w = .ok ((lookB l k).getD (.bool false)) w :=
  run_lookup_b int_key (T := 95) (E := 4) (by kernel_rfl) (by kernel_rfl) h k false

set_option maxRecDepth 100000 in
set_option maxHeartbeats 8000000 in
theorem mergeAll_any (L : Mac) (hL : L.Ok) (hs : L.size ≤ 3000) (hi0 : 1 ≤ L.ins) (hi : L.ins ≤ 64) (tb cb mb rb : Nat) (Q : TLA) (clash : List (List Bool)) (er : List (List Int)) (f : Nat → Nat) (w : World)
    (ht : TL L w tb cb mb rb Q clash er f) (hcl : ClashOk L clash) (hro : RowsOk L f er) (hrep : FrI L 0 f) (hfr : ∀ i, i < L.size → f i < L.size) :
    Calls Try.prog 42 #[.pointer (some ⟨tb, 0, none⟩)] w fun e w' => AllSays L tb cb mb rb Q clash w e w' := by
  have hmm := @run_makeMap Try.prog
  have HT := hid ht
  have HCLO := hid hcl
  have HLO := hid hL
  have HRO := hid hro
  have HREP := hid hrep
  have HFR := hid hfr
  have x1 := block_cell ht.box (i := 1) rfl
  clear ht hcl hro hrep hfr hL
  go_enter Try.func42, Try.ntmps42
  go_wp2_with fail
  clear x1
  go_loopw [12] (fun t wr => ∃ (n : Nat) (f : Nat → Nat) (er : List (List Int)), n ≤ L.size ∧ t = .int .i64 (n : Int) ∧ TL L wr tb cb mb rb Q clash er f ∧ FrI L n f ∧ RowsOk L f er ∧ (∀ i, i < L.size → f i < L.size) ∧ Chg (fun b => b = mb ∨ b = rb) w wr) (fun t _ => L.size - (intOf t).toNat)
  case atStart => exact ⟨0, f, er, Nat.zero_le _, rfl, HT.out, HREP.out, HRO.out, HFR.out, Chg.refl _ _⟩
  case round =>
    clear HT HRO HREP HFR
    obtain ⟨n, f, er, hn, rfl, ht, hrep, hro, hfr, hch⟩ := hrel
    have HT := hid ht
    have HREP := hid hrep
    have HRO := hid hro
    have HFR := hid hfr
    have HCH := hid hch
    have hlt := ht.lt
    have hne := ht.ne
    clear ht hrep hro hfr hch
    by_cases hnl : n < L.size
    · have hni : (n : Int) < L.size := by omega
      obtain ⟨wz, rfl⟩ : ∃ wz : World, wz = wr := ⟨_, rfl⟩
      go_wp2_with fail
      refine wp_gen fun W1 hW1 => ?_
      have hb1 : Below wz.heap.size wz W1 := by rw [hW1]; exact (Below.refl _ _).alloc (Nat.le_refl _) _
      have hm1 : MapIs encI W1 wz.heap.size ([] : List (Nat × Value)) := by rw [hW1]; exact MapIs.new wz
      have HM1 := hid hm1
      have HT1 := hid (HT.out.below hb1)
      have HB1 := hid hb1
      have hs1 : wz.heap.size < W1.heap.size := hm1.lt
      clear hW1 hb1 hm1
      obtain ⟨fm, hfm⟩ : ∃ fm, fm = wz.heap.size := ⟨_, rfl⟩
      rw [← hfm] at HM1 hs1 ⊢
      have hfm1 : wz.heap.size ≤ fm := by omega
      have hfm2 : fm ≤ wz.heap.size := by omega
      clear hfm
      go_loopw [17] (fun t wr => ∃ (k : Nat) (lv : List (Nat × Value)), k ≤ n ∧ t = .int .i64 (k : Int) ∧ TL L wr tb cb mb rb Q clash er f ∧ FrT L n k f ∧ MapIs encI wr fm lv ∧ (∀ b v, lookB lv b = some v → v = .bool true ∧ ∃ j, j < L.size ∧ f j = b ∧ ¬ CanJoin L (mergeTo L n) n j) ∧
        Chg (fun b => b = mb ∨ b = rb ∨ b = fm) W1 wr) (fun t _ => n - (intOf t).toNat)
      case atStart => exact ⟨0, [], Nat.zero_le _, rfl, HT1.out, HREP.out.start, HM1.out, (fun b v h => by cases h), Chg.refl _ _⟩
      case round =>
        obtain ⟨k, lv, hk, rfl, ht, hft, hm, hlv, hch⟩ := hrel
        have HTR := hid ht
        have HFT := hid hft
        have HM := hid hm
        have HLV := hid hlv
        have HCHR := hid hch
        have hszr := hch.size
        have hfml := hm.lt
        clear ht hft hm hlv hch
        have HCW : Hid (Chg (fun b => b = mb ∨ b = rb) w wr) := hid ((HCH.out.trans (Chg.of_new HB1.out)).trans' HCHR.out (fun b hb h => by
          rcases h with h | h | h
          · exact .inl h
          · exact .inr h
          · have := HCH.out.size
            omega))
        by_cases hkn : k < n
        · have hki : (k : Int) < n := by omega
          have hkl : k < L.size := by omega
          have x2 := block_cell HTR.out.box (i := 2) rfl
          have x3 := block_cell HTR.out.box (i := 3) rfl
          obtain ⟨b3, o3, A3, c3, r3, hA3, _, _, HR3, hr3, hc3⟩ := HTR.out.clh.get (show n < clash.length by rw [HTR.out.clen.1]; exact hnl)
          have hr3l : r3.length = L.size := by rw [← HR3.out]; exact HTR.out.clen.2 n hnl
          obtain ⟨b4, o4, u, hA4, _, _, HU, hc4⟩ := hr3.get (show k < r3.length by rw [hr3l]; exact hkl)
          rw [hA3] at x2
          subst hA4
          have hqi : (k : Int) < r3.length := by omega
          have m3 := hr3.len.1
          clear hr3 hA3
          cases u with
          | true =>
            have HST := hid (HFT.out.stay (.inr (HCLO.out.can hnl hkl (by rw [HR3.out]; exact HU.out))))
            go_wp2_with fail
            go_roundw
            case rel => exact ⟨k + 1, lv, by omega, by go_num, HTR.out, HST.out, HM.out, HLV.out, HCHR.out⟩
            case measure => simp [intOf]; omega
          | false =>
            have hI0 : ∀ j, FInv wr (wr.drewN j) cb mb f := fun j => ⟨HTR.out.cls.keep fun _ _ _ => rfl, Chg.of_new ((Drawn.n wr j).below _)⟩
            have hI1 : FInv wr wr.drew cb mb f := hI0 1
            have HFI : Hid (∀ (W' : World) (j : Nat), FInv wr W' cb mb f → Calls Try.prog 44 #[.pointer (some ⟨cb, 0, none⟩), .int .i64 (j : Int)] W' fun e w' => e = .returned (.int .i64 (f j : Nat)) ∧ FInv wr w' cb mb f) := hid fun W' j h =>
              (find_int cb mb j [] f W' h.cls).mono fun e w' ⟨h1, h2, h3, _⟩ => ⟨h1, h2, h.chg.trans h3⟩
            have HI1 := hid hI1
            have htbl : tb < wr.heap.size := HTR.out.lt.1
            have htne : tb ≠ mb := HTR.out.ne.1
            have HX3 := hid x3
            obtain ⟨a, ha⟩ : ∃ a, a = f n := ⟨_, rfl⟩
            obtain ⟨b, hb⟩ : ∃ b, b = f k := ⟨_, rfl⟩
            have HA := hid ha
            have HB := hid hb
            clear hI0 hI1 ha hb
            go_wp2_with fail
            go_cut [5, 6] (fun s t wc => s = .int .i64 (a : Int) ∧ t = .int .i64 (b : Int) ∧ FInv wr wc cb mb f)
            case first =>
              go_region_held3 (fun w' => w'.cell? ⟨tb, 3, none⟩ = some (.pointer (some ⟨cb, 0, none⟩)))
                (first
                  | go_keep
                  | exact hI.cell htne htbl HX3.out)
                ((go_at_call 44; refine (HFI.out _ _ (by first | exact hI | exact HI1.out)).mono ?_; rintro e w6 ⟨rfl, hI⟩))
              all_goals
                have HI2 := hid hI
                clear hI
                go_wp2_with fail
                go_meet
                exact ⟨by rw [HA.out], by rw [HB.out], HI2.out⟩
            case rest =>
              obtain ⟨rfl, rfl, hI⟩ := hcut
              have HTC := hid (HTR.out.chg hI.chg hI.cls)
              have HMC := hid (HM.out.of_block (hI.chg.block fm hfml (by have := HT.out.lt; omega)))
              have HCHC := hid (HCHR.out.trans' hI.chg (fun b _ h => .inl h))
              have HCWC := hid (HCW.out.trans' hI.chg (fun b _ h => .inl h))
              clear hI x2 x3 hc3 hc4
              by_cases hab : a = b
              · have e1 : ((a : Int) == (b : Int)) = true := by rw [hab]; simp
                have HSK := hid (HFT.out.skip hnl hkl (by rw [← HA.out, ← HB.out, hab]))
                clear hab
                go_wp2_with fail
                go_roundw
                case rel => exact ⟨k + 1, lv, by omega, by go_num, HTC.out, HSK.out, HMC.out, HLV.out, HCHC.out⟩
                case measure => simp [intOf]; omega
              · have e1 : ((a : Int) == (b : Int)) = false := by simp; omega
                have HAB := hid hab
                have hlk := look_bool (k := b) HMC.out
                clear hab
                rcases hl : lookB lv b with _ | v
                · rw [hl] at hlk
                  simp only [Option.getD_none] at hlk
                  have HMG := hid (merge_any L HLO.out hs hi0 hi (mergeTo L n) n k tb cb mb rb Q clash er f wc HTC.out HCLO.out HRO.out (merge_good n) HREP.out HFR.out hnl hkl)
                  have HL := hid hl
                  clear hl
                  go_wp2_with fail
                  refine HMG.out.mono ?_
                  rintro e w8 ⟨r, f', er', rfl, ht8, hch8, hy, hno⟩
                  have HT8 := hid ht8
                  have HCW8 := hid (HCWC.out.trans hch8)
                  cases r with
                  | true =>
                    obtain ⟨hc, hj, hro8, hfr8⟩ := hy rfl
                    have HFI8 := hid (HFT.out.yes hnl hkn (by rw [← HA.out, ← HB.out]; exact HAB.out) hc hj)
                    have HRO8 := hid hro8
                    have HFR8 := hid hfr8
                    clear ht8 hch8 hy hno hc hj hro8 hfr8 hlk
                    go_wp2_with fail
                    go_roundw
                    case rel => exact ⟨n + 1, f', er', by omega, by go_num, HT8.out, HFI8.out, HRO8.out, HFR8.out, HCW8.out⟩
                    case measure => simp [intOf]; omega
                  | false =>
                    obtain ⟨rfl, rfl, hnc⟩ := hno rfl
                    have hfm8 : MapIs encI w8 fm lv := HMC.out.of_block (hch8.block fm HMC.out.lt (by have := HT.out.lt; omega))
                    obtain ⟨w9, hrun, hm9, hg9, hs9⟩ := run_update_b int_key (P := Try.prog) (T := 95) (E := 4) (by kernel_rfl) hfm8 b (.bool true)
                    have hrun' : (Instr.mapUpdate 95 (.map (some fm)) (.int .i64 (b : Int)) (.bool true)).run Try.prog w8 = .ok () w9 := hrun
                    have HT9 := hid (HT8.out.map hfm8 (by have := HT.out.lt; omega) hg9)
                    have HST := hid (HFT.out.stay (.inr hnc))
                    have HM9 := hid hm9
                    have HLV9 : Hid (∀ b' v', lookB (updB lv b (.bool true)) b' = some v' → v' = .bool true ∧ ∃ j, j < L.size ∧ f' j = b' ∧ ¬ CanJoin L (mergeTo L n) n j) := hid fun b' v' hv' => by
                      rw [lookB_upd] at hv'
                      split at hv'
                      · rename_i e
                        injection hv' with hv'
                        exact ⟨hv'.symm, k, hkl, by rw [← HB.out, e], hnc⟩
                      · exact HLV.out b' v' hv'
                    have HCH9 := hid ((HCHC.out.trans' hch8 (fun z _ h => by
                      rcases h with h | h
                      · exact .inl h
                      · exact .inr (.inl h))).grown hg9 (fun z e _ => .inr (.inr (Option.some.inj e).symm)))
                    clear hrun hm9 hg9 hs9 hfm8 ht8 hch8 hy hno hnc hlk
                    go_wp2_with fail
                    go_roundw
                    case rel => exact ⟨k + 1, _, by omega, by go_num, HT9.out, HST.out, HM9.out, HLV9.out, HCH9.out⟩
                    case measure => simp [intOf]; omega
                · obtain ⟨rfl, j, hj, hfj, hnc⟩ := HLV.out b v hl
                  rw [hl] at hlk
                  simp only [Option.getD_some] at hlk
                  have HST := hid (HFT.out.failed (b := b) hj hkl (by rw [← HB.out, hfj]) hnc)
                  clear hl hfj hnc
                  go_wp2_with fail
                  go_roundw
                  case rel => exact ⟨k + 1, lv, by omega, by go_num, HTC.out, HST.out, HMC.out, HLV.out, HCHC.out⟩
                  case measure => simp [intOf]; omega
        · obtain rfl : k = n := by omega
          have HN := hid HFT.out.none
          go_wp2_with fail
          go_roundw
          case rel => exact ⟨k + 1, f, er, by omega, by go_num, HTR.out, HN.out, HRO.out, HFR.out, HCW.out⟩
          case measure => simp [intOf]; omega
    · obtain rfl : n = L.size := by omega
      go_wp2_with fail
      go_end0
      exact ⟨f, er, rfl, HT.out, HREP.out, HRO.out, HFR.out, HCH.out⟩
end Go.Proofs.Ytcmhginhfhiolaa
set_option linter.unusedVariables false
set_option linter.unusedSimpArgs false
namespace Go.Proofs.Ytcmhginhfhiolaa
open Go.RowKit
attribute [local go_sem] cell_alloc_old

structure CrI (m : Mly) (care : List (List Bool)) (mbx cbx B : Nat) (Ao : Option Addr) (co : Nat) (An : Option Addr) (cn : Nat) (A : Option Addr) (ca : Nat) (W : World) : Prop where
  mly : WhI m mbx B Ao co An cn W
  cbox : W.heap[cbx]? = some (.cells #[.slice A care.length ca] 25 (0, 0))
  care : RdBB W (fun b => b < B) A ca care
theorem CrI.keep {m : Mly} {care : List (List Bool)} {mbx cbx B : Nat} {Ao An A : Option Addr} {co cn ca : Nat} {W W' : World} (h : CrI m care mbx cbx B Ao co An cn A ca W) (h1 : mbx < B) (h2 : cbx < B) (hb : Below B W W') : CrI m care mbx cbx B Ao co An cn A ca W' :=
  ⟨h.mly.keep h1 hb, (hb.block _ h2).trans h.cbox, h.care.keep (Keeps.of_below hb fun _ h => h)⟩

set_option maxRecDepth 100000 in
set_option maxHeartbeats 4000000 in
theorem newLoose1_mv (m : Mly) (hm : Sized m) (care : List (List Bool)) (hcs : caresB m care = true) (mbx cbx B : Nat) (Ao : Option Addr) (co : Nat) (An : Option Addr) (cn : Nat) (A : Option Addr) (ca : Nat) (hmb : mbx < B) (hcb : cbx < B) :
    MvF 58 #[.pointer (some ⟨cbx, 0, none⟩), .pointer (some ⟨mbx, 0, none⟩)] (careM m care) (CrI m care mbx cbx B Ao co An cn A ca) (fun _ => False) B := by
  refine ⟨enters_of Try.func58 (by kernel_rfl) rfl, fun _ h => h.elim, fun W W' h hB hb => h.keep hmb hcb hb, ?_⟩
  intro W q x hW hB hq hx
  have HM := hid hm
  have HW := hid hW
  have HCS := hid (cares_shape hcs)
  have hq' : q < m.out.length := hq
  have hx' : x < m.ins.toNat := hx
  have hxi : (x : Int) < m.ins := by omega
  have hqn : q < m.next.length := by rw [hm.nn]; exact hq'
  have hqc : q < care.length := by rw [HCS.out.1]; exact hq'
  have x3 := block_cell hW.mly.box (i := 3) rfl
  have x4 := block_cell hW.mly.box (i := 4) rfl
  have y0 := block_cell hW.cbox (i := 0) rfl
  obtain ⟨b1, o1, A1, c1, r1, rfl, _, _, HR1, hr1, hc1⟩ := hW.mly.out.get hq'
  obtain ⟨b2, o2, A2, c2, r2, rfl, _, _, HR2, hr2, hc2⟩ := hW.mly.next.get hqn
  obtain ⟨b5, o5, A5, c5, r5, rfl, _, _, HR5, hr5, hc5⟩ := hW.care.get hqc
  have e1 := hm.outr q x hq' hxi
  have e2 := hm.nextr q x hq' hxi
  have e5 := HCS.out.2 q hqc
  rw [HR1.out] at e1
  rw [HR2.out] at e2
  rw [HR5.out] at e5
  have hx1 : x < r1.length := by omega
  have hx2 : x < r2.length := by omega
  have hx5 : x < r5.length := by omega
  obtain ⟨b3, o3, y, rfl, _, _, HY, hc3⟩ := hr1.get hx1
  obtain ⟨b4, o4, z, rfl, _, _, HZ, hc4⟩ := hr2.get hx2
  obtain ⟨b6, o6, u, rfl, _, _, HU, hc6⟩ := hr5.get hx5
  rw [HZ.out] at e2
  have hmv : (careM m care).mv q x = if u = true then some (y, z.toNat) else none := by
    show (if (care.getD q []).getD x false = true then some ((m.out.getD q []).getD x 0, ((m.next.getD q []).getD x 0).toNat) else none) = _
    rw [HR5.out, HU.out, HR1.out, HY.out, HR2.out, HZ.out]
  have hqi1 : (q : Int) < m.out.length := by omega
  have hqi2 : (q : Int) < m.next.length := by omega
  have hqi5 : (q : Int) < care.length := by omega
  have hxi1 : (x : Int) < r1.length := by omega
  have hxi2 : (x : Int) < r2.length := by omega
  have hxi5 : (x : Int) < r5.length := by omega
  have l1 := hW.mly.out.len.1
  have l2 := hW.mly.next.len.1
  have l5 := hW.care.len.1
  have l3 := hr1.len.1
  have l4 := hr2.len.1
  have l6 := hr5.len.1
  have hz0 := e2.2.1
  clear hm hW hq hx e1 e2 e5 hr1 hr2 hr5
  cases u with
  | false =>
    have hres := mvT_no (M := careM m care) (q := q) (x := x) (by rw [hmv]; rfl)
    rw [hres.1, hres.2]
    clear hres hmv
    go_enter Try.func58, Try.ntmps58
    go_wp2_with fail
    go_ret2
    exact ⟨rfl, HW.out, Chg.refl _ W⟩
  | true =>
    have hres := mvT_yes (M := careM m care) (q := q) (x := x) (o := y) (t := z.toNat) (by rw [hmv]; rfl)
    have hres2 : mvT (careM m care) q x = z := hres.2.trans (by omega)
    rw [hres.1, hres2]
    clear hres hres2 hmv
    go_enter Try.func58, Try.ntmps58
    go_wp2_with fail
    go_quiet (fail)
    go_wp2_with fail
    go_ret2
    exact ⟨rfl, HW.out.keep hmb hcb ((Drawn.n W nq).below B), (Chg.refl _ W).drewN _⟩
end Go.Proofs.Ytcmhginhfhiolaa
set_option linter.unusedVariables false
set_option linter.unusedSimpArgs false
namespace Go.Proofs.Ytcmhginhfhiolaa
open Go.RowKit
attribute [local go_sem] cell_alloc_old

/-- What the function of Loose needs: all of it lies below block B. -/
structure LmI (L : Mac) (f : Nat → Nat) (er : List (List Int)) (vb tb cb mb rb B : Nat) (Q : TLA) (W : World) : Prop where
  var : W.heap[vb]? = some (.cells #[.pointer (some ⟨tb, 0, none⟩)] 66 (0, 0))
  box : W.heap[tb]? = some (.cells #[.slice Q.ao L.size Q.co, .slice Q.an L.size Q.cn, .slice Q.ac L.size Q.cc, .pointer (some ⟨cb, 0, none⟩), .slice (some ⟨rb, 0, none⟩) L.size Q.cr] 70 (0, 0))
  out : RdII W (fun b => b ≠ mb ∧ b < B) Q.ao Q.co (outsL L)
  next : RdII W (fun b => b ≠ mb ∧ b < B) Q.an Q.cn (nextsL L)
  rows : RdII W (fun b => b ≠ mb ∧ b < B) (some ⟨rb, 0, none⟩) Q.cr er
  cls : Cls encI 99 W cb mb [] f
theorem rowsAt_rd {w : World} {mb rb n cr : Nat} {er : List (List Int)} (h : RowsAt w mb rb n cr er) (hn : n ≤ 140737488355328) (hne : rb ≠ mb) : RdII w (fun b => b ≠ mb ∧ b < w.heap.size) (some ⟨rb, 0, none⟩) cr er := by
  obtain ⟨cur, h1, h2, h3, h4, h5, h6⟩ := h
  refine ⟨cur.toList.take n, ⟨⟨by rw [List.length_take, Array.length_toList, h5]; omega, by omega, by omega, h3⟩, fun _ => ⟨rb, 0, rfl, ⟨hne, lt_of_block h1⟩, lt_of_block h1, fun j u hu => ?_⟩⟩, fun i hi => ?_⟩
  · rw [List.getElem?_take] at hu
    split at hu
    · rw [Nat.zero_add]
      exact block_cell h1 (by rw [← Array.getElem?_toList]; exact hu)
    · cases hu
  · obtain ⟨A, c, e, hr⟩ := h6 i (by omega)
    refine ⟨A, c, ?_, RdI.mono hr fun b hb hl => ⟨hb.1, hl⟩⟩
    rw [List.getElem?_take, if_pos (by omega), Array.getElem?_toList]
    exact e
theorem LmI.of {L : Mac} {f : Nat → Nat} {er : List (List Int)} {vb tb cb mb rb : Nat} {Q : TLA} {clash : List (List Bool)} {W : World} (h : TL L W tb cb mb rb Q clash er f) (hs : L.size ≤ 3000) (hv : W.heap[vb]? = some (.cells #[.pointer (some ⟨tb, 0, none⟩)] 66 (0, 0))) :
    LmI L f er vb tb cb mb rb W.heap.size Q W :=
  ⟨hv, h.box, h.out.mono fun b hb hl => ⟨hb.1, hl⟩, h.next.mono fun b hb hl => ⟨hb.1, hl⟩, rowsAt_rd h.rows (by omega) h.ne.2.2.1, h.cls⟩

set_option maxRecDepth 100000 in
set_option maxHeartbeats 4000000 in
theorem loose1_mv (L : Mac) (hs : L.size ≤ 3000) (f : Nat → Nat) (er : List (List Int)) (hro : RowsOk L f er) (hL : L.Ok) (vb tb cb mb rb B : Nat) (Q : TLA) (hvb : vb < B) (htb : tb < B) (hcb : cb < B) (hmb : mb < B) (hvm : vb ≠ mb) (htm : tb ≠ mb) :
    MvF 43 #[.pointer (some ⟨vb, 0, none⟩)] (looseM L f er) (LmI L f er vb tb cb mb rb B Q) (fun b => b = mb) B := by
  refine ⟨enters_of Try.func43 (by kernel_rfl) rfl, fun b h => by rw [h]; exact hmb, fun W W' h hB hb => ?_, ?_⟩
  · have hk : Keeps (fun b => b ≠ mb ∧ b < B) W W' := Keeps.of_below hb fun _ h => h.2
    exact ⟨(hb.block _ hvb).trans h.var, (hb.block _ htb).trans h.box, h.out.keep hk, h.next.keep hk, h.rows.keep hk, h.cls.keep fun b hb2 _ => hb.block b (by
      rcases hb2 with h | h | ⟨q, hq, _⟩
      · omega
      · omega
      · cases hq)⟩
  intro W q x hW hB hq hx
  have HW := hid hW
  have hql : q < L.size := hq
  have hxl : x < L.ins := hx
  have v0 := block_cell hW.var (i := 0) rfl
  have t4 := block_cell hW.box (i := 4) rfl
  obtain ⟨b1, o1, A1, c1, r1, hA1, _, _, HR1, hr1, hc1⟩ := hW.rows.get (show q < er.length by rw [hro.len]; exact hql)
  injection hA1 with hA1
  injection hA1 with hb1 ho1
  subst hb1
  subst ho1
  rw [Nat.zero_add] at hc1
  have hrl : r1.length = L.ins := by rw [← HR1.out]; exact hro.rlen q hql
  obtain ⟨b3, o3, y, rfl, _, _, HY, hc3⟩ := hr1.get (show x < r1.length by omega)
  have hye : rowE er q x = y := by unfold rowE; rw [HR1.out]; exact HY.out
  have hmv : (looseM L f er).mv q x = if y < 0 then none else some (mvO L y.toNat x, f (tgM L y x)) := by
    show (if rowE er q x < 0 then none else some (mvO L (rowE er q x).toNat x, f (tgM L (rowE er q x) x))) = _
    rw [hye]
  have hqi : (q : Int) < L.size := by omega
  have hxi : (x : Int) < r1.length := by omega
  have l1 := hr1.len.1
  by_cases hn : y < 0
  · have hres := mvT_no (M := looseM L f er) (q := q) (x := x) (by rw [hmv, if_pos hn])
    rw [hres.1, hres.2]
    clear hres hmv hye hr1 hrl hW hro hq hx
    go_enter Try.func43, Try.ntmps43
    go_wp2_with fail
    go_ret2
    exact ⟨rfl, HW.out, Chg.refl _ W⟩
  · obtain ⟨j, ⟨o, t⟩, hj, ej, mj⟩ := hro.ne hql hxl (by rw [hye]; exact hn)
    rw [hye] at ej
    subst ej
    have hres := mvT_yes (M := looseM L f er) (q := q) (x := x) (o := o) (t := f t) (by
      rw [hmv, if_neg hn]
      unfold tgM
      rw [Int.toNat_natCast, mj, (mvT_yes mj).1]; rfl)
    rw [hres.1, hres.2]
    have t0 := block_cell hW.box (i := 0) rfl
    have t1 := block_cell hW.box (i := 1) rfl
    have t3 := block_cell hW.box (i := 3) rfl
    obtain ⟨bo, oo, Ao, co, ro, hAo, hbo, _, HRo, hro1, hco⟩ := hW.out.get (show j < (outsL L).length by rw [outsL_len]; exact hj)
    obtain ⟨bn, on, An, cn, rn, hAn, hbn, _, HRn, hrn1, hcn⟩ := hW.next.get (show j < (nextsL L).length by rw [nextsL_len]; exact hj)
    rw [hAo] at t0
    rw [hAn] at t1
    have eo := HRo.out
    have en := HRn.out
    rw [outsL_row L hj] at eo
    rw [nextsL_row L hj] at en
    have lo : ro.length = L.ins := by rw [← eo, rowf_len]
    have ln : rn.length = L.ins := by rw [← en, rowf_len]
    obtain ⟨b5, o5, v1, hB5, hb5, hl5, HV1, hd1⟩ := hro1.get (show x < ro.length by omega)
    obtain ⟨b6, o6, v2, hB6, hb6, hl6, HV2, hd2⟩ := hrn1.get (show x < rn.length by omega)
    subst hB5
    subst hB6
    have w1 : v1 = o := by rw [← HV1.out, ← eo, rowf_get _ hxl, (mvT_yes mj).1]
    have w2 : v2 = (t : Int) := by rw [← HV2.out, ← en, rowf_get _ hxl, (mvT_yes mj).2]
    subst w1
    subst w2
    have hji : (j : Int) < L.size := by omega
    have xo : (x : Int) < ro.length := by omega
    have xn : (x : Int) < rn.length := by omega
    have k1 := hro1.len.1
    have k2 := hrn1.len.1
    have hI1 : FInv W W.drew cb mb f := ⟨hW.cls.keep fun _ _ _ => rfl, Chg.of_new ((Drawn.n W 1).below _)⟩
    have hI2 : ∀ i, FInv W (W.drewN i) cb mb f := fun i => ⟨hW.cls.keep fun _ _ _ => rfl, Chg.of_new ((Drawn.n W i).below _)⟩
    have HFI : Hid (∀ (W' : World) (i : Nat), FInv W W' cb mb f → Calls Try.prog 44 #[.pointer (some ⟨cb, 0, none⟩), .int .i64 (i : Int)] W' fun e w' => e = .returned (.int .i64 (f i : Nat)) ∧ FInv W w' cb mb f) := hid fun W' i h =>
      (find_int cb mb i [] f W' h.cls).mono fun e w' ⟨h1, h2, h3, _⟩ => ⟨h1, h2, h.chg.trans h3⟩
    have HI1 := hid hI1
    have HI2 := hid hI2
    have hvl := lt_of_block hW.var
    have htl := lt_of_block hW.box
    have hbol : bo < W.heap.size := by omega
    have hbnl : bn < W.heap.size := by omega
    have HS := hid (show W.cell? ⟨vb, 0, none⟩ = some (.pointer (some ⟨tb, 0, none⟩)) ∧ W.cell? ⟨tb, 0, none⟩ = some (.slice (some ⟨bo, oo, none⟩) L.size Q.co) ∧ W.cell? ⟨tb, 1, none⟩ = some (.slice (some ⟨bn, on, none⟩) L.size Q.cn) ∧ W.cell? ⟨tb, 3, none⟩ = some (.pointer (some ⟨cb, 0, none⟩)) ∧
      W.cell? ⟨bo, oo + j, none⟩ = some (.slice (some ⟨b5, o5, none⟩) ro.length co) ∧ W.cell? ⟨bn, on + j, none⟩ = some (.slice (some ⟨b6, o6, none⟩) rn.length cn) ∧ W.cell? ⟨b5, o5 + x, none⟩ = some (.int .i64 v1) ∧ W.cell? ⟨b6, o6 + x, none⟩ = some (.int .i64 (t : Int)) from ⟨v0, t0, t1, t3, hco, hcn, hd1, hd2⟩)
    have hne5 := hb5.1
    have hne6 := hb6.1
    have hneo := hbo.1
    have hnen := hbn.1
    clear hres hmv hye hr1 hrl hW hro hq hx hAo hAn eo en lo ln hro1 hrn1 hI1 hI2 mj hb5 hb6 hbo hbn
    go_enter Try.func43, Try.ntmps43
    go_wp2_with fail
    go_region_held3 (fun w' => w'.cell? ⟨vb, 0, none⟩ = some (.pointer (some ⟨tb, 0, none⟩)) ∧ w'.cell? ⟨tb, 0, none⟩ = some (.slice (some ⟨bo, oo, none⟩) L.size Q.co) ∧ w'.cell? ⟨tb, 1, none⟩ = some (.slice (some ⟨bn, on, none⟩) L.size Q.cn) ∧ w'.cell? ⟨tb, 3, none⟩ = some (.pointer (some ⟨cb, 0, none⟩)) ∧
        w'.cell? ⟨bo, oo + j, none⟩ = some (.slice (some ⟨b5, o5, none⟩) ro.length co) ∧ w'.cell? ⟨bn, on + j, none⟩ = some (.slice (some ⟨b6, o6, none⟩) rn.length cn) ∧ w'.cell? ⟨b5, o5 + x, none⟩ = some (.int .i64 v1) ∧ w'.cell? ⟨b6, o6 + x, none⟩ = some (.int .i64 (t : Int)))
      (first
        | go_keep
        | exact ⟨hI.cell hvm hvl HS.out.1, hI.cell htm htl HS.out.2.1, hI.cell htm htl HS.out.2.2.1, hI.cell htm htl HS.out.2.2.2.1, hI.cell hneo hbol HS.out.2.2.2.2.1, hI.cell hnen hbnl HS.out.2.2.2.2.2.1, hI.cell hne5 hl5 HS.out.2.2.2.2.2.2.1, hI.cell hne6 hl6 HS.out.2.2.2.2.2.2.2⟩)
      ((go_at_call 44; refine (HFI.out _ _ (by first | exact HI1.out | exact HI2.out _)).mono ?_; rintro e w6 ⟨rfl, hI⟩))
    all_goals
      have hk : Keeps (fun b => b ≠ mb ∧ b < B) W w6 := hI.chg.keeps fun b _ h e => h.1 e
      have HEND := hid (show LmI L f er vb tb cb mb rb B Q w6 from ⟨hI.chg.box HW.out.var hvm, hI.chg.box HW.out.box htm, HW.out.out.keep hk, HW.out.next.keep hk, HW.out.rows.keep hk, hI.cls⟩)
      have HCH := hid hI.chg
      clear hI hk v0 t0 t1 t3 t4 hco hcn hd1 hd2
      go_wp2_with fail
      go_ret2
      exact ⟨rfl, HEND.out, HCH.out⟩
end Go.Proofs.Ytcmhginhfhiolaa
