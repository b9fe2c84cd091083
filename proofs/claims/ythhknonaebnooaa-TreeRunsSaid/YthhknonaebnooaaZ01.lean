/-
  Walk of the reference: Valid of automata.
-/
import Derived.Test.YthhknonaebnooaaZ00
set_option linter.unusedVariables false
set_option linter.unusedSimpArgs false
namespace Go.Proofs.Ythhknonaebnooaa
open Go.RowKit
attribute [local go_sem] cell_alloc_old

set_option maxRecDepth 100000 in
set_option maxHeartbeats 8000000 in
theorem rbvalid_any {D : Dom} (v : Value) (b : Bu) (w : World) (h : RdBu w D v b) :
    Calls Try.prog 28 #[v] w fun e w' => e = .returned (.bool (buchiB b)) ∧ Below w.heap.size w w' := by
  have HV := hid h.old
  obtain ⟨As, cs, An, cn, rfl, hs, hn⟩ := h
  have hsl := hs.len.1
  have hnl := hn.len.1
  clear hs hn
  by_cases hsz : 1 ≤ b.letters ∧ b.letters ≤ 64 ∧ b.next.length ≤ 3000
  · obtain ⟨z1, z2, z3⟩ := hsz
    have d1 : decide (b.letters < 1) = false := decide_eq_false (by omega)
    have d2 : decide ((64 : Int) < b.letters) = false := decide_eq_false (by omega)
    have d3 : decide ((3000 : Int) < (b.next.length : Int)) = false := decide_eq_false (by omega)
    go_enter Try.func28, Try.ntmps28
    go_upto_region 1 with (fail)
    refine wp_gen fun W hW => ?_
    have hB : HasB W w.heap.size #[.int .i64 b.letters, .slice As b.start.length cs, .slice An b.next.length cn] b := by rw [hW]; exact HasB.new HV.out
    have HB := hid hB
    have HBW := hid (show Below w.heap.size w W by rw [hW]; go_grown)
    obtain ⟨x0, x1, x2, xl⟩ := hB.cells
    clear hW hB
    go_wp2_with fail
    go_loopw [3] (fun t wr => ∃ k : Nat, k ≤ b.start.length ∧ t = .int .i64 k ∧ SoFar k (incAt b.next.length b.start) ∧ Drawn W wr) (fun t _ => b.start.length - (intOf t).toNat)
    case atStart => exact ⟨0, Nat.zero_le _, rfl, SoFar.zero _, Drawn.refl _⟩
    case round =>
      obtain ⟨k, hk, rfl, hso, hd⟩ := hrel
      have hbd := hd.below W.heap.size
      have HBR := hid (HB.out.below hbd)
      have HBB := hid (HBW.out.trans (hbd.mono HBW.out.size))
      have HSO := hid hso
      have HD := hid hd
      obtain ⟨x0, x1, x2, xl⟩ := HBR.out.cells
      clear hso hbd hd
      by_cases hlt : k < b.start.length
      · obtain ⟨g, o, x, rfl, _, hgl, HX, hc⟩ := HBR.out.parts.1.get hlt
        have hki : (k : Int) < b.start.length := by omega
        have hbad : incAt b.next.length b.start k = false → buchiB b = false := fun h => by unfold buchiB incB; rw [allN_false hlt h]; simp
        have HBAD := hid hbad
        clear hbad
        by_cases c1 : x < 0
        · have e1 : decide (x < 0) = true := decide_eq_true c1
          go_wp2_with fail
          go_quiet (fail)
          go_wp2_with fail
          go_ret
          exact ⟨ret_bool (HBAD.out (by unfold incAt; rw [HX.out]; simp; omega)).symm, below_drewN HBB.out _⟩
        · have e1 : decide (x < 0) = false := decide_eq_false c1
          by_cases c2 : (b.next.length : Int) ≤ x
          · have e2 : decide ((b.next.length : Int) ≤ x) = true := decide_eq_true c2
            go_wp2_with fail
            go_quiet (fail)
            go_wp2_with fail
            go_ret
            exact ⟨ret_bool (HBAD.out (by unfold incAt; rw [HX.out]; simp; omega)).symm, below_drewN HBB.out _⟩
          · have e2 : decide ((b.next.length : Int) ≤ x) = false := decide_eq_false c2
            by_cases c3 : k = 0
            · have e3 : decide ((0 : Int) < (k : Int)) = false := decide_eq_false (by omega)
              have e3n : ¬ 0 < k := by omega
              have C3 := hid c3
              clear c3
              go_wp2_with fail
              go_quiet (fail)
              go_wp2_with fail
              go_roundw
              case rel => exact ⟨k + 1, by omega, by go_num, HSO.out.succ (by unfold incAt; rw [HX.out]; simp [C3.out]; omega), by first | exact HD.out | exact HD.out.drewN _⟩
              case measure => simp [intOf]; omega
            · have e3 : decide ((0 : Int) < (k : Int)) = true := decide_eq_true (by omega)
              have e3n : 0 < k := by omega
              obtain ⟨k', hk'⟩ : ∃ k', k = k' + 1 := ⟨k - 1, by omega⟩
              obtain ⟨g', o', y, hA, _, _, HY, hc'⟩ := HBR.out.parts.1.get (show k' < b.start.length by omega)
              injection hA with hA
              injection hA with hg ho
              subst hg ho
              have hw1 : IntKind.i64.wrap ((k : Int) - 1) = (k' : Int) := by rw [IntWalk.i64_in _ (by omega)]; omega
              have hk2 : (k' : Int) < b.start.length := by omega
              have C3 := hid c3
              have HK' := hid hk'
              clear c3 hk'
              by_cases c4 : x ≤ y
              · have e4 : decide (x ≤ y) = true := decide_eq_true c4
                go_wp2_with fail
                go_quiet (fail)
                go_wp2_with fail
                go_ret
                exact ⟨ret_bool (HBAD.out (by unfold incAt; rw [show k - 1 = k' by have := HK'.out; omega, HX.out, HY.out]; simp [C3.out]; omega)).symm, below_drewN HBB.out _⟩
              · have e4 : decide (x ≤ y) = false := decide_eq_false c4
                go_wp2_with fail
                go_quiet (fail)
                go_wp2_with fail
                go_roundw
                case rel => exact ⟨k + 1, by omega, by go_num, HSO.out.succ (by unfold incAt; rw [show k - 1 = k' by have := HK'.out; omega, HX.out, HY.out]; simp [C3.out]; omega), by first | exact HD.out | exact HD.out.drewN _⟩
                case measure => simp [intOf]; omega
      · have hst : incB b.next.length b.start = true := HSO.out.all (by omega)
        have HST := hid hst
        clear hst HSO
        go_wp2_with fail
        go_loopw [4] (fun t wr => ∃ k : Nat, k ≤ b.next.length ∧ t = .int .i64 k ∧ SoFar k (fun s => rowOkB b.next.length b.letters (b.next.getD s [])) ∧ Below W.heap.size W wr) (fun t _ => b.next.length - (intOf t).toNat)
        case atStart => exact ⟨0, Nat.zero_le _, rfl, SoFar.zero _, HD.out.below _⟩
        case round =>
          obtain ⟨k, hk, rfl, hso, hbd⟩ := hrel
          have HBR := hid (HB.out.below hbd)
          have HBB := hid (HBW.out.trans (hbd.mono HBW.out.size))
          have HSO := hid hso
          have HD := hid hbd
          obtain ⟨x0, x1, x2, xl⟩ := HBR.out.cells
          clear hso hbd
          by_cases hlt : k < b.next.length
          · obtain ⟨g, o, A1, c1, row, hAn, _, hgl, HX, hr, hc⟩ := HBR.out.parts.2.get hlt
            subst hAn
            have hrl := hr.len.1
            have hki : (k : Int) < b.next.length := by omega
            have hbad : rowOkB b.next.length b.letters row = false → buchiB b = false := fun h => by unfold buchiB; rw [allN_false hlt (by rw [HX.out]; exact h)]; simp
            have HBAD := hid hbad
            have HROW := hid hr
            clear hbad hr
            by_cases c5 : (row.length : Int) = b.letters
            · have e5 : ((row.length : Int) != b.letters) = false := by simp [c5]
              have C5 := hid c5
              have hrl5 : row.length ≤ 64 := by omega
              clear c5
              go_wp2_with fail
              go_quiet (fail)
              go_wp2_with fail
              go_loopw [5] (fun t wr => ∃ a : Nat, (a : Int) ≤ b.letters ∧ t = .int .i64 a ∧ SoFar a (fun a => movesB b.next.length (row.getD a [])) ∧ Below W.heap.size W wr) (fun t _ => b.letters.toNat - (intOf t).toNat)
              case atStart => exact ⟨0, by omega, rfl, SoFar.zero _, by first | exact HD.out | exact below_drewN HD.out _⟩
              case round =>
                obtain ⟨a, hal, rfl, hso2, hbd⟩ := hrel
                have HBR := hid (HB.out.below hbd)
                have HBB := hid (HBW.out.trans (hbd.mono HBW.out.size))
                have HSO2 := hid hso2
                have HD := hid hbd
                obtain ⟨x0, x1, x2, xl⟩ := HBR.out.cells
                clear hso2 hbd
                by_cases hla : (a : Int) < b.letters
                · have hla2 : a < row.length := by have := C5.out; omega
                  have hlad : decide ((a : Int) < b.letters) = true := decide_eq_true hla
                  obtain ⟨g', o', A', c', row', hAn', _, hgl', HX', hr', hc'⟩ := HBR.out.parts.2.get hlt
                  injection hAn' with hAn'
                  injection hAn' with hg' ho'
                  subst hg' ho'
                  obtain rfl : row = row' := HX.out.symm.trans HX'.out
                  obtain ⟨g2, o2, A2, c2, l, hA2, _, hgl2, HL, hl2, hcl⟩ := RdOf.get hr' hla2
                  subst hA2
                  have hll := hl2.len.1
                  have hai : (a : Int) < row.length := by omega
                  have hrl' := hr'.len.1
                  have hbad2 : movesB b.next.length l = false → buchiB b = false := fun h => HBAD.out (by unfold rowOkB; rw [allN_false (j := a) (by omega) (by rw [HL.out]; exact h)]; simp)
                  have HBAD2 := hid hbad2
                  have HLR := hid hl2
                  obtain ⟨W2, hW2⟩ : ∃ W2, W2 = wr := ⟨_, rfl⟩
                  rw [← hW2] at HBR HBB HD HLR x0 x1 x2 xl hcl hc' hgl2 ⊢
                  clear hW2 hl2 hr' hbad2
                  go_wp2_with fail
                  go_loopw [7] (fun t wr' => ∃ e : Nat, e ≤ l.length ∧ t = .int .i64 e ∧ SoFar e (movesAt b.next.length l) ∧ Below W2.heap.size W2 wr') (fun t _ => l.length - (intOf t).toNat)
                  case atStart => exact ⟨0, Nat.zero_le _, rfl, SoFar.zero _, Below.refl _ _⟩
                  case round =>
                    obtain ⟨e, hel, rfl, hso3, hbd⟩ := hrel
                    have HB3 := hid (HBR.out.below hbd)
                    have HBB3 := hid (HBB.out.trans (hbd.mono HBB.out.size))
                    have HSO3 := hid hso3
                    have HD3 := hid (HD.out.trans (hbd.mono HD.out.size))
                    have HD4 := hid hbd
                    have HLR3 := hid (HLR.out.keep (Keeps.of_below hbd (fun _ h => h)))
                    obtain ⟨x0, x1, x2, xl⟩ := HB3.out.cells
                    clear hso3 hbd
                    by_cases hle : e < l.length
                    · obtain ⟨g3, o3, m, rfl, _, hgl3, HM, hm0, hm1⟩ := HLR3.out.get hle
                      have hei : (e : Int) < l.length := by omega
                      have hbad3 : movesAt b.next.length l e = false → buchiB b = false := fun h => HBAD2.out (allN_false hle h)
                      have HBAD3 := hid hbad3
                      clear hbad3
                      by_cases c1 : m.dst < 0
                      · have e1 : decide (m.dst < 0) = true := decide_eq_true c1
                        go_wp2_with fail
                        go_quiet (fail)
                        go_wp2_with fail
                        go_ret
                        exact ⟨ret_bool (HBAD3.out (by unfold movesAt; rw [HM.out]; simp; omega)).symm, below_drewN HBB3.out _⟩
                      · have e1 : decide (m.dst < 0) = false := decide_eq_false c1
                        by_cases c2 : (b.next.length : Int) ≤ m.dst
                        · have e2 : decide ((b.next.length : Int) ≤ m.dst) = true := decide_eq_true c2
                          go_wp2_with fail
                          go_quiet (fail)
                          go_wp2_with fail
                          go_ret
                          exact ⟨ret_bool (HBAD3.out (by unfold movesAt; rw [HM.out]; simp; omega)).symm, below_drewN HBB3.out _⟩
                        · have e2 : decide ((b.next.length : Int) ≤ m.dst) = false := decide_eq_false c2
                          by_cases c3 : e = 0
                          · have e3 : decide ((0 : Int) < (e : Int)) = false := decide_eq_false (by omega)
                            have e3n : ¬ 0 < e := by omega
                            have C3 := hid c3
                            clear c3
                            go_wp2_with fail
                            go_quiet (fail)
                            go_wp2_with fail
                            go_roundw
                            case rel => exact ⟨e + 1, by omega, by go_num, HSO3.out.succ (by unfold movesAt; rw [HM.out]; simp [C3.out]; omega), by first | exact HD4.out | exact below_drewN HD4.out _⟩
                            case measure => simp [intOf]; omega
                          · have e3 : decide ((0 : Int) < (e : Int)) = true := decide_eq_true (by omega)
                            have e3n : 0 < e := by omega
                            obtain ⟨e', he'⟩ : ∃ e', e = e' + 1 := ⟨e - 1, by omega⟩
                            obtain ⟨g4, o4, y, hA, _, _, HY, hy0, hy1⟩ := HLR3.out.get (show e' < l.length by omega)
                            injection hA with hA
                            injection hA with hg ho
                            subst hg ho
                            have hw1 : IntKind.i64.wrap ((e : Int) - 1) = (e' : Int) := by rw [IntWalk.i64_in _ (by omega)]; omega
                            have hk2 : (e' : Int) < l.length := by omega
                            have C3 := hid c3
                            have HE' := hid he'
                            clear c3 he'
                            have HSK : Hid (∀ W' : World, Below wr.heap.size wr W' → W'.cell? ⟨w.heap.size, 2, none⟩ = some (.slice (some ⟨g, o, none⟩) b.next.length cn) ∧ W'.cell? ⟨g3, o3 + e * 2, none⟩ = some (.int .i64 m.dst) ∧ W'.cell? ⟨g3, o3 + e * 2 + 1, none⟩ = some (.bool m.good) ∧ W'.cell? ⟨g3, o3 + e' * 2, none⟩ = some (.int .i64 y.dst) ∧ W'.cell? ⟨g3, o3 + e' * 2 + 1, none⟩ = some (.bool y.good)) := hid fun W' hb => by
                              have k0 := hb.cell (p := ⟨w.heap.size, 2, none⟩) xl
                              have k1 := hb.cell (p := ⟨g3, o3 + e * 2, none⟩) hgl3
                              have k2 := hb.cell (p := ⟨g3, o3 + e * 2 + 1, none⟩) hgl3
                              have k3 := hb.cell (p := ⟨g3, o3 + e' * 2, none⟩) hgl3
                              have k4 := hb.cell (p := ⟨g3, o3 + e' * 2 + 1, none⟩) hgl3
                              exact ⟨k0.trans x2, k1.trans hm0, k2.trans hm1, k3.trans hy0, k4.trans hy1⟩
                            have HI1 := hid (show Below wr.heap.size wr wr.drew from (Below.refl _ _).drew)
                            have HI2 := hid (show ∀ i, Below wr.heap.size wr (wr.drewN i) from fun i => (Drawn.n wr i).below _)
                            obtain ⟨bb, hbb⟩ : ∃ bb, bb = beforeB y m := ⟨_, rfl⟩
                            have HBF : Hid (∀ W' : World, Below wr.heap.size wr W' → Calls Try.prog 49 #[.agg #[.int .i64 y.dst, .bool y.good], .agg #[.int .i64 m.dst, .bool m.good]] W' fun e W'' => e = .returned (.bool bb) ∧ Below wr.heap.size wr W'') := hid fun W' hb =>
                              (before_any y m W').mono fun e W'' ⟨h1, h2⟩ => ⟨by rw [hbb]; exact h1, hb.trans (h2.mono hb.size)⟩
                            have HBb := hid hbb
                            clear hbb
                            go_wp2_with fail
                            go_region_held3 (fun W' => W'.cell? ⟨w.heap.size, 2, none⟩ = some (.slice (some ⟨g, o, none⟩) b.next.length cn) ∧ W'.cell? ⟨g3, o3 + e * 2, none⟩ = some (.int .i64 m.dst) ∧ W'.cell? ⟨g3, o3 + e * 2 + 1, none⟩ = some (.bool m.good) ∧ W'.cell? ⟨g3, o3 + e' * 2, none⟩ = some (.int .i64 y.dst) ∧ W'.cell? ⟨g3, o3 + e' * 2 + 1, none⟩ = some (.bool y.good))
                              (first
                                | (with_reducible exact HSK.out _ hI)
                                | (go_keep; done))
                              ((go_at_call 49; with_reducible refine (HBF.out _ (by first | exact hI | exact HI1.out | exact HI2.out _)).mono ?_; rintro e9 W6 ⟨rfl, hI⟩))
                            all_goals
                              have HI := hid hI
                              clear hI HSK HI1 HI2 HBF
                              cases bb
                              · go_wp2_with fail
                                go_ret
                                exact ⟨ret_bool (HBAD3.out (by unfold movesAt; rw [show e - 1 = e' by have := HE'.out; omega, HM.out, HY.out, ← HBb.out]; simp [C3.out])).symm, HBB3.out.trans (HI.out.mono HBB3.out.size)⟩
                              · go_wp2_with fail
                                go_roundw
                                case rel => exact ⟨e + 1, by omega, by go_num, HSO3.out.succ (by unfold movesAt; rw [show e - 1 = e' by have := HE'.out; omega, HM.out, HY.out, ← HBb.out]; simp; omega), HD4.out.trans (HI.out.mono HD4.out.size)⟩
                                case measure => simp [intOf]; omega
                    · go_wp2_with fail
                      go_roundw
                      case rel => exact ⟨a + 1, by omega, by go_num, HSO2.out.succ (by rw [HL.out]; exact HSO3.out.all (by omega)), HD3.out⟩
                      case measure => simp [intOf]; omega
                · have hlad : decide ((a : Int) < b.letters) = false := decide_eq_false hla
                  go_wp2_with fail
                  go_roundw
                  case rel => exact ⟨k + 1, by omega, by go_num, HSO.out.succ (by rw [HX.out]; unfold rowOkB; rw [HSO2.out.all (by have := C5.out; omega)]; simp [C5.out]), HD.out⟩
                  case measure => simp [intOf]; omega
            · have e5 : ((row.length : Int) != b.letters) = true := by simp [c5]
              have C5 := hid c5
              clear c5
              go_wp2_with fail
              go_quiet (fail)
              go_wp2_with fail
              go_ret
              exact ⟨ret_bool (HBAD.out (by unfold rowOkB; simp [C5.out])).symm, below_drewN HBB.out _⟩
          · go_wp2_with fail
            go_ret
            exact ⟨ret_bool (by unfold buchiB; rw [HST.out, HSO.out.all (by omega)]; simp [z1, z2, z3]), HBB.out⟩
  · have HSZ := hid hsz
    clear hsz
    go_enter Try.func28, Try.ntmps28
    go_wp2_with fail
    all_goals first
      | (exfalso; have := HSZ.out; omega)
      | (go_ret; refine ⟨ret_bool ?_, by go_grown⟩; symm; unfold buchiB; have := HSZ.out; simp only [Bool.and_eq_false_iff, decide_eq_false_iff_not]; omega)
end Go.Proofs.Ythhknonaebnooaa
