/-
  Walks: compare of moves, a state's bounds.
  Walk of the program: Valid of automata.
-/
import Derived.Test.YthhknonaebnooaaZ01
set_option linter.unusedVariables false
set_option linter.unusedSimpArgs false
namespace Go.Proofs.Ythhknonaebnooaa
open Go.RowKit
attribute [local go_sem] cell_alloc_old

theorem isnan_any (x : Int) (w : World) : Calls Try.prog 101 #[.int .i64 x] w fun e w' => e = .returned (.bool false) ∧ w' = w := by
  have hne : (x != x) = false := by simp
  go_enter Try.func101, Try.ntmps101
  go_wp2_with fail
  go_ret
  exact ⟨rfl, rfl⟩
def cmpI (x y : Int) : Int := if x < y then -1 else if y < x then 1 else 0
theorem cmpi_any (x y : Int) (w : World) : Calls Try.prog 93 #[.int .i64 x, .int .i64 y] w fun e w' => e = .returned (.int .i64 (cmpI x y)) ∧ w' = w := by
  by_cases h1 : x < y
  · have d1 : decide (x < y) = true := decide_eq_true h1
    go_enter Try.func93, Try.ntmps93
    go_wp2_with (first | (go_at_call 101; refine (isnan_any _ _).mono ?_; rintro e w' ⟨rfl, rfl⟩))
    go_ret
    exact ⟨ret_int (by unfold cmpI; rw [if_pos h1]), rfl⟩
  · have d1 : decide (x < y) = false := decide_eq_false h1
    by_cases h2 : y < x
    · have d2 : decide (y < x) = true := decide_eq_true h2
      go_enter Try.func93, Try.ntmps93
      go_wp2_with (first | (go_at_call 101; refine (isnan_any _ _).mono ?_; rintro e w' ⟨rfl, rfl⟩))
      go_ret
      exact ⟨ret_int (by unfold cmpI; rw [if_neg (by omega), if_pos (by omega)]), rfl⟩
    · have d2 : decide (y < x) = false := decide_eq_false h2
      go_enter Try.func93, Try.ntmps93
      go_wp2_with (first | (go_at_call 101; refine (isnan_any _ _).mono ?_; rintro e w' ⟨rfl, rfl⟩))
      go_ret
      exact ⟨ret_int (by unfold cmpI; rw [if_neg (by omega), if_neg (by omega)]), rfl⟩
def cmpM (a b : Mv) : Int := if cmpI a.dst b.dst ≠ 0 ∨ a.good = b.good then cmpI a.dst b.dst else if b.good then -1 else 1
theorem cmpM_before (a b : Mv) : decide (0 ≤ cmpM a b) = !beforeB a b := by
  unfold cmpM beforeB cmpI
  obtain ⟨x, g⟩ := a
  obtain ⟨y, h⟩ := b
  rcases Int.lt_trichotomy x y with k | k | k
  · simp [k]
  · subst k
    cases g <;> cases h <;> simp
  · have k1 : ¬ x < y := by omega
    have k2 : ¬ x = y := by omega
    simp [k, k1, k2]
set_option maxHeartbeats 1000000 in
theorem compare_any (a b : Mv) (w : World) : Calls Try.prog 71 #[.agg #[.int .i64 a.dst, .bool a.good], .agg #[.int .i64 b.dst, .bool b.good]] w fun e w' => e = .returned (.int .i64 (cmpM a b)) ∧ Below w.heap.size w w' := by
  obtain ⟨x, g⟩ := a
  obtain ⟨y, h⟩ := b
  by_cases hc : cmpI x y = 0
  · have hcb : (cmpI x y != 0) = false := by simp [hc]
    cases g <;> cases h <;>
    · go_enter Try.func71, Try.ntmps71
      go_wp2_with (first | (go_at_call 93; refine (cmpi_any _ _ _).mono ?_; rintro e w' ⟨rfl, rfl⟩))
      go_ret
      exact ⟨ret_int (by unfold cmpM; simp [hc]), by go_grown⟩
  · have hcb : (cmpI x y != 0) = true := by simp [hc]
    have HC := hid hc
    clear hc
    go_enter Try.func71, Try.ntmps71
    go_wp2_with (first | (go_at_call 93; refine (cmpi_any _ _ _).mono ?_; rintro e w' ⟨rfl, rfl⟩))
    go_ret
    exact ⟨ret_int (by unfold cmpM; rw [if_pos (.inl HC.out)]), by go_grown⟩
/-- The closure that asks whether a number is a state; the automaton lies in block k. -/
theorem state_any (x : Int) (k : Nat) (As An : Option Addr) (cs cn : Nat) (b : Bu) (w : World) (h : HasB w k #[.int .i64 b.letters, .slice As b.start.length cs, .slice An b.next.length cn] b) :
    Calls Try.prog 70 #[.int .i64 x, .pointer (some ⟨k, 0, none⟩)] w fun e w' => e = .returned (.bool (decide (0 ≤ x) && decide (x < b.next.length))) ∧ w' = w := by
  obtain ⟨x0, x1, x2, xl⟩ := h.cells
  by_cases h1 : 0 ≤ x
  · have d1 : decide (0 ≤ x) = true := decide_eq_true h1
    go_enter Try.func70, Try.ntmps70
    go_wp2_with fail
    go_ret
    exact ⟨ret_bool (by simp [h1]), rfl⟩
  · have d1 : decide (0 ≤ x) = false := decide_eq_false h1
    go_enter Try.func70, Try.ntmps70
    go_wp2_with fail
    go_ret
    exact ⟨ret_bool (by simp [h1]), rfl⟩
end Go.Proofs.Ythhknonaebnooaa
set_option linter.unusedVariables false
set_option linter.unusedSimpArgs false
namespace Go.Proofs.Ythhknonaebnooaa
open Go.RowKit
attribute [local go_sem] cell_alloc_old

set_option maxRecDepth 100000 in
set_option maxHeartbeats 8000000 in
theorem bvalid_any {D : Dom} (v : Value) (b : Bu) (w : World) (h : RdBu w D v b) :
    Calls Try.prog 45 #[v] w fun e w' => e = .returned (.bool (buchiB b)) ∧ Below w.heap.size w w' := by
  have HV := hid h.old
  obtain ⟨As, cs, An, cn, rfl, hs, hn⟩ := h
  have hsl := hs.len.1
  have hnl := hn.len.1
  have hmf : ∀ (fn : Fn) (first cap : Array Value) (w : World), (Instr.makeFunc fn first cap).run Try.prog w = .ok (.func fn first cap) w := fun _ _ _ _ => rfl
  clear hs hn
  by_cases hsz : 1 ≤ b.letters ∧ b.letters ≤ 64 ∧ b.next.length ≤ 3000
  · obtain ⟨z1, z2, z3⟩ := hsz
    have d1 : decide (b.letters < 1) = false := decide_eq_false (by omega)
    have d2 : decide ((64 : Int) < b.letters) = false := decide_eq_false (by omega)
    have d3 : decide ((3000 : Int) < (b.next.length : Int)) = false := decide_eq_false (by omega)
    go_enter Try.func45, Try.ntmps45
    go_upto_region 1 with (fail)
    refine wp_gen fun W hW => ?_
    have hB : HasB W w.heap.size #[.int .i64 b.letters, .slice As b.start.length cs, .slice An b.next.length cn] b := by rw [hW]; exact HasB.new HV.out
    have HB := hid hB
    have HBW := hid (show Below w.heap.size w W by rw [hW]; go_grown)
    obtain ⟨x0, x1, x2, xl⟩ := hB.cells
    have HST := hid hB.parts.1
    clear hW hB
    go_wp2_with fail
    go_loop [30] (fun t => ∃ k : Nat, k ≤ b.start.length ∧ t = .int .i64 k ∧ SoFar k (incAt b.next.length b.start)) (fun t => b.start.length - (intOf t).toNat)
    case atStart => exact ⟨0, Nat.zero_le _, rfl, SoFar.zero _⟩
    case round =>
      obtain ⟨k, hk, rfl, hso⟩ := hrel
      have HSO := hid hso
      clear hso
      by_cases hlt : k < b.start.length
      · obtain ⟨g, o, x, rfl, _, hgl, HX, hc⟩ := HST.out.get hlt
        have hki : (k : Int) < b.start.length := by omega
        have hbad : incAt b.next.length b.start k = false → buchiB b = false := fun h => by unfold buchiB incB; rw [allN_false hlt h]; simp
        have HBAD := hid hbad
        clear hbad
        by_cases c1 : (decide (0 ≤ x) && decide (x < b.next.length)) = true
        · have C1 := hid c1
          have HST1 := hid (state_any x w.heap.size (some ⟨g, o, none⟩) An cs cn b W HB.out)
          have hst1 : Calls Try.prog 70 #[.int .i64 x, .pointer (some ⟨w.heap.size, 0, none⟩)] W fun e w' => e = .returned (.bool true) ∧ w' = W := by
            have := HST1.out
            rw [C1.out] at this
            exact this
          have HS1 := hid hst1
          clear c1 hst1 HST1
          by_cases c3 : k = 0
          · have e3 : decide ((0 : Int) < (k : Int)) = false := decide_eq_false (by omega)
            have e3n : ¬ 0 < k := by omega
            have C3 := hid c3
            clear c3
            go_wp2_with (first | (go_at_call 70; refine HS1.out.mono ?_; rintro e w' ⟨rfl, rfl⟩))
            go_round
            case rel => exact ⟨k + 1, by omega, by go_num, HSO.out.succ (by unfold incAt; rw [HX.out, C1.out]; simp [C3.out])⟩
            case measure => simp [intOf]; omega
          · have e3 : decide ((0 : Int) < (k : Int)) = true := decide_eq_true (by omega)
            have e3n : 0 < k := by omega
            obtain ⟨k', hk'⟩ : ∃ k', k = k' + 1 := ⟨k - 1, by omega⟩
            obtain ⟨g', o', y, hA, _, _, HY, hc'⟩ := HST.out.get (show k' < b.start.length by omega)
            injection hA with hA
            injection hA with hg ho
            subst hg ho
            have hw1 : IntKind.i64.wrap ((k : Int) - 1) = (k' : Int) := by rw [IntWalk.i64_in _ (by omega)]; omega
            have hw2 : (k : Int) - 1 = (k' : Int) := by omega
            have hk2 : (k' : Int) < b.start.length := by omega
            have C3 := hid c3
            have HK' := hid hk'
            clear c3 hk'
            by_cases c4 : x ≤ y
            · have e4 : decide (x ≤ y) = true := decide_eq_true c4
              go_wp2_with (first | (go_at_call 70; refine HS1.out.mono ?_; rintro e w' ⟨rfl, rfl⟩))
              go_ret
              exact ⟨ret_bool (HBAD.out (by unfold incAt; rw [show k - 1 = k' by have := HK'.out; omega, HX.out, HY.out]; simp [C3.out]; omega)).symm, HBW.out⟩
            · have e4 : decide (x ≤ y) = false := decide_eq_false c4
              go_wp2_with (first | (go_at_call 70; refine HS1.out.mono ?_; rintro e w' ⟨rfl, rfl⟩))
              go_round
              case rel => exact ⟨k + 1, by omega, by go_num, HSO.out.succ (by unfold incAt; rw [show k - 1 = k' by have := HK'.out; omega, HX.out, HY.out, C1.out]; simp [C3.out]; omega)⟩
              case measure => simp [intOf]; omega
        · have C1 := hid (Bool.eq_false_iff.2 c1)
          have hst1 : Calls Try.prog 70 #[.int .i64 x, .pointer (some ⟨w.heap.size, 0, none⟩)] W fun e w' => e = .returned (.bool false) ∧ w' = W := by
            have := state_any x w.heap.size (some ⟨g, o, none⟩) An cs cn b W HB.out
            rw [C1.out] at this
            exact this
          have HS1 := hid hst1
          clear c1 hst1
          go_wp2_with (first | (go_at_call 70; refine HS1.out.mono ?_; rintro e w' ⟨rfl, rfl⟩))
          go_ret
          exact ⟨ret_bool (HBAD.out (by unfold incAt; rw [HX.out, C1.out]; rfl)).symm, HBW.out⟩
      · have hst : incB b.next.length b.start = true := HSO.out.all (by omega)
        have HSTT := hid hst
        clear hst HSO
        go_wp2_with fail
        go_loopw [57] (fun t wr => ∃ k : Nat, k ≤ b.next.length ∧ t = .int .i64 k ∧ SoFar k (fun s => rowOkB b.next.length b.letters (b.next.getD s [])) ∧ Below W.heap.size W wr) (fun t _ => b.next.length - (intOf t).toNat)
        case atStart => exact ⟨0, Nat.zero_le _, rfl, SoFar.zero _, Below.refl _ _⟩
        case round =>
          obtain ⟨k, hk, rfl, hso, hbd⟩ := hrel
          have HBR := hid (HB.out.below hbd)
          have HBB := hid (HBW.out.trans (hbd.mono HBW.out.size))
          have HSO := hid hso
          have HD := hid hbd
          obtain ⟨x0, x1, x2, xl⟩ := HBR.out.cells
          clear hso hbd
          by_cases hlt : k < b.next.length
          · obtain ⟨g, o, A1, c1, row, hAn, _, hgl, HX, hr, hc⟩ := HBR.out.parts.2.get hlt
            subst hAn
            have hrl := hr.len.1
            have hki : (k : Int) < b.next.length := by omega
            have hbad : rowOkB b.next.length b.letters row = false → buchiB b = false := fun h => by unfold buchiB; rw [allN_false hlt (by rw [HX.out]; exact h)]; simp
            have HBAD := hid hbad
            have HROW := hid hr
            clear hbad hr
            by_cases c5 : (row.length : Int) = b.letters
            · have e5 : ((row.length : Int) != b.letters) = false := by simp [c5]
              have C5 := hid c5
              have hrl5 : row.length ≤ 64 := by omega
              obtain ⟨W2, hW2⟩ : ∃ W2, W2 = wr := ⟨_, rfl⟩
              rw [← hW2] at HBR HBB HD HROW x0 x1 x2 xl hc hgl ⊢
              clear c5 hW2
              go_wp2_with fail
              go_loopw [68] (fun t wr => ∃ a : Nat, a ≤ row.length ∧ t = .int .i64 a ∧ SoFar a (fun a => movesB b.next.length (row.getD a [])) ∧ Below W2.heap.size W2 wr) (fun t _ => row.length - (intOf t).toNat)
              case atStart => exact ⟨0, by omega, rfl, SoFar.zero _, Below.refl _ _⟩
              case round =>
                obtain ⟨a, hal, rfl, hso2, hbd⟩ := hrel
                have HB3 := hid (HBR.out.below hbd)
                have HBB3 := hid (HBB.out.trans (hbd.mono HBB.out.size))
                have HSO2 := hid hso2
                have HD3 := hid (HD.out.trans (hbd.mono HD.out.size))
                have HD2 := hid hbd
                have HROW3 := hid (keepVV HROW.out (Keeps.of_below hbd (fun _ h => h)))
                obtain ⟨x0, x1, x2, xl⟩ := HB3.out.cells
                clear hso2
                by_cases hla : a < row.length
                · obtain ⟨g2, o2, A2, c2, l, hA2, hgl2, _, HL, hl2, hcl⟩ := RdOf.get HROW3.out hla
                  subst hA2
                  have hll := hl2.len.1
                  have hai : (a : Int) < row.length := by omega
                  have hbad2 : movesB b.next.length l = false → buchiB b = false := fun h => HBAD.out (by unfold rowOkB; rw [allN_false (j := a) (by omega) (by rw [HL.out]; exact h)]; simp)
                  have HBAD2 := hid hbad2
                  have HLR := hid (hl2.mono fun b hb _ => Nat.lt_of_lt_of_le hb hbd.size : RdV wr (· < wr.heap.size) A2 c2 l)
                  obtain ⟨W3, hW3⟩ : ∃ W3, W3 = wr := ⟨_, rfl⟩
                  rw [← hW3] at HB3 HBB3 HD3 HD2 HLR x0 x1 x2 xl hcl ⊢
                  clear hW3 hl2 hbad2 hbd
                  go_wp2_with fail
                  go_loopw [74] (fun t wr => ∃ e : Nat, e ≤ l.length ∧ t = .int .i64 e ∧ SoFar e (movesAt b.next.length l) ∧ Below W3.heap.size W3 wr) (fun t _ => l.length - (intOf t).toNat)
                  case atStart => exact ⟨0, Nat.zero_le _, rfl, SoFar.zero _, Below.refl _ _⟩
                  case round =>
                    obtain ⟨e, hel, rfl, hso3, hbd⟩ := hrel
                    have HB4 := hid (HB3.out.below hbd)
                    have HBB4 := hid (HBB3.out.trans (hbd.mono HBB3.out.size))
                    have HSO3 := hid hso3
                    have HD4 := hid (HD2.out.trans (hbd.mono HD2.out.size))
                    have HD5 := hid hbd
                    have HLR3 := hid (HLR.out.keep (Keeps.of_below hbd (fun _ h => h)))
                    have hw3 := hbd.size
                    clear hso3 hbd
                    by_cases hle : e < l.length
                    · obtain ⟨g3, o3, m, rfl, hg3, hgl3, HM, hm0, hm1⟩ := HLR3.out.get hle
                      have hei : (e : Int) < l.length := by omega
                      have hbad3 : movesAt b.next.length l e = false → buchiB b = false := fun h => HBAD2.out (allN_false hle h)
                      have HBAD3 := hid hbad3
                      clear hbad3
                      go_upto_region 21 with (fail)
                      refine wp_gen fun W5 hW5 => ?_
                      have hb5 : Below wr.heap.size wr W5 := by rw [hW5]; go_grown
                      have hm5 : W5.heap[wr.heap.size]? = some (.cells #[.int .i64 m.dst, .bool m.good] 54 (0, 0)) := by rw [hW5]; exact heap_alloc_new wr _
                      have HB5 := hid (HB4.out.below hb5)
                      have HBB5 := hid (HBB4.out.trans (hb5.mono HBB4.out.size))
                      have HD6 := hid (HD5.out.trans (hb5.mono HD5.out.size))
                      have HH5 := hid hb5
                      have HM5 := hid hm5
                      have y0 := block_cell hm5 (i := 0) rfl
                      have y1 := block_cell hm5 (i := 1) rfl
                      have hl5 := lt_of_block hm5
                      clear hW5 hb5 hm5 hm0 hm1
                      by_cases c1 : (decide (0 ≤ m.dst) && decide (m.dst < b.next.length)) = true
                      · have C1 := hid c1
                        have HCL : Hid (∀ W' : World, Below W5.heap.size W5 W' → Calls Try.prog 70 #[.int .i64 m.dst, .pointer (some ⟨w.heap.size, 0, none⟩)] W' fun e W'' => e = .returned (.bool true) ∧ W'' = W') := hid fun W' hb => by
                          have := state_any m.dst w.heap.size As _ cs cn b W' (HB5.out.below hb)
                          rw [C1.out] at this
                          exact this
                        clear c1
                        by_cases c3 : e = 0
                        · have e3 : decide ((0 : Int) < (e : Int)) = false := decide_eq_false (by omega)
                          have e3n : ¬ 0 < e := by omega
                          have C3 := hid c3
                          have HQ : Hid (∀ n, Calls Try.prog 70 #[.int .i64 m.dst, .pointer (some ⟨w.heap.size, 0, none⟩)] (W5.drewN n) fun e W'' => e = .returned (.bool true) ∧ W'' = W5.drewN n) := hid fun n => HCL.out _ ((Drawn.n W5 n).below _)
                          clear c3
                          go_wp2_with fail
                          go_quiet ((go_at_call 70; exact Calls.quiet_of_same (HQ.out _)))
                          go_wp2_with fail
                          go_roundw
                          case rel => exact ⟨e + 1, by omega, by go_num, HSO3.out.succ (by unfold movesAt; rw [HM.out, C1.out]; simp [C3.out]), by first | exact HD6.out | exact below_drewN HD6.out _⟩
                          case measure => simp [intOf]; omega
                        · have e3 : decide ((0 : Int) < (e : Int)) = true := decide_eq_true (by omega)
                          have e3n : 0 < e := by omega
                          obtain ⟨e', he'⟩ : ∃ e', e = e' + 1 := ⟨e - 1, by omega⟩
                          obtain ⟨g4, o4, y, hA, _, _, HY, hy0, hy1⟩ := HLR3.out.get (show e' < l.length by omega)
                          injection hA with hA
                          injection hA with hg ho
                          subst hg ho
                          have hy0 := (HH5.out.cell (p := ⟨g3, o3 + e' * 2, none⟩) hgl3).trans hy0
                          have hy1 := (HH5.out.cell (p := ⟨g3, o3 + e' * 2 + 1, none⟩) hgl3).trans hy1
                          have hg5 : g3 < W5.heap.size := by omega
                          have hw1 : IntKind.i64.wrap ((e : Int) - 1) = (e' : Int) := by rw [IntWalk.i64_in _ (by omega)]; omega
                          have hk2 : (e' : Int) < l.length := by omega
                          have C3 := hid c3
                          have HE' := hid he'
                          clear c3 he'
                          have HSK : Hid (∀ W' : World, Below W5.heap.size W5 W' → W'.cell? ⟨wr.heap.size, 0, none⟩ = some (.int .i64 m.dst) ∧ W'.cell? ⟨wr.heap.size, 1, none⟩ = some (.bool m.good) ∧ W'.cell? ⟨g3, o3 + e' * 2, none⟩ = some (.int .i64 y.dst) ∧ W'.cell? ⟨g3, o3 + e' * 2 + 1, none⟩ = some (.bool y.good)) := hid fun W' hb => by
                            have k1 := hb.cell (p := ⟨wr.heap.size, 0, none⟩) hl5
                            have k2 := hb.cell (p := ⟨wr.heap.size, 1, none⟩) hl5
                            have k3 := hb.cell (p := ⟨g3, o3 + e' * 2, none⟩) hg5
                            have k4 := hb.cell (p := ⟨g3, o3 + e' * 2 + 1, none⟩) hg5
                            exact ⟨k1.trans y0, k2.trans y1, k3.trans hy0, k4.trans hy1⟩
                          have HI1 := hid (show Below W5.heap.size W5 W5.drew from (Below.refl _ _).drew)
                          have HI2 := hid (show ∀ i, Below W5.heap.size W5 (W5.drewN i) from fun i => (Drawn.n W5 i).below _)
                          obtain ⟨z, hz⟩ : ∃ z, z = cmpM y m := ⟨_, rfl⟩
                          have HCM : Hid (∀ W' : World, Below W5.heap.size W5 W' → Calls Try.prog 71 #[.agg #[.int .i64 y.dst, .bool y.good], .agg #[.int .i64 m.dst, .bool m.good]] W' fun e W'' => e = .returned (.int .i64 z) ∧ Below W5.heap.size W5 W'') := hid fun W' hb =>
                            (compare_any y m W').mono fun e W'' ⟨h1, h2⟩ => ⟨by rw [hz]; exact h1, hb.trans (h2.mono hb.size)⟩
                          have hzb : decide (0 ≤ z) = !beforeB y m := by rw [hz]; exact cmpM_before y m
                          have HZB := hid hzb
                          have HC1 : Hid (∀ W' : World, Below W5.heap.size W5 W' → Calls Try.prog 70 #[.int .i64 m.dst, .pointer (some ⟨w.heap.size, 0, none⟩)] W' fun e W'' => e = .returned (.bool true) ∧ Below W5.heap.size W5 W'') := hid fun W' hb => (HCL.out W' hb).mono fun e W'' ⟨h1, h2⟩ => ⟨h1, by rw [h2]; exact hb⟩
                          clear hz hzb
                          go_wp2_with fail
                          go_region_held3 (fun W' => W'.cell? ⟨wr.heap.size, 0, none⟩ = some (.int .i64 m.dst) ∧ W'.cell? ⟨wr.heap.size, 1, none⟩ = some (.bool m.good) ∧ W'.cell? ⟨g3, o3 + e' * 2, none⟩ = some (.int .i64 y.dst) ∧ W'.cell? ⟨g3, o3 + e' * 2 + 1, none⟩ = some (.bool y.good))
                            (first
                              | (with_reducible exact HSK.out _ hI)
                              | (go_keep; done))
                            (first
                              | (go_at_call 70; with_reducible refine (HC1.out _ (by first | exact hI | exact HI1.out | exact HI2.out _)).mono ?_; rintro e9 W6 ⟨rfl, hI⟩)
                              | (go_at_call 71; with_reducible refine (HCM.out _ (by first | exact hI | exact HI1.out | exact HI2.out _)).mono ?_; rintro e9 W7 ⟨rfl, hI⟩))
                          all_goals
                            have HI := hid hI
                            clear hI HSK HI1 HI2 HCM HC1 HCL
                            cases hzz : decide (0 ≤ z)
                            · have HZZ := hid hzz
                              go_wp2_with fail
                              go_roundw
                              case rel => exact ⟨e + 1, by omega, by go_num, HSO3.out.succ (by
                                have hq := HZB.out
                                rw [HZZ.out] at hq
                                unfold movesAt
                                rw [show e - 1 = e' by have := HE'.out; omega, HM.out, HY.out, C1.out]
                                cases hbf : beforeB y m
                                · rw [hbf] at hq; cases hq
                                · simp), HD6.out.trans (HI.out.mono HD6.out.size)⟩
                              case measure => simp [intOf]; omega
                            · have HZZ := hid hzz
                              go_wp2_with fail
                              go_ret
                              exact ⟨ret_bool (HBAD3.out (by
                                have hq := HZB.out
                                rw [HZZ.out] at hq
                                unfold movesAt
                                rw [show e - 1 = e' by have := HE'.out; omega, HM.out, HY.out, C1.out]
                                cases hbf : beforeB y m
                                · simp [C3.out]
                                · rw [hbf] at hq; cases hq)).symm, HBB5.out.trans (HI.out.mono HBB5.out.size)⟩
                      · have C1 := hid (Bool.eq_false_iff.2 c1)
                        have HQ : Hid (∀ n, Calls Try.prog 70 #[.int .i64 m.dst, .pointer (some ⟨w.heap.size, 0, none⟩)] (W5.drewN n) fun e W'' => e = .returned (.bool false) ∧ W'' = W5.drewN n) := hid fun n => by
                          have := state_any m.dst w.heap.size As _ cs cn b (W5.drewN n) (HB5.out.below ((Drawn.n W5 n).below _))
                          rw [C1.out] at this
                          exact this
                        clear c1
                        go_wp2_with fail
                        go_quiet ((go_at_call 70; exact Calls.quiet_of_same (HQ.out _)))
                        go_wp2_with fail
                        go_ret
                        exact ⟨ret_bool (HBAD3.out (by unfold movesAt; rw [HM.out, C1.out]; rfl)).symm, below_drewN HBB5.out _⟩
                    · go_wp2_with fail
                      go_roundw
                      case rel => exact ⟨a + 1, by omega, by go_num, HSO2.out.succ (by rw [HL.out]; exact HSO3.out.all (by omega)), HD4.out⟩
                      case measure => simp [intOf]; omega
                · go_wp2_with fail
                  go_roundw
                  case rel => exact ⟨k + 1, by omega, by go_num, HSO.out.succ (by rw [HX.out]; unfold rowOkB; rw [HSO2.out.all (by have := C5.out; omega)]; simp [C5.out]), HD3.out⟩
                  case measure => simp [intOf]; omega
            · have e5 : ((row.length : Int) != b.letters) = true := by simp [c5]
              have C5 := hid c5
              clear c5
              go_wp2_with fail
              go_ret
              exact ⟨ret_bool (HBAD.out (by unfold rowOkB; simp [C5.out])).symm, HBB.out⟩
          · go_wp2_with fail
            go_ret
            exact ⟨ret_bool (by unfold buchiB; rw [HSTT.out, HSO.out.all (by omega)]; simp [z1, z2, z3]), HBB.out⟩
  · have HSZ := hid hsz
    clear hsz
    go_enter Try.func45, Try.ntmps45
    go_wp2_with fail
    all_goals first
      | (exfalso; have := HSZ.out; omega)
      | (go_ret; refine ⟨ret_bool ?_, by go_grown⟩; symm; unfold buchiB; have := HSZ.out; simp only [Bool.and_eq_false_iff, decide_eq_false_iff_not]; omega)
end Go.Proofs.Ythhknonaebnooaa
