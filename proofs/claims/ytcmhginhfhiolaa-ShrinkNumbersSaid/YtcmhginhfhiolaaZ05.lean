/-
  Walk of the reference's Reached.
-/
import Derived.Test.YtcmhginhfhiolaaZ04
set_option linter.unusedVariables false
set_option linter.unusedSimpArgs false
namespace Go.Proofs.Ytcmhginhfhiolaa
open Go.RowKit Go.Shelf
attribute [local go_sem] cell_alloc_old

theorem cares_shape {m : Mly} {care : List (List Bool)} (h : caresB m care = true) : care.length = m.out.length ∧ ∀ q, q < care.length → ((care.getD q []).length : Int) = m.ins := by
  unfold caresB at h
  rw [Bool.and_eq_true, decide_eq_true_eq] at h
  exact ⟨h.1, fun q hq => by simpa using allN_true.1 h.2 q hq⟩

set_option maxRecDepth 100000 in
set_option maxHeartbeats 8000000 in
theorem reached_any {D E : Dom} (v : Value) (m : Mly) (A : Option Addr) (ca : Nat) (care : List (List Bool)) (w : World) (h : RdM w D v m) (hc : RdBB w E A ca care) (hS : Sized m) (hcs : caresB m care = true) :
    Calls Try.prog 29 #[v, .slice A care.length ca] w fun e w' => ∃ A' c', e = .returned (.slice A' (ordZ (careM m care)).length c') ∧ Below w.heap.size w w' ∧ RdI w' (fun b => w.heap.size ≤ b) A' c' (ordZ (careM m care)) := by
  obtain ⟨i0, hti, hz0, hz1, hz2⟩ := info_parts int_info
  have HC := hid hc.old
  have hcl := hc.len.1
  have HS := hid hS
  obtain ⟨M, hM⟩ : ∃ M, M = careM m care := ⟨_, rfl⟩
  have HM := hid hM
  have hok : M.Ok := by rw [hM]; exact care_ok hS care
  have HOK := hid hok
  have hcsh := cares_shape hcs
  have HCS := hid hcsh
  have hsize : M.size = m.out.length := by rw [hM]; rfl
  have hinsM : M.ins = m.ins.toNat := by rw [hM]; rfl
  have hstM : m.start = (M.start : Int) := by rw [hM]; have := hS.s0; show m.start = (m.start.toNat : Int); omega
  have HSZ := hid hsize
  have HIN := hid hinsM
  have HST := hid hstM
  have hn2 := hS.n2
  have hi1 := hS.i1
  have hi2 := hS.i2
  have hnn := hS.nn
  have HNN := hid hnn
  rw [← hM]
  obtain ⟨Ao, co, An, cn, rfl, ho, hn⟩ := h
  have HN := hid hn.old
  have hln := hn.len.1
  clear hc hS hM hok hcsh hsize hinsM hstM hcs ho hn hnn
  go_enter Try.func29, Try.ntmps29
  go_wp2_with fail
  refine wp_gen fun W1 hW1 => ?_
  have hb1 : Below w.heap.size w W1 := by rw [hW1]; go_grown
  have hx1 : W1.heap[w.heap.size]? = some (.cells #[.int .i64 m.ins, .int .i64 m.outs, .int .i64 m.start, .slice Ao m.out.length co, .slice An m.next.length cn] 24 (0, 0)) := by
    rw [hW1]; (repeat (first | (refine at_new _ _ _ ?_; (simp only [World.size_alloc]; done)) | (refine (at_old _ _ _ ?_).trans ?_; (simp only [World.size_alloc]; omega))))
  have hl1 : W1.ownsRow (w.heap.size + 1) 3 1 (.slice (some ⟨w.heap.size + 1, 0, none⟩) 1 1) 1 ([M.start].map fun q : Nat => Value.int .i64 q) := by
    have hnew : W1.heap[w.heap.size + 1]? = some (.cells #[.int .i64 m.start] 3 (0, 0)) := by
      rw [hW1]; (repeat (first | (refine at_new _ _ _ ?_; (simp only [World.size_alloc]; done)) | (refine (at_old _ _ _ ?_).trans ?_; (simp only [World.size_alloc]; omega))))
    exact ⟨rfl, .inr ⟨_, 1, _, rfl, Nat.le_refl _, hnew, by simp, by decide, by simp, by simp [HST.out]⟩⟩
  have HB1 := hid hb1
  have HX1 := hid hx1
  have HL1 := hid hl1
  clear hW1 hb1 hx1 hl1
  go_loopw [5, 6] (fun s t wr => ∃ (k : Nat) (l : List Nat) (A : Option Addr) (c : Nat), k ≤ l.length ∧ l = ordAt M k ∧ t = .int .i64 (k : Int) ∧ s = .slice A l.length c ∧ wr.ownsRow (w.heap.size + 1) 3 1 (.slice A l.length c) l.length (l.map fun q : Nat => Value.int .i64 q) ∧
    Below (w.heap.size + 1) W1 wr) (fun _ t _ => m.out.length + 1 - (intOf t).toNat)
  case atStart => exact ⟨0, [M.start], _, _, by simp, rfl, rfl, rfl, HL1.out, Below.refl _ _⟩
  case round =>
    obtain ⟨k, l, A', c, hk, hl, rfl, rfl, hown, hbr⟩ := hrel
    have HO := hid hown
    have HB := hid hbr
    have HL := hid hl
    have hlen : l.length ≤ m.out.length := by rw [hl, ← HSZ.out]; exact ordAt_len HOK.out k
    have hx := (hbr.block w.heap.size (by omega)).trans HX1.out
    have x0 := block_cell hx (i := 0) rfl
    clear hown hbr hl hx
    by_cases hlt : k < l.length
    · obtain ⟨q, hq⟩ : ∃ q, l.getD k 0 = q := ⟨_, rfl⟩
      have hqM : q < m.out.length := by rw [← hq, ← HSZ.out]; exact ordAt_lt HOK.out k _ (by rw [← HL.out]; exact getD_mem l 0 hlt)
      have HQ := hid hq
      have hk1 : k + 1 ≤ m.out.length := by omega
      clear hq
      go_wp2_with fail
      obtain ⟨wz, rfl⟩ : ∃ wz : World, wz = wr := ⟨_, rfl⟩
      obtain ⟨cz, rfl⟩ : ∃ cz : Nat, cz = c := ⟨_, rfl⟩
      obtain ⟨Az, rfl⟩ : ∃ Az, Az = A' := ⟨_, rfl⟩
      go_loopw [5, 7] (fun s t wr => ∃ (x : Nat) (lx : List Nat) (A : Option Addr) (c : Nat), x ≤ M.ins ∧ lx = rowTo M q l x ∧ t = .int .i64 (x : Int) ∧ s = .slice A lx.length c ∧ wr.ownsRow (w.heap.size + 1) 3 1 (.slice A lx.length c) lx.length (lx.map fun q : Nat => Value.int .i64 q) ∧
        Below (w.heap.size + 1) W1 wr) (fun _ t _ => M.ins - (intOf t).toNat)
      case atStart => exact ⟨0, l, _, _, Nat.zero_le _, rfl, rfl, rfl, HO.out, HB.out⟩
      case round =>
        obtain ⟨x, lx, A', c, hx, hlx, rfl, rfl, hown, hbr⟩ := hrel
        have HOX := hid hown
        have HBX := hid hbr
        have HLX := hid hlx
        have hbx := (hbr.block w.heap.size (by omega)).trans HX1.out
        have x0 := block_cell hbx (i := 0) rfl
        have x4 := block_cell hbx (i := 4) rfl
        have hpre := rowTo_pre (M := M) q l x
        rw [← hlx] at hpre
        have hlxl : l.length ≤ lx.length := hpre.length_le
        have hgx : lx.getD k 0 = q := by rw [pre_getD hpre 0 hlt]; exact HQ.out
        have hup : ∀ y, y ≤ M.ins → (rowTo M q l y).length ≤ m.out.length := fun y hy => by
          have h1 : rowTo M q l y <+: ordAt M (k + 1) := by
            rw [ordAt, ← HL.out, if_pos hlt, HQ.out]
            exact rowTo_mono q l hy
          have := h1.length_le
          have := ordAt_len HOK.out (k + 1)
          have := HSZ.out
          omega
        have hlxs : lx.length ≤ m.out.length := by rw [hlx]; exact hup x hx
        have HUP := hid hup
        have hMi := HIN.out
        have hbw := HB1.out.trans (hbr.mono (Nat.le_succ _))
        have HBW := hid hbw
        have hszr := hbw.size
        have hsz1 : w.heap.size + 1 ≤ wr.heap.size := by have := World.block_lt_of_cell? wr _ x0; exact this
        clear hown hbr hlx hbx hpre hup hbw
        by_cases hxl : x < M.ins
        · have hxi : (x : Int) < m.ins := by omega
          have hkx : k < lx.length := by omega
          have hcq : (lx.map fun q : Nat => Value.int .i64 q)[k]? = some (.int .i64 (q : Int)) := by
            rw [← hgx]; simp [List.getD, hkx]
          have hA : ∃ g, A' = some ⟨g, 0, none⟩ := by
            rcases HOX.out.2 with ⟨hv, h0⟩ | ⟨g, cap, cur, hv, _⟩
            · exact absurd h0 (by omega)
            · injection hv with hv; exact ⟨g, hv⟩
          obtain ⟨g', rfl⟩ := hA
          have hcell : wr.cell? ⟨g', k, none⟩ = some (.int .i64 (q : Int)) := (HOX.out.cellAt k (by simpa using hkx)).trans hcq
          have hkxi : (k : Int) < lx.length := by omega
          have hql : q < care.length := by rw [HCS.out.1]; exact hqM
          obtain ⟨b1, o1, A1, c1, r1, rfl, _, _, HR1, hr1, hc1⟩ := (HC.out.keep (Keeps.of_below HBW.out fun _ h => h)).get hql
          have er1 := HCS.out.2 q hql
          rw [HR1.out] at er1
          have hx1 : x < r1.length := by omega
          obtain ⟨b2, o2, cb, rfl, _, _, HCB, hc2⟩ := hr1.get hx1
          have hqi1 : (q : Int) < care.length := by omega
          have hxi1 : (x : Int) < r1.length := by omega
          have l1 := hr1.len.1
          have hqn : q < m.next.length := by rw [HNN.out]; exact hqM
          obtain ⟨b3, o3, A3, c3, r3, rfl, _, _, HR3, hr3, hc3⟩ := (HN.out.keep (Keeps.of_below HBW.out fun _ h => h)).get hqn
          have e3 := HS.out.nextr q x hqM hxi
          rw [HR3.out] at e3
          have hx3 : x < r3.length := by omega
          obtain ⟨b4, o4, z, rfl, _, _, HZ, hc4⟩ := hr3.get hx3
          rw [HZ.out] at e3
          obtain ⟨t, rfl⟩ : ∃ t : Nat, z = t := ⟨z.toNat, by omega⟩
          have hqi3 : (q : Int) < m.next.length := by omega
          have hxi3 : (x : Int) < r3.length := by omega
          have l3 := hr3.len.1
          have hmvt : M.mv q x = if cb = true then some ((m.out.getD q []).getD x 0, t) else none := by
            rw [HM.out]
            simp only [careM]
            rw [HR1.out, HCB.out, HR3.out, HZ.out, Int.toNat_natCast]
          have HMV := hid hmvt
          have HGX := hid hgx
          clear hcq hgx hr1 hr3 er1 e3 hmvt
          cases cb
          · have hrw : rowTo M q l (x + 1) = lx := by rw [rowTo, HMV.out, ← HLX.out]; rfl
            have HRW := hid hrw
            clear hrw
            go_wp2_with fail
            go_quiet (fail)
            go_wp2_with fail
            go_roundw
            case rel => exact ⟨x + 1, lx, _, c, by omega, HRW.out.symm, by go_num, rfl, HOX.out, below_drewN HBX.out _⟩
            case measure => simp [intOf]; omega
          · have hrd : RdI wr (fun _ => True) (some ⟨g', 0, none⟩) c (lx.map fun q : Nat => (q : Int)) := by
              unfold RdI
              rw [List.map_map, List.length_map]
              exact Rd.own HOX.out (by omega) (fun _ _ => trivial)
            have HIDX : Hid (∀ n, Calls Try.prog 34 #[.slice (some ⟨g', 0, none⟩) lx.length c, .int .i64 (t : Int)] (wr.drewN n) fun e w' => e = .returned (.int .i64 (if t ∈ lx then (lx.idxOf t : Int) else -1)) ∧ w' = wr.drewN n) := hid fun n => by
              have := index_any (some ⟨g', 0, none⟩) c (lx.map fun q : Nat => (q : Int)) (t : Int) (wr.drewN n) (hrd.keep (Drawn.n wr n).keeps)
              rw [List.length_map, idxZ_cast] at this
              exact this
            clear hrd
            by_cases hin : t ∈ lx
            · have hrw : rowTo M q l (x + 1) = lx := by rw [rowTo, HMV.out, ← HLX.out]; simp [pushM, hin]
              have HRW := hid hrw
              have HI2 := HIDX.out
              simp only [if_pos hin] at HI2
              have HI3 := hid HI2
              clear hrw HI2 hin
              go_wp2_with fail
              go_quiet ((go_at_call 34; exact Calls.quiet_of_same (HI3.out _)))
              go_wp2_with fail
              go_roundw
              case rel => exact ⟨x + 1, lx, _, c, by omega, HRW.out.symm, by go_num, rfl, HOX.out, below_drewN HBX.out _⟩
              case measure => simp [intOf]; omega
            · have hrw : rowTo M q l (x + 1) = lx ++ [t] := by rw [rowTo, HMV.out, ← HLX.out]; simp [pushM, hin]
              have HRW := hid hrw
              have hls : lx.length + 1 ≤ m.out.length := by
                have := HUP.out (x + 1) (by omega)
                rw [hrw] at this
                simpa using this
              have HI2 := HIDX.out
              simp only [if_neg hin] at HI2
              have HI3 := hid HI2
              clear hrw HI2 hin
              go_wp2_with fail
              go_quiet ((go_at_call 34; exact Calls.quiet_of_same (HI3.out _)))
              go_wp2_with fail
              go_region_law
                ((refine step_append_rd _ (by rfl) _ _ 34 (by rfl) (w.heap.size + 1) 3 i0 _ 1 8 Try.underlying34 hti hz0 hz1 hz2 rfl (by omega) (.slice (some ⟨g', 0, none⟩) lx.length c) lx.length _ (by rfl) (own_below HOX.out (((Drawn.n wr _).below wr.heap.size).alloc (Nat.le_refl _) _)) _ (some ⟨wr.heap.size, 0, none⟩) 1 1 _ (by rfl) (Rd.cell1 (cell_new _ _ _ _ _ _ rfl rfl)) (by simp [Value.oneCell']) (by omega) (maxLen_le (by omega)) (by simp; omega) ?_
                  intro A6 c6 w6 hown6 hg6 hat6))
              all_goals
                have hb6 := Below.grown (B := w.heap.size + 1) (HBX.out.trans ((((Drawn.n wr _).below wr.heap.size).alloc (Nat.le_refl _) _).mono hsz1)) hg6 (by simp; omega) (fun k hk => (HOX.out.lt k hk).1)
                have HO6 := hid hown6
                have HB6 := hid hb6
                clear hown6 hg6 hat6 hb6
                go_wp2_with fail
                go_roundw
                case rel => exact ⟨x + 1, lx ++ [t], A6, c6, by omega, HRW.out.symm, by go_num, by simp, by rw [List.map_append, List.length_append]; exact HO6.out, HB6.out⟩
                case measure => simp [intOf]; omega
        · obtain rfl : x = M.ins := by omega
          have hfin : lx = ordAt M (k + 1) := by rw [HLX.out, ordAt, ← HL.out, if_pos hlt, HQ.out]
          have HFIN := hid hfin
          have hxd : decide ((M.ins : Int) < m.ins) = false := decide_eq_false (by omega)
          clear hfin x4
          go_wp2_with fail
          go_roundw
          case rel => exact ⟨k + 1, lx, A', c, by omega, HFIN.out, by go_num, rfl, HOX.out, HBX.out⟩
          case measure => simp [intOf]; omega
    · obtain rfl : k = l.length := by omega
      have hfin : ordAt M l.length = ord M := ord_done HOK.out (by rw [← HL.out]; exact Nat.le_refl _)
      have hfl : l = ord M := by rw [← hfin, ← HL.out]
      have HFL := hid hfl
      clear hfin hfl
      go_wp2_with fail
      go_ret
      have e : (ordZ M).length = l.length := by rw [ordZ_len, ← HFL.out]
      rw [e]
      refine ⟨A', c, rfl, HB1.out.trans (HB.out.mono (Nat.le_succ _)), ?_⟩
      unfold RdI
      rw [e]
      unfold ordZ
      rw [← HFL.out, List.map_map]
      exact Rd.own HO.out (by omega) (fun k h => by omega)
end Go.Proofs.Ytcmhginhfhiolaa
