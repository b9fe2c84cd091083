/-
  Walks: a step of a circuit, in the program.
-/
import Derived.Test.YtfabdpnjjondaaaA7
import Derived.StillTailTactics
set_option linter.unusedVariables false
set_option linter.unusedSimpArgs false
namespace Go.Proofs.Ytfabdpnjjondaaa
open Go.RowKit
attribute [local go_sem] cell_alloc_old

theorem bit_shift (n : Int) (i : Nat) (h0 : 0 ≤ n) (h1 : n ≤ 9223372036854775807) : bits .and .i64 (n / 2 ^ i) 1 = bitZ n i := by
  have hp : (0 : Int) < 2 ^ i := Int.pow_pos (by omega)
  rw [i64_and_one _ (Int.ediv_nonneg h0 (Int.le_of_lt hp)) (Int.lt_of_le_of_lt (Int.ediv_le_self _ h0) (by omega)), ← pow2_eq]
  rfl

/-- What a round hands on. -/
structure StepRel (c : Cir) (lat inp : Int) (w : World) (vb k : Nat) (wr : World) : Prop where
  grown : w.grownBy wr (some vb)
  row : ∃ zs : List Int, zs.length = c.gates.length ∧ zs.take k = valsTo c.gates lat inp k ∧ wr.ownsRow 0 3 1 (.slice (some ⟨vb, 0, none⟩) c.gates.length c.gates.length) c.gates.length (zs.map (.int .i64))

theorem StepRel.next {c : Cir} {lat inp : Int} {w wr : World} {vb k : Nat} {ys : List Int} (hgr : w.grownBy wr (some vb)) (hvl : vb < wr.heap.size) (hl : ys.length = c.gates.length) (ht : ys.take k = valsTo c.gates lat inp k)
    (ho : wr.ownsRow 0 3 1 (.slice (some ⟨vb, 0, none⟩) c.gates.length c.gates.length) c.gates.length (ys.map (.int .i64))) (hk : k < c.gates.length) (o : Obj) (n : Nat) (val : Int)
    (hval : val = valOf lat inp (valsTo c.gates lat inp k) (c.gates.getD k default)) : StepRel c lat inp w vb (k + 1) (((wr.setCell ⟨vb, k, none⟩ (.int .i64 val)).alloc o).drewN n) := by
  have h2 := ho.stored k (.int .i64 val)
  refine ⟨?_, ys.set k val, by simpa using hl, ?_, ?_⟩
  · have h3 : w.grownBy ((wr.setCell ⟨vb, k, none⟩ (.int .i64 val)).alloc o) (some vb) := (hgr.trans h2.2).trans (World.grownBy_alloc _ o _)
    exact ⟨h3.os, h3.tape, h3.output, h3.size, h3.block⟩
  · rw [valsTo, ← hval, ← ht]
    have hk' : k < (ys.set k val).length := by simpa [hl] using hk
    rw [List.take_succ_eq_append_getElem hk', List.take_set_of_le (Nat.le_refl k)]
    simp
  · have := h2.1.alloc o
    rw [List.map_set]
    exact this
theorem ys_get {gs : List Gt} {lat inp : Int} {ys : List Int} {k j : Nat} (ht : ys.take k = valsTo gs lat inp k) (hj : j < k) : ys.getD j 0 = (valsTo gs lat inp k).getD j 0 := by
  rw [← ht, getD_take _ _ hj]

set_option maxHeartbeats 4000000 in
theorem step_any {D : Dom} (v : Value) (c : Cir) (vb : Nat) (zs : List Int) (lat inp : Int) (w : World) (h : RdC w D v c) (hv : validB c = true) (hf : fitsB c lat inp = true) (hD : ¬ D vb)
    (hz : zs.length = c.gates.length) (hown : w.ownsRow 0 3 1 (.slice (some ⟨vb, 0, none⟩) c.gates.length c.gates.length) c.gates.length (zs.map (.int .i64))) :
    Calls Try.prog 29 #[v, .slice (some ⟨vb, 0, none⟩) c.gates.length c.gates.length, .int .i64 lat, .int .i64 inp] w fun e w' =>
      e = .returned (.tuple #[.int .i64 (stepC c lat inp).1, .int .i64 (stepC c lat inp).2]) ∧ w.grownBy w' (some vb) ∧
        w'.ownsRow 0 3 1 (.slice (some ⟨vb, 0, none⟩) c.gates.length c.gates.length) c.gates.length ((valsZ c lat inp).map (.int .i64)) := by
  have HV := hid h
  obtain ⟨Ag, cg, Al, cl, Ao, co, rfl, hg, hl, ho⟩ := h
  have HG := hid hg
  have hn := hg.len.1
  have hn2 := hl.len.1
  have hn3 := ho.len.1
  simp only [validB, fitsB, Bool.and_eq_true, decide_eq_true_eq] at hv hf
  obtain ⟨⟨⟨⟨⟨⟨⟨h1, h2⟩, h3⟩, h4⟩, h5⟩, h6⟩, h7⟩, h8⟩ := hv
  obtain ⟨⟨⟨f1, f2⟩, f3⟩, f4⟩ := hf
  have h6' := hid (allN_true.1 h6)
  have HL := hid hl
  have HO := hid ho
  have h7' := hid h7
  have h8' := hid h8
  have hlt : lat ≤ 9223372036854775807 := by have := pow2_lt (n := c.lat.length) (by omega); omega
  have hit : inp ≤ 9223372036854775807 := by have := pow2_lt (n := c.ib.toNat) (by omega); omega
  have HW := hid hown
  have HZ := hid hz
  have hvw : vb < w.heap.size := (hown.lt vb rfl).2
  clear hg hl ho h6 h7 h8 hown hz f2 f4
  go_enter Try.func29, Try.ntmps29
  go_wp2_with fail
  go_loopw [10, 15] (fun _ t wr => ∃ k : Nat, k ≤ c.gates.length ∧ t = .int .i64 k ∧ StepRel c lat inp w vb k wr ∧
      Box wr w.heap.size #[.int .i64 c.ib, .slice Ag c.gates.length cg, .slice Al c.lat.length cl, .slice Ao c.outs.length co]) (fun _ t _ => c.gates.length - (intOf t).toNat)
  case atStart => exact ⟨0, Nat.zero_le _, rfl, ⟨World.grownBy_alloc w _ _, zs, HZ.out, by simp [valsTo], HW.out.alloc _⟩, Box.new _ _ _ rfl⟩
  case round =>
    obtain ⟨k, hk, rfl, hrel, hbox⟩ := hrel
    have hgr := hrel.grown
    obtain ⟨ys, hyl, hyt, hyo⟩ := hrel.row
    have HB := hid hbox
    have x0 := hbox 0 _ rfl
    have x1 := hbox 1 _ rfl
    have x2 := hbox 2 _ rfl
    have x3 := hbox 3 _ rfl
    have hwl := World.block_lt_of_cell? wr _ x0
    have hvb := (hyo.lt vb rfl).2
    have HYL := hid hyl
    have HYT := hid hyt
    have HYO := hid hyo
    have hkeep : Keeps D w wr := (Keeps.refl D w).grown hgr (by rintro j ⟨⟩; exact hD)
    have HK := hid hkeep
    clear hrel hbox hyl hyt hyo hkeep
    by_cases hlk : k < c.gates.length
    · obtain ⟨b, o, g, rfl, hDb, had, HX, g0, g1, g2⟩ := (HG.out.keep HK.out).get hlk
      have hgate := h6'.out k hlk
      rw [HX.out] at hgate
      have hfro : wr.frozen? ⟨vb, k, none⟩ = false := HYO.out.frozenAt k
      have hcell : wr.cell? ⟨vb, k, none⟩ = some (.int .i64 (ys.getD k 0)) := by
        rw [HYO.out.cellAt k (by omega)]; simp [HYL.out, hlk]
      have hi1 : (k : Int) < c.gates.length := by omega
      have fin : ∀ (val : Int) (q : Nat), val = valOf lat inp (valsTo c.gates lat inp k) g → StepRel c lat inp w vb (k + 1) (((wr.setCell ⟨vb, k, none⟩ (.int .i64 val)).alloc (.cells #[.int .i64 g.k, .int .i64 g.a, .int .i64 g.b] 45)).drewN q) ∧
          Box (((wr.setCell ⟨vb, k, none⟩ (.int .i64 val)).alloc (.cells #[.int .i64 g.k, .int .i64 g.a, .int .i64 g.b] 45)).drewN q) w.heap.size #[.int .i64 c.ib, .slice (some ⟨b, o, none⟩) c.gates.length cg, .slice Al c.lat.length cl, .slice Ao c.outs.length co] :=
        fun val q hval => ⟨StepRel.next hgr hvb HYL.out HYT.out HYO.out hlk _ q val (by rw [HX.out]; exact hval), ((HB.out.set (by simp; omega) _).alloc _).drewN q⟩
      have FIN := hid fin
      clear fin
      have hb2 : b ≠ vb := fun e => hD (e ▸ hDb)
      have HK1 := hid hgate
      clear hgate
      by_cases k1 : g.k = 1
      · have e1 : (g.k == 1) = true := by simp [k1]
        have K1 := hid k1
        clear k1
        go_wp2_with fail
        go_roundw
        case rel => exact ⟨k + 1, by omega, by go_num, FIN.out 0 0 (by unfold valOf; simp [K1.out])⟩
        case measure => simp [intOf]; omega
      by_cases k2 : g.k = 2
      · have hg := HK1.out
        simp only [gateB, k2, Bool.and_eq_true, decide_eq_true_eq] at hg
        simp at hg
        obtain ⟨⟨hg1, hg2⟩, hg3⟩ := hg; clear hg3
        have e1 : (g.k == 1) = false := by simp [k1]
        have e2 : (g.k == 2) = true := by simp [k2]
        have K1 := hid k2
        clear k1 k2
        go_wp2_with fail
        go_roundw
        case rel =>
          refine ⟨k + 1, by omega, by go_num, ?_⟩
          rw [bit_shift inp g.a.toNat f3 hit]
          exact FIN.out (bitZ inp g.a.toNat) 0 (by unfold valOf; simp [K1.out])
        case measure => simp [intOf]; omega
      by_cases k3 : g.k = 3
      · have hg := HK1.out
        simp only [gateB, k3, Bool.and_eq_true, decide_eq_true_eq] at hg
        simp at hg
        obtain ⟨⟨hg1, hg2⟩, hg3⟩ := hg; clear hg3
        have e1 : (g.k == 1) = false := by simp [k1]
        have e2 : (g.k == 2) = false := by simp [k2]
        have e3 : (g.k == 3) = true := by simp [k3]
        have K1 := hid k3
        clear k1 k2 k3
        go_wp2_with fail
        go_roundw
        case rel =>
          refine ⟨k + 1, by omega, by go_num, ?_⟩
          rw [bit_shift lat g.a.toNat f1 hlt]
          exact FIN.out (bitZ lat g.a.toNat) 0 (by unfold valOf; simp [K1.out])
        case measure => simp [intOf]; omega
      by_cases k4 : g.k = 4
      · have hg := HK1.out
        simp only [gateB, k4, Bool.and_eq_true, decide_eq_true_eq] at hg
        simp at hg
        obtain ⟨⟨hg1, hg2⟩, hg3⟩ := hg
        have e1 : (g.k == 1) = false := by simp [k1]
        have e2 : (g.k == 2) = false := by simp [k2]
        have e3 : (g.k == 3) = false := by simp [k3]
        have e4 : (g.k == 4) = true := by simp [k4]
        have hca : wr.cell? ⟨vb, g.a.toNat, none⟩ = some (.int .i64 (ys.getD g.a.toNat 0)) := by
          have hj : g.a.toNat < c.gates.length := by omega
          rw [HYO.out.cellAt g.a.toNat (by omega)]; simp [HYL.out, hj]
        have hcb : wr.cell? ⟨vb, g.b.toNat, none⟩ = some (.int .i64 (ys.getD g.b.toNat 0)) := by
          have hj : g.b.toNat < c.gates.length := by omega
          rw [HYO.out.cellAt g.b.toNat (by omega)]; simp [HYL.out, hj]
        obtain ⟨va, hva⟩ : ∃ z, z = ys.getD g.a.toNat 0 := ⟨_, rfl⟩
        obtain ⟨vb', hvb'⟩ : ∃ z, z = ys.getD g.b.toNat 0 := ⟨_, rfl⟩
        rw [← hva] at hca
        rw [← hvb'] at hcb
        have K1 := hid k4
        have HVA := hid hva
        have HVB := hid hvb'
        have hga1 : g.a < c.gates.length := by omega
        have hgb0 : 0 ≤ g.b := by omega
        have hgb1 : g.b < c.gates.length := by omega
        clear k1 k2 k3 k4 hva hvb'
        go_wp2_with fail
        obtain ⟨W, hW⟩ : ∃ W, W = wr.alloc (.cells #[.int .i64 g.k, .int .i64 g.a, .int .i64 g.b] 45) := ⟨_, rfl⟩
        rw [← hW]
        have y1 : W.cell? ⟨wr.heap.size, 1, none⟩ = some (.int .i64 g.a) := by rw [hW]; exact cell_new _ _ _ _ _ _ rfl rfl
        have y2 : W.cell? ⟨wr.heap.size, 2, none⟩ = some (.int .i64 g.b) := by rw [hW]; exact cell_new _ _ _ _ _ _ rfl rfl
        have y3 : W.cell? ⟨vb, g.a.toNat, none⟩ = some (.int .i64 va) := by rw [hW, cell_alloc_old _ _ _ hvb]; exact hca
        have y4 : W.cell? ⟨vb, g.b.toNat, none⟩ = some (.int .i64 vb') := by rw [hW, cell_alloc_old _ _ _ hvb]; exact hcb
        have y5 : W.cell? ⟨vb, k, none⟩ = some (.int .i64 (ys.getD k 0)) := by rw [hW, cell_alloc_old _ _ _ hvb]; exact hcell
        have y6 : W.frozen? ⟨vb, k, none⟩ = false := by rw [hW]; exact (HYO.out.alloc _).frozenAt k
        have HWW := hid hW
        clear hW
        go_still_tail 14, (by kernel_rfl)
        simp only [World.drew_eq]
        go_wp2_with fail
        go_roundw
        case rel =>
          refine ⟨k + 1, by omega, by go_num, ?_⟩
          have e1 : va = 0 ∨ va = 1 := by rw [HVA.out, ys_get HYT.out (by omega)]; exact valsTo_01 _ _ _ _ _
          have e2 : vb' = 0 ∨ vb' = 1 := by rw [HVB.out, ys_get HYT.out (by omega)]; exact valsTo_01 _ _ _ _ _
          rw [i64_and_bits _ _ e1 e2, HWW.out, World.setCell_alloc_past _ _ _ _ hvb]
          exact FIN.out (va * vb') 1 (by
            unfold valOf; simp only [K1.out]
            rw [HVA.out, HVB.out, ys_get HYT.out (by omega), ys_get HYT.out (by omega)]
            rfl)
        case measure => simp [intOf]; omega
      by_cases k5 : g.k = 5
      · have hg := HK1.out
        simp only [gateB, k5, Bool.and_eq_true, decide_eq_true_eq] at hg
        simp at hg
        obtain ⟨⟨hg1, hg2⟩, hg3⟩ := hg; clear hg3
        have e1 : (g.k == 1) = false := by simp [k1]
        have e2 : (g.k == 2) = false := by simp [k2]
        have e3 : (g.k == 3) = false := by simp [k3]
        have e4 : (g.k == 4) = false := by simp [k4]
        have e5 : (g.k == 5) = true := by simp [k5]
        have hca : wr.cell? ⟨vb, g.a.toNat, none⟩ = some (.int .i64 (ys.getD g.a.toNat 0)) := by
          have hj : g.a.toNat < c.gates.length := by omega
          rw [HYO.out.cellAt g.a.toNat (by omega)]; simp [HYL.out, hj]
        obtain ⟨va, hva⟩ : ∃ z, z = ys.getD g.a.toNat 0 := ⟨_, rfl⟩
        rw [← hva] at hca
        have e01 : va = 0 ∨ va = 1 := by rw [hva, ys_get HYT.out (by omega)]; exact valsTo_01 _ _ _ _ _
        have va0 : 0 ≤ va := by omega
        have va1 : va ≤ 1 := by omega
        have K1 := hid k5
        have HVA := hid hva
        have hga1 : g.a < c.gates.length := by omega
        clear k1 k2 k3 k4 k5 hva e01
        go_wp2_with fail
        go_roundw
        case rel =>
          refine ⟨k + 1, by omega, by go_num, ?_⟩
          exact FIN.out (1 - va) 0 (by
            unfold valOf; simp only [K1.out]
            rw [HVA.out, ys_get HYT.out (by omega)]
            rfl)
        case measure => simp [intOf]; omega
      · exfalso
        have hg := HK1.out
        simp [gateB, k1, k2, k3, k4, k5] at hg
    · have hlk' : c.gates.length ≤ k := by omega
      obtain rfl : k = c.gates.length := by omega
      have hrow : wr.ownsRow 0 3 1 (.slice (some ⟨vb, 0, none⟩) c.gates.length c.gates.length) c.gates.length ((valsZ c lat inp).map (.int .i64)) := by
        have e : ys = valsZ c lat inp := by
          have := HYT.out
          rw [List.take_of_length_le (by rw [HYL.out]; exact Nat.le_refl _)] at this
          exact this
        rw [← e]; exact HYO.out
      have HROW := hid hrow
      have hvl : (valsZ c lat inp).length = c.gates.length := valsTo_len _ _ _ _
      have hrd : RdI wr (fun x => x = vb) (some ⟨vb, 0, none⟩) c.gates.length (valsZ c lat inp) := by
        unfold RdI
        rw [hvl]
        rcases hrow.2 with ⟨hv, _⟩ | ⟨g, cap, cur, hv, _, hh, hc1, hc2, hsz, htk⟩
        · cases hv
        · injection hv with e1 e2 e3
          injection e1 with e1
          injection e1 with e1
          subst e1 e3
          refine ⟨⟨by simp [hvl], hn, Nat.le_refl _, by omega⟩, fun _ => ⟨vb, 0, rfl, rfl, hvb, fun j u hu => ?_⟩⟩
          rw [← htk, List.getElem?_take] at hu
          split at hu
          · simp [World.cell?, hh]; simpa using hu
          · cases hu
      have HRD := hid hrd
      have HVL := hid hvl
      have H7 := allN_true.1 h7'.out
      have H8 := allN_true.1 h8'.out
      have n1 : Hid (∀ W, Drawn wr W → Calls Try.prog 45 #[.slice (some ⟨vb, 0, none⟩) c.gates.length c.gates.length, .slice Ao c.outs.length co] W fun e w' => e = .returned (.int .i64 (numZ (valsZ c lat inp) c.outs)) ∧ w' = W) := hid fun W hW => by
        have := number_any (some ⟨vb, 0, none⟩) Ao c.gates.length co (valsZ c lat inp) c.outs W (hrd.keep hW.keeps) ((HO.out.keep HK.out).keep hW.keeps) (by omega) (fun j => valsTo_01 _ _ _ _ _) (fun j hj => by
          rw [hvl]; simpa using H8 j hj)
        rwa [hvl] at this
      have n2 : Hid (∀ W, Drawn wr W → Calls Try.prog 45 #[.slice (some ⟨vb, 0, none⟩) c.gates.length c.gates.length, .slice Al c.lat.length cl] W fun e w' => e = .returned (.int .i64 (numZ (valsZ c lat inp) c.lat)) ∧ w' = W) := hid fun W hW => by
        have := number_any (some ⟨vb, 0, none⟩) Al c.gates.length cl (valsZ c lat inp) c.lat W (hrd.keep hW.keeps) ((HL.out.keep HK.out).keep hW.keeps) (by omega) (fun j => valsTo_01 _ _ _ _ _) (fun j hj => by
          rw [hvl]; simpa using H7 j hj)
        rwa [hvl] at this
      clear hrow hrd hvl H7 H8
      go_wp2_with fail
      go_quiet ((go_at_call 45; first | with_reducible exact Calls.quiet_of_same (n1.out _ (Drawn.n _ _)) | with_reducible exact Calls.quiet_of_same (n2.out _ (Drawn.n _ _))))
      go_wp2_with fail
      go_ret2
      exact ⟨rfl, ⟨hgr.os, hgr.tape, hgr.output, hgr.size, hgr.block⟩, HROW.out⟩
end Go.Proofs.Ytfabdpnjjondaaa
