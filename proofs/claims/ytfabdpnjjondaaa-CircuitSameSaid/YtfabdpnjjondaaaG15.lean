/-
  Walk of used, first part: the marks.
-/
import Derived.Test.YtfabdpnjjondaaaG8
import Derived.Test.YtfabdpnjjondaaaG15S
import Derived.Deep.DeepMust
set_option linter.unusedVariables false
set_option linter.unusedSimpArgs false
namespace Go.Proofs.Ytfabdpnjjondaaa
open Go.RowKit
attribute [local go_sem] cell_alloc_old build_g1 build_g2 build_g3

theorem build_l2 (A B : Option Addr) (n c m d : Nat) (w : World) : (Instr.build 77 #[(0, .slice A n c), (1, .slice B m d)]).run Try.prog w = .ok (.agg #[.slice A n c, .slice B m d]) w := run_build w 77 _ _ (by kernel_rfl)
theorem index_l0 (x y : Value) (w : World) : (Instr.index 77 (.agg #[x, y]) (.int .i64 0)).run Try.prog w = .ok x w := by kernel_rfl
theorem index_l1 (x y : Value) (w : World) : (Instr.index 77 (.agg #[x, y]) (.int .i64 1)).run Try.prog w = .ok y w := by kernel_rfl
theorem build_c1 (ib : Int) (w : World) : (Instr.build 25 #[(0, .int .i64 ib)]).run Try.prog w = .ok (.agg #[.int .i64 ib, .slice none 0 0, .slice none 0 0, .slice none 0 0]) w := run_build w 25 _ _ (by kernel_rfl)
theorem bool_info : (Try.prog.info? 4).map (fun i => (i.zero, i.size, i.bytes)) = some (some (.bool false), 1, 1) := by kernel_rfl
attribute [local go_sem] build_l2 build_c1

theorem bodyPost_gen {P : Program} {f : Func} {Q : Ending → World → Prop} {e : Exit} {a : Act} {w : World} (h : ∀ W, W = w → bodyPost P f Q e a W) : bodyPost P f Q e a w := h w rfl
theorem gate5_b {ib nl i : Int} {g : Gt} (h : gateB ib nl i g = true) (h5 : g.k = 5) : g.b = 0 := by
  unfold gateB at h
  simp [h5] at h
  omega

set_option maxRecDepth 100000 in
set_option maxHeartbeats 4000000 in
theorem used_any {ib nl : Int} {D : Dom} (w : World) (bg : Nat) (gs : GS) (F : Dom) (inb : Int) (Al Ao : Option Addr) (cl co : Nat) (lats outs : List Int) (hG : Gat w bg gs F) (hok : Ok ib nl gs) (hgl : gs.length ≤ 1000000)
    (hl : RdI w D Al cl lats) (ho : RdI w D Ao co outs) (hlr : ∀ j, j < lats.length → 0 ≤ lats.getD j 0 ∧ lats.getD j 0 < gs.length) (hor : ∀ j, j < outs.length → 0 ≤ outs.getD j 0 ∧ outs.getD j 0 < gs.length)
    (hll : lats.length ≤ 1000) (hol : outs.length ≤ 1000) :
    Calls Try.prog 43 #[.pointer (some ⟨bg, 0, none⟩), .int .i64 inb, .slice Al lats.length cl, .slice Ao outs.length co] w fun e w' =>
      ∃ v, e = .returned v ∧ Below w.heap.size w w' ∧ RdC w' (fun b => w.heap.size ≤ b) v (usedC gs inb lats outs) := by
  obtain ⟨i0, hi, hz0, hz1, hz2⟩ := info_parts bool_info
  have hz2' : i0.bytes = 1 := hz2
  obtain ⟨i1, hi', hy0, hy1, hy2⟩ := info_parts int_info
  have hy2' : i1.bytes = 8 := hy2
  obtain ⟨i2, hgi, hx0, hx1, hx2⟩ := info_parts gate_info
  have hx2' : i2.bytes = 24 := hx2
  have hmk := run_make_zrow (P := Try.prog) 65 4 i0 (.bool false) 1 Try.underlying65 hi hz0 hz1 hz2 rfl .i64 .i64 gs.length (by omega) (by omega)
  have hmi := run_make_zrow (P := Try.prog) 23 3 i1 (.int .i64 0) 8 Try.underlying23 hi' hy0 hy1 hy2 rfl .i64 .i64 gs.length (by omega) (by omega)
  obtain ⟨A, c, mb, hgb, hgr, -, -⟩ := hG
  have hrg : RdG w (· < w.heap.size) A c gs := by
    refine Rd.mono (D := fun _ => True) (Rd.own hgr (by omega) (fun _ _ => trivial)) (fun b _ h => h)
  have g0 := block_cell hgb (i := 0) rfl
  have hbg := lt_of_block hgb
  have HGB := hid hgb
  have HRG := hid hrg
  have HOK := hid hok
  have HL := hid hl.old
  have HO := hid ho.old
  have HLR := hid hlr
  have HOR := hid hor
  clear hgb hgr hrg hok hl ho hlr hor
  go_enter Try.func43, Try.ntmps43
  go_wp2_with fail
  go_loopw [11, 33] (fun _ t wr => ∃ (k : Nat), k ≤ 2 ∧ t = .int .i64 (k : Int) ∧ Marked w wr (marks gs lats outs k)) (fun _ t _ => 2 - (intOf t).toNat)
  case atStart => exact ⟨0, by omega, rfl, Marked.start w gs.length⟩
  case round =>
    obtain ⟨k, hk, rfl, hM⟩ := hrel
    have HM := hid hM
    by_cases hk2 : k < 2
    · obtain ⟨l, Ai, ci, hli, hix, hrl, hlr⟩ : ∃ (l : List Int) (Ai : Option Addr) (ci : Nat), (if k = 0 then lats else outs) = l ∧
          (∀ W : World, (Instr.index 77 (.agg #[.slice Al lats.length cl, .slice Ao outs.length co]) (.int .i64 (k : Int))).run Try.prog W = .ok (.slice Ai l.length ci) W) ∧
          RdI w (· < w.heap.size) Ai ci l ∧ ∀ j, j < l.length → 0 ≤ l.getD j 0 ∧ l.getD j 0 < gs.length := by
        match k, hk2 with
        | 0, _ => exact ⟨lats, Al, cl, rfl, fun W => index_l0 _ _ W, HL.out, HLR.out⟩
        | 1, _ => exact ⟨outs, Ao, co, rfl, fun W => index_l1 _ _ W, HO.out, HOR.out⟩
      have hll2 : l.length ≤ 1000 := by
        rw [← hli]
        split <;> assumption
      have HLI := hid hli
      have HRL := hid hrl
      have HLR2 := hid hlr
      clear hli hrl hlr hM
      have hki : (k : Int) < 2 := by omega
      go_wp2_with fail
      obtain ⟨wo, rfl⟩ : ∃ wo : World, wo = wr := ⟨_, rfl⟩
      go_loopw [13, 38] (fun _ t wr => ∃ (j : Nat), j ≤ l.length ∧ t = .int .i64 (j : Int) ∧ Marked w wr (markTo (marks gs lats outs k) l j)) (fun _ t _ => l.length - (intOf t).toNat)
      case atStart => exact ⟨0, by omega, rfl, HM.out⟩
      case round =>
        obtain ⟨j, hj, rfl, hM⟩ := hrel
        by_cases hjl : j < l.length
        · obtain ⟨b, o, x, rfl, _, hbl, HX, hc⟩ := (HRL.out.keep (Keeps.of_below hM.below (fun _ h => h))).get hjl
          obtain ⟨x0, x1⟩ := HLR2.out j hjl
          rw [HX.out] at x0 x1
          obtain ⟨X, rfl⟩ : ∃ X : Nat, x = X := ⟨x.toNat, by omega⟩
          have hml : (markTo (marks gs lats outs k) l j).length = gs.length := by rw [markTo_len, marks_len]
          obtain ⟨n0, n1⟩ := hM.get (i := X) (by omega)
          have hx1 : X < gs.length := by omega
          have HM2 := hid hM
          have hji : (j : Int) < l.length := by omega
          clear hM hml
          go_wp2_with fail
          go_roundw
          case rel => exact ⟨j + 1, by omega, by go_num, by rw [markTo, HX.out]; exact HM2.out.set X true⟩
          case measure => simp [intOf]; omega
        · obtain rfl : j = l.length := by omega
          have HM2 := hid hM
          clear hM
          go_wp2_with fail
          go_roundw
          case rel => exact ⟨k + 1, by omega, by go_num, by rw [marks_succ _ _ _ _ hk2, HLI.out]; exact HM2.out⟩
          case measure => simp [intOf]; omega
    · obtain rfl : k = 2 := by omega
      clear hM
      obtain ⟨wm, rfl⟩ : ∃ wm : World, wm = wr := ⟨_, rfl⟩
      have hbg2 : wm.cell? ⟨bg, 0, none⟩ = some (.slice A gs.length c) := (HM.out.below.cell (p := ⟨bg, 0, none⟩) hbg).trans g0
      go_wp2_with fail
      go_loopw [14] (fun t wr => ∃ (i : Nat) (need : List Bool), i ≤ gs.length ∧ t = .int .i64 ((i : Int) - 1) ∧ needDown gs i need = needOf gs lats outs ∧ need.length = gs.length ∧ Marked w wr need) (fun t _ => (intOf t + 1).toNat)
      case atStart => exact ⟨gs.length, _, Nat.le_refl _, rfl, rfl, marks_len _ _ _ _, HM.out⟩
      case round =>
        obtain ⟨i, need, hi2, rfl, hnd, hnl, hM⟩ := hrel
        have hbg3 : wr.cell? ⟨bg, 0, none⟩ = some (.slice A gs.length c) := (hM.below.cell (p := ⟨bg, 0, none⟩) hbg).trans g0
        have hbgr : bg < wr.heap.size := Nat.lt_of_lt_of_le hbg hM.below.size
        have hnbr : w.heap.size + 1 < wr.heap.size := lt_of_block hM.row
        clear hbg2
        have HND := hid hnd
        have HNL := hid hnl
        rcases i with _ | i
        · have hk0 : (((0 : Nat) : Int) - 1) = -1 := by omega
          rw [hk0]
          have HM3 := hid hM
          have HN3 : Hid (need = needOf gs lats outs) := hid HND.out
          clear hM hnd hnl HND
          have hbgr2 : bg < (wr.heap.size + 1) := by omega
          go_wp2_with fail
          obtain ⟨wn, rfl⟩ : ∃ wn : World, wn = wr := ⟨_, rfl⟩
          go_loopw [18, 19, 109] (fun _ _ t wr => ∃ (i : Nat) (num : List Int) (gr : GS) (Ag : Option Addr) (cg : Nat), i ≤ gs.length ∧ t = .int .i64 (i : Int) ∧ (num, gr) = keepTo gs need i ∧ num.length = gs.length ∧ gr.length ≤ i ∧
            Kept w wn wr need inb num gr Ag cg [] none 0 [] none 0) (fun _ _ t _ => gs.length - (intOf t).toNat)
          case atStart => exact ⟨0, _, [], none, 0, Nat.zero_le _, rfl, rfl, by simp, Nat.zero_le _, Kept.start w wn need inb gs.length HM3.out⟩
          case round =>
            obtain ⟨i, num, gr, Ag, cg, hi3, rfl, hkt, hnl2, hgr2, hK⟩ := hrel
            by_cases hig : i < gs.length
            · obtain ⟨b, o, g, rfl, _, hbl, HX, h0, h1, h2⟩ := (HRG.out.keep (Keeps.of_below hK.marks.below (fun _ h => h))).get hig
              obtain ⟨n0, n1⟩ := hK.marks.get (i := i) (by rw [HNL.out]; exact hig)
              have hok := HOK.out i hig
              rw [HX.out] at hok
              obtain ⟨v, hv⟩ : ∃ v, need.getD i false = v := ⟨_, rfl⟩
              rw [hv] at n0
              obtain ⟨k0, k1, k2, k3, hkl, f1, f2, f3⟩ := hK.cells
              have hws : w.heap.size + 1 < wr.heap.size := by have := hK.hw; omega
              have HV := hid hv
              have HOK2 := hid hok
              have HK := hid hK
              have HKT := hid hkt
              have HNL2 := hid hnl2
              have hii : (i : Int) < gs.length := by omega
              clear hv hok hK hkt hnl2
              cases v
              · have HST : Hid (keepTo gs need (i + 1) = keepTo gs need i) := hid (by rw [keepTo, if_neg (by rw [HV.out]; exact Bool.noConfusion)])
                go_wp2_with fail
                go_roundw
                case rel => exact ⟨i + 1, num, gr, Ag, cg, by omega, by go_num, by rw [HST.out]; exact HKT.out, HNL2.out, by omega, by exact HK.out.after (by go_grown)⟩
                case measure => simp [intOf]; omega
              · --<<
                obtain ⟨m0, m1⟩ := HK.out.get (i := i) (by rw [HNL2.out]; exact hig)
                have hkt := HKT.out
                have e1 : num = (keepTo gs need i).1 := by rw [← hkt]
                have e2 : gr = (keepTo gs need i).2 := by rw [← hkt]
                have HR : Hid ((num.set i gr.length, gr ++ [ren (num.set i gr.length) g]) = keepTo gs need (i + 1)) := hid (by rw [keepTo, if_pos HV.out, HX.out, e1, e2])
                clear hkt e1 e2
                have hgr3 : gr.length ≤ 1000000 := by omega
                have hnn : wn.heap.size < wr.heap.size := by omega
                go_upto_region 25 with (fail)
                refine wp_gen fun W hW => ?_
                have KN : Hid (∀ W', Below wr.heap.size (wr.setCell ⟨wn.heap.size, i, none⟩ (.int .i64 gr.length)) W' → Kept w wn W' need inb (num.set i gr.length) gr Ag cg [] none 0 [] none 0) := hid fun W' hb => (HK.out.number i gr.length).after (by rw [World.size_setCell]; exact hb)
                have hbW : Below wr.heap.size (wr.setCell ⟨wn.heap.size, i, none⟩ (.int .i64 gr.length)) W := by
                  rw [hW]
                  exact (Below.refl _ _).alloc (by rw [World.size_setCell]; exact Nat.le_refl _) _
                have HWB := hid hbW
                have hKW : Kept w wn W need inb (num.set i gr.length) gr Ag cg [] none 0 [] none 0 := KN.out W hbW
                have hBW : W.heap[wr.heap.size]? = some (.cells #[.int .i64 g.k, .int .i64 g.a, .int .i64 g.b] 45 (0, 0)) := by
                  rw [hW]
                  have h := heap_alloc_new (wr.setCell ⟨wn.heap.size, i, none⟩ (.int .i64 gr.length)) (.cells #[.int .i64 g.k, .int .i64 g.a, .int .i64 g.b] 45)
                  rw [World.size_setCell] at h
                  exact h
                have z0 := block_cell hBW (i := 0) rfl
                have z1 := block_cell hBW (i := 1) rfl
                have z2 := block_cell hBW (i := 2) rfl
                have f1' := block_free hBW (i := 1)
                have f2' := block_free hBW (i := 2)
                have hrs : wr.heap.size < W.heap.size := World.block_lt_of_cell? W _ z0
                have hnl3 : (num.set i (gr.length : Int)).length = gs.length := by rw [List.length_set]; exact HNL2.out
                have GET : Hid (∀ j : Nat, j < gs.length → W.cell? ⟨wn.heap.size, j, none⟩ = some (.int .i64 ((num.set i (gr.length : Int)).getD j 0))) := hid fun j hj => (hKW.get (i := j) (by omega)).1
                have HKW := hid hKW
                have HBW := hid hBW
                clear hbW hW hKW hBW k1 k2 k3 f1 f2 f3 n0 m0 m1 h0 h1 h2 hbl hnl3
                have hnz : wn.heap.size ≠ wr.heap.size := by omega
                by_cases h4 : g.k = 4
                · have e4 : (g.k == 4) = true := beq_iff_eq.2 h4
                  have hrg := (gateB_range HOK2.out).1 h4
                  obtain ⟨a, b2, ha, hb2, hal, hbl2⟩ : ∃ a b2 : Nat, g.a = a ∧ g.b = b2 ∧ a < gs.length ∧ b2 < gs.length := ⟨g.a.toNat, g.b.toNat, by omega, by omega, by omega, by omega⟩
                  obtain ⟨na, hna⟩ : ∃ x, (num.set i (gr.length : Int)).getD a 0 = x := ⟨_, rfl⟩
                  obtain ⟨nb, hnb⟩ : ∃ x, (num.set i (gr.length : Int)).getD b2 0 = x := ⟨_, rfl⟩
                  have q1 := GET.out a hal
                  have q2 := GET.out b2 hbl2
                  rw [hna] at q1
                  rw [hnb] at q2
                  have hren : ren (num.set i gr.length) g = ⟨4, na, nb⟩ := by
                    unfold ren
                    rw [if_pos h4, ha, hb2, Int.toNat_natCast, Int.toNat_natCast, hna, hnb]
                  have hr := HR.out
                  rw [hren] at hr
                  obtain ⟨g2, hg2⟩ : ∃ g2 : Gt, g2 = ⟨4, na, nb⟩ := ⟨_, rfl⟩
                  have e2a : g2.a = na := by rw [hg2]
                  have e2b : g2.b = nb := by rw [hg2]
                  have e2k : g2.k = 4 := by rw [hg2]
                  rw [← hg2] at hr
                  have HG2 := hid hr
                  rw [ha] at z1
                  rw [hb2] at z2
                  have hal2 : (a : Int) < gs.length := by omega
                  have hbl3 : (b2 : Int) < gs.length := by omega
                  have H4 := hid h4
                  have HAB := hid (And.intro e2k (And.intro e2a e2b))
                  have hbl4 := hid HBW.out
                  rw [ha, hb2] at hbl4
                  clear hrg ha hb2 hal hbl2 hna hnb hren hr hg2 e2a e2b e2k h4
                  go_upto_region 27 with (fail)
                  refine wp_gen fun W2 hW2 => ?_
                  obtain rfl : W2 = W := hW2
                  go_region
                  go_upto_region 30 with (fail)
                  refine wp_gen fun W3 hW3 => ?_
                  have hK3 : Kept w wn W3 need inb (num.set i gr.length) gr Ag cg [] none 0 [] none 0 := by rw [hW3]; exact KN.out _ (((HWB.out.setCell (p := ⟨wr.heap.size, 1, none⟩) (Nat.le_refl _) _).setCell (p := ⟨wr.heap.size, 2, none⟩) (Nat.le_refl _) _).drew)
                  have hB3 : W3.heap[wr.heap.size]? = some (.cells #[.int .i64 g2.k, .int .i64 g2.a, .int .i64 g2.b] 45 (0, 0)) := by
                    rw [hW3]
                    show ((W2.setCell ⟨wr.heap.size, 1, none⟩ (.int .i64 na)).setCell ⟨wr.heap.size, 2, none⟩ (.int .i64 nb)).heap[wr.heap.size]? = _
                    rw [set_block (set_block HBW.out (i := 1) (.int .i64 na)) (i := 2) (.int .i64 nb), HAB.out.1, HAB.out.2.1, HAB.out.2.2, ← H4.out]
                    rfl
                  have z0 := block_cell hB3 (i := 0) rfl
                  have z1 := block_cell hB3 (i := 1) rfl
                  have z2 := block_cell hB3 (i := 2) rfl
                  obtain ⟨-, y1, -, -, yl, y2, -, -⟩ := hK3.cells
                  have hrs3 : wr.heap.size < W3.heap.size := lt_of_block hB3
                  have HK3 := hid hK3
                  clear hW3 hK3 hB3
                  go_wp2_with (at_builtin; go_must (refine wpList_append_rd _ rfl (.tmp 150) (.tmp 152) 22 rfl (wn.heap.size + 2) 45 i2 _ 3 24 Try.underlying22 hgi hx0 hx1 hx2 rfl (by omega) (.slice Ag gr.length cg) gr.length _ rfl (HK3.out.og.alloc _) _ (some ⟨W3.heap.size, 0, none⟩) 1 1 _ rfl (Rd.cell3 (cell_new W3 _ _ _ _ _ rfl rfl) (cell_new W3 _ _ _ _ _ rfl rfl) (cell_new W3 _ _ _ _ _ rfl rfl)) (by simp [Value.oneCell']) (by omega) (maxLen_le (by omega)) (by simp; omega) ?_); intro A5 c5 w5 hown5 hg5 hat5; have e5c := ((HK3.out.after (by go_grown)).grow (base := 0) (HK3.out.after (by go_grown)).og hg5 0 undef).2.2.2; have e5d := block_cell e5c (i := 1) rfl; have e5f := block_free e5c (i := 1))
                  go_roundw
                  case rel =>
                    have hfin := (HK3.out.after (by go_grown)).gate g2 hg5 (by simpa [gcells] using hown5)
                    have hl5 : (gr ++ [g2]).length ≤ i + 1 := by simp; omega
                    have hl6 : (num.set i (gr.length : Int)).length = gs.length := by rw [List.length_set]; exact HNL2.out
                    (repeat apply Exists.intro)
                    exact ⟨⟨i + 1, num.set i gr.length, gr ++ [g2], A5, c5, by omega, by go_num, HG2.out, hl6, hl5, hfin⟩, rfl⟩
                  case measure => simp [intOf]; omega
                · by_cases h5 : g.k = 5
                  · have e4 : (g.k == 4) = false := beq_eq_false_iff_ne.2 h4
                    have e5 : (g.k == 5) = true := beq_iff_eq.2 h5
                    have hrg := (gateB_range HOK2.out).2 h5
                    obtain ⟨a, ha, hal⟩ : ∃ a : Nat, g.a = a ∧ a < gs.length := ⟨g.a.toNat, by omega, by omega⟩
                    obtain ⟨na, hna⟩ : ∃ x, (num.set i (gr.length : Int)).getD a 0 = x := ⟨_, rfl⟩
                    have q1 := GET.out a hal
                    rw [hna] at q1
                    have hren : ren (num.set i gr.length) g = ⟨5, na, g.b⟩ := by
                      unfold ren
                      rw [if_neg h4, if_pos h5, ha, Int.toNat_natCast, hna]
                    have hr := HR.out
                    rw [hren] at hr
                    obtain ⟨g2, hg2⟩ : ∃ g2 : Gt, g2 = ⟨5, na, g.b⟩ := ⟨_, rfl⟩
                    have e2a : g2.a = na := by rw [hg2]
                    have e2b : g2.b = g.b := by rw [hg2]
                    have e2k : g2.k = 5 := by rw [hg2]
                    rw [← hg2] at hr
                    have HG2 := hid hr
                    rw [ha] at z1
                    have hal2 : (a : Int) < gs.length := by omega
                    have H4 := hid h5
                    have HAB := hid (And.intro e2k (And.intro e2a e2b))
                    clear hrg ha hal hna hren hr hg2 e2a e2b e2k h4 h5
                    go_upto_region 30 with (fail)
                    refine wp_gen fun W3 hW3 => ?_
                    have hK3 : Kept w wn W3 need inb (num.set i gr.length) gr Ag cg [] none 0 [] none 0 := by rw [hW3]; exact KN.out _ (HWB.out.setCell (p := ⟨wr.heap.size, 1, none⟩) (Nat.le_refl _) _)
                    have hB3 : W3.heap[wr.heap.size]? = some (.cells #[.int .i64 g2.k, .int .i64 g2.a, .int .i64 g2.b] 45 (0, 0)) := by
                      rw [hW3]
                      rw [set_block HBW.out (i := 1) (.int .i64 na), HAB.out.1, HAB.out.2.1, HAB.out.2.2, ← H4.out]
                      rfl
                    have z0 := block_cell hB3 (i := 0) rfl
                    have z1 := block_cell hB3 (i := 1) rfl
                    have z2 := block_cell hB3 (i := 2) rfl
                    obtain ⟨-, y1, -, -, yl, y2, -, -⟩ := hK3.cells
                    have hrs3 : wr.heap.size < W3.heap.size := lt_of_block hB3
                    have HK3 := hid hK3
                    clear hW3 hK3 hB3
                    go_wp2_with (at_builtin; go_must (refine wpList_append_rd _ rfl (.tmp 150) (.tmp 152) 22 rfl (wn.heap.size + 2) 45 i2 _ 3 24 Try.underlying22 hgi hx0 hx1 hx2 rfl (by omega) (.slice Ag gr.length cg) gr.length _ rfl (HK3.out.og.alloc _) _ (some ⟨W3.heap.size, 0, none⟩) 1 1 _ rfl (Rd.cell3 (cell_new W3 _ _ _ _ _ rfl rfl) (cell_new W3 _ _ _ _ _ rfl rfl) (cell_new W3 _ _ _ _ _ rfl rfl)) (by simp [Value.oneCell']) (by omega) (maxLen_le (by omega)) (by simp; omega) ?_); intro A5 c5 w5 hown5 hg5 hat5; have e5c := ((HK3.out.after (by go_grown)).grow (base := 0) (HK3.out.after (by go_grown)).og hg5 0 undef).2.2.2; have e5d := block_cell e5c (i := 1) rfl; have e5f := block_free e5c (i := 1))
                    go_roundw
                    case rel =>
                      have hfin := (HK3.out.after (by go_grown)).gate g2 hg5 (by simpa [gcells] using hown5)
                      have hl5 : (gr ++ [g2]).length ≤ i + 1 := by simp; omega
                      have hl6 : (num.set i (gr.length : Int)).length = gs.length := by rw [List.length_set]; exact HNL2.out
                      (repeat apply Exists.intro)
                      exact ⟨⟨i + 1, num.set i gr.length, gr ++ [g2], A5, c5, by omega, by go_num, HG2.out, hl6, hl5, hfin⟩, rfl⟩
                    case measure => simp [intOf]; omega
                  · have e4 : (g.k == 4) = false := beq_eq_false_iff_ne.2 h4
                    have e5 : (g.k == 5) = false := beq_eq_false_iff_ne.2 h5
                    have hren : ren (num.set i gr.length) g = g := by unfold ren; rw [if_neg h4, if_neg h5]
                    have hr := HR.out
                    rw [hren] at hr
                    have HG2 := hid hr
                    clear hren hr h4 h5
                    obtain ⟨g2, rfl⟩ : ∃ g2, g2 = g := ⟨_, rfl⟩
                    go_upto_region 30 with (fail)
                    refine wp_gen fun W3 hW3 => ?_
                    have hK3 : Kept w wn W3 need inb (num.set i gr.length) gr Ag cg [] none 0 [] none 0 := by rw [hW3]; exact HKW.out
                    have hB3 : W3.heap[wr.heap.size]? = some (.cells #[.int .i64 g2.k, .int .i64 g2.a, .int .i64 g2.b] 45 (0, 0)) := by
                      rw [hW3]
                      exact HBW.out
                    have z0 := block_cell hB3 (i := 0) rfl
                    have z1 := block_cell hB3 (i := 1) rfl
                    have z2 := block_cell hB3 (i := 2) rfl
                    obtain ⟨-, y1, -, -, yl, y2, -, -⟩ := hK3.cells
                    have hrs3 : wr.heap.size < W3.heap.size := lt_of_block hB3
                    have HK3 := hid hK3
                    clear hW3 hK3 hB3
                    go_wp2_with (at_builtin; go_must (refine wpList_append_rd _ rfl (.tmp 150) (.tmp 152) 22 rfl (wn.heap.size + 2) 45 i2 _ 3 24 Try.underlying22 hgi hx0 hx1 hx2 rfl (by omega) (.slice Ag gr.length cg) gr.length _ rfl (HK3.out.og.alloc _) _ (some ⟨W3.heap.size, 0, none⟩) 1 1 _ rfl (Rd.cell3 (cell_new W3 _ _ _ _ _ rfl rfl) (cell_new W3 _ _ _ _ _ rfl rfl) (cell_new W3 _ _ _ _ _ rfl rfl)) (by simp [Value.oneCell']) (by omega) (maxLen_le (by omega)) (by simp; omega) ?_); intro A5 c5 w5 hown5 hg5 hat5; have e5c := ((HK3.out.after (by go_grown)).grow (base := 0) (HK3.out.after (by go_grown)).og hg5 0 undef).2.2.2; have e5d := block_cell e5c (i := 1) rfl; have e5f := block_free e5c (i := 1))
                    go_roundw
                    case rel =>
                      have hfin := (HK3.out.after (by go_grown)).gate g2 hg5 (by simpa [gcells] using hown5)
                      have hl5 : (gr ++ [g2]).length ≤ i + 1 := by simp; omega
                      have hl6 : (num.set i (gr.length : Int)).length = gs.length := by rw [List.length_set]; exact HNL2.out
                      (repeat apply Exists.intro)
                      exact ⟨⟨i + 1, num.set i gr.length, gr ++ [g2], A5, c5, by omega, by go_num, HG2.out, hl6, hl5, hfin⟩, rfl⟩
                    case measure => simp [intOf]; omega
                -->>
            · obtain rfl : i = gs.length := by omega
              have hws : w.heap.size + 1 < wr.heap.size := by have := hK.hw; have := hK.cells.2.2.2.2.1; omega
              have HK := hid hK
              have HKT := hid hkt
              have HNL2 := hid hnl2
              clear hK hkt hnl2
              go_wp2_with fail
              obtain ⟨wo, rfl⟩ : ∃ wo : World, wo = wr := ⟨_, rfl⟩
              go_loopw [21, 158] (fun _ t wr => ∃ (k : Nat) (A5 : Option Addr) (c5 : Nat), k ≤ lats.length ∧ t = .int .i64 (k : Int) ∧ Kept w wn wr need inb num gr Ag cg (numsTo num lats k) A5 c5 [] none 0) (fun _ t _ => lats.length - (intOf t).toNat)
              case atStart => exact ⟨0, none, 0, Nat.zero_le _, rfl, HK.out⟩
              case round =>
                obtain ⟨k, A5, c5, hk5, rfl, hK⟩ := hrel
                obtain ⟨l5, hl5⟩ : ∃ l5, numsTo num lats k = l5 := ⟨_, rfl⟩
                have hl5n : l5.length = k := by rw [← hl5]; exact numsTo_len _ _ hk5
                rw [hl5] at hK
                have HL5 := hid hl5
                have hl5m : l5.length ≤ 1000 := by omega
                have HL5N := hid hl5n
                clear hl5 hl5n
                obtain ⟨k0, k1, k2, k3, hkl, f1, f2, f3⟩ := hK.cells
                by_cases hlt : k < lats.length
                · --<<
                  obtain ⟨b, o, x, rfl, _, hbl, HX, hc⟩ := (HL.out.keep (Keeps.of_below hK.marks.below (fun _ h => h))).get hlt
                  obtain ⟨x0, x1⟩ := HLR.out k hlt
                  rw [HX.out] at x0 x1
                  obtain ⟨X, rfl⟩ : ∃ X : Nat, x = X := ⟨x.toNat, by omega⟩
                  obtain ⟨m0, m1⟩ := hK.get (i := X) (by rw [HNL2.out]; omega)
                  have HK5 := hid hK
                  have hki : (k : Int) < lats.length := by omega
                  obtain ⟨y, hy⟩ : ∃ y, num.getD X 0 = y := ⟨_, rfl⟩
                  rw [hy] at m0
                  have HY := hid hy
                  clear hK hy
                  go_wp2_with fail
                  go_region_law
                    ((refine step_append_rd _ (by rfl) _ _ 23 (by rfl) (wn.heap.size + 2) 3 i1 _ 1 8 Try.underlying23 hi' hy0 hy1 hy2 rfl (by omega) (.slice A5 l5.length c5) l5.length _ (by rfl) (HK5.out.after (by go_grown)).ol _ (some ⟨wr.heap.size, 0, none⟩) 1 1 _ (by rfl) (Rd.cell1 (cell_new wr.drew _ _ _ _ _ rfl rfl)) (by simp [Value.oneCell']) (by omega) (maxLen_le (by omega)) (by simp; omega) ?_
                      intro A6 c6 w6 hown6 hg6 hat6
                      have e6c := ((HK5.out.after (by go_grown)).grow (base := 0) (HK5.out.after (by go_grown)).ol hg6 0 undef).2.2.2
                      have e6d := block_cell e6c (i := 2) rfl
                      have e6f := block_free e6c (i := 2)))
                  all_goals
                    have hfin := (HK5.out.after (by go_grown)).lat y hg6 (by simpa using hown6) hat6
                    have HF := hid hfin
                    clear hfin hown6 hg6 hat6 e6c e6d e6f
                    go_wp2_with fail
                    go_roundw
                    case rel =>
                      have hn6 : numsTo num lats (k + 1) = l5 ++ [y] := by rw [numsTo_succ _ _ hlt, HL5.out, HX.out, Int.toNat_natCast, HY.out]
                      have hf := HF.out
                      rw [← hn6] at hf
                      (repeat apply Exists.intro)
                      exact ⟨⟨k + 1, A6, c6, by omega, by go_num, hf⟩, rfl⟩
                    case measure => simp [intOf]; omega
                  -->>
                · obtain rfl : k = lats.length := by omega
                  have HK5 := hid hK
                  have hws5 : w.heap.size + 1 < wr.heap.size := by have := hK.hw; omega
                  clear hK
                  go_wp2_with fail
                  obtain ⟨wo2, rfl⟩ : ∃ wo2 : World, wo2 = wr := ⟨_, rfl⟩
                  obtain ⟨A4, rfl⟩ : ∃ A4 : Option Addr, A4 = A5 := ⟨_, rfl⟩
                  obtain ⟨c4, rfl⟩ : ∃ c4 : Nat, c4 = c5 := ⟨_, rfl⟩
                  obtain ⟨l4, rfl⟩ : ∃ l4 : List Int, l4 = l5 := ⟨_, rfl⟩
                  go_loopw [23, 174] (fun _ t wr => ∃ (k : Nat) (A5 : Option Addr) (c5 : Nat), k ≤ outs.length ∧ t = .int .i64 (k : Int) ∧ Kept w wn wr need inb num gr Ag cg l4 A4 c4 (numsTo num outs k) A5 c5) (fun _ t _ => outs.length - (intOf t).toNat)
                  case atStart => exact ⟨0, none, 0, Nat.zero_le _, rfl, HK5.out⟩
                  case round =>
                    obtain ⟨k, A5, c5, hk5, rfl, hK⟩ := hrel
                    obtain ⟨l5, hl5⟩ : ∃ l5, numsTo num outs k = l5 := ⟨_, rfl⟩
                    have hl5n : l5.length = k := by rw [← hl5]; exact numsTo_len _ _ hk5
                    rw [hl5] at hK
                    have HL6 := hid hl5
                    have hl5m : l5.length ≤ 1000 := by omega
                    have HL6N := hid hl5n
                    clear hl5 hl5n
                    obtain ⟨k0, k1, k2, k3, hkl, f1, f2, f3⟩ := hK.cells
                    by_cases hlt : k < outs.length
                    · --<<
                      obtain ⟨b, o, x, rfl, _, hbl, HX, hc⟩ := (HO.out.keep (Keeps.of_below hK.marks.below (fun _ h => h))).get hlt
                      obtain ⟨x0, x1⟩ := HOR.out k hlt
                      rw [HX.out] at x0 x1
                      obtain ⟨X, rfl⟩ : ∃ X : Nat, x = X := ⟨x.toNat, by omega⟩
                      obtain ⟨m0, m1⟩ := hK.get (i := X) (by rw [HNL2.out]; omega)
                      have HK5 := hid hK
                      have hki : (k : Int) < outs.length := by omega
                      obtain ⟨y, hy⟩ : ∃ y, num.getD X 0 = y := ⟨_, rfl⟩
                      rw [hy] at m0
                      have HY := hid hy
                      clear hK hy
                      go_wp2_with fail
                      go_region_law
                        ((refine step_append_rd _ (by rfl) _ _ 23 (by rfl) (wn.heap.size + 2) 3 i1 _ 1 8 Try.underlying23 hi' hy0 hy1 hy2 rfl (by omega) (.slice A5 l5.length c5) l5.length _ (by rfl) (HK5.out.after (by go_grown)).oo _ (some ⟨wr.heap.size, 0, none⟩) 1 1 _ (by rfl) (Rd.cell1 (cell_new wr.drew _ _ _ _ _ rfl rfl)) (by simp [Value.oneCell']) (by omega) (maxLen_le (by omega)) (by simp; omega) ?_
                          intro A6 c6 w6 hown6 hg6 hat6
                          have e6c := ((HK5.out.after (by go_grown)).grow (base := 0) (HK5.out.after (by go_grown)).oo hg6 0 undef).2.2.2
                          have e6d := block_cell e6c (i := 3) rfl
                          have e6f := block_free e6c (i := 3)))
                      all_goals
                        have hfin := (HK5.out.after (by go_grown)).out y hg6 (by simpa using hown6) hat6
                        have HF := hid hfin
                        clear hfin hown6 hg6 hat6 e6c e6d e6f
                        go_wp2_with fail
                        go_roundw
                        case rel =>
                          have hn6 : numsTo num outs (k + 1) = l5 ++ [y] := by rw [numsTo_succ _ _ hlt, HL6.out, HX.out, Int.toNat_natCast, HY.out]
                          have hf := HF.out
                          rw [← hn6] at hf
                          (repeat apply Exists.intro)
                          exact ⟨⟨k + 1, A6, c6, by omega, by go_num, hf⟩, rfl⟩
                        case measure => simp [intOf]; omega
                      -->>
                    · obtain rfl : k = outs.length := by omega
                      have r0 := block_cell hK.marks.res (i := 0) rfl
                      have r1 := block_cell hK.marks.res (i := 1) rfl
                      have r2 := block_cell hK.marks.res (i := 2) rfl
                      have r3 := block_cell hK.marks.res (i := 3) rfl
                      have q0 := block_free hK.marks.res (i := 0)
                      have q1 := block_free hK.marks.res (i := 1)
                      have q2 := block_free hK.marks.res (i := 2)
                      have q3 := block_free hK.marks.res (i := 3)
                      have HK6 := hid hK
                      clear hK
                      go_wp2_with fail
                      refine bodyPost_gen fun W hW => ?_
                      have hb : W.heap[w.heap.size]? = some (.cells #[.int .i64 inb, .slice Ag gr.length cg, .slice A4 l4.length c4, .slice A5 l5.length c5] 25 (0, 0)) := by
                        rw [hW, set_block (set_block (set_block (set_block HK6.out.marks.res _) _) _) _]
                        rfl
                      have p0 := block_cell hb (i := 0) rfl
                      have p1 := block_cell hb (i := 1) rfl
                      have p2 := block_cell hb (i := 2) rfl
                      have p3 := block_cell hb (i := 3) rfl
                      have hbw : Below w.heap.size w W := by
                        rw [hW]
                        exact (((HK6.out.marks.below.setCell (p := ⟨w.heap.size, 0, none⟩) (Nat.le_refl _) _).setCell (p := ⟨w.heap.size, 1, none⟩) (Nat.le_refl _) _).setCell (p := ⟨w.heap.size, 2, none⟩) (Nat.le_refl _) _).setCell (p := ⟨w.heap.size, 3, none⟩) (Nat.le_refl _) _
                      have key : ∀ b, b ≠ w.heap.size → W.heap[b]? = wr.heap[b]? := fun b hb => by
                        rw [hW, Below.heap_setCell _ _ _ _ hb, Below.heap_setCell _ _ _ _ hb, Below.heap_setCell _ _ _ _ hb, Below.heap_setCell _ _ _ _ hb]
                      have hws6 := HK6.out.hw
                      have og := own_agree HK6.out.og fun b e => key b (by have := (HK6.out.og.lt b e.symm).1; omega)
                      have ol := own_agree HK6.out.ol fun b e => key b (by have := (HK6.out.ol.lt b e.symm).1; omega)
                      have oo := own_agree HK6.out.oo fun b e => key b (by have := (HK6.out.oo.lt b e.symm).1; omega)
                      have hkt := HKT.out
                      have e1 : num = (keepTo gs need gs.length).1 := by rw [← hkt]
                      have e2 : gr = (keepTo gs need gs.length).2 := by rw [← hkt]
                      have hu : usedC gs inb lats outs = ⟨inb, gr, l4, l5⟩ := by
                        unfold usedC
                        rw [← HN3.out, ← e1, ← e2, HL5.out, HL6.out]
                      have hrd : RdC W (fun b => w.heap.size ≤ b) (.agg #[.int .i64 inb, .slice Ag gr.length cg, .slice A4 l4.length c4, .slice A5 l5.length c5]) (usedC gs inb lats outs) := by
                        rw [hu]
                        exact ⟨Ag, cg, A4, c4, A5, c5, rfl, Rd.own og (by show gr.length ≤ _; omega) (fun g hg => by omega), Rd.own ol (by show l4.length ≤ _; omega) (fun g hg => by omega), Rd.own oo (by show l5.length ≤ _; omega) (fun g hg => by omega)⟩
                      clear hW hb key og ol oo hkt e1 e2 hu
                      exact bodyPost_ret (v := .agg #[.int .i64 inb, .slice Ag gr.length cg, .slice A4 l4.length c4, .slice A5 l5.length c5]) (by simp [results, Try.results43, go_sem, p0, p1, p2, p3]) rfl ⟨_, rfl, hbw, hrd⟩
        · have hk1 : ((i + 1 : Nat) : Int) - 1 = (i : Int) := by omega
          rw [hk1]
          have hig : i < gs.length := by omega
          obtain ⟨b, o, g, rfl, _, hbl, HX, h0, h1, h2⟩ := (HRG.out.keep (Keeps.of_below hM.below (fun _ h => h))).get hig
          obtain ⟨n0, n1⟩ := hM.get (i := i) (by omega)
          obtain ⟨v, hv⟩ : ∃ v, need.getD i false = v := ⟨_, rfl⟩
          rw [hv] at n0
          have HV := hid hv
          have HM3 := hid hM
          have hok := HOK.out i hig
          rw [HX.out] at hok
          have HOK2 := hid hok
          have hii : (i : Int) < gs.length := by omega
          have hi0 : (i : Int) ≥ 0 := by omega
          clear hM hnd hnl hv hok hk1
          cases v
          · have HST : Hid (needStep gs need i = need) := hid (by unfold needStep; rw [HV.out]; rw [if_neg (fun h => Bool.noConfusion h.1)])
            go_wp2_with fail
            go_roundw
            case rel => exact ⟨i, need, by omega, by go_num, by have := HND.out; rw [needDown, HST.out] at this; exact this, HNL.out, by exact HM3.out.after (by go_grown)⟩
            case measure => simp [intOf]
          · --<<
            by_cases hk45 : g.k = 4 ∨ g.k = 5
            · obtain ⟨a, b2, ha, hb2, hal, hbl2⟩ : ∃ a b2 : Nat, g.a = a ∧ g.b = b2 ∧ a < gs.length ∧ b2 < gs.length := by
                have hrg := gateB_range HOK2.out
                rcases hk45 with h4 | h5
                · have := hrg.1 h4
                  exact ⟨g.a.toNat, g.b.toNat, by omega, by omega, by omega, by omega⟩
                · have h0 := hrg.2 h5
                  have hb0 := gate5_b HOK2.out h5
                  exact ⟨g.a.toNat, 0, by omega, by omega, by omega, by omega⟩
              have hal2 : (a : Int) < gs.length := by omega
              have hbl3 : (b2 : Int) < gs.length := by omega
              obtain ⟨m0, m1⟩ := HM3.out.get (i := a) (by rw [HNL.out]; exact hal)
              obtain ⟨f4, hf4⟩ : ∃ f, decide (g.k = 4) = f := ⟨_, rfl⟩
              have HST : Hid (needStep gs need i = (need.set a true).set b2 ((need.set a true).getD b2 false || f4)) := hid (by
                unfold needStep
                rw [HX.out, HV.out, if_pos ⟨rfl, hk45⟩, ha, hb2, hf4, Int.toNat_natCast, Int.toNat_natCast])
              have HML : Hid (need.length = gs.length) := HNL
              rw [ha] at h1
              rw [hb2] at h2
              have HA := hid ha
              have HB := hid hb2
              have HF4 := hid hf4
              have HAL := hid hal
              have HBL := hid hbl2
              clear ha hb2 hal hbl2
              rcases hk45 with h4 | h5
              · have e4 : (g.k == 4) = true := beq_iff_eq.2 h4
                obtain rfl : f4 = true := by rw [← hf4]; exact decide_eq_true h4
                clear hf4 h4
                go_upto_region 17 with (fail)
                refine wp_gen fun W hW => ?_
                have hMW : Marked w W (need.set a true) := by
                  rw [hW]
                  first
                    | exact (HM3.out.set a true).after (by go_grown)
                    | exact (HM3.out.after (by go_grown)).set a true
                have hBW : Box W wr.heap.size #[.int .i64 g.k, .int .i64 a, .int .i64 b2] := by
                  rw [hW]
                  first
                    | exact Box.new _ _ _ (by simp)
                    | exact (Box.new _ _ _ rfl).set (by simp; omega) _
                have z0 := hBW 0 _ rfl
                have z1 := hBW 1 _ rfl
                have z2 := hBW 2 _ rfl
                have hWs : w.heap.size + 1 < W.heap.size := lt_of_block hMW.row
                have hrs : wr.heap.size < W.heap.size := World.block_lt_of_cell? W _ z0
                obtain ⟨q0, q1⟩ := hMW.get (i := b2) (by rw [List.length_set, HML.out]; exact HBL.out)
                obtain ⟨v2, hv2⟩ : ∃ v, (need.set a true).getD b2 false = v := ⟨_, rfl⟩
                rw [hv2] at q0
                have HV2 := hid hv2
                have HMW := hid hMW
                clear hW hMW hBW hv2
                cases v2
                all_goals
                  go_still_tail 14, (by kernel_rfl)
                  simp only [World.drew_eq]
                  go_wp2_with fail
                  go_roundw
                  case rel =>
                    have hd2 := HND.out
                    rw [needDown] at hd2
                    have hn2 : (needStep gs need i).length = gs.length := by rw [needStep_len]; exact HML.out
                    (repeat apply Exists.intro)
                    refine ⟨⟨i, needStep gs need i, by omega, by go_num, hd2, hn2, ?_⟩, rfl⟩
                    rw [HST.out, HV2.out]
                    exact (HMW.out.set b2 _).drew
                  case measure => simp [intOf]
              · have e4 : (g.k == 4) = false := by rw [h5]; rfl
                have e5 : (g.k == 5) = true := beq_iff_eq.2 h5
                obtain rfl : f4 = false := by rw [← hf4, h5]; rfl
                clear hf4 h5
                go_upto_region 17 with (fail)
                refine wp_gen fun W hW => ?_
                have hMW : Marked w W (need.set a true) := by
                  rw [hW]
                  first
                    | exact (HM3.out.set a true).after (by go_grown)
                    | exact (HM3.out.after (by go_grown)).set a true
                have hBW : Box W wr.heap.size #[.int .i64 g.k, .int .i64 a, .int .i64 b2] := by
                  rw [hW]
                  first
                    | exact Box.new _ _ _ (by simp)
                    | exact (Box.new _ _ _ rfl).set (by simp; omega) _
                have z0 := hBW 0 _ rfl
                have z1 := hBW 1 _ rfl
                have z2 := hBW 2 _ rfl
                have hWs : w.heap.size + 1 < W.heap.size := lt_of_block hMW.row
                have hrs : wr.heap.size < W.heap.size := World.block_lt_of_cell? W _ z0
                obtain ⟨q0, q1⟩ := hMW.get (i := b2) (by rw [List.length_set, HML.out]; exact HBL.out)
                obtain ⟨v2, hv2⟩ : ∃ v, (need.set a true).getD b2 false = v := ⟨_, rfl⟩
                rw [hv2] at q0
                have HV2 := hid hv2
                have HMW := hid hMW
                clear hW hMW hBW hv2
                cases v2
                all_goals
                  go_still_tail 14, (by kernel_rfl)
                  simp only [World.drew_eq]
                  go_wp2_with fail
                  go_roundw
                  case rel =>
                    have hd2 := HND.out
                    rw [needDown] at hd2
                    have hn2 : (needStep gs need i).length = gs.length := by rw [needStep_len]; exact HML.out
                    (repeat apply Exists.intro)
                    refine ⟨⟨i, needStep gs need i, by omega, by go_num, hd2, hn2, ?_⟩, rfl⟩
                    rw [HST.out, HV2.out]
                    exact (HMW.out.set b2 _).drew
                  case measure => simp [intOf]
            · have h4 : g.k ≠ 4 := fun h => hk45 (.inl h)
              have h5 : g.k ≠ 5 := fun h => hk45 (.inr h)
              have e4 : (g.k == 4) = false := beq_eq_false_iff_ne.2 h4
              have e5 : (g.k == 5) = false := beq_eq_false_iff_ne.2 h5
              have HST : Hid (needStep gs need i = need) := hid (by unfold needStep; rw [HX.out, if_neg (fun h => hk45 h.2)])
              clear h4 h5 hk45
              go_wp2_with fail
              go_roundw
              case rel => exact ⟨i, need, by omega, by go_num, by have := HND.out; rw [needDown, HST.out] at this; exact this, HNL.out, by exact HM3.out.after (by go_grown)⟩
              case measure => simp [intOf]
            -->>
end Go.Proofs.Ytfabdpnjjondaaa
