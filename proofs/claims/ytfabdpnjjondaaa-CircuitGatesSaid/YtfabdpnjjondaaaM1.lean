/-
  Walk of moved.
-/
import Derived.Test.YtfabdpnjjondaaaL1
import Derived.Test.YtfabdpnjjondaaaP8
import Derived.Deep.DeepMust
set_option linter.unusedVariables false
set_option linter.unusedSimpArgs false
namespace Go.Proofs.Ytfabdpnjjondaaa
open Go.RowKit
attribute [local go_sem] cell_alloc_old

theorem build_mv (x : Int) (A : Option Addr) (n c : Nat) (w : World) : (Instr.build 25 #[(0, .int .i64 x), (1, .slice A n c)]).run Try.prog w = .ok (.agg #[.int .i64 x, .slice A n c, .slice none 0 0, .slice none 0 0]) w := run_build w 25 _ _ (by kernel_rfl)
attribute [local go_sem] build_mv

/-- The circuit while moved makes it: block b. -/
structure Mv (w wr : World) (b : Nat) (cs : Array Value) (inb : Int) (gr : GS) (Ag : Option Addr) (cg : Nat) (lr : List Int) (Al : Option Addr) (cl : Nat) (outr : List Int) (Ao : Option Addr) (co : Nat) : Prop where
  below : Below w.heap.size w wr
  hb : w.heap.size + 3 ≤ b
  box : wr.heap[w.heap.size]? = some (.cells cs 25 (0, 0))
  res : wr.heap[w.heap.size + 2]? = some (.cells #[.int .i64 0, .slice none 0 0, .slice none 0 0, .slice none 0 0] 25 (0, 0))
  cir : wr.heap[b]? = some (.cells #[.int .i64 inb, .slice Ag gr.length cg, .slice Al lr.length cl, .slice Ao outr.length co] 25 (0, 0))
  og : wr.ownsRow w.heap.size 45 3 (.slice Ag gr.length cg) gr.length (gr.flatMap gcells)
  ol : wr.ownsRow w.heap.size 3 1 (.slice Al lr.length cl) lr.length (lr.map (.int .i64))
  oo : wr.ownsRow w.heap.size 3 1 (.slice Ao outr.length co) outr.length (outr.map (.int .i64))
  dis : ∀ b, some b = (Value.slice Al lr.length cl).ownBlock → some b ≠ (Value.slice Ao outr.length co).ownBlock
section
variable {w wr w5 : World} {b : Nat} {cs : Array Value} {inb : Int} {gr : GS} {Ag A5 : Option Addr} {cg c5 : Nat} {lr : List Int} {Al : Option Addr} {cl : Nat} {outr : List Int} {Ao : Option Addr} {co : Nat}
theorem Mv.after {wr' : World} (h : Mv w wr b cs inb gr Ag cg lr Al cl outr Ao co) (hb : Below wr.heap.size wr wr') : Mv w wr' b cs inb gr Ag cg lr Al cl outr Ao co :=
  ⟨h.below.trans (hb.mono h.below.size), h.hb, (hb.block _ (lt_of_block h.box)).trans h.box, (hb.block _ (lt_of_block h.res)).trans h.res, (hb.block _ (lt_of_block h.cir)).trans h.cir, own_below h.og hb, own_below h.ol hb, own_below h.oo hb, h.dis⟩
theorem Mv.cells (h : Mv w wr b cs inb gr Ag cg lr Al cl outr Ao co) : wr.cell? ⟨b, 0, none⟩ = some (.int .i64 inb) ∧ wr.cell? ⟨b, 1, none⟩ = some (.slice Ag gr.length cg) ∧
    wr.cell? ⟨b, 2, none⟩ = some (.slice Al lr.length cl) ∧ wr.cell? ⟨b, 3, none⟩ = some (.slice Ao outr.length co) ∧ b < wr.heap.size ∧
    wr.frozen? ⟨b, 1, none⟩ = false ∧ wr.frozen? ⟨b, 2, none⟩ = false ∧ wr.frozen? ⟨b, 3, none⟩ = false :=
  ⟨block_cell h.cir rfl, block_cell h.cir rfl, block_cell h.cir rfl, block_cell h.cir rfl, lt_of_block h.cir, block_free h.cir, block_free h.cir, block_free h.cir⟩
theorem Mv.grow {base n size : Nat} {e : TypeId} {v : Value} {xs : List Value} (h : Mv w wr b cs inb gr Ag cg lr Al cl outr Ao co) (ho : wr.ownsRow w.heap.size e size v n xs) (he : e ≠ 25) (hg : wr.grownBy w5 v.ownBlock) (j : Nat) (u : Value) :
    (∀ k, k ≠ b → k < wr.heap.size → some k ≠ v.ownBlock → (w5.setCell ⟨b, j, none⟩ u).heap[k]? = wr.heap[k]?) ∧ Below w.heap.size w (w5.setCell ⟨b, j, none⟩ u) ∧
      (w5.setCell ⟨b, j, none⟩ u).heap[w.heap.size]? = some (.cells cs 25 (0, 0)) ∧ (w5.setCell ⟨b, j, none⟩ u).heap[w.heap.size + 2]? = some (.cells #[.int .i64 0, .slice none 0 0, .slice none 0 0, .slice none 0 0] 25 (0, 0)) ∧
      w5.heap[b]? = some (.cells #[.int .i64 inb, .slice Ag gr.length cg, .slice Al lr.length cl, .slice Ao outr.length co] 25 (0, 0)) := by
  have hb := h.hb
  have hs := lt_of_block h.cir
  have key : ∀ k, k ≠ b → k < wr.heap.size → some k ≠ v.ownBlock → (w5.setCell ⟨b, j, none⟩ u).heap[k]? = wr.heap[k]? := fun k h1 h2 h3 => by
    rw [Below.heap_setCell _ _ _ _ h1]
    exact hg.block k h2 h3
  refine ⟨key, Below.setCell (Below.grown h.below hg h.below.size (fun k hk => (ho.lt k hk).1)) (by simp; omega) _, (key _ (by omega) (by omega) (fun e => own_ne ho h.box he e.symm)).trans h.box, (key _ (by omega) (by omega) (fun e => own_ne ho h.res he e.symm)).trans h.res,
    (hg.block _ hs (fun e => own_ne ho h.cir he e.symm)).trans h.cir⟩
theorem Mv.gate (h : Mv w wr b cs inb gr Ag cg lr Al cl outr Ao co) (g : Gt) (hg : wr.grownBy w5 (Value.slice Ag gr.length cg).ownBlock)
    (hown : w5.ownsRow w.heap.size 45 3 (.slice A5 (gr.length + 1) c5) (gr.length + 1) (gr.flatMap gcells ++ gcells g)) :
    Mv w (w5.setCell ⟨b, 1, none⟩ (.slice A5 (gr.length + 1) c5)) b cs inb (gr ++ [g]) A5 c5 lr Al cl outr Ao co := by
  have hl : (gr ++ [g]).length = gr.length + 1 := by simp
  obtain ⟨key, hbw, hx, hr, hc⟩ := h.grow (base := 0) h.og (by decide) hg 1 (.slice A5 (gr.length + 1) c5)
  refine ⟨hbw, h.hb, hx, hr, by rw [hl]; exact set_block hc _, ?_, own_agree h.ol fun k e => key k (fun x => own_ne h.ol h.cir (by decide) (by rw [← e, x])) (h.ol.lt k e.symm).2 (own_apart h.ol h.og (by decide) e), own_agree h.oo fun k e => key k (fun x => own_ne h.oo h.cir (by decide) (by rw [← e, x])) (h.oo.lt k e.symm).2 (own_apart h.oo h.og (by decide) e), h.dis⟩
  rw [hl, List.flatMap_append]
  refine ownsRow_setCell_other ?_ (own_ne hown hc (by decide)) _
  simpa using hown
theorem Mv.lat (h : Mv w wr b cs inb gr Ag cg lr Al cl outr Ao co) (x : Int) (hg : wr.grownBy w5 (Value.slice Al lr.length cl).ownBlock)
    (hown : w5.ownsRow w.heap.size 3 1 (.slice A5 (lr.length + 1) c5) (lr.length + 1) (lr.map (.int .i64) ++ [.int .i64 x]))
    (hat : (Value.slice A5 (lr.length + 1) c5).ownBlock = (Value.slice Al lr.length cl).ownBlock ∨ (Value.slice A5 (lr.length + 1) c5).ownBlock = some wr.heap.size) :
    Mv w (w5.setCell ⟨b, 2, none⟩ (.slice A5 (lr.length + 1) c5)) b cs inb gr Ag cg (lr ++ [x]) A5 c5 outr Ao co := by
  have hl : (lr ++ [x]).length = lr.length + 1 := by simp
  obtain ⟨key, hbw, hx, hr, hc⟩ := h.grow (base := 0) h.ol (by decide) hg 2 (.slice A5 (lr.length + 1) c5)
  refine ⟨hbw, h.hb, hx, hr, by rw [hl]; exact set_block hc _, own_agree h.og fun k e => key k (fun x => own_ne h.og h.cir (by decide) (by rw [← e, x])) (h.og.lt k e.symm).2 (own_apart h.og h.ol (by decide) e), ?_, own_agree h.oo fun k e => key k (fun x => own_ne h.oo h.cir (by decide) (by rw [← e, x])) (h.oo.lt k e.symm).2 (fun e2 => h.dis k e2 e), fun k e => ?_⟩
  · rw [hl, List.map_append]
    exact ownsRow_setCell_other hown (own_ne hown hc (by decide)) _
  · rw [hl] at e
    rcases hat with h1 | h1
    · exact h.dis k (e.trans h1)
    · rw [h1] at e
      injection e with e
      intro e2
      have := (h.oo.lt k e2.symm).2
      omega
theorem Mv.out (h : Mv w wr b cs inb gr Ag cg lr Al cl outr Ao co) (x : Int) (hg : wr.grownBy w5 (Value.slice Ao outr.length co).ownBlock)
    (hown : w5.ownsRow w.heap.size 3 1 (.slice A5 (outr.length + 1) c5) (outr.length + 1) (outr.map (.int .i64) ++ [.int .i64 x]))
    (hat : (Value.slice A5 (outr.length + 1) c5).ownBlock = (Value.slice Ao outr.length co).ownBlock ∨ (Value.slice A5 (outr.length + 1) c5).ownBlock = some wr.heap.size) :
    Mv w (w5.setCell ⟨b, 3, none⟩ (.slice A5 (outr.length + 1) c5)) b cs inb gr Ag cg lr Al cl (outr ++ [x]) A5 c5 := by
  have hl : (outr ++ [x]).length = outr.length + 1 := by simp
  obtain ⟨key, hbw, hx, hr, hc⟩ := h.grow (base := 0) h.oo (by decide) hg 3 (.slice A5 (outr.length + 1) c5)
  refine ⟨hbw, h.hb, hx, hr, by rw [hl]; exact set_block hc _, own_agree h.og fun k e => key k (fun x => own_ne h.og h.cir (by decide) (by rw [← e, x])) (h.og.lt k e.symm).2 (own_apart h.og h.oo (by decide) e), own_agree h.ol fun k e => key k (fun x => own_ne h.ol h.cir (by decide) (by rw [← e, x])) (h.ol.lt k e.symm).2 (h.dis k e), ?_, fun k e => ?_⟩
  · rw [hl, List.map_append]
    exact ownsRow_setCell_other hown (own_ne hown hc (by decide)) _
  · rw [hl]
    rcases hat with h1 | h1
    · rw [h1]; exact h.dis k e
    · rw [h1]
      intro e2
      injection e2 with e2
      have := (h.ol.lt k e.symm).2
      omega
end

set_option maxRecDepth 100000 in
set_option maxHeartbeats 4000000 in
theorem moved_any {D : Dom} (w : World) (v : Value) (c : Cir) (g : Gt) (h : RdC w D v c) (hv : VC c) (hf : c.gates.length ≤ 60) :
    Calls Try.prog 23 #[v, .agg #[.int .i64 g.k, .int .i64 g.a, .int .i64 g.b]] w fun e w' => ∃ (Ag : Option Addr) (cg : Nat) (Al : Option Addr) (cl : Nat) (Ao : Option Addr) (co : Nat),
      e = .returned (.agg #[.int .i64 c.ib, .slice Ag (movedC c g).gates.length cg, .slice Al (movedC c g).lat.length cl, .slice Ao (movedC c g).outs.length co]) ∧ Below w.heap.size w w' ∧
      w'.ownsRow w.heap.size 45 3 (.slice Ag (movedC c g).gates.length cg) (movedC c g).gates.length ((movedC c g).gates.flatMap gcells) ∧
      w'.ownsRow w.heap.size 3 1 (.slice Al (movedC c g).lat.length cl) (movedC c g).lat.length ((movedC c g).lat.map (.int .i64)) ∧
      w'.ownsRow w.heap.size 3 1 (.slice Ao (movedC c g).outs.length co) (movedC c g).outs.length ((movedC c g).outs.map (.int .i64)) ∧
      ∀ b, some b = (Value.slice Al (movedC c g).lat.length cl).ownBlock → some b ≠ (Value.slice Ao (movedC c g).outs.length co).ownBlock := by
  obtain ⟨i1, hi', hy0, hy1, hy2⟩ := info_parts int_info
  have hy2' : i1.bytes = 8 := hy2
  obtain ⟨i2, hgi, hx0, hx1, hx2⟩ := info_parts gate_info
  have hx2' : i2.bytes = 24 := hx2
  have HV := hid h.old
  obtain ⟨Ag0, cg0, Al0, cl0, Ao0, co0, rfl, hg0, hl0, ho0⟩ := h
  have HG0 := hid hg0.old
  have HL0 := hid hl0.old
  have HO0 := hid ho0.old
  have HVC := hid hv
  have hl12 : c.lat.length ≤ 12 := hv.l
  have ho6 : c.outs.length ≤ 6 := hv.o
  clear hg0 hl0 ho0 hv
  go_enter Try.func23, Try.ntmps23
  go_wp2_with fail
  obtain ⟨b, hbeq⟩ : ∃ b, b = w.heap.size + 1 + 1 + 1 + 1 := ⟨_, rfl⟩
  refine wp_gen fun W hW => ?_
  have hM0 : Mv w W b #[.int .i64 c.ib, .slice Ag0 c.gates.length cg0, .slice Al0 c.lat.length cl0, .slice Ao0 c.outs.length co0] c.ib [g] (some ⟨w.heap.size + 1 + 1 + 1, 0, none⟩) 1 [] none 0 [] none 0 := by
    rw [hbeq]
    have b3 : W.heap[w.heap.size + 1 + 1 + 1]? = some (.cells #[.int .i64 g.k, .int .i64 g.a, .int .i64 g.b] 45 (0, 0)) := by rw [hW]; (repeat (first | (refine at_new _ _ _ ?_; (simp only [World.size_alloc]; done)) | (refine (at_old _ _ _ ?_).trans ?_; (simp only [World.size_alloc]; omega))))
    refine ⟨by rw [hW]; go_grown, by omega, by rw [hW]; (repeat (first | (refine at_new _ _ _ ?_; (simp only [World.size_alloc]; done)) | (refine (at_old _ _ _ ?_).trans ?_; (simp only [World.size_alloc]; omega)))), by rw [hW]; (repeat (first | (refine at_new _ _ _ ?_; (simp only [World.size_alloc]; done)) | (refine (at_old _ _ _ ?_).trans ?_; (simp only [World.size_alloc]; omega)))), by rw [hW]; (repeat (first | (refine at_new _ _ _ ?_; (simp only [World.size_alloc]; done)) | (refine (at_old _ _ _ ?_).trans ?_; (simp only [World.size_alloc]; omega)))), ⟨rfl, .inr ⟨_, 1, _, rfl, by omega, b3, by simp, by decide, by simp, by simp [gcells]⟩⟩, ⟨rfl, .inl ⟨rfl, rfl⟩⟩, ⟨rfl, .inl ⟨rfl, rfl⟩⟩, fun b hb => by cases hb⟩
  rw [← hbeq]
  have HM0 := hid hM0
  clear hW hM0 hbeq
  go_loopw [6, 7] (fun t _ wr => ∃ (i : Nat) (gr : GS) (Ag : Option Addr) (cg : Nat), i ≤ c.gates.length ∧ t = .int .i64 (i : Int) ∧ gr = g :: (c.gates.take i).map shiftG ∧ gr.length = i + 1 ∧
    Mv w wr b #[.int .i64 c.ib, .slice Ag0 c.gates.length cg0, .slice Al0 c.lat.length cl0, .slice Ao0 c.outs.length co0] c.ib gr Ag cg [] none 0 [] none 0) (fun t _ _ => c.gates.length - (intOf t).toNat)
  case atStart => exact ⟨0, [g], _, _, Nat.zero_le _, rfl, rfl, rfl, HM0.out⟩
  case round =>
    obtain ⟨i, gr, Ag, cg, hi, rfl, hgr, hgl, hM⟩ := hrel
    have HM := hid hM
    have HGR := hid hgr
    have HGL := hid hgl
    have x1 := block_cell hM.box (i := 1) rfl
    have x2 := block_cell hM.box (i := 2) rfl
    have hxb : w.heap.size < wr.heap.size := lt_of_block hM.box
    have hgl2 : gr.length ≤ 61 := by omega
    obtain ⟨m0, m1, m2, m3, mb, f1, f2, f3⟩ := hM.cells
    clear hgr hgl
    by_cases hlt : i < c.gates.length
    · --<<
      obtain ⟨b1, o1, x, rfl, _, hbl, HX, h0, h1, h2⟩ := (HG0.out.keep (Keeps.of_below hM.below (fun _ h => h))).get hlt
      have hok := HVC.out.ok i hlt
      rw [HX.out] at hok
      have hii : (i : Int) < c.gates.length := by omega
      have hrg := gateB_range hok
      clear hok hM
      by_cases k4 : x.k = 4
      · have e4 : (x.k == 4) = true := beq_iff_eq.2 k4
        have r4 := hrg.1 k4
        have ha1 : 0 ≤ x.a := r4.1
        have ha2 : x.a ≤ 60 := by omega
        have hb1 : 0 ≤ x.b := by omega
        have hb2 : x.b ≤ 60 := by omega
        obtain ⟨g2, hg2⟩ : ∃ g2 : Gt, g2 = ⟨4, x.a + 1, x.b + 1⟩ := ⟨_, rfl⟩
        have HSH : Hid (shiftG x = g2) := hid (by unfold shiftG; rw [if_pos k4, hg2])
        have HG2 := hid hg2
        have HK := hid k4
        clear hrg r4 hg2 k4
        go_upto_region 10 with (fail)
        refine wp_gen fun W3 hW3 => ?_
        have hbw3 : Below wr.heap.size wr W3 := by
          rw [hW3]
          go_grown
        have hB3 : W3.heap[wr.heap.size]? = some (.cells #[.int .i64 g2.k, .int .i64 g2.a, .int .i64 g2.b] 45 (0, 0)) := by
          rw [hW3]
          rw [heap_alloc_new, HG2.out, HK.out]
        have hM3 := HM.out.after hbw3
        have z0 := block_cell hB3 (i := 0) rfl
        have z1 := block_cell hB3 (i := 1) rfl
        have z2 := block_cell hB3 (i := 2) rfl
        obtain ⟨-, y1, -, -, yl, y2, -, -⟩ := hM3.cells
        have hrs3 : wr.heap.size < W3.heap.size := lt_of_block hB3
        have hws3 : w.heap.size ≤ W3.heap.size := hM3.below.size
        have HM3 := hid hM3
        clear hW3 hM3 hB3 hbw3 m1 m2 m3 f1
        go_wp2_with (at_builtin; go_must (refine wpList_append_rd _ rfl (.tmp 47) (.tmp 49) 22 rfl w.heap.size 45 i2 _ 3 24 Try.underlying22 hgi hx0 hx1 hx2 rfl (by omega) (.slice Ag gr.length cg) gr.length _ rfl (HM3.out.og.alloc _) _ (some ⟨W3.heap.size, 0, none⟩) 1 1 _ rfl (Rd.cell3 (cell_new W3 _ _ _ _ _ rfl rfl) (cell_new W3 _ _ _ _ _ rfl rfl) (cell_new W3 _ _ _ _ _ rfl rfl)) (by simp [Value.oneCell']) (by omega) (maxLen_le (by omega)) (by simp; omega) ?_); intro A5 c5 w5 hown5 hg5 hat5; have e5c := ((HM3.out.after (by go_grown)).grow (base := 0) (HM3.out.after (by go_grown)).og (by decide) hg5 0 undef).2.2.2.2; have e5d := block_cell e5c (i := 1) rfl; have e5f := block_free e5c (i := 1))
        go_roundw
        case rel =>
          have hfin := (HM3.out.after (by go_grown)).gate g2 hg5 (by simpa [gcells] using hown5)
          have hg9 : gr ++ [g2] = g :: (c.gates.take (i + 1)).map shiftG := by
            rw [take_succ_getD c.gates default hlt, List.map_append, HX.out, ← List.cons_append, HGR.out, List.map_cons, List.map_nil, HSH.out]
          have hl9 : (gr ++ [g2]).length = i + 1 + 1 := by rw [List.length_append, HGL.out]; rfl
          exact ⟨i + 1, gr ++ [g2], A5, c5, by omega, by go_num, hg9, hl9, hfin⟩
        case measure => simp [intOf]; omega
      · by_cases k5 : x.k = 5
        · have e4 : (x.k == 4) = false := beq_eq_false_iff_ne.2 k4
          have e5 : (x.k == 5) = true := beq_iff_eq.2 k5
          have r4 := hrg.2 k5
          have ha1 : 0 ≤ x.a := r4.1
          have ha2 : x.a ≤ 60 := by omega
          obtain ⟨g2, hg2⟩ : ∃ g2 : Gt, g2 = ⟨5, x.a + 1, x.b⟩ := ⟨_, rfl⟩
          have HSH : Hid (shiftG x = g2) := hid (by unfold shiftG; rw [if_neg k4, if_pos k5, hg2])
          have HG2 := hid hg2
          have HK := hid k5
          clear hrg r4 hg2 k4 k5
          go_upto_region 10 with (fail)
          refine wp_gen fun W3 hW3 => ?_
          have hbw3 : Below wr.heap.size wr W3 := by
            rw [hW3]
            go_grown
          have hB3 : W3.heap[wr.heap.size]? = some (.cells #[.int .i64 g2.k, .int .i64 g2.a, .int .i64 g2.b] 45 (0, 0)) := by
            rw [hW3]
            rw [heap_alloc_new, HG2.out, HK.out]
          have hM3 := HM.out.after hbw3
          have z0 := block_cell hB3 (i := 0) rfl
          have z1 := block_cell hB3 (i := 1) rfl
          have z2 := block_cell hB3 (i := 2) rfl
          obtain ⟨-, y1, -, -, yl, y2, -, -⟩ := hM3.cells
          have hrs3 : wr.heap.size < W3.heap.size := lt_of_block hB3
          have hws3 : w.heap.size ≤ W3.heap.size := hM3.below.size
          have HM3 := hid hM3
          clear hW3 hM3 hB3 hbw3 m1 m2 m3 f1
          go_wp2_with (at_builtin; go_must (refine wpList_append_rd _ rfl (.tmp 47) (.tmp 49) 22 rfl w.heap.size 45 i2 _ 3 24 Try.underlying22 hgi hx0 hx1 hx2 rfl (by omega) (.slice Ag gr.length cg) gr.length _ rfl (HM3.out.og.alloc _) _ (some ⟨W3.heap.size, 0, none⟩) 1 1 _ rfl (Rd.cell3 (cell_new W3 _ _ _ _ _ rfl rfl) (cell_new W3 _ _ _ _ _ rfl rfl) (cell_new W3 _ _ _ _ _ rfl rfl)) (by simp [Value.oneCell']) (by omega) (maxLen_le (by omega)) (by simp; omega) ?_); intro A5 c5 w5 hown5 hg5 hat5; have e5c := ((HM3.out.after (by go_grown)).grow (base := 0) (HM3.out.after (by go_grown)).og (by decide) hg5 0 undef).2.2.2.2; have e5d := block_cell e5c (i := 1) rfl; have e5f := block_free e5c (i := 1))
          go_roundw
          case rel =>
            have hfin := (HM3.out.after (by go_grown)).gate g2 hg5 (by simpa [gcells] using hown5)
            have hg9 : gr ++ [g2] = g :: (c.gates.take (i + 1)).map shiftG := by
              rw [take_succ_getD c.gates default hlt, List.map_append, HX.out, ← List.cons_append, HGR.out, List.map_cons, List.map_nil, HSH.out]
            have hl9 : (gr ++ [g2]).length = i + 1 + 1 := by rw [List.length_append, HGL.out]; rfl
            exact ⟨i + 1, gr ++ [g2], A5, c5, by omega, by go_num, hg9, hl9, hfin⟩
          case measure => simp [intOf]; omega
        · have e4 : (x.k == 4) = false := beq_eq_false_iff_ne.2 k4
          have e5 : (x.k == 5) = false := beq_eq_false_iff_ne.2 k5
          obtain ⟨g2, hg2⟩ : ∃ g2 : Gt, g2 = x := ⟨_, rfl⟩
          have HSH : Hid (shiftG x = g2) := hid (by unfold shiftG; rw [if_neg k4, if_neg k5, hg2])
          have HG2 := hid hg2
          clear hrg hg2 k4 k5
          go_upto_region 10 with (fail)
          refine wp_gen fun W3 hW3 => ?_
          have hbw3 : Below wr.heap.size wr W3 := by
            rw [hW3]
            go_grown
          have hB3 : W3.heap[wr.heap.size]? = some (.cells #[.int .i64 g2.k, .int .i64 g2.a, .int .i64 g2.b] 45 (0, 0)) := by
            rw [hW3]
            rw [heap_alloc_new, HG2.out]
          have hM3 := HM.out.after hbw3
          have z0 := block_cell hB3 (i := 0) rfl
          have z1 := block_cell hB3 (i := 1) rfl
          have z2 := block_cell hB3 (i := 2) rfl
          obtain ⟨-, y1, -, -, yl, y2, -, -⟩ := hM3.cells
          have hrs3 : wr.heap.size < W3.heap.size := lt_of_block hB3
          have hws3 : w.heap.size ≤ W3.heap.size := hM3.below.size
          have HM3 := hid hM3
          clear hW3 hM3 hB3 hbw3 m1 m2 m3 f1
          go_wp2_with (at_builtin; go_must (refine wpList_append_rd _ rfl (.tmp 47) (.tmp 49) 22 rfl w.heap.size 45 i2 _ 3 24 Try.underlying22 hgi hx0 hx1 hx2 rfl (by omega) (.slice Ag gr.length cg) gr.length _ rfl (HM3.out.og.alloc _) _ (some ⟨W3.heap.size, 0, none⟩) 1 1 _ rfl (Rd.cell3 (cell_new W3 _ _ _ _ _ rfl rfl) (cell_new W3 _ _ _ _ _ rfl rfl) (cell_new W3 _ _ _ _ _ rfl rfl)) (by simp [Value.oneCell']) (by omega) (maxLen_le (by omega)) (by simp; omega) ?_); intro A5 c5 w5 hown5 hg5 hat5; have e5c := ((HM3.out.after (by go_grown)).grow (base := 0) (HM3.out.after (by go_grown)).og (by decide) hg5 0 undef).2.2.2.2; have e5d := block_cell e5c (i := 1) rfl; have e5f := block_free e5c (i := 1))
          go_roundw
          case rel =>
            have hfin := (HM3.out.after (by go_grown)).gate g2 hg5 (by simpa [gcells] using hown5)
            have hg9 : gr ++ [g2] = g :: (c.gates.take (i + 1)).map shiftG := by
              rw [take_succ_getD c.gates default hlt, List.map_append, HX.out, ← List.cons_append, HGR.out, List.map_cons, List.map_nil, HSH.out]
            have hl9 : (gr ++ [g2]).length = i + 1 + 1 := by rw [List.length_append, HGL.out]; rfl
            exact ⟨i + 1, gr ++ [g2], A5, c5, by omega, by go_num, hg9, hl9, hfin⟩
          case measure => simp [intOf]; omega
      -->>
    · obtain rfl : i = c.gates.length := by omega
      clear hM
      go_wp2_with fail
      obtain ⟨wo8, rfl⟩ : ∃ wo : World, wo = wr := ⟨_, rfl⟩
      go_loopw [8] (fun t wr => ∃ (k : Nat) (l5 : List Int) (A5 : Option Addr) (c5 : Nat), k ≤ c.lat.length ∧ t = .int .i64 (k : Int) ∧ l5 = plus1 c.lat k ∧ l5.length = k ∧ Mv w wr b #[.int .i64 c.ib, .slice Ag0 c.gates.length cg0, .slice Al0 c.lat.length cl0, .slice Ao0 c.outs.length co0] c.ib gr Ag cg l5 A5 c5 [] none 0) (fun t _ => c.lat.length - (intOf t).toNat)
      case atStart => exact ⟨0, [], none, 0, Nat.zero_le _, rfl, rfl, rfl, HM.out⟩
      case round =>
        obtain ⟨k, l5, A5, c5, hk5, rfl, hl5, hl5n, hM⟩ := hrel
        have HL5 := hid hl5
        have HL5N := hid hl5n
        have hl5m : l5.length ≤ 12 := by omega
        have x2 := block_cell hM.box (i := 2) rfl
        have hxb : w.heap.size < wr.heap.size := lt_of_block hM.box
        obtain ⟨m0, m1, m2, m3, mb, f1, f2, f3⟩ := hM.cells
        have hws := hM.below.size
        clear hl5 hl5n
        by_cases hlt : k < c.lat.length
        · --<<
          obtain ⟨b1, o1, x, rfl, _, hbl, HX, hc⟩ := (HL0.out.keep (Keeps.of_below hM.below (fun _ h => h))).get hlt
          have hr := HVC.out.lr k hlt
          rw [HX.out] at hr
          obtain ⟨r0, r1⟩ := hr
          have r2 : x ≤ 60 := by omega
          have HM5 := hid hM
          have hki : (k : Int) < c.lat.length := by omega
          clear hM r1
          go_wp2_with fail
          have s1 : IntKind.i64.wrap (x + 1) = x + 1 := IntWalk.i64_in _ (by omega)
          go_region_law
            ((refine step_append_rd _ (by rfl) _ _ 23 (by rfl) w.heap.size 3 i1 _ 1 8 Try.underlying23 hi' hy0 hy1 hy2 rfl (by omega) (.slice A5 l5.length c5) l5.length _ (by rfl) (HM5.out.after (by go_grown)).ol _ (some ⟨wr.heap.size, 0, none⟩) 1 1 _ (by rfl) (Rd.cell1 (cell_new wr.drew _ _ _ _ _ rfl rfl)) (by simp [Value.oneCell']) (by omega) (maxLen_le (by omega)) (by simp; omega) ?_
              intro A6 c6 w6 hown6 hg6 hat6
              have e6c := ((HM5.out.after (by go_grown)).grow (base := 0) (HM5.out.after (by go_grown)).ol (by decide) hg6 0 undef).2.2.2.2
              have e6d := block_cell e6c (i := 2) rfl
              have e6f := block_free e6c (i := 2)))
          all_goals
            have hfin := (HM5.out.after (by go_grown)).lat (x + 1) hg6 (by simpa [s1] using hown6) hat6
            have HF := hid hfin
            clear hfin hown6 hg6 hat6 e6c e6d e6f s1
            go_wp2_with fail
            go_roundw
            case rel =>
              have hn6 : l5 ++ [x + 1] = plus1 c.lat (k + 1) := by rw [plus1_succ _ hlt, HL5.out, HX.out]
              have hn7 : (l5 ++ [x + 1]).length = k + 1 := by rw [List.length_append, HL5N.out]; rfl
              exact ⟨k + 1, l5 ++ [x + 1], A6, c6, by omega, by go_num, hn6, hn7, HF.out⟩
            case measure => simp [intOf]; omega
          -->>
        · obtain rfl : k = c.lat.length := by omega
          have HM := hid hM
          obtain ⟨lL, rfl⟩ : ∃ l, l = l5 := ⟨_, rfl⟩
          obtain ⟨AL, rfl⟩ : ∃ l, l = A5 := ⟨_, rfl⟩
          obtain ⟨cL, rfl⟩ : ∃ l, l = c5 := ⟨_, rfl⟩
          have HLL := HL5
          clear hM
          go_wp2_with fail
          obtain ⟨wo9, rfl⟩ : ∃ wo : World, wo = wr := ⟨_, rfl⟩
          go_loopw [9] (fun t wr => ∃ (k : Nat) (l5 : List Int) (A5 : Option Addr) (c5 : Nat), k ≤ c.outs.length ∧ t = .int .i64 (k : Int) ∧ l5 = plus1 c.outs k ∧ l5.length = k ∧ Mv w wr b #[.int .i64 c.ib, .slice Ag0 c.gates.length cg0, .slice Al0 c.lat.length cl0, .slice Ao0 c.outs.length co0] c.ib gr Ag cg lL AL cL l5 A5 c5) (fun t _ => c.outs.length - (intOf t).toNat)
          case atStart => exact ⟨0, [], none, 0, Nat.zero_le _, rfl, rfl, rfl, HM.out⟩
          case round =>
            obtain ⟨k, l5, A5, c5, hk5, rfl, hl5, hl5n, hM⟩ := hrel
            have HL5 := hid hl5
            have HL5N := hid hl5n
            have hl5m : l5.length ≤ 12 := by omega
            have x2 := block_cell hM.box (i := 3) rfl
            have hxb : w.heap.size < wr.heap.size := lt_of_block hM.box
            obtain ⟨m0, m1, m2, m3, mb, f1, f2, f3⟩ := hM.cells
            have hws := hM.below.size
            clear hl5 hl5n
            by_cases hlt : k < c.outs.length
            · --<<
              obtain ⟨b1, o1, x, rfl, _, hbl, HX, hc⟩ := (HO0.out.keep (Keeps.of_below hM.below (fun _ h => h))).get hlt
              have hr := HVC.out.or_ k hlt
              rw [HX.out] at hr
              obtain ⟨r0, r1⟩ := hr
              have r2 : x ≤ 60 := by omega
              have HM5 := hid hM
              have hki : (k : Int) < c.outs.length := by omega
              clear hM r1
              go_wp2_with fail
              have s1 : IntKind.i64.wrap (x + 1) = x + 1 := IntWalk.i64_in _ (by omega)
              go_region_law
                ((refine step_append_rd _ (by rfl) _ _ 23 (by rfl) w.heap.size 3 i1 _ 1 8 Try.underlying23 hi' hy0 hy1 hy2 rfl (by omega) (.slice A5 l5.length c5) l5.length _ (by rfl) (HM5.out.after (by go_grown)).oo _ (some ⟨wr.heap.size, 0, none⟩) 1 1 _ (by rfl) (Rd.cell1 (cell_new wr.drew _ _ _ _ _ rfl rfl)) (by simp [Value.oneCell']) (by omega) (maxLen_le (by omega)) (by simp; omega) ?_
                  intro A6 c6 w6 hown6 hg6 hat6
                  have e6c := ((HM5.out.after (by go_grown)).grow (base := 0) (HM5.out.after (by go_grown)).oo (by decide) hg6 0 undef).2.2.2.2
                  have e6d := block_cell e6c (i := 3) rfl
                  have e6f := block_free e6c (i := 3)))
              all_goals
                have hfin := (HM5.out.after (by go_grown)).out (x + 1) hg6 (by simpa [s1] using hown6) hat6
                have HF := hid hfin
                clear hfin hown6 hg6 hat6 e6c e6d e6f s1
                go_wp2_with fail
                go_roundw
                case rel =>
                  have hn6 : l5 ++ [x + 1] = plus1 c.outs (k + 1) := by rw [plus1_succ _ hlt, HL5.out, HX.out]
                  have hn7 : (l5 ++ [x + 1]).length = k + 1 := by rw [List.length_append, HL5N.out]; rfl
                  exact ⟨k + 1, l5 ++ [x + 1], A6, c6, by omega, by go_num, hn6, hn7, HF.out⟩
                case measure => simp [intOf]; omega
              -->>
            · obtain rfl : k = c.outs.length := by omega
              have r0 := block_cell hM.res (i := 0) rfl
              have r1 := block_cell hM.res (i := 1) rfl
              have r2 := block_cell hM.res (i := 2) rfl
              have r3 := block_cell hM.res (i := 3) rfl
              have q0 := block_free hM.res (i := 0)
              have q1 := block_free hM.res (i := 1)
              have q2 := block_free hM.res (i := 2)
              have q3 := block_free hM.res (i := 3)
              have HM6 := hid hM
              clear hM
              go_wp2_with fail
              refine bodyPost_gen fun W2 hW2 => ?_
              have hb : W2.heap[w.heap.size + 2]? = some (.cells #[.int .i64 c.ib, .slice Ag gr.length cg, .slice AL lL.length cL, .slice A5 l5.length c5] 25 (0, 0)) := by
                rw [hW2, set_block (set_block (set_block (set_block HM6.out.res _) _) _) _]
                rfl
              have p0 := block_cell hb (i := 0) rfl
              have p1 := block_cell hb (i := 1) rfl
              have p2 := block_cell hb (i := 2) rfl
              have p3 := block_cell hb (i := 3) rfl
              have hbw : Below w.heap.size w W2 := by
                rw [hW2]
                exact (((HM6.out.below.setCell (p := ⟨w.heap.size + 2, 0, none⟩) (by simp) _).setCell (p := ⟨w.heap.size + 2, 1, none⟩) (by simp) _).setCell (p := ⟨w.heap.size + 2, 2, none⟩) (by simp) _).setCell (p := ⟨w.heap.size + 2, 3, none⟩) (by simp) _
              have key : ∀ b, b ≠ w.heap.size + 2 → W2.heap[b]? = wr.heap[b]? := fun b hb => by
                rw [hW2, Below.heap_setCell _ _ _ _ hb, Below.heap_setCell _ _ _ _ hb, Below.heap_setCell _ _ _ _ hb, Below.heap_setCell _ _ _ _ hb]
              have og := own_agree HM6.out.og fun b e => key b (fun x => own_ne HM6.out.og HM6.out.res (by decide) (by rw [← e, x]))
              have ol := own_agree HM6.out.ol fun b e => key b (fun x => own_ne HM6.out.ol HM6.out.res (by decide) (by rw [← e, x]))
              have oo := own_agree HM6.out.oo fun b e => key b (fun x => own_ne HM6.out.oo HM6.out.res (by decide) (by rw [← e, x]))
              have hdis := HM6.out.dis
              have hu : movedC c g = ⟨c.ib, gr, lL, l5⟩ := by
                unfold movedC
                rw [HGR.out, List.take_length, ← HLL.out, ← HL5.out]
              have OG := hid og
              have OL := hid ol
              have OO := hid oo
              have DIS := hid hdis
              clear hW2 hb key og ol oo hdis
              rw [hu]
              exact bodyPost_ret (v := .agg #[.int .i64 c.ib, .slice Ag gr.length cg, .slice AL lL.length cL, .slice A5 l5.length c5]) (by simp [results, Try.results23, go_sem, p0, p1, p2, p3]) rfl ⟨Ag, cg, AL, cL, A5, c5, rfl, hbw, OG.out, OL.out, OO.out, DIS.out⟩
end Go.Proofs.Ytfabdpnjjondaaa
