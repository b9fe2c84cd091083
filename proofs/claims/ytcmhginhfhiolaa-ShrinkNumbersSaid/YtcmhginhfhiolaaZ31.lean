/-
  Walk of Loose.
-/
import Derived.Test.YtcmhginhfhiolaaZ30
import Derived.Test.YtcmhginhfhiolaaZ26
set_option linter.unusedVariables false
set_option linter.unusedSimpArgs false
namespace Go.Proofs.Ytcmhginhfhiolaa
open Go.RowKit Go.Shelf
attribute [local go_sem] cell_alloc_old

theorem looseM_ok {L : Mac} {f : Nat → Nat} {er : List (List Int)} (hL : L.Ok) (h : RowsOk L f er) (hfr : ∀ i, i < L.size → f i < L.size) : (looseM L f er).Ok := by
  refine ⟨hfr _ hL.st, fun q x o t hq hx e => ?_⟩
  have e' : (if rowE er q x < 0 then none else some (mvO L (rowE er q x).toNat x, f (tgM L (rowE er q x) x))) = some (o, t) := e
  split at e'
  · cases e'
  · rename_i hlt
    obtain ⟨j0, ⟨o1, t1⟩, hj0, e1, m1⟩ := h.ne hq hx hlt
    injection e' with e'
    injection e' with _ e'
    rw [← e', e1]
    unfold tgM
    rw [Int.toNat_natCast, m1]
    exact hfr _ (hL.tgt j0 x o1 t1 hj0 hx m1)
theorem cell_set5 {W : World} {b c o : Nat} {u v0 v1 v2 v3 v4 : Value} (h : W.cell? ⟨c, o, none⟩ = some u) (hne : c ≠ b) :
    (((((W.setCell ⟨b, 0, none⟩ v0).setCell ⟨b, 1, none⟩ v1).setCell ⟨b, 2, none⟩ v2).setCell ⟨b, 3, none⟩ v3).setCell ⟨b, 4, none⟩ v4).cell? ⟨c, o, none⟩ = some u := by
  rw [← h]
  refine World.cell?_of_block (w := W) (a := ⟨c, o, none⟩) ?_
  show (((((W.setCell ⟨b, 0, none⟩ v0).setCell ⟨b, 1, none⟩ v1).setCell ⟨b, 2, none⟩ v2).setCell ⟨b, 3, none⟩ v3).setCell ⟨b, 4, none⟩ v4).heap[c]? = W.heap[c]?
  rw [Below.heap_setCell _ _ _ _ hne, Below.heap_setCell _ _ _ _ hne, Below.heap_setCell _ _ _ _ hne, Below.heap_setCell _ _ _ _ hne, Below.heap_setCell _ _ _ _ hne]
theorem LmI.step {L : Mac} {f : Nat → Nat} {er : List (List Int)} {vb tb cb mb rb B : Nat} {Q : TLA} {W W' : World} (h : LmI L f er vb tb cb mb rb B Q W) (hvm : vb ≠ mb) (htm : tb ≠ mb) (hI : FInv W W' cb mb f) : LmI L f er vb tb cb mb rb B Q W' := by
  have hk : Keeps (fun b => b ≠ mb ∧ b < B) W W' := hI.chg.keeps fun b _ h e => h.1 e
  exact ⟨hI.chg.box h.var hvm, hI.chg.box h.box htm, h.out.keep hk, h.next.keep hk, h.rows.keep hk, hI.cls⟩

set_option maxRecDepth 100000 in
set_option maxHeartbeats 8000000 in
theorem loose_any {D E : Dom} (v : Value) (m : Mly) (A : Option Addr) (ca : Nat) (care : List (List Bool)) (w : World) (h : RdM w D v m) (hc : RdBB w E A ca care) :
    Calls Try.prog 20 #[v, .slice A care.length ca] w fun e w' => Gives (LooseIs m care (mealyB m && caresB m care)) w e w' := by
  have HV := hid h.old
  have HC := hid hc.old
  have hcal := hc.len
  obtain ⟨Ao, co, An, cn, rfl, ho, hn⟩ := h
  have hol := ho.len
  clear ho hn hc
  have hmf : ∀ (fn : Fn) (first cap : Array Value) (w : World), (Instr.makeFunc fn first cap).run Try.prog w = .ok (.func fn first cap) w := fun _ _ _ _ => rfl
  go_enter Try.func20, Try.ntmps20
  go_upto_region 1 with (fail)
  refine wp_gen fun W1 hW1 => ?_
  have hb1 : Below w.heap.size w W1 := by rw [hW1]; go_grown
  have hx1 : W1.heap[w.heap.size]? = some (.cells #[.int .i64 m.ins, .int .i64 m.outs, .int .i64 m.start, .slice Ao m.out.length co, .slice An m.next.length cn] 24 (0, 0)) := by
    rw [hW1]; (repeat (first | (refine at_new _ _ _ ?_; (simp only [World.size_alloc]; done)) | (refine (at_old _ _ _ ?_).trans ?_; (simp only [World.size_alloc]; omega))))
  have hr1 : W1.heap[w.heap.size + 1]? = some (.cells #[.int .i64 0, .int .i64 0, .int .i64 0, .slice none 0 0, .slice none 0 0] 24 (0, 0)) := by
    rw [hW1]; (repeat (first | (refine at_new _ _ _ ?_; (simp only [World.size_alloc]; done)) | (refine (at_old _ _ _ ?_).trans ?_; (simp only [World.size_alloc]; omega))))
  have HB1 := hid hb1
  have HR1 := hid hr1
  have HX1 := hid hx1
  have x0 := block_cell hx1 (i := 0) rfl
  have x1 := block_cell hx1 (i := 1) rfl
  have x2 := block_cell hx1 (i := 2) rfl
  have x3 := block_cell hx1 (i := 3) rfl
  have x4 := block_cell hx1 (i := 4) rfl
  clear hW1 hb1 hx1 hr1
  -- the zero controller
  have hzero : ∀ (w2 : World), Below w.heap.size w w2 → w2.heap[w.heap.size + 1]? = some (.cells #[.int .i64 0, .int .i64 0, .int .i64 0, .slice none 0 0, .slice none 0 0] 24 (0, 0)) → ∀ (P : Mly → Prop), P zeroMly → ∀ W3,
      W3 = ((((w2.setCell ⟨w.heap.size + 1, 0, none⟩ (.int .i64 0)).setCell ⟨w.heap.size + 1, 1, none⟩ (.int .i64 0)).setCell ⟨w.heap.size + 1, 2, none⟩ (.int .i64 0)).setCell ⟨w.heap.size + 1, 3, none⟩ (.slice none 0 0)).setCell ⟨w.heap.size + 1, 4, none⟩ (.slice none 0 0) →
      (W3.cell? ⟨w.heap.size + 1, 0, none⟩ = some (.int .i64 0) ∧ W3.cell? ⟨w.heap.size + 1, 1, none⟩ = some (.int .i64 0) ∧ W3.cell? ⟨w.heap.size + 1, 2, none⟩ = some (.int .i64 0) ∧ W3.cell? ⟨w.heap.size + 1, 3, none⟩ = some (.slice none 0 0) ∧ W3.cell? ⟨w.heap.size + 1, 4, none⟩ = some (.slice none 0 0)) ∧
      Gives P w (.returned (.agg #[.int .i64 0, .int .i64 0, .int .i64 0, .slice none 0 0, .slice none 0 0])) W3 := fun w2 hb2 hr2 P hP W3 hW3 => by
    have hfin := set5_rd (m := zeroMly) (B := w2.heap.size) hr2 (w := w) (Chg.of_new hb2) (by omega) (lt_of_block hr2) hb2.size ⟨none, 0, none, 0, rfl, RdII.nil _ _ _ (by omega), RdII.nil _ _ _ (by omega)⟩ hW3
    exact ⟨hfin.1, _, zeroMly, rfl, hfin.2.1, hfin.2.2, hP⟩
  have HZ := hid hzero
  clear hzero
  go_wp2_with fail
  refine (mvalid_any _ m W1 (HV.out.keep (Keeps.of_below HB1.out (fun _ h => h)))).mono ?_
  rintro e w2 ⟨rfl, hb2⟩
  have HB2 := hid (HB1.out.trans (hb2.mono HB1.out.size))
  have HR2 := hid ((hb2.block _ (lt_of_block HR1.out)).trans HR1.out)
  have HX2 := hid ((hb2.block _ (lt_of_block HX1.out)).trans HX1.out)
  have x0 := block_cell HX2.out (i := 0) rfl
  have x1 := block_cell HX2.out (i := 1) rfl
  have x2 := block_cell HX2.out (i := 2) rfl
  have x3 : w2.cell? ⟨w.heap.size, 3, none⟩ = some (.slice Ao m.out.length co) := block_cell HX2.out (i := 3) rfl
  have x4 := block_cell HX2.out (i := 4) rfl
  have q0 := block_cell HR2.out (i := 0) rfl
  have q1 := block_cell HR2.out (i := 1) rfl
  have q2 := block_cell HR2.out (i := 2) rfl
  have q3 := block_cell HR2.out (i := 3) rfl
  have q4 := block_cell HR2.out (i := 4) rfl
  have z0 := block_free HR2.out (i := 0)
  have z1 := block_free HR2.out (i := 1)
  have z2 := block_free HR2.out (i := 2)
  have z3 := block_free HR2.out (i := 3)
  have z4 := block_free HR2.out (i := 4)
  clear hb2
  cases hm : mealyB m
  · have HP := hid (show LooseIs m care (mealyB m && caresB m care) zeroMly from ⟨(fun h => by rw [hm] at h; cases h), fun _ => rfl⟩)
    clear hm
    go_wp2_with fail
    refine bodyPost_gen fun W3 hW3 => ?_
    obtain ⟨⟨p0, p1, p2, p3, p4⟩, hgv⟩ := HZ.out w2 HB2.out HR2.out _ HP.out W3 hW3
    have HGV := hid hgv
    clear hW3 hgv q0 q1 q2 q3 q4 z0 z1 z2 z3 z4
    exact bodyPost_ret (v := .agg #[.int .i64 0, .int .i64 0, .int .i64 0, .slice none 0 0, .slice none 0 0]) (by simp [results, Try.results20, go_sem, p0, p1, p2, p3, p4]) rfl HGV.out
  · have HMB := hid hm
    clear hm
    by_cases hcl : care.length = m.out.length
    · have hne : ((care.length : Int) != (m.out.length : Int)) = false := by simp [hcl]
      have HCL := hid hcl
      clear hcl
      go_wp2_with fail
      go_loopw [23] (fun t wr => ∃ k : Nat, k ≤ care.length ∧ t = .int .i64 (k : Int) ∧ SoFar k (fun i => decide (((care.getD i []).length : Int) = m.ins)) ∧ Drawn w2 wr) (fun t _ => care.length - (intOf t).toNat)
      case atStart => exact ⟨0, Nat.zero_le _, rfl, SoFar.zero _, Drawn.refl _⟩
      case round =>
        obtain ⟨k, hk, rfl, hso, hd⟩ := hrel
        have hbd := hd.below w2.heap.size
        have HBR := hid (HB2.out.trans (hbd.mono HB2.out.size))
        have HRR := hid ((hbd.block _ (lt_of_block HR2.out)).trans HR2.out)
        have HXR := hid ((hbd.block _ (lt_of_block HX2.out)).trans HX2.out)
        have x0 := block_cell HXR.out (i := 0) rfl
        have HSO := hid hso
        have HD := hid hd
        clear hso hbd hd
        by_cases hlt : k < care.length
        · obtain ⟨b, o, A', c', r, rfl, _, had, HRW, hr, hcell⟩ := (HC.out.keep (Keeps.of_below HBR.out fun _ h => h)).get hlt
          have hrl := hr.len.1
          have hki : (k : Int) < care.length := by omega
          clear hr
          by_cases hrr : (r.length : Int) = m.ins
          · have hne2 : ((r.length : Int) != m.ins) = false := by simp [hrr]
            have HLR := hid hrr
            clear hrr
            go_wp2_with fail
            go_roundw
            case rel => exact ⟨k + 1, by omega, by go_num, HSO.out.succ (by rw [HRW.out]; exact decide_eq_true HLR.out), by first | exact HD.out | exact HD.out.drewN _⟩
            case measure => simp [intOf]; omega
          · have hne2 : ((r.length : Int) != m.ins) = true := by simp [hrr]
            have HP := hid (show LooseIs m care (mealyB m && caresB m care) zeroMly from ⟨(fun h => by
              rw [Bool.and_eq_true] at h
              exact absurd ((cares_shape h.2).2 k hlt) (by rw [HRW.out]; exact hrr)), fun _ => rfl⟩)
            have q0 := block_cell HRR.out (i := 0) rfl
            have q1 := block_cell HRR.out (i := 1) rfl
            have q2 := block_cell HRR.out (i := 2) rfl
            have q3 := block_cell HRR.out (i := 3) rfl
            have q4 := block_cell HRR.out (i := 4) rfl
            have z0 := block_free HRR.out (i := 0)
            have z1 := block_free HRR.out (i := 1)
            have z2 := block_free HRR.out (i := 2)
            have z3 := block_free HRR.out (i := 3)
            have z4 := block_free HRR.out (i := 4)
            clear hrr
            go_wp2_with fail
            refine bodyPost_gen fun W3 hW3 => ?_
            obtain ⟨⟨p0, p1, p2, p3, p4⟩, hgv⟩ := HZ.out _ HBR.out HRR.out _ HP.out W3 hW3
            have HGV := hid hgv
            clear hW3 hgv q0 q1 q2 q3 q4 z0 z1 z2 z3 z4
            exact bodyPost_ret (v := .agg #[.int .i64 0, .int .i64 0, .int .i64 0, .slice none 0 0, .slice none 0 0]) (by simp [results, Try.results20, go_sem, p0, p1, p2, p3, p4]) rfl HGV.out
        · have hcs : caresB m care = true := by unfold caresB; rw [decide_eq_true HCL.out, HSO.out.all (by omega)]; rfl
          have HS := hid (sized_of HMB.out)
          have HCS := hid hcs
          clear hcs
          have x1 := block_cell HXR.out (i := 1) rfl
          have x2 := block_cell HXR.out (i := 2) rfl
          have x3 : wr.cell? ⟨w.heap.size, 3, none⟩ = some (.slice Ao m.out.length co) := block_cell HXR.out (i := 3) rfl
          have x4 := block_cell HXR.out (i := 4) rfl
          go_wp2_with fail
          refine (newLoose_any _ m A ca care wr (HV.out.keep (Keeps.of_below HBR.out fun _ h => h)) (HC.out.keep (Keeps.of_below HBR.out fun _ h => h)) HS.out HCS.out).mono ?_
          rintro e w3 ⟨tb, cb, mb, rb, Q, clash, er, rfl, ht3, hcl3, hro3, hb3, htb3, hmb3, hrb3⟩
          obtain ⟨L, hL⟩ : ∃ L, L = posM (careM m care) := ⟨_, rfl⟩
          rw [← hL] at ht3 hcl3 hro3
          have HL := hid hL
          have HB3 := hid (HBR.out.trans (hb3.mono HBR.out.size))
          have HR3 := hid ((hb3.block _ (lt_of_block HRR.out)).trans HRR.out)
          have HX3 := hid ((hb3.block _ (lt_of_block HXR.out)).trans HXR.out)
          have hrl3 := lt_of_block HRR.out
          have HT3 := hid ht3
          have HCL3 := hid hcl3
          have HRO3 := hid hro3
          clear hL hb3 ht3 hcl3 hro3
          go_upto_region 10 with (fail)
          refine wp_gen fun w4 hw4 => ?_
          have hw4' : w4 = w3.alloc (.cells #[.pointer (some ⟨tb, 0, none⟩)] 66) := hw4
          clear hw4
          have hb4 : Below w3.heap.size w3 w4 := by rw [hw4']; go_grown
          have hv4 : w4.heap[w3.heap.size]? = some (.cells #[.pointer (some ⟨tb, 0, none⟩)] 66 (0, 0)) := by rw [hw4']; exact heap_alloc_new _ _
          have HB4 := hid (HB3.out.trans (hb4.mono HB3.out.size))
          have HR4 := hid ((hb4.block _ (lt_of_block HR3.out)).trans HR3.out)
          have HX4 := hid ((hb4.block _ (lt_of_block HX3.out)).trans HX3.out)
          have HT4 := hid (HT3.out.below hb4)
          have HLT3 := hid HT3.out.lt
          have HV4 := hid hv4
          have hok : L.Ok := by rw [HL.out]; exact posM_ok (care_ok HS.out care)
          have HOK := hid hok
          have HLI := hid (show (L.ins : Int) = m.ins by rw [HL.out]; show (m.ins.toNat : Int) = _; have := HS.out.i1; omega)
          have HLS := hid (show L.size ≤ m.out.length by rw [HL.out]; exact ord_len (care_ok HS.out care))
          have v0 := block_cell hv4 (i := 0) rfl
          have hall := mergeAll_any L HOK.out (by have := HLS.out; have := HS.out.n2; omega) (by have := HLI.out; have := HS.out.i1; omega) (by have := HLI.out; have := HS.out.i2; omega) tb cb mb rb Q clash er id w4 HT4.out HCL3.out HRO3.out FrI.zero (fun i h => h)
          have HALL := hid hall
          clear hw4' hb4 hv4 hok hall x0 x1 x2 x3 x4
          go_wp2_with fail
          refine HALL.out.mono ?_
          rintro e w5 ⟨f, er5, rfl, ht5, hrep5, hro5, hfr5, hch5⟩
          have hL3 := HLT3.out
          have hv5 := hch5.box HV4.out (fun h => by rcases h with h | h <;> omega)
          have hr5 := hch5.box HR4.out (fun h => by rcases h with h | h <;> omega)
          have hx5 := hch5.box HX4.out (fun h => by rcases h with h | h <;> omega)
          have v0 := block_cell hv5 (i := 0) rfl
          have x0 := block_cell hx5 (i := 0) rfl
          have x1 := block_cell hx5 (i := 1) rfl
          have t0 := block_cell ht5.box (i := 0) rfl
          have t3 := block_cell ht5.box (i := 3) rfl
          have HT5 := hid ht5
          have HREP5 := hid hrep5
          have HRO5 := hid hro5
          have HFR5 := hid hfr5
          have HCH5 := hid hch5
          have HV5 := hid hv5
          have HR5 := hid hr5
          have HX5 := hid hx5
          have hvb : w3.heap.size ≠ mb := by omega
          have htm : tb ≠ mb := ht5.ne.1
          have hl5 := ht5.lt
          have hvl : w3.heap.size < w5.heap.size := lt_of_block hv5
          have hxl : w.heap.size < w5.heap.size := lt_of_block hx5
          have hxm : w.heap.size ≠ mb := by have := HBR.out.size; omega
          have hI1 : FInv w5 w5.drew cb mb f := ⟨ht5.cls.keep fun _ _ _ => rfl, Chg.of_new ((Drawn.n w5 1).below _)⟩
          have hI2 : ∀ i, FInv w5 (w5.drewN i) cb mb f := fun i => ⟨ht5.cls.keep fun _ _ _ => rfl, Chg.of_new ((Drawn.n w5 i).below _)⟩
          have HI1 := hid hI1
          have HI2 := hid hI2
          have HFI : Hid (∀ (W' : World), FInv w5 W' cb mb f → Calls Try.prog 44 #[.pointer (some ⟨cb, 0, none⟩), .int .i64 0] W' fun e w' => e = .returned (.int .i64 (f 0 : Nat)) ∧ FInv w5 w' cb mb f) := hid fun W' h =>
            (find_int cb mb 0 [] f W' h.cls).mono fun e w' ⟨h1, h2, h3, _⟩ => ⟨h1, h2, h.chg.trans h3⟩
          have HS5 := hid (And.intro v0 (And.intro x0 (And.intro x1 (And.intro t0 t3))))
          have hlm5 : LmI L f er5 w3.heap.size tb cb mb rb w5.heap.size Q w5 := LmI.of ht5 (by have := HLS.out; have := HS.out.n2; omega) hv5
          have HLM5 := hid hlm5
          have HOKM := hid (looseM_ok HOK.out hro5 hfr5)
          have hst : L.start = 0 := by rw [HL.out]; rfl
          have hou : L.outs = m.outs := by rw [HL.out]; rfl
          have hmach : machV 43 #[.pointer (some ⟨w3.heap.size, 0, none⟩)] (looseM L f er5) = .agg #[.int .i64 L.size, .int .i64 ((f 0 : Nat) : Int), .int .i64 m.ins, .int .i64 m.outs, .func (.func 43) #[] #[.pointer (some ⟨w3.heap.size, 0, none⟩)]] := by
            have e1 : (looseM L f er5).start = f 0 := by show f L.start = _; rw [hst]
            have e2 : ((looseM L f er5).ins : Int) = m.ins := HLI.out
            have e3 : (looseM L f er5).outs = m.outs := hou
            unfold machV
            rw [e1, e2, e3]; rfl
          have hmv : MvF 43 #[.pointer (some ⟨w3.heap.size, 0, none⟩)] (looseM L f er5) (LmI L f er5 w3.heap.size tb cb mb rb w5.heap.size Q) (fun b => b = mb) w5.heap.size :=
            loose1_mv L (by have := HLS.out; have := HS.out.n2; omega) f er5 hro5 HOK.out w3.heap.size tb cb mb rb w5.heap.size Q hvl (by have := lt_of_block ht5.box; omega) (by omega) (by omega) hvb htm
          have HBU : Hid (∀ W' : World, FInv w5 W' cb mb f → Calls Try.prog 33 #[.agg #[.int .i64 L.size, .int .i64 ((f 0 : Nat) : Int), .int .i64 m.ins, .int .i64 m.outs, .func (.func 43) #[] #[.pointer (some ⟨w3.heap.size, 0, none⟩)]]] W' fun e w' =>
              ∃ u, e = .returned u ∧ FInv w5 w' cb mb f ∧ RdM w' (fun b => w5.heap.size ≤ b) u (build (looseM L f er5))) := hid fun W' h => by
            have hsz := h.chg.size
            have := build_full _ _ (looseM L f er5) _ _ w5.heap.size hmv HOKM.out (by have := HLS.out; have := HS.out.n2; show L.size ≤ 10000; omega) (by have := HLI.out; have := HS.out.i2; show L.ins ≤ 64; omega) W' (HLM5.out.step hvb htm h) hsz
            rw [hmach] at this
            refine this.mono ?_
            rintro e w' ⟨u, rfl, hl, hc, hr⟩
            exact ⟨u, rfl, ⟨hl.cls, h.chg.trans hc⟩, hr.mono fun b hb _ => by have hb : W'.heap.size ≤ b := hb; show w5.heap.size ≤ b; omega⟩
          have hst2 : w.heap.size + 1 < w5.heap.size := lt_of_block hr5
          have hrm : w.heap.size + 1 ≠ mb := by have := hrl3; omega
          have hn1 : w3.heap.size ≠ w.heap.size + 1 := by have := hrl3; have := lt_of_block HR3.out; omega
          have hn2 : tb ≠ w.heap.size + 1 := by have := hrl3; omega
          have hn3 : w.heap.size ≠ w.heap.size + 1 := by omega
          have htl : tb < w5.heap.size := lt_of_block ht5.box
          have HSK : Hid (∀ W' : World, FInv w5 W' cb mb f → W'.cell? ⟨w3.heap.size, 0, none⟩ = some (.pointer (some ⟨tb, 0, none⟩)) ∧ W'.cell? ⟨tb, 0, none⟩ = some (.slice Q.ao L.size Q.co) ∧ W'.cell? ⟨tb, 3, none⟩ = some (.pointer (some ⟨cb, 0, none⟩)) ∧ W'.cell? ⟨w.heap.size, 0, none⟩ = some (.int .i64 m.ins) ∧ W'.cell? ⟨w.heap.size, 1, none⟩ = some (.int .i64 m.outs)) :=
            hid fun W' h => ⟨h.cell hvb hvl HS5.out.1, h.cell htm htl HS5.out.2.2.2.1, h.cell htm htl HS5.out.2.2.2.2, h.cell hxm hxl HS5.out.2.1, h.cell hxm hxl HS5.out.2.2.1⟩
          have HN1 := hid hn1
          have HN2 := hid hn2
          have HN3 := hid hn3
          clear ht5 hrep5 hro5 hfr5 hch5 hv5 hr5 hx5 hI1 hI2 hlm5 hst hou hmach hmv hn1 hn2 hn3
          go_upto_region 12 with (fail)
          go_region_held3 (fun w' => w'.cell? ⟨w3.heap.size, 0, none⟩ = some (.pointer (some ⟨tb, 0, none⟩)) ∧ w'.cell? ⟨tb, 0, none⟩ = some (.slice Q.ao L.size Q.co) ∧ w'.cell? ⟨tb, 3, none⟩ = some (.pointer (some ⟨cb, 0, none⟩)) ∧ w'.cell? ⟨w.heap.size, 0, none⟩ = some (.int .i64 m.ins) ∧ w'.cell? ⟨w.heap.size, 1, none⟩ = some (.int .i64 m.outs))
            (first
              | (with_reducible exact HSK.out _ hI)
              | (with_reducible exact HSK.out _ hJ)
              | (with_reducible exact ⟨cell_set5 (HSK.out _ hJ).1 HN1.out, cell_set5 (HSK.out _ hJ).2.1 HN2.out, cell_set5 (HSK.out _ hJ).2.2.1 HN2.out, cell_set5 (HSK.out _ hJ).2.2.2.1 HN3.out, cell_set5 (HSK.out _ hJ).2.2.2.2 HN3.out⟩)
              | (go_keep; done))
            (first
              | (go_at_call 44; refine (HFI.out _ (by first | exact HI1.out | exact HI2.out _)).mono ?_; rintro e w6 ⟨rfl, hI⟩)
              | (go_at_call 33; refine (HBU.out _ hI).mono ?_; rintro e w7 ⟨u, rfl, hJ, hR7⟩; obtain ⟨M7, hM7⟩ : ∃ X, X = build (looseM L f er5) := ⟨_, rfl⟩; rw [← hM7] at hR7; obtain ⟨Co, co7, Cn, cn7, rfl, hO7, hN7⟩ := hR7
                 have hR := hJ.chg.box HR5.out hrm
                 have q0 := block_cell hR (i := 0) rfl
                 have q1 := block_cell hR (i := 1) rfl
                 have q2 := block_cell hR (i := 2) rfl
                 have q3 := block_cell hR (i := 3) rfl
                 have q4 := block_cell hR (i := 4) rfl
                 have z0 := block_free hR (i := 0)
                 have z1 := block_free hR (i := 1)
                 have z2 := block_free hR (i := 2)
                 have z3 := block_free hR (i := 3)
                 have z4 := block_free hR (i := 4)
                 have HR7 := hid hR
                 have HM7 := hid hM7
                 have HO7 := hid hO7
                 have HN7 := hid hN7
                 clear hR hM7 hO7 hN7))
          all_goals
            have hwr := HBR.out.size
            have hc5 : Chg (fun _ => False) w w5 := (Chg.of_new HB4.out).trans' HCH5.out (fun b hb h => by rcases h with h | h <;> omega)
            have HC7 := hid (hc5.trans' hJ.chg (fun b hb h => by omega) : Chg (fun _ => False) w w7)
            have hrl : w.heap.size + 1 < w5.heap.size := hst2
            clear hc5 v0 x0 x1 t0 t3 hI hJ
            go_wp2_with fail
            refine bodyPost_gen fun W8 hW8 => ?_
            have hfin := set5_rd (m := M7) (B := w5.heap.size) HR7.out (w := w) HC7.out (by omega) hrl (by omega) ⟨Co, co7, Cn, cn7, rfl, HO7.out, HN7.out⟩ hW8
            obtain ⟨⟨p0, p1, p2, p3, p4⟩, f1, f2⟩ := hfin
            have F1 := hid f1
            have F2 := hid f2
            clear hW8 q0 q1 q2 q3 q4 z0 z1 z2 z3 z4 f1 f2
            exact bodyPost_ret (v := .agg #[.int .i64 M7.ins, .int .i64 M7.outs, .int .i64 M7.start, .slice Co M7.out.length co7, .slice Cn M7.next.length cn7]) (by simp [results, Try.results20, go_sem, p0, p1, p2, p3, p4]) rfl
              ⟨_, M7, rfl, F1.out, F2.out, (fun _ => by rw [HM7.out, ← HL.out]; exact loose_quo HOK.out HRO5.out HT5.out.cls.idem HFR5.out HREP5.out), fun h => by rw [HMB.out, HCS.out] at h; cases h⟩
    · have hne : ((care.length : Int) != (m.out.length : Int)) = true := bne_iff_ne.2 (by omega)
      have HP := hid (show LooseIs m care (mealyB m && caresB m care) zeroMly from ⟨(fun h => by
        rw [Bool.and_eq_true] at h
        exact absurd (cares_shape h.2).1 hcl), fun _ => rfl⟩)
      have HCL := hid hcl
      clear hcl
      go_wp2_with fail
      refine bodyPost_gen fun W3 hW3 => ?_
      obtain ⟨⟨p0, p1, p2, p3, p4⟩, hgv⟩ := HZ.out w2 HB2.out HR2.out _ HP.out W3 hW3
      have HGV := hid hgv
      clear hW3 hgv q0 q1 q2 q3 q4 z0 z1 z2 z3 z4
      exact bodyPost_ret (v := .agg #[.int .i64 0, .int .i64 0, .int .i64 0, .slice none 0 0, .slice none 0 0]) (by simp [results, Try.results20, go_sem, p0, p1, p2, p3, p4]) rfl HGV.out
end Go.Proofs.Ytcmhginhfhiolaa
