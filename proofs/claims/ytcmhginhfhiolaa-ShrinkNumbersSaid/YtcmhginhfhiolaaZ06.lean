/-
  Walk of the reference's Trim.
-/
import Derived.Test.YtcmhginhfhiolaaZ05
set_option linter.unusedVariables false
set_option linter.unusedSimpArgs false
namespace Go.Proofs.Ytcmhginhfhiolaa
open Go.RowKit Go.Shelf
attribute [local go_sem] cell_alloc_old

theorem every_care {m : Mly} (h : Sized m) (b : Bool) : caresB m (everyZ m b m.out.length) = true := by
  unfold caresB
  rw [everyZ_len, decide_eq_true rfl, Bool.true_and]
  refine allN_of fun i hi => ?_
  rw [everyZ_get m b hi, List.length_replicate]
  have := h.i1
  exact decide_eq_true (by omega)
theorem every_mv {m : Mly} {q x : Nat} (hq : q < m.out.length) (hx : x < m.ins.toNat) : (careM m (everyZ m true m.out.length)).mv q x = (wholeM m).mv q x := by
  have e : ((everyZ m true m.out.length).getD q []).getD x false = true := by
    rw [everyZ_get m true hq]; simp [List.getD, hx]
  simp only [careM, wholeM, e, if_true]
theorem ord_every {m : Mly} (h : Sized m) : ord (careM m (everyZ m true m.out.length)) = ord (wholeM m) := by
  have h1 := whole_ok h
  have := iso_ord (M := wholeM m) (M' := careM m (everyZ m true m.out.length)) (f := id) ⟨rfl, rfl, rfl, fun p q _ _ e => e, fun q x hq hx => ?_⟩ h1 (care_ok h _)
  · simpa using this
  · rw [id, every_mv (ord_lt h1 q hq) hx]
    rcases (wholeM m).mv q x with _ | ⟨o, t⟩ <;> rfl
theorem whole_bOut {m : Mly} (h : Sized m) {q : Nat} (hq : q < m.out.length) : bOut (wholeM m) q = m.out.getD q [] := by
  have h0 := h.outr q 0 hq (by have := h.i1; omega)
  have h1 := h.i1
  have hl : (m.out.getD q []).length = m.ins.toNat := by omega
  unfold bOut
  simp only [wholeM]
  generalize m.out.getD q [] = r at hl ⊢
  apply List.ext_getElem
  · simp [hl]
  · intro i h2 h3
    simp [List.getD, h3]
theorem bNext_take (M : Mac) (l : List Nat) (n q : Nat) {x : Nat} (h : x < M.ins) : (bNext M l n q).take (x + 1) = (bNext M l n q).take x ++ [(bNext M l n q).getD x 0] := take_succ_getD _ 0 (by simp [bNext]; exact h)

theorem cells3_below {w w' : World} {p1 p2 p3 : Addr} {x1 x2 x3 : Value} (h : w.cell? p1 = some x1 ∧ w.cell? p2 = some x2 ∧ w.cell? p3 = some x3) {B : Nat} (hb : Below B w w')
    (h1 : p1.block < B) (h2 : p2.block < B) (h3 : p3.block < B) : w'.cell? p1 = some x1 ∧ w'.cell? p2 = some x2 ∧ w'.cell? p3 = some x3 :=
  ⟨(hb.cell h1).trans h.1, (hb.cell h2).trans h.2.1, (hb.cell h3).trans h.2.2⟩
theorem cells3_set {w : World} {a p1 p2 p3 : Addr} {x1 x2 x3 : Value} (h : w.cell? p1 = some x1 ∧ w.cell? p2 = some x2 ∧ w.cell? p3 = some x3) (u : Value)
    (h1 : p1.block ≠ a.block) (h2 : p2.block ≠ a.block) (h3 : p3.block ≠ a.block) : (w.setCell a u).cell? p1 = some x1 ∧ (w.setCell a u).cell? p2 = some x2 ∧ (w.setCell a u).cell? p3 = some x3 :=
  ⟨(World.cell?_of_block (w := w) (Below.heap_setCell _ _ _ _ h1)).trans h.1, (World.cell?_of_block (w := w) (Below.heap_setCell _ _ _ _ h2)).trans h.2.1, (World.cell?_of_block (w := w) (Below.heap_setCell _ _ _ _ h3)).trans h.2.2⟩
theorem cells4_below {w w' : World} {p0 p1 p2 p3 : Addr} {x0 x1 x2 x3 : Value} (h : w.cell? p0 = some x0 ∧ w.cell? p1 = some x1 ∧ w.cell? p2 = some x2 ∧ w.cell? p3 = some x3) {B : Nat} (hb : Below B w w')
    (h0 : p0.block < B) (h1 : p1.block < B) (h2 : p2.block < B) (h3 : p3.block < B) : w'.cell? p0 = some x0 ∧ w'.cell? p1 = some x1 ∧ w'.cell? p2 = some x2 ∧ w'.cell? p3 = some x3 :=
  ⟨(hb.cell h0).trans h.1, (hb.cell h1).trans h.2.1, (hb.cell h2).trans h.2.2.1, (hb.cell h3).trans h.2.2.2⟩

set_option maxRecDepth 100000 in
set_option maxHeartbeats 8000000 in
theorem rtrim_any {D : Dom} (v : Value) (m : Mly) (w : World) (h : RdM w D v m) (hsm : m.out.length ≤ 10000) :
    Calls Try.prog 15 #[v] w fun e w' => ∃ u, e = .returned u ∧ Below w.heap.size w w' ∧ RdM w' (fun b => w.heap.size ≤ b) u (trimZ m) := by
  obtain ⟨i0, hti, hz0, hz1, hz2⟩ := info_parts int_info
  obtain ⟨i1, htr, hy0, hy1, hy2⟩ := info_parts rows_info
  have HV := hid h.old
  obtain ⟨Ao, co, An, cn, rfl, ho, hn⟩ := h
  have HOX := hid ho.old
  have HNX := hid hn.old
  have hlo := ho.len.1
  have hln := hn.len.1
  clear ho hn
  go_enter Try.func15, Try.ntmps15
  go_upto_region 1 with (fail)
  refine wp_gen fun W1 hW1 => ?_
  have hb1 : Below w.heap.size w W1 := by rw [hW1]; go_grown
  have hx1 : W1.heap[w.heap.size]? = some (.cells #[.int .i64 m.ins, .int .i64 m.outs, .int .i64 m.start, .slice Ao m.out.length co, .slice An m.next.length cn] 24 (0, 0)) := by
    rw [hW1]; (repeat (first | (refine at_new _ _ _ ?_; (simp only [World.size_alloc]; done)) | (refine (at_old _ _ _ ?_).trans ?_; (simp only [World.size_alloc]; omega))))
  have hr1 : W1.heap[w.heap.size + 1]? = some (.cells #[.int .i64 0, .int .i64 0, .int .i64 0, .slice none 0 0, .slice none 0 0] 24 (0, 0)) := by
    rw [hW1]; (repeat (first | (refine at_new _ _ _ ?_; (simp only [World.size_alloc]; done)) | (refine (at_old _ _ _ ?_).trans ?_; (simp only [World.size_alloc]; omega))))
  have HB1 := hid hb1
  have HR1 := hid hr1
  have HX1 := hid hx1
  have x0 := block_cell hx1 (i := 0) rfl
  have x1 := block_cell hx1 (i := 1) rfl
  have x2 := block_cell hx1 (i := 2) rfl
  have x3 := block_cell hx1 (i := 3) rfl
  have x4 := block_cell hx1 (i := 4) rfl
  clear hW1 hb1 hx1 hr1
  go_wp2_with fail
  refine (rmvalid_any _ m W1 (HV.out.keep (Keeps.of_below HB1.out (fun _ h => h)))).mono ?_
  rintro e w2 ⟨rfl, hb2⟩
  have HB2 := hid (HB1.out.trans (hb2.mono HB1.out.size))
  have HR2 := hid ((hb2.block _ (lt_of_block HR1.out)).trans HR1.out)
  have HX2 := hid ((hb2.block _ (lt_of_block HX1.out)).trans HX1.out)
  have x0 := block_cell HX2.out (i := 0) rfl
  have x1 := block_cell HX2.out (i := 1) rfl
  have x2 := block_cell HX2.out (i := 2) rfl
  have x3 := block_cell HX2.out (i := 3) rfl
  have x4 := block_cell HX2.out (i := 4) rfl
  clear hb2
  cases hm : mealyB m
  · --<<
    have hz : trimZ m = zeroMly := by unfold trimZ; rw [hm]; rfl
    have HZ := hid hz
    have q0 := block_cell HR2.out (i := 0) rfl
    have q1 := block_cell HR2.out (i := 1) rfl
    have q2 := block_cell HR2.out (i := 2) rfl
    have q3 := block_cell HR2.out (i := 3) rfl
    have q4 := block_cell HR2.out (i := 4) rfl
    have z0 := block_free HR2.out (i := 0)
    have z1 := block_free HR2.out (i := 1)
    have z2 := block_free HR2.out (i := 2)
    have z3 := block_free HR2.out (i := 3)
    have z4 := block_free HR2.out (i := 4)
    clear hm hz
    go_wp2_with fail
    refine bodyPost_gen fun W2 hW2 => ?_
    have hfin := set5_rd (m := zeroMly) (B := w2.heap.size) HR2.out (w := w) (Chg.of_new HB2.out) (by omega) (lt_of_block HR2.out) (HB2.out.size) ⟨none, 0, none, 0, rfl, RdII.nil _ _ _ (by omega), RdII.nil _ _ _ (by omega)⟩ hW2
    obtain ⟨⟨p0, p1, p2, p3, p4⟩, f1, f2⟩ := hfin
    have p0' : W2.cell? ⟨w.heap.size + 1, 0, none⟩ = some (.int .i64 0) := p0
    have p1' : W2.cell? ⟨w.heap.size + 1, 1, none⟩ = some (.int .i64 0) := p1
    have p2' : W2.cell? ⟨w.heap.size + 1, 2, none⟩ = some (.int .i64 0) := p2
    have p3' : W2.cell? ⟨w.heap.size + 1, 3, none⟩ = some (.slice none 0 0) := p3
    have p4' : W2.cell? ⟨w.heap.size + 1, 4, none⟩ = some (.slice none 0 0) := p4
    have F1 := hid f1
    have F2 := hid f2
    clear hW2 p0 p1 p2 p3 p4 f1 f2
    exact bodyPost_ret (v := .agg #[.int .i64 0, .int .i64 0, .int .i64 0, .slice none 0 0, .slice none 0 0]) (by simp [results, Try.results15, go_sem, p0', p1', p2', p3', p4']) rfl ⟨_, rfl, F1.out, by rw [HZ.out]; exact F2.out⟩
    -->>
  · have hz : trimZ m = build (wholeM m) := by unfold trimZ; rw [hm]; rfl
    have hSz := sized_of hm
    have hi2 := hSz.i2
    have hi1 := hSz.i1
    have HZ := hid hz
    have HS := hid hSz
    have hoz : ordZ (careM m (everyZ m true m.out.length)) = ordZ (wholeM m) := by unfold ordZ; rw [ord_every hSz]
    have HOZ := hid hoz
    obtain ⟨W, hW⟩ : ∃ W, W = wholeM m := ⟨_, rfl⟩
    have hok : W.Ok := by rw [hW]; exact whole_ok hSz
    have HW := hid hW
    have HOK := hid hok
    have HCS := hid (every_care hSz true)
    obtain ⟨ev, hev⟩ : ∃ ev, ev = everyZ m true m.out.length := ⟨_, rfl⟩
    have HEV := hid hev
    clear hm hz hSz hoz hW hok hev
    have HVD := hid ((HV.out.keep (Keeps.of_below HB2.out (fun _ h => h))).keep (Drawn.refl w2).drew.keeps)
    have HV2 := hid ((HV.out.keep (Keeps.of_below HB2.out (fun _ h => h))))
    have hd2 : w.heap.size ≤ w2.heap.size := HB2.out.size
    go_wp2_with fail
    go_region_held3 (fun w' => w'.cell? ⟨w.heap.size, 0, none⟩ = some (.int .i64 m.ins) ∧ w'.cell? ⟨w.heap.size, 1, none⟩ = some (.int .i64 m.outs) ∧ w'.cell? ⟨w.heap.size, 2, none⟩ = some (.int .i64 m.start) ∧
        w'.cell? ⟨w.heap.size, 3, none⟩ = some (.slice Ao m.out.length co) ∧ w'.cell? ⟨w.heap.size, 4, none⟩ = some (.slice An m.next.length cn))
      (first
        | go_keep
        | (have hxx := (hb5.block _ (lt_of_block HX2.out)).trans HX2.out
           exact ⟨block_cell hxx (i := 0) rfl, block_cell hxx (i := 1) rfl, block_cell hxx (i := 2) rfl, block_cell hxx (i := 3) rfl, block_cell hxx (i := 4) rfl⟩)
        | (have hxx := (hb4.block _ (lt_of_block HX2.out)).trans HX2.out
           exact ⟨block_cell hxx (i := 0) rfl, block_cell hxx (i := 1) rfl, block_cell hxx (i := 2) rfl, block_cell hxx (i := 3) rfl, block_cell hxx (i := 4) rfl⟩))
      (first
        | (go_at_call 28
           refine (every_any _ m true _ HVD.out hsm (by omega)).mono ?_
           rintro e w4 ⟨EA, ec, rfl, hb4, hr4⟩)
        | (go_at_call 29
           refine (reached_any _ m EA ec (everyZ m true m.out.length) _ (HVD.out.keep (Keeps.of_below (hb4.mono hd2) (fun _ h => h))) hr4 HS.out HCS.out).mono ?_
           rw [HOZ.out]
           rintro e w5 ⟨L, lc, rfl, hb5', hr5⟩
           have hb5 := hb4.trans (hb5'.mono hb4.size)))
    have HL := hid (hr5.mono (E := fun b => w.heap.size ≤ b ∧ b < w5.heap.size) fun b h1 h2 => ⟨by have := hb4.size; have : w2.drew.heap.size = w2.heap.size := rfl; omega, h2⟩)
    have hll := hr5.len.1
    have hb25 : Below w2.heap.size w2 w5 := ((Drawn.refl w2).drew.below w2.heap.size).trans hb5
    have HB5 := hid (HB2.out.trans (hb25.mono hd2))
    have HR5 := hid ((hb25.block _ (lt_of_block HR2.out)).trans HR2.out)
    have HX5 := hid ((hb25.block _ (lt_of_block HX2.out)).trans HX2.out)
    have hs5 := hb25.size
    have x0 := block_cell HX5.out (i := 0) rfl
    have x1 := block_cell HX5.out (i := 1) rfl
    clear hr5 hb4 hb5 hb5' hb25 x2 x3 x4
    rw [← HW.out] at HL hll ⊢
    go_upto_region 5 with (fail)
    refine wp_gen fun W3 hW3 => ?_
    have hb3 : Below w5.heap.size w5 W3 := by rw [hW3]; go_grown
    have hm3 : W3.heap[w5.heap.size]? = some (.cells #[.int .i64 m.ins, .int .i64 m.outs, .int .i64 0, .slice none 0 0, .slice none 0 0] 24 (0, 0)) := by rw [hW3]; exact heap_alloc_new w5 _
    obtain ⟨b, hbe⟩ : ∃ b, b = w5.heap.size := ⟨_, rfl⟩
    rw [← hbe] at hm3 ⊢
    have hK3 : Mk W3.heap.size W3 b m.ins m.outs 0 [] none 0 [] [] none 0 [] :=
      ⟨hm3, ⟨rfl, .inl ⟨rfl, rfl⟩⟩, ⟨rfl, .inl ⟨rfl, rfl⟩⟩, Rows.nil _ _ _, Rows.nil _ _ _, fun b h => by cases h⟩
    have hs3 := lt_of_block hm3
    have HK3 := hid hK3
    have HX3 := hid ((hb3.block _ (lt_of_block HX5.out)).trans HX5.out)
    have HR3 := hid ((hb3.block _ (lt_of_block HR5.out)).trans HR5.out)
    have HB3 := hid (HB5.out.trans (hb3.mono HB5.out.size))
    have hrb := lt_of_block HR5.out
    have hbw : w.heap.size + 1 < b := by omega
    have HL3 := hid ((HL.out.keep (Keeps.of_below hb3 (fun _ h => h.2))).mono (E := fun k => w.heap.size ≤ k ∧ k < W3.heap.size ∧ k ≠ b) fun k h1 h2 => ⟨h1.1, h2, by omega⟩)
    have hln1 : (ordZ W).length ≤ m.out.length := by rw [ordZ_len]; have := ord_len HOK.out; rw [HW.out] at this ⊢; exact this
    clear hm3 hK3 hW3 hb3 x0 x1 hbe
    go_wp2_with fail
    go_loopw [5] (fun t wr => ∃ (k : Nat) (Bo : Option Addr) (bo : Nat) (vo : List Value) (Bn : Option Addr) (bn : Nat) (vn : List Value) (orows nrows : List (List Int)), k ≤ (ordZ W).length ∧ t = .int .i64 (k : Int) ∧ orows = bOuts W k ∧ nrows = bNexts W k ∧
      orows.length = k ∧ nrows.length = k ∧ Mk W3.heap.size wr b m.ins m.outs 0 orows Bo bo vo nrows Bn bn vn ∧ Chg (fun a => a = b ∨ W3.heap.size ≤ a) W3 wr) (fun t _ => (ordZ W).length - (intOf t).toNat)
    case atStart => exact ⟨0, none, 0, [], none, 0, [], [], [], Nat.zero_le _, rfl, rfl, rfl, rfl, rfl, HK3.out, Chg.refl _ _⟩
    case round =>
      obtain ⟨k, Bo, bo, vo, Bn, bn, vn, orows, nrows, hk, rfl, hor, hnr, hol, hnl2, hK, hch⟩ := hrel
      have HK := hid hK
      have HCH := hid hch
      have HOR := hid hor
      have HNR := hid hnr
      have HOL := hid hol
      have HNL := hid hnl2
      have hxr := hch.box HX3.out (by omega)
      have x0 := block_cell hxr (i := 0) rfl
      have x3 := block_cell hxr (i := 3) rfl
      have x4 := block_cell hxr (i := 4) rfl
      have hszr := hch.size
      have hwz : w.heap.size < wr.heap.size := by omega
      have hol3 : orows.length ≤ 10000 := by omega
      have hnl3 : nrows.length ≤ 10000 := by omega
      have HBR := hid (HB3.out.trans (hch.below (B := w.heap.size) (fun a h1 h2 => by omega) (by omega)))
      clear hK hch hor hnr hol hnl2 hxr
      by_cases hlt : k < (ordZ W).length
      · --<<
        obtain ⟨q, hq⟩ : ∃ q, (ord W).getD k 0 = q := ⟨_, rfl⟩
        have hlt2 : k < (ord W).length := by rw [← ordZ_len]; exact hlt
        have hqm : q ∈ ord W := by rw [← hq]; exact getD_mem _ _ hlt2
        have hqs : q < m.out.length := by have := ord_lt HOK.out q hqm; rw [HW.out] at this; exact this
        have HQ := hid hq
        have HQM := hid hqm
        have hki : (k : Int) < (ordZ W).length := by omega
        clear hq hqm
        obtain ⟨wz, rfl⟩ : ∃ wz : World, wz = wr := ⟨_, rfl⟩
        go_wp2_with fail
        go_loopw [6, 7] (fun s t wr => ∃ (x : Nat) (Ar : Option Addr) (cr : Nat), x ≤ m.ins.toNat ∧ t = .int .i64 (x : Int) ∧ s = .slice Ar x cr ∧ wr.ownsRow wz.heap.size 3 1 (.slice Ar x cr) x (((bNext W (ord W) k q).take x).map (.int .i64)) ∧ Below wz.heap.size wz wr) (fun _ t _ => m.ins.toNat - (intOf t).toNat)
        case atStart => exact ⟨0, none, 0, Nat.zero_le _, rfl, rfl, ⟨rfl, .inl ⟨rfl, rfl⟩⟩, Below.refl _ _⟩
        case round =>
          obtain ⟨x, Ar, cr, hx, rfl, rfl, hown, hbz⟩ := hrel
          have HO := hid hown
          have HBZ := hid hbz
          have HCX := hid (HCH.out.trans (Chg.of_new hbz))
          have hbx := (HCX.out).box HX3.out (by omega)
          have x0 := block_cell hbx (i := 0) rfl
          have x3 := block_cell hbx (i := 3) rfl
          have x4 := block_cell hbx (i := 4) rfl
          have hszz := hbz.size
          have HBX := hid (HBR.out.trans (hbz.mono (by omega)))
          have hlr := HL3.out.keep (HCX.out.keeps (fun a _ h => by omega))
          clear hown hbz hbx
          obtain ⟨b1, o1, q', rfl, hbd1, _, HXQ, hc1⟩ := hlr.get hlt
          have hqq : q' = (q : Int) := by rw [← HXQ.out, ordZ_get W hlt2, HQ.out]
          subst hqq
          have hrl : RdI wr (fun _ => True) (some ⟨b1, o1, none⟩) lc (ordZ W) := hlr.mono fun _ _ _ => trivial
          have HRL := hid hrl
          clear hrl hlr
          by_cases hxl : (x : Int) < m.ins
          · have hxx : decide ((x : Int) < m.ins) = true := decide_eq_true hxl
            have hqn : q < m.next.length := by rw [HS.out.nn]; exact hqs
            obtain ⟨b3, o3, A3, c3, r3, rfl, _, _, HR3', hr3, hc3⟩ := (HNX.out.keep (Keeps.of_below HBX.out fun _ h => h)).get hqn
            have e3 := HS.out.nextr q x hqs hxl
            rw [HR3'.out] at e3
            have hx3 : x < r3.length := by omega
            obtain ⟨b4, o4, z, rfl, _, _, HZ4, hc4⟩ := hr3.get hx3
            rw [HZ4.out] at e3
            obtain ⟨t, rfl⟩ : ∃ t : Nat, z = t := ⟨z.toNat, by omega⟩
            have hmvt : W.mv q x = some ((m.out.getD q []).getD x 0, t) := by
              rw [HW.out]
              simp only [wholeM]
              rw [HR3'.out, HZ4.out, Int.toNat_natCast]
            have hxW : x < W.ins := by rw [HW.out]; show x < m.ins.toNat; omega
            have htm := ord_to HOK.out HQM.out hxW hmvt
            have hnx : (bNext W (ord W) k q).getD x 0 = ((ord W).idxOf t : Int) := by rw [bNext_get W _ _ _ hxW, hmvt]
            have HNXV := hid hnx
            have HTK := hid (bNext_take W (ord W) k q hxW)
            have HIDX : Hid (∀ W', Below wr.heap.size wr W' → Calls Try.prog 34 #[.slice (some ⟨b1, o1, none⟩) (ordZ W).length lc, .int .i64 (t : Int)] W' fun e w' => e = .returned (.int .i64 ((ord W).idxOf t : Int)) ∧ w' = W') := hid fun W' hW' => by
              have := index_any (some ⟨b1, o1, none⟩) lc (ordZ W) (t : Int) W' (HRL.out.old.keep (Keeps.of_below hW' fun _ h => h))
              unfold ordZ at this
              rw [idxZ_cast, if_pos htm] at this
              exact this
            obtain ⟨j, hj⟩ : ∃ j : Nat, j = (ord W).idxOf t := ⟨_, rfl⟩
            have hjl : j < 10000 := by
              have h1 := List.idxOf_lt_length_of_mem htm
              have h2 := ord_len HOK.out
              have h3 : W.size = m.out.length := by rw [HW.out]; rfl
              omega
            rw [← hj] at HIDX HNXV
            have hqi3 : (q : Int) < m.next.length := by omega
            have hxi3 : (x : Int) < r3.length := by omega
            have l3 := hr3.len.1
            clear hmvt hnx e3 hr3 hj htm
            go_wp2_with fail
            go_region_law
              (first
                | (go_simp
                   go_at_call 34
                   refine (HIDX.out _ ((Drawn.refl wr).drew.below wr.heap.size)).mono ?_
                   rintro e w7 ⟨rfl, rfl⟩)
                | (refine step_append_rd _ (by rfl) _ _ 34 (by rfl) wz.heap.size 3 i0 _ 1 8 Try.underlying34 hti hz0 hz1 hz2 rfl (by omega) (.slice Ar x cr) x _ (by rfl) (own_below HO.out (by go_grown)) _ (some ⟨wr.heap.size, 0, none⟩) 1 1 _ (by rfl) (Rd.cell1 (cell_new wr.drew _ _ _ _ _ rfl rfl)) (by simp [Value.oneCell']) (by omega) (maxLen_le (by omega)) (by simp; omega) ?_
                   intro A6 c6 w6 hown6 hg6 hat6))
            all_goals
              have hb6 := Below.grown (B := wz.heap.size) (HBZ.out.trans (((show Below wr.heap.size wr _ from by go_grown)).mono hszz)) hg6 (by simp; omega) (fun k hk => (HO.out.lt k hk).1)
              have HO6 := hid hown6
              have HB6 := hid hb6
              clear hown6 hg6 hat6 hb6
              go_wp2_with fail
              go_roundw
              case rel => exact ⟨x + 1, A6, c6, by omega, by go_num, rfl, by rw [HTK.out, HNXV.out, List.map_append]; exact HO6.out, HB6.out⟩
              case measure => simp [intOf]; omega
          · have hxe : x = m.ins.toNat := by omega
            obtain ⟨r2, hr2e⟩ : ∃ r, r = bNext W (ord W) k q := ⟨_, rfl⟩
            have hrl2 : r2.length = x := by rw [hr2e, hxe]; simp [bNext]; rw [HW.out]; rfl
            have hw2 : (bNext W (ord W) k q).take x = r2 := by rw [← hr2e, List.take_of_length_le (by omega)]
            have HROW2 := hid (show wr.ownsRow wz.heap.size 3 1 (.slice Ar x cr) x (r2.map (.int .i64)) by rw [← hw2]; exact HO.out)
            have HRE2 := hid hr2e
            have HRL2 := hid hrl2
            have hx64 : x ≤ 64 := by omega
            have hxd : decide ((x : Int) < m.ins) = false := decide_eq_false hxl
            have hKx := HK.out.later HBZ.out
            have HKX := hid hKx
            obtain ⟨-, -, -, d3, d4, db, f3, f4⟩ := hKx.cells
            obtain ⟨b5, o5, A5', c5', r1, rfl, _, had5, HR1', hr1, hc5⟩ := (HOX.out.keep (Keeps.of_below HBX.out fun _ h => h)).get hqs
            have hr1e : bOut W q = r1 := by rw [HW.out, whole_bOut HS.out hqs]; exact HR1'.out
            have HRE1 := hid hr1e
            have HRD1 := hid hr1
            have hrl1 : r1.length ≤ 10000 := by rw [← hr1e]; simp [bOut]; rw [HW.out]; show m.ins.toNat ≤ _; omega
            have hr1pos : 0 < r1.length := by rw [← hr1e]; simp [bOut]; rw [HW.out]; show 0 < m.ins.toNat; omega
            have hqi5 : (q : Int) < m.out.length := by omega
            clear hKx hxe hr2e hrl2 hw2 hr1e hr1
            have hS0 : wr.cell? ⟨b, 3, none⟩ = some (.slice Bo orows.length bo) ∧ wr.cell? ⟨w.heap.size, 3, none⟩ = some (.slice (some ⟨b5, o5, none⟩) m.out.length co) ∧ wr.cell? ⟨b1, o1 + k, none⟩ = some (.int .i64 (q : Int)) ∧ wr.cell? ⟨b5, o5 + q, none⟩ = some (.slice A5' r1.length c5') := ⟨d3, x3, hc1, hc5⟩
            have HS0 := hid hS0
            have hb5w : b5 < w.heap.size := by assumption
            have hb1w : b1 < W3.heap.size := hbd1.2.1
            have hbr1 : b1 < wr.heap.size := by omega
            have hbr5 : b5 < wr.heap.size := by omega
            have hbrb : b < wr.heap.size := by omega
            have hbrw : w.heap.size < wr.heap.size := by omega
            clear hS0
            have hbne1 : b1 ≠ b := hbd1.2.2
            go_upto_region 13 with (fail)
            go_cut [] (fun wc => ∃ (A8 : Option Addr) (c8 : Nat) (v8 : List Value) (o8 : List (List Int)), o8 = orows ++ [r1] ∧ Mk W3.heap.size wc b m.ins m.outs 0 o8 A8 c8 v8 nrows Bn bn vn ∧ Chg (fun a => a = b ∨ W3.heap.size ≤ a) wr wc ∧
              wc.ownsRow wz.heap.size 3 1 (.slice Ar x cr) x (r2.map (.int .i64)))
            case first =>
              go_region_law
                (first
                  | (refine step_append_rd _ (by rfl) _ _ 34 (by rfl) wr.heap.size 3 i0 _ 1 8 Try.underlying34 hti hz0 hz1 hz2 rfl (by omega) (.slice (some ⟨wr.heap.size, 0, none⟩) 0 0) 0 [] (by rfl) (World.ownsRow_lit wr #[] 0 (Nat.le_refl _) (Nat.zero_le _) (by simp)) _ A5' r1.length c5' _ (by rfl) (HRD1.out.keep ((Keeps.refl _ wr).alloc _).drew) (ints_one _) (by omega) (maxLen_le (by omega)) (by simp) ?_
                     intro A7 c7 w7 hown7 hg7 hat7
                     have hb7 : Below wr.heap.size wr w7 := Below.grown (((Below.refl _ wr).alloc (Nat.le_refl _) _).trans ((Drawn.refl _).drew.below _)) hg7 (by simp) (by simp [Value.ownBlock])
                     obtain ⟨k7a, k7b, k7c, k7d⟩ := cells4_below HS0.out hb7 (by show b < _; omega) (by show w.heap.size < _; omega) (by show b1 < _; omega) (by show b5 < _; omega)
                     have hs7 := hb7.size
                     have hbrb7 : b < w7.heap.size := by omega)
                  | (refine step_append_rd _ (by rfl) _ _ 22 (by rfl) W3.heap.size 34 i1 _ 1 24 Try.underlying22 htr hy0 hy1 hy2 rfl (by omega) (.slice Bo orows.length bo) orows.length _ (by rfl) ((HKX.out.later hb7).oo.alloc _) _ (some ⟨w7.heap.size, 0, none⟩) 1 1 _ (by rfl) (Rd.cell1 (cell_new w7 _ _ _ _ _ rfl rfl)) (by simp [Value.oneCell']) (by omega) (maxLen_le (by omega)) (by have := hb7.size; simp; omega) ?_
                     intro A8 c8 w8 hown8 hg8 hat8
                     have hb8 : Below W3.heap.size wr w8 := Below.grown (hb7.mono (by omega) |>.alloc (by have := hb7.size; omega) _) hg8 (by have := hb7.size; simp; omega) (fun k hk => ((HKX.out.later hb7).oo.lt k hk).1)
                     have e8c := (((HKX.out.later hb7).later ((Below.refl _ w7).alloc (Nat.le_refl _) _)).grow ((HKX.out.later hb7).later ((Below.refl _ w7).alloc (Nat.le_refl _) _)).oo hg8 0 undef).2.2.2
                     have e8d := block_cell e8c (i := 3) rfl
                     have e8f := block_free e8c (i := 3)))
              all_goals
                have hbw7 : Below w7.heap.size w7 (w7.alloc (.cells #[.slice A7 r1.length c7] 34)) := (Below.refl _ w7).alloc (Nat.le_refl _) _
                have hK7 := (HKX.out.later hb7).later hbw7
                have ho7 : w7.ownsRow wr.heap.size 3 1 (.slice A7 r1.length c7) r1.length (r1.map (.int .i64)) := by simpa using hown7
                have hK8 := hK7.outr (IB.own (n := r1.length) (B' := wr.heap.size) (by omega) (ho7.alloc _) rfl (by omega)) hg8 hown8 hat8
                have hch8 := ((Chg.of_new (V := fun a => W3.heap.size ≤ a ∨ a = b) hb7).trans (Chg.of_new hbw7)).trans (hK7.grow hK7.oo hg8 3 (.slice A8 (orows.length + 1) c8)).2.1
                have hrow8 := own_agree (W := w8.setCell ⟨b, 3, none⟩ (.slice A8 (orows.length + 1) c8)) HROW2.out fun a e => by
                  have h1 := HROW2.out.lt a e.symm
                  rw [Below.heap_setCell _ _ _ _ (show a ≠ b by omega), hg8.block a (by have := hb7.size; simp; omega) (own_apart HROW2.out HKX.out.oo (by decide) e), Below.heap_alloc _ _ _ (by have := hb7.size; omega)]
                  exact hb7.block a h1.2
                have HK8 := hid hK8
                have HCH8 := hid (hch8.mono fun a _ h => h.symm)
                have HROW8 := hid hrow8
                clear hK7 ho7 hK8 hch8 hrow8 hown7 hg7 hat7 hown8 hg8 hat8 e8c e8d e8f
                go_wp2_with fail
                go_meet
                exact ⟨A8, c8, _, orows ++ [r1], rfl, HK8.out, HCH8.out, HROW8.out⟩
            case rest =>
              obtain ⟨A8, c8, v8, o8, ho8, hK8, hch8, hrow8⟩ := hcut
              have ho8l : o8.length = orows.length + 1 := by rw [ho8]; simp
              have HO8 := hid ho8
              have HO8L := hid ho8l
              have HK8 := hid hK8
              have HROW8 := hid hrow8
              have hs8 := hch8.size
              have HC8 := hid (HCX.out.trans' hch8 (fun a _ h => h))
              obtain ⟨-, -, -, d3, d4, db, f3, f4⟩ := hK8.cells
              clear ho8 ho8l hK8 hch8 hrow8 x3 x0 x4 hc1 hc5 HS0
              go_wp2_with (at_builtin; go_must (refine wpList_append_rd _ rfl (.tmp 65) (.tmp 67) 22 rfl W3.heap.size 34 i1 _ 1 24 Try.underlying22 htr hy0 hy1 hy2 rfl (by omega) (.slice Bn nrows.length bn) nrows.length _ rfl (HK8.out.on.alloc _) _ (some ⟨wc.heap.size, 0, none⟩) 1 1 _ rfl (Rd.cell1 (cell_new wc _ _ _ _ _ rfl rfl)) (by simp [Value.oneCell']) (by omega) (maxLen_le (by omega)) (by simp; omega) ?_); intro A9 c9 w9 hown9 hg9 hat9; have e9c := ((HK8.out.later (by go_grown)).grow (HK8.out.later (by go_grown)).on hg9 0 undef).2.2.2; have e9d := block_cell e9c (i := 4) rfl; have e9f := block_free e9c (i := 4))
              have hK9 := (HK8.out.later (by go_grown)).next (IB.own (n := x) (B' := wz.heap.size) (by omega) (HROW8.out.alloc _) HRL2.out.symm (by omega)) hg9 (by rw [HRL2.out]; exact hown9) hat9
              have hch9 := (Chg.of_new (show Below wc.heap.size wc _ by go_grown)).trans ((HK8.out.later (by go_grown)).grow (HK8.out.later (by go_grown)).on hg9 4 (.slice A9 (nrows.length + 1) c9)).2.1
              have HK9 := hid hK9
              have HCH9 := hid (HC8.out.trans' hch9 (fun _ _ h => h.symm))
              clear hK9 hch9 hown9 hg9 hat9 e9c e9d e9f
              go_roundw
              case rel =>
                refine ⟨k + 1, A8, c8, v8, A9, c9, _, o8, nrows ++ [r2], by omega, by go_num, ?_, ?_, ?_, ?_, HK9.out, HCH9.out⟩
                · rw [HO8.out, bOuts_succ, ← HOR.out, HQ.out, HRE1.out]
                · rw [bNexts_succ, ← HNR.out, HQ.out, HRE2.out]
                · rw [HO8L.out, HOL.out]
                · rw [List.length_append, HNL.out]; rfl
              case measure => simp [intOf]; omega
        -->>
      · obtain rfl : k = (ordZ W).length := by omega
        obtain ⟨d0, d1, d2, d3, d4, db, -, -⟩ := HK.out.cells
        have HRR := hid (HCH.out.box HR3.out (by omega))
        have q0 := block_cell HRR.out (i := 0) rfl
        have q1 := block_cell HRR.out (i := 1) rfl
        have q2 := block_cell HRR.out (i := 2) rfl
        have q3 := block_cell HRR.out (i := 3) rfl
        have q4 := block_cell HRR.out (i := 4) rfl
        have z0 := block_free HRR.out (i := 0)
        have z1 := block_free HRR.out (i := 1)
        have z2 := block_free HRR.out (i := 2)
        have z3 := block_free HRR.out (i := 3)
        have z4 := block_free HRR.out (i := 4)
        have hbu : build W = ⟨m.ins, m.outs, 0, orows, nrows⟩ := by
          rw [HOR.out, HNR.out, ordZ_len]
          unfold build
          rw [HW.out, ← (whole_start HS.out).2]
          rfl
        have HBU := hid hbu
        have hread := HK.out.reads (by omega) (by omega)
        have HRD := hid hread
        clear hbu hread
        go_wp2_with fail
        refine bodyPost_gen fun W2 hW2 => ?_
        have hfin := set5_rd (m := ⟨m.ins, m.outs, 0, orows, nrows⟩) (B := W3.heap.size) HRR.out (w := w) (Chg.of_new HBR.out) (by omega) (by omega) (by omega) HRD.out hW2
        obtain ⟨⟨p0, p1, p2, p3, p4⟩, f1, f2⟩ := hfin
        have F1 := hid f1
        have F2 := hid f2
        clear hW2 q0 q1 q2 q3 q4 z0 z1 z2 z3 z4 d0 d1 d2 d3 d4 f1 f2
        exact bodyPost_ret (v := .agg #[.int .i64 m.ins, .int .i64 m.outs, .int .i64 0, .slice Bo orows.length bo, .slice Bn nrows.length bn]) (by simp [results, Try.results15, go_sem, p0, p1, p2, p3, p4]) rfl ⟨_, rfl, F1.out, by rw [HZ.out, ← HW.out, HBU.out]; exact F2.out⟩
end Go.Proofs.Ytcmhginhfhiolaa
