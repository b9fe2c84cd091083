/-
  Walks of Layered, Valid and bare.
  The positive and the negative forms of formulas, plain.
-/
import Derived.Test.YtdakdpfofgkjoaaGreatDoorZ09
import Derived.Test.YtdakdpfofgkjoaaGreatDoorZ05
set_option linter.unusedVariables false
set_option linter.unusedSimpArgs false
namespace Go.Proofs.YtdakdpfofgkjoaaGreatDoor
open Go.RowKit Go.Shelf
attribute [local go_sem] cell_alloc_old Oper.semAt_some

def layQ (x : Fm × Bool) : Bool := !((formZ x.1.op).future && x.2)
set_option maxRecDepth 100000 in
set_option maxHeartbeats 4000000 in
theorem layered_any {D : Dom} (f : Fm) (v : Value) (w : World) (h : RdF3 w D v f) (hg : GF w) (hd : f.depth ≤ 5000) :
    Calls Tryz.prog 23 #[v] w fun e w' => e = .returned (.bool (allB layQ f)) ∧ Below w.heap.size w w' := by
  obtain ⟨A, c, rfl, ha⟩ := h
  have HA := hid ha.old
  have HG := hid hg
  have HD := hid hd
  clear ha hg hd
  refine (callsIn_wide (n := 3)).1 (callsIn_of_wp_marks Tryz.func23 rfl trivial ?_ rfl)
  simp only [Tryz.ntmps23, List.size_toArray, List.length_cons, List.length_nil, Nat.reduceAdd, Nat.reduceSub, Array.replicate_succ, Array.replicate_zero, List.push_toArray, List.append_toArray, List.nil_append, List.cons_append]
  refine wpIn_wide.2 ?_
  go_upto_region 1 with (fail)
  refine wp_gen fun W hW => ?_
  have hb : Below w.heap.size w W := by rw [hW]; go_grown
  have e0 : Box5 W w.heap.size f A c := by
    show W.heap[w.heap.size]? = _
    rw [hW, at_old _ _ _ (by simp)]; exact at_new _ _ _ rfl
  have e1 : W.heap[w.heap.size + 1]? = some (.cells #[.bool false] 4 (0, 0)) := by rw [hW]; exact at_new _ _ _ (by simp)
  have hs : w.heap.size + 2 ≤ W.heap.size := by rw [hW]; simp
  have HB := hid hb
  have HE0 := hid e0
  have HE1 := hid e1
  have HS := hid hs
  clear hW hb e0 e1 hs
  go_wp2_with (first | (go_at_call 45; refine (nodes_any _ W).mono ?_; rintro e w2 ⟨rfl, rfl⟩))
  refine wp_gen fun W2 hW2 => ?_
  have hb2 : Below W.heap.size W W2 := by rw [hW2]; go_grown
  have hp2 : W2.cell? ⟨W.heap.size, 0, none⟩ = some (.pointer (some ⟨w.heap.size, 0, none⟩)) := by rw [hW2]; exact block_cell (at_new _ _ _ rfl) (i := 0) rfl
  have hs2 : w.heap.size + 3 ≤ W2.heap.size := by rw [hW2]; simp; have := HS.out; omega
  have HB2 := hid (HB.out.trans (hb2.mono HB.out.size))
  have hE1 : W2.heap[w.heap.size + 1]? = some (.cells #[.bool false] 4 (0, 0)) := (hb2.block _ (by have := HS.out; omega)).trans HE1.out
  have HF := hid (Box5.hasF (D := (· < w.heap.size + 1)) (HE0.out.below hb2) (Nat.lt_succ_self _) ((HA.out.keep (Keeps.of_below HB2.out fun _ h => h)).mono fun k hk _ => Nat.lt_succ_of_lt hk))
  have HP := hid hp2
  have HS2 := hid hs2
  have HE1' := hid hE1
  have HG2 := hid (HG.out.below HB2.out HG.out.pos)
  clear hW2 hb2 hp2 hs2 hE1
  refine range_nodes f (w.heap.size) (0) W.heap.size (w.heap.size + 1) A c (fun b => b = w.heap.size + 1)
    (fun k W' => allTo layQ f k ∧ W'.heap[w.heap.size + 1]? = some (.cells #[.bool false] 4 (0, 0)))
    (fun c W' => c = .ret ∧ allB layQ f = false ∧ W'.heap[w.heap.size + 1]? = some (.cells #[.bool false] 4 (0, 0)))
    rfl rfl HF.out (by have := HG.out.pos; omega) (by have := HS2.out; omega) HP.out HG2.out HD.out ?hZ ?hI ?hIx ⟨allTo_zero _ _, HE1'.out⟩ ?a1 ?hassign ?hround ?hdone ?hstop
  case hassign =>
    intro l p q W K hK
    gi_wp2
    exact hK
  case hZ => intro b hb; have := HS2.out; omega
  case hI => rintro k W3 W4 ⟨h1, h2⟩ hc; exact ⟨h1, hc.box h2 (by have := HS2.out; omega)⟩
  case hIx => rintro c W3 W4 ⟨h0, h1, h2⟩ hc; exact ⟨h0, h1, hc.box h2 (by have := HS2.out; omega)⟩
  case hround =>
    rintro l k W3 b o A' c' hs3 hg3 hc3 ⟨hk1, hk2⟩ hlen hf3
    generalize hx : (preL false f).getD k default = x at hf3 ⊢
    obtain ⟨g, ins⟩ := x
    have hq : layQ ((preL false f).getD k default) = layQ (g, ins) := by rw [hx]
    have HK1 := hid hk1
    have HK2' := hid hk2
    have HLEN := hid hlen
    have HQ := hid hq
    have HC3 := hid hc3
    clear hk1 hk2 hx hlen hq hc3
    have OKE : ∀ W4 : World, layQ (g, ins) = true → Chg (fun b => b = w.heap.size + 1) W3 W4 → W4.heap[w.heap.size + 1]? = some (.cells #[.bool false] 4 (0, 0)) → Chg (fun b => b = w.heap.size + 1) W3 W4 ∧ allTo layQ f (k + 1) ∧ W4.heap[w.heap.size + 1]? = some (.cells #[.bool false] 4 (0, 0)) := fun W4 h1 h2 h3 => ⟨h2, allTo_succ HK1.out (HQ.out.trans h1), h3⟩
    have NOE : ∀ W4 : World, layQ (g, ins) = false → Chg (fun b => b = w.heap.size + 1) W3 W4 → W4.heap[w.heap.size + 1]? = some (.cells #[.bool false] 4 (0, 0)) → Chg (fun b => b = w.heap.size + 1) W3 W4 ∧ allB layQ f = false ∧ W4.heap[w.heap.size + 1]? = some (.cells #[.bool false] 4 (0, 0)) := fun W4 h1 h2 h3 => ⟨h2, allB_false HLEN.out (HQ.out.trans h1), h3⟩
    have HOKE := hid OKE
    have HNOE := hid NOE
    have hfn1 : Fence.wide.fn 49 := trivial
    have hfn2 : Fence.wide.fn 48 := trivial
    have hfd : Fence.wide.depth = none := rfl
    clear OKE NOE
    have q0 := HK2'.out
    have r0 := block_cell q0 (i := 0) rfl
    have r1 := block_free q0 (i := 0)
    have r2 := lt_of_block q0
    clear q0
    obtain ⟨gd, gl, g0, g1, g2, g3, g4, ga⟩ := hf3
    have hfo := formof_any g.op W3 hg3
    unfold formV at hfo
    clear hg3 ga g1 g2 g3 g4
    cases hfu : (formZ g.op).future <;> rw [hfu] at hfo <;> (have HFU := hid hfu) <;> clear hfu <;> cases ins
    · gi_wp2_with (gi_at_call 49; refine (CallsIn.inRound l (callsIn_wide.2 hfo)).mono ?_; rintro e W4 ⟨rfl, hb4⟩; have q0 := (hb4.block _ (lt_of_block HK2'.out)).trans HK2'.out; have r0 := block_cell q0 (i := 0) rfl; have r1 := block_free q0 (i := 0); have r2 := lt_of_block q0)
      refine HOKE.out _ ?_ ((Chg.of_new (V := fun b => b = w.heap.size + 1) hb4).alloc _) ?_
      · show (!((formZ g.op).future && _)) = true
        rw [HFU.out]; rfl
      · rw [at_old _ _ _ r2]; exact q0
    · gi_wp2_with (gi_at_call 49; refine (CallsIn.inRound l (callsIn_wide.2 hfo)).mono ?_; rintro e W4 ⟨rfl, hb4⟩; have q0 := (hb4.block _ (lt_of_block HK2'.out)).trans HK2'.out; have r0 := block_cell q0 (i := 0) rfl; have r1 := block_free q0 (i := 0); have r2 := lt_of_block q0)
      refine HOKE.out _ ?_ ((Chg.of_new (V := fun b => b = w.heap.size + 1) hb4).alloc _) ?_
      · show (!((formZ g.op).future && _)) = true
        rw [HFU.out]; rfl
      · rw [at_old _ _ _ r2]; exact q0
    · gi_wp2_with (gi_at_call 49; refine (CallsIn.inRound l (callsIn_wide.2 hfo)).mono ?_; rintro e W4 ⟨rfl, hb4⟩; have q0 := (hb4.block _ (lt_of_block HK2'.out)).trans HK2'.out; have r0 := block_cell q0 (i := 0) rfl; have r1 := block_free q0 (i := 0); have r2 := lt_of_block q0)
      refine HOKE.out _ ?_ ((Chg.of_new (V := fun b => b = w.heap.size + 1) hb4).alloc _) ?_
      · show (!((formZ g.op).future && _)) = true
        rw [HFU.out]; rfl
      · rw [at_old _ _ _ r2]; exact q0
    · gi_wp2_with (gi_at_call 49; refine (CallsIn.inRound l (callsIn_wide.2 hfo)).mono ?_; rintro e W4 ⟨rfl, hb4⟩; have q0 := (hb4.block _ (lt_of_block HK2'.out)).trans HK2'.out; have r0 := block_cell q0 (i := 0) rfl; have r1 := block_free q0 (i := 0); have r2 := lt_of_block q0)
      refine (fun z => ⟨z.1, rfl, z.2⟩) (HNOE.out _ ?_ (((Chg.of_new (V := fun b => b = w.heap.size + 1) hb4).set ⟨w.heap.size + 1, 0, none⟩ (.bool false) (fun _ => rfl)).alloc _) ?_)
      · show (!((formZ g.op).future && _)) = false
        rw [HFU.out]; rfl
      · rw [at_old _ _ _ (by simpa using r2), set_block q0]
        rfl
  case hdone =>
    rintro W3 hc ⟨h1, h2⟩ hD3
    have r0 := block_cell h2 (i := 0) rfl
    have r1 := block_free h2 (i := 0)
    have r2 := lt_of_block h2
    dsimp only
    go_wp2_with fail
    have hD4 := (at_set (w := W3) (p := ⟨w.heap.size + 1, 0, none⟩) (u := .bool true) (show W2.heap.size ≠ w.heap.size + 1 by have := HS2.out; omega)).trans hD3
    have e4 : (W3.setCell ⟨w.heap.size + 1, 0, none⟩ (.bool true)).heap[w.heap.size + 1]? = some (.cells #[.bool true] 4 (0, 0)) := by rw [set_block h2]; rfl
    have hc4 := (HB2.out.trans (hc.below (B := w.heap.size) (fun b hb => by omega) HB2.out.size)).setCell (p := ⟨w.heap.size + 1, 0, none⟩) (by simp) (.bool true)
    refine marks_ret rfl hD4 (v := .bool true) (fun w' hc' => ?_) (fun w' hc' => ⟨by rw [allB_true h1], hc4.trans (hc'.below (fun b hb => by have := HS2.out; omega) hc4.size)⟩)
    have := block_cell (hc'.box e4 (by have := HS2.out; omega)) (i := 0) rfl
    simp [results, Tryz.results23, go_sem, this]
  case hstop =>
    rintro c W3 hc ⟨rfl, h1, h2⟩ hD3
    dsimp only
    go_wp2_with fail
    have hc4 := HB2.out.trans (hc.below (B := w.heap.size) (fun b hb => by omega) HB2.out.size)
    refine marks_ret rfl hD3 (v := .bool false) (fun w' hc' => ?_) (fun w' hc' => ⟨by rw [h1], hc4.trans (hc'.below (fun b hb => by have := HS2.out; omega) hc4.size)⟩)
    have := block_cell (hc'.box h2 (by have := HS2.out; omega)) (i := 0) rfl
    simp [results, Tryz.results23, go_sem, this]
theorem marks_ret0 {P : Program} {fn : Func} {R : Ending → World → Prop} {a : Act} {w : World} {v : Value} (hd : a.defers = [])
    (hr : (results fn a.tmps).run P w = .ok v w) (h : R (.returned v) w) : bodyPostM Fence.wide 3 P fn R .ret a w := by
  show LeavesInM Fence.wide 3 P fn a.tmps R a.defers .returning w
  rw [hd]
  exact ⟨v, hr, h⟩
def shpQ (x : Fm × Bool) : Bool := shapedB x.1
def validB (f : Fm) : Bool := fitsB f 60 20 && allB shpQ f
set_option maxRecDepth 100000 in
set_option maxHeartbeats 4000000 in
theorem valid_any {D : Dom} (f : Fm) (v : Value) (w : World) (h : RdF3 w D v f) (hg : GF w) (hk : GK w) :
    Calls Tryz.prog 21 #[v] w fun e w' => e = .returned (.bool (validB f)) ∧ Below w.heap.size w w' := by
  obtain ⟨A, c, rfl, ha⟩ := h
  have HA := hid ha.old
  have HG := hid hg
  have HK := hid hk
  clear ha hg hk
  refine (callsIn_wide (n := 3)).1 (callsIn_of_wp_marks Tryz.func21 rfl trivial ?_ rfl)
  simp only [Tryz.ntmps21, List.size_toArray, List.length_cons, List.length_nil, Nat.reduceAdd, Nat.reduceSub, Array.replicate_succ, Array.replicate_zero, List.push_toArray, List.append_toArray, List.nil_append, List.cons_append]
  refine wpIn_wide.2 ?_
  go_upto_region 1 with (fail)
  refine wp_gen fun W hW => ?_
  have hb : Below w.heap.size w W := by rw [hW]; go_grown
  have e0 : Box5 W w.heap.size f A c := by
    show W.heap[w.heap.size]? = _
    rw [hW, at_old _ _ _ (by simp)]; exact at_new _ _ _ rfl
  have e1 : W.heap[w.heap.size + 1]? = some (.cells #[.bool false] 4 (0, 0)) := by rw [hW]; exact at_new _ _ _ (by simp)
  have hs : w.heap.size + 2 ≤ W.heap.size := by rw [hW]; simp
  have HB := hid hb
  have HE0 := hid e0
  have HE1 := hid e1
  have HS := hid hs
  clear hW hb e0 e1 hs
  have HWI := hid (within_any f w.heap.size 0 A c 60 20 W (Box5.hasF (D := fun _ => True) HE0.out trivial ((HA.out.keep (Keeps.of_below HB.out fun _ h => h)).mono fun _ _ _ => trivial)) (by decide) (by decide) (by decide) (by decide))
  cases hfit : fitsB f 60 20
  · have HR := hid (show validB f = false by unfold validB; rw [hfit]; rfl)
    rw [hfit] at HWI
    clear hfit
    go_wp2_with (first | (go_at_call 47; refine HWI.out.mono ?_; rintro e V ⟨rfl, hbV⟩; have q0 := (hbV.block _ (lt_of_block HE1.out)).trans HE1.out; have r0 := block_cell q0 (i := 0) rfl; have r1 := block_free q0 (i := 0); have r2 := lt_of_block q0))
    have q1 : (V.setCell ⟨w.heap.size + 1, 0, none⟩ (.bool false)).heap[w.heap.size + 1]? = some (.cells #[.bool false] 4 (0, 0)) := by rw [set_block q0]; rfl
    have q2 := block_cell q1 (i := 0) rfl
    refine marks_ret0 rfl (v := .bool false) ?_ ⟨by rw [HR.out], (HB.out.trans (hbV.mono HB.out.size)).setCell (p := ⟨w.heap.size + 1, 0, none⟩) (by simp) _⟩
    simp [results, Tryz.results21, go_sem, q2]
  have HFT := hid hfit
  have HD := hid (show f.depth ≤ 5000 by have := (fits_true.1 hfit).2; omega)
  rw [hfit] at HWI
  clear hfit
  go_wp2_with (first | (go_at_call 47; refine HWI.out.mono ?_; rintro e V ⟨rfl, hbV⟩; have HBV := hid (HB.out.trans (hbV.mono HB.out.size)); have HE0V := hid (HE0.out.below hbV); have HE1V := hid ((hbV.block _ (lt_of_block HE1.out)).trans HE1.out); have HSV := hid (Nat.le_trans HS.out hbV.size)) | (go_at_call 45; refine (nodes_any _ V).mono ?_; rintro e w2 ⟨rfl, rfl⟩))
  clear HWI
  refine wp_gen fun W2 hW2 => ?_
  have hb2 : Below V.heap.size V W2 := by rw [hW2]; go_grown
  have hp2 : W2.cell? ⟨V.heap.size, 0, none⟩ = some (.pointer (some ⟨w.heap.size, 0, none⟩)) := by rw [hW2]; exact block_cell (at_new _ _ _ rfl) (i := 0) rfl
  have hs2 : w.heap.size + 3 ≤ W2.heap.size := by rw [hW2]; simp; have := HSV.out; omega
  have HB2 := hid (HBV.out.trans (hb2.mono HBV.out.size))
  have hE1 : W2.heap[w.heap.size + 1]? = some (.cells #[.bool false] 4 (0, 0)) := (hb2.block _ (by have := HSV.out; omega)).trans HE1V.out
  have HF := hid (Box5.hasF (D := (· < w.heap.size + 1)) (HE0V.out.below hb2) (Nat.lt_succ_self _) ((HA.out.keep (Keeps.of_below HB2.out fun _ h => h)).mono fun k hk _ => Nat.lt_succ_of_lt hk))
  have HP := hid hp2
  have HS2 := hid hs2
  have HE1' := hid hE1
  have HG2 := hid (HG.out.below HB2.out HG.out.pos)
  have HK2 := hid (HK.out.below HB2.out HK.out.pos)
  clear hW2 hb2 hp2 hs2 hE1
  refine range_nodes f (w.heap.size) (0) V.heap.size (w.heap.size + 1) A c (fun b => b = w.heap.size + 1)
    (fun k W' => allTo shpQ f k ∧ W'.heap[w.heap.size + 1]? = some (.cells #[.bool false] 4 (0, 0)))
    (fun c W' => c = .ret ∧ allB shpQ f = false ∧ W'.heap[w.heap.size + 1]? = some (.cells #[.bool false] 4 (0, 0)))
    rfl rfl HF.out (by have := HG.out.pos; omega) (by have := HS2.out; omega) HP.out HG2.out HD.out ?hZ ?hI ?hIx ⟨allTo_zero _ _, HE1'.out⟩ ?a1 ?hassign ?hround ?hdone ?hstop
  case hassign =>
    intro l p q W K hK
    gi_wp2
    exact hK
  case hZ => intro b hb; have := HS2.out; omega
  case hI => rintro k W3 W4 ⟨h1, h2⟩ hc; exact ⟨h1, hc.box h2 (by have := HS2.out; omega)⟩
  case hIx => rintro c W3 W4 ⟨h0, h1, h2⟩ hc; exact ⟨h0, h1, hc.box h2 (by have := HS2.out; omega)⟩
  case hround =>
    rintro l k W3 b o A' c' hs3 hg3 hc3 ⟨hk1, hk2⟩ hlen hf3
    generalize hx : (preL false f).getD k default = x at hf3 ⊢
    obtain ⟨g, ins⟩ := x
    have hq : shpQ ((preL false f).getD k default) = shpQ (g, ins) := by rw [hx]
    have HK1 := hid hk1
    have HK2' := hid hk2
    have HLEN := hid hlen
    have HQ := hid hq
    have HC3 := hid hc3
    clear hk1 hk2 hx hlen hq hc3
    have OKE : ∀ W4 : World, shpQ (g, ins) = true → Chg (fun b => b = w.heap.size + 1) W3 W4 → W4.heap[w.heap.size + 1]? = some (.cells #[.bool false] 4 (0, 0)) → Chg (fun b => b = w.heap.size + 1) W3 W4 ∧ allTo shpQ f (k + 1) ∧ W4.heap[w.heap.size + 1]? = some (.cells #[.bool false] 4 (0, 0)) := fun W4 h1 h2 h3 => ⟨h2, allTo_succ HK1.out (HQ.out.trans h1), h3⟩
    have NOE : ∀ W4 : World, shpQ (g, ins) = false → Chg (fun b => b = w.heap.size + 1) W3 W4 → W4.heap[w.heap.size + 1]? = some (.cells #[.bool false] 4 (0, 0)) → Chg (fun b => b = w.heap.size + 1) W3 W4 ∧ allB shpQ f = false ∧ W4.heap[w.heap.size + 1]? = some (.cells #[.bool false] 4 (0, 0)) := fun W4 h1 h2 h3 => ⟨h2, allB_false HLEN.out (HQ.out.trans h1), h3⟩
    have HOKE := hid OKE
    have HNOE := hid NOE
    have hfn1 : Fence.wide.fn 49 := trivial
    have hfn2 : Fence.wide.fn 48 := trivial
    have hfd : Fence.wide.depth = none := rfl
    clear OKE NOE
    have q0 := HK2'.out
    have r0 := block_cell q0 (i := 0) rfl
    have r1 := block_free q0 (i := 0)
    have r2 := lt_of_block q0
    clear q0
    have hsh := shaped_any g b o A' c' W3 hf3 hg3 (HK2.out.below (HC3.out.below (B := w.heap.size) (fun b hb => by omega) (by have := HS2.out; omega)) HK.out.pos)
    clear hf3
    cases hqq : shapedB g <;> rw [hqq] at hsh <;> (have HQQ := hid hqq) <;> clear hqq
    · gi_wp2_with (gi_at_call 48; refine (CallsIn.inRound l (callsIn_wide.2 hsh)).mono ?_; rintro e W4 ⟨rfl, hb4⟩; have q0 := (hb4.block _ (lt_of_block HK2'.out)).trans HK2'.out; have r0 := block_cell q0 (i := 0) rfl; have r1 := block_free q0 (i := 0); have r2 := lt_of_block q0)
      refine (fun z => ⟨z.1, rfl, z.2⟩) (HNOE.out _ HQQ.out ((Chg.of_new (V := fun b => b = w.heap.size + 1) hb4).set ⟨w.heap.size + 1, 0, none⟩ (.bool false) (fun _ => rfl)) ?_)
      rw [set_block q0]
      rfl
    · gi_wp2_with (gi_at_call 48; refine (CallsIn.inRound l (callsIn_wide.2 hsh)).mono ?_; rintro e W4 ⟨rfl, hb4⟩; have q0 := (hb4.block _ (lt_of_block HK2'.out)).trans HK2'.out; have r0 := block_cell q0 (i := 0) rfl; have r1 := block_free q0 (i := 0); have r2 := lt_of_block q0)
      exact HOKE.out _ HQQ.out (Chg.of_new (V := fun b => b = w.heap.size + 1) hb4) q0
  case hdone =>
    rintro W3 hc ⟨h1, h2⟩ hD3
    have r0 := block_cell h2 (i := 0) rfl
    have r1 := block_free h2 (i := 0)
    have r2 := lt_of_block h2
    dsimp only
    go_wp2_with fail
    have hD4 := (at_set (w := W3) (p := ⟨w.heap.size + 1, 0, none⟩) (u := .bool true) (show W2.heap.size ≠ w.heap.size + 1 by have := HS2.out; omega)).trans hD3
    have e4 : (W3.setCell ⟨w.heap.size + 1, 0, none⟩ (.bool true)).heap[w.heap.size + 1]? = some (.cells #[.bool true] 4 (0, 0)) := by rw [set_block h2]; rfl
    have hc4 := (HB2.out.trans (hc.below (B := w.heap.size) (fun b hb => by omega) HB2.out.size)).setCell (p := ⟨w.heap.size + 1, 0, none⟩) (by simp) (.bool true)
    refine marks_ret rfl hD4 (v := .bool true) (fun w' hc' => ?_) (fun w' hc' => ⟨by unfold validB; rw [HFT.out, allB_true h1]; rfl, hc4.trans (hc'.below (fun b hb => by have := HS2.out; omega) hc4.size)⟩)
    have := block_cell (hc'.box e4 (by have := HS2.out; omega)) (i := 0) rfl
    simp [results, Tryz.results21, go_sem, this]
  case hstop =>
    rintro c W3 hc ⟨rfl, h1, h2⟩ hD3
    dsimp only
    go_wp2_with fail
    have hc4 := HB2.out.trans (hc.below (B := w.heap.size) (fun b hb => by omega) HB2.out.size)
    refine marks_ret rfl hD3 (v := .bool false) (fun w' hc' => ?_) (fun w' hc' => ⟨by unfold validB; rw [h1]; simp, hc4.trans (hc'.below (fun b hb => by have := HS2.out; omega) hc4.size)⟩)
    have := block_cell (hc'.box h2 (by have := HS2.out; omega)) (i := 0) rfl
    simp [results, Tryz.results21, go_sem, this]
end Go.Proofs.YtdakdpfofgkjoaaGreatDoor
set_option linter.unusedVariables false
set_option linter.unusedSimpArgs false
namespace Go.Proofs.YtdakdpfofgkjoaaGreatDoor

/-- The operator of the form. -/
def opOut (neg : Bool) (o : Int) : Int := if neg then dualZ (fullZ o) else fullZ o
def isLate (o : Int) : Bool := decide (o = 15) || decide (o = 16) || decide (o = 17)
def isLone (o : Int) : Bool := decide (o = 11) || decide (o = 12) || decide (o = 18) || decide (o = 19)
def valOut (neg : Bool) (o v : Int) : Int := if isLate o then (if neg then 1 - v else v) else if isLone o && decide (opOut neg o = 17) then 1 else v
def loneL (neg : Bool) (o : Int) : List Fm := if isLone o then [opF (if opOut neg o = 9 ∨ opOut neg o = 16 then 1 else 2) []] else []
/-- Within and during, unfolded. -/
def repF (o : Int) : Nat → Fm → Fm
  | 0, f => f
  | n + 1, f => opF o [f, opF 8 [repF o n f]]
def kfOut (neg : Bool) (o : Int) (n : ByteArray) (v b : Int) (ga : List Fm) : Fm :=
  if o = 4 then ga.headD default
  else if o = 3 then (if neg then opF 4 [isF n v] else .mk 3 n v 0 ga)
  else if o = 13 ∨ o = 14 then repF (opOut neg o) b.toNat (ga.headD default)
  else .mk (opOut neg o) n (valOut neg o v) 0 (loneL neg o ++ ga)
mutual
/-- The positive or the negative form. -/
def kf : Bool → Fm → Fm
  | neg, .mk o n v b l => kfOut neg o n v b (kfs (if o = 4 ∨ o = 7 then !neg else neg) (if o = 4 then !neg else neg) l)
def kfs : Bool → Bool → List Fm → List Fm
  | _, _, [] => []
  | a, r, f :: l => kf a f :: kfs r r l
end
def turn0 (neg : Bool) (o : Int) : Bool := if o = 4 ∨ o = 7 then !neg else neg
def turn1 (neg : Bool) (o : Int) : Bool := if o = 4 then !neg else neg
theorem kf_eq (neg : Bool) (f : Fm) : kf neg f = kfOut neg f.op f.name f.val f.bound (kfs (turn0 neg f.op) (turn1 neg f.op) f.args) := by
  cases f; simp only [kf, Fm.op, Fm.name, Fm.val, Fm.bound, Fm.args, turn0, turn1]; rfl
theorem kfs_len : ∀ (a r : Bool) (l : List Fm), (kfs a r l).length = l.length
  | _, _, [] => rfl
  | _, r, f :: l => by simp only [kfs, List.length_cons, kfs_len r r l]
theorem kfs_rr : ∀ (r : Bool) (l : List Fm), kfs r r l = l.map (kf r)
  | _, [] => rfl
  | r, f :: l => by simp only [kfs, kfs_rr r l, List.map_cons]
theorem kfs_get : ∀ (a r : Bool) (l : List Fm) (i : Nat), i < l.length → (kfs a r l).getD i default = kf (if i = 0 then a else r) (l.getD i default)
  | _, _, [], i, h => absurd h (Nat.not_lt_zero _)
  | a, r, f :: l, 0, _ => by simp [kfs]
  | a, r, f :: l, i + 1, h => by
    have h' : i < l.length := by simpa using h
    simp only [kfs, kfs_rr, List.getD_cons_succ, List.getD_eq_getElem?_getD, List.getElem?_cons_succ, List.getElem?_map]
    simp [h']
theorem kfs_succ (a r : Bool) (l : List Fm) {i : Nat} (h : i < l.length) : (kfs a r l).take (i + 1) = (kfs a r l).take i ++ [kf (if i = 0 then a else r) (l.getD i default)] := by
  rw [take_succ_getD _ default (by rw [kfs_len]; exact h), kfs_get a r l i h]
theorem repF_size (o : Int) (f : Fm) : ∀ n, (repF o n f).size = f.size + n * (f.size + 2)
  | 0 => by simp [repF]
  | n + 1 => by
    simp only [repF, opF, Fm.size, sizes, repF_size o f n]
    rw [Nat.add_mul]; omega
/-- The size of the first n nodes of a list and its depth. -/
theorem fits_opF {o : Int} {n : ByteArray} {v b : Int} {l : List Fm} {s d : Int} : fitsB (.mk o n v b l) s d = true ↔ (sizes l : Int) ≤ s - 1 ∧ (depths l : Int) ≤ d - 1 := by
  rw [fits_true, Fm.size_eq, Fm.depth_eq]
  simp only [Fm.args]
  omega
end Go.Proofs.YtdakdpfofgkjoaaGreatDoor
