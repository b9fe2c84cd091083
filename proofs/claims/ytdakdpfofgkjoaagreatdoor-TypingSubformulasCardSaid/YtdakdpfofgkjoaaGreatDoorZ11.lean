/-
  Walk of bare.
-/
import Derived.Test.YtdakdpfofgkjoaaGreatDoorZ10
set_option linter.unusedVariables false
set_option linter.unusedSimpArgs false
namespace Go.Proofs.YtdakdpfofgkjoaaGreatDoor
open Go.RowKit Go.Shelf
attribute [local go_sem] cell_alloc_old Oper.semAt_some

def notQ (g : Fm) : Bool := !(decide (g.op = 4) && !decide ((g.args.getD 0 default).op = 3))
def bareQ (x : Fm × Bool) : Bool := (formZ x.1.op).loose && shapedB x.1 && !((formZ x.1.op).future && x.2) && notQ x.1
theorem shaped_not {g : Fm} (h : shapedB g = true) (h4 : g.op = 4) : 0 < g.args.length := by
  unfold shapedB at h
  simp only [Bool.and_eq_true, decide_eq_true_eq] at h
  have h1 := h.1.1.1.1.1.1.2
  rw [h4] at h1
  have : (formZ 4).least = 1 := by rfl
  omega
set_option maxRecDepth 100000 in
set_option maxHeartbeats 4000000 in
theorem bare_any {D : Dom} (f : Fm) (b o : Nat) (A : Option Addr) (c : Nat) (w : World) (h : HasF w D b o f A c) (hg : GF w) (hk : GK w) (hd : f.depth ≤ 5000) :
    Calls Tryz.prog 86 #[.pointer (some ⟨b, o, none⟩)] w fun e w' => e = .returned (.bool (allB bareQ f)) ∧ Below w.heap.size w w' := by
  have HH := hid h.old
  have HG := hid hg
  have HK := hid hk
  have HD := hid hd
  clear h hg hk hd
  refine (callsIn_wide (n := 3)).1 (callsIn_of_wp_marks Tryz.func86 rfl trivial ?_ rfl)
  simp only [Tryz.ntmps86, List.size_toArray, List.length_cons, List.length_nil, Nat.reduceAdd, Nat.reduceSub, Array.replicate_succ, Array.replicate_zero, List.push_toArray, List.append_toArray, List.nil_append, List.cons_append]
  refine wpIn_wide.2 ?_
  go_upto_region 1 with (fail)
  refine wp_gen fun W hW => ?_
  have hb : Below w.heap.size w W := by rw [hW]; go_grown
  have e1 : W.heap[w.heap.size]? = some (.cells #[.bool false] 4 (0, 0)) := by rw [hW]; exact at_new _ _ _ rfl
  have hs : w.heap.size + 1 ≤ W.heap.size := by rw [hW]; simp
  have HB := hid hb
  have HE1 := hid e1
  have HS := hid hs
  clear hW hb e1 hs
  go_wp2_with (first | (go_at_call 45; refine (nodes_any _ W).mono ?_; rintro e w2 ⟨rfl, rfl⟩))
  refine wp_gen fun W2 hW2 => ?_
  have hb2 : Below W.heap.size W W2 := by rw [hW2]; go_grown
  have hp2 : W2.cell? ⟨W.heap.size, 0, none⟩ = some (.pointer (some ⟨b, o, none⟩)) := by rw [hW2]; exact block_cell (at_new _ _ _ rfl) (i := 0) rfl
  have hs2 : w.heap.size + 2 ≤ W2.heap.size := by rw [hW2]; simp; have := HS.out; omega
  have HB2 := hid (HB.out.trans (hb2.mono HB.out.size))
  have hE1 : W2.heap[w.heap.size]? = some (.cells #[.bool false] 4 (0, 0)) := (hb2.block _ (by have := HS.out; omega)).trans HE1.out
  have HF := hid (HH.out.keep (Keeps.of_below HB2.out fun _ h => h))
  have HP := hid hp2
  have HS2 := hid hs2
  have HE1' := hid hE1
  have HG2 := hid (HG.out.below HB2.out HG.out.pos)
  have HK2 := hid (HK.out.below HB2.out HK.out.pos)
  clear hW2 hb2 hp2 hs2 hE1
  refine range_nodes f (b) (o) W.heap.size (w.heap.size) A c (fun b => b = w.heap.size)
    (fun k W' => allTo bareQ f k ∧ W'.heap[w.heap.size]? = some (.cells #[.bool false] 4 (0, 0)))
    (fun c W' => c = .ret ∧ allB bareQ f = false ∧ W'.heap[w.heap.size]? = some (.cells #[.bool false] 4 (0, 0)))
    rfl rfl HF.out (by have := HG.out.pos; omega) (by have := HS2.out; omega) HP.out HG2.out HD.out ?hZ ?hI ?hIx ⟨allTo_zero _ _, HE1'.out⟩ ?a1 ?hassign ?hround ?hdone ?hstop
  case hassign =>
    intro l p q W K hK
    gi_wp2
    exact hK
  case hZ => intro b hb; have := HS2.out; omega
  case hI => rintro k W3 W4 ⟨h1, h2⟩ hc; exact ⟨h1, hc.box h2 (by have := HS2.out; omega)⟩
  case hIx => rintro c W3 W4 ⟨h0, h1, h2⟩ hc; exact ⟨h0, h1, hc.box h2 (by have := HS2.out; omega)⟩
  case hround =>
    rintro l k W3 b o A' c' hs3 hg3 hc3 ⟨hk1, hk2⟩ hlen hf3
    generalize hx : (preL false f).getD k default = x at hf3 ⊢
    obtain ⟨g, ins⟩ := x
    have hq : bareQ ((preL false f).getD k default) = bareQ (g, ins) := by rw [hx]
    have HK1 := hid hk1
    have HK2' := hid hk2
    have HLEN := hid hlen
    have HQ := hid hq
    have HC3 := hid hc3
    clear hk1 hk2 hx hlen hq hc3
    have OKE : ∀ W4 : World, bareQ (g, ins) = true → Chg (fun b => b = w.heap.size) W3 W4 → W4.heap[w.heap.size]? = some (.cells #[.bool false] 4 (0, 0)) → Chg (fun b => b = w.heap.size) W3 W4 ∧ allTo bareQ f (k + 1) ∧ W4.heap[w.heap.size]? = some (.cells #[.bool false] 4 (0, 0)) := fun W4 h1 h2 h3 => ⟨h2, allTo_succ HK1.out (HQ.out.trans h1), h3⟩
    have NOE : ∀ W4 : World, bareQ (g, ins) = false → Chg (fun b => b = w.heap.size) W3 W4 → W4.heap[w.heap.size]? = some (.cells #[.bool false] 4 (0, 0)) → Chg (fun b => b = w.heap.size) W3 W4 ∧ allB bareQ f = false ∧ W4.heap[w.heap.size]? = some (.cells #[.bool false] 4 (0, 0)) := fun W4 h1 h2 h3 => ⟨h2, allB_false HLEN.out (HQ.out.trans h1), h3⟩
    have HOKE := hid OKE
    have HNOE := hid NOE
    have hfn1 : Fence.wide.fn 49 := trivial
    have hfn2 : Fence.wide.fn 48 := trivial
    have hfd : Fence.wide.depth = none := rfl
    clear OKE NOE
    have q0 := HK2'.out
    have r0 := block_cell q0 (i := 0) rfl
    have r1 := block_free q0 (i := 0)
    have r2 := lt_of_block q0
    clear q0
    obtain ⟨gd, gl, g0, g1, g2, g3, g4, ga⟩ := hf3
    have hfo := formof_any g.op W3 hg3
    unfold formV at hfo
    have HSH := hid (fun (W' : World) (hb : Below W3.heap.size W3 W') => shaped_any g b o A' c' W' (HasF.keep (D := (· < W3.heap.size)) ⟨gl, gl, g0, g1, g2, g3, g4, ga.old⟩ (Keeps.of_below hb fun _ h => h)) (hg3.below hb hg3.pos) ((HK2.out.below (HC3.out.below (B := w.heap.size) (fun b hb => by omega) (by have := HS2.out; omega)) HK.out.pos).below hb (by have := HS2.out; have := HK.out.pos; omega)))
    have HAT := hid (fun (W' : World) (hb : Below W3.heap.size W3 W') => (show W'.cell? ⟨b, o, none⟩ = some (.int .i64 g.op) ∧ W'.cell? ⟨b, o + 4, none⟩ = some (.slice A' g.args.length c') ∧ W'.heap[w.heap.size]? = some (.cells #[.bool false] 4 (0, 0)) ∧ W'.cell? ⟨w.heap.size, 0, none⟩ = some (.bool false) ∧ W'.frozen? ⟨w.heap.size, 0, none⟩ = false ∧ w.heap.size < W'.heap.size from
      have q0 := (hb.block _ (lt_of_block HK2'.out)).trans HK2'.out
      ⟨(hb.cell (p := ⟨b, o, none⟩) gl).trans g0, (hb.cell (p := ⟨b, o + 4, none⟩) gl).trans g4, q0, block_cell q0 (i := 0) rfl, block_free q0 (i := 0), lt_of_block q0⟩))
    have HGA := hid ga.old
    clear hg3 ga g1 g2 g3 r0 r1 r2
    cases hlo : (formZ g.op).loose <;> rw [hlo] at hfo <;> (have HLO := hid hlo) <;> clear hlo
    · gi_wp2_with (first | (gi_at_call 49; refine (CallsIn.inRound l (callsIn_wide.2 hfo)).mono ?_; rintro e W4 ⟨rfl, hb4⟩; have hb6 := hb4; obtain ⟨y0, y4, q0, r0, r1, r2⟩ := HAT.out _ hb4) | (gi_at_call 48; go_loud (refine (CallsIn.inRound l (callsIn_wide.2 (HSH.out _ (hb4.alloc hb4.size _)))).mono ?_; rintro e W5 ⟨rfl, hb5⟩; have hb5' := (hb4.alloc hb4.size (.cells #[.int .i64 (formZ g.op).least, .int .i64 (formZ g.op).most, .int .i64 (formZ g.op).val, .int .i64 (formZ g.op).bound, .bool (formZ g.op).named, .bool (formZ g.op).past, .bool (formZ g.op).future, .bool true] 84)).trans (hb5.mono (by simp; have := hb4.size; omega)); obtain ⟨y0, y4, q5, r0, r1, r2⟩ := HAT.out _ hb5'; have p6 := (hb5.cell (p := ⟨W4.heap.size, 6, none⟩) (by simp)).trans (cell_new W4 _ _ _ 6 (.bool (formZ g.op).future) rfl rfl); (try (have y5 := HARG.out _ hb5')))))
      refine (fun z => ⟨z.1, rfl, z.2⟩) (HNOE.out _ (by unfold bareQ; rw [HLO.out]; rfl) (((Chg.of_new (V := fun b => b = w.heap.size) hb4).set ⟨w.heap.size, 0, none⟩ (.bool false) (fun _ => rfl)).alloc _) ?_)
      rw [at_old _ _ _ (by simpa using r2), set_block q0]
      rfl
    cases hsp : shapedB g <;> rw [hsp] at HSH <;> (have HSP := hid hsp) <;> clear hsp
    · gi_wp2_with (first | (gi_at_call 49; refine (CallsIn.inRound l (callsIn_wide.2 hfo)).mono ?_; rintro e W4 ⟨rfl, hb4⟩; have hb6 := hb4; obtain ⟨y0, y4, q0, r0, r1, r2⟩ := HAT.out _ hb4) | (gi_at_call 48; go_loud (refine (CallsIn.inRound l (callsIn_wide.2 (HSH.out _ (hb4.alloc hb4.size _)))).mono ?_; rintro e W5 ⟨rfl, hb5⟩; have hb5' := (hb4.alloc hb4.size (.cells #[.int .i64 (formZ g.op).least, .int .i64 (formZ g.op).most, .int .i64 (formZ g.op).val, .int .i64 (formZ g.op).bound, .bool (formZ g.op).named, .bool (formZ g.op).past, .bool (formZ g.op).future, .bool true] 84)).trans (hb5.mono (by simp; have := hb4.size; omega)); obtain ⟨y0, y4, q5, r0, r1, r2⟩ := HAT.out _ hb5'; have p6 := (hb5.cell (p := ⟨W4.heap.size, 6, none⟩) (by simp)).trans (cell_new W4 _ _ _ 6 (.bool (formZ g.op).future) rfl rfl); (try (have y5 := HARG.out _ hb5')))))
      refine (fun z => ⟨z.1, rfl, z.2⟩) (HNOE.out _ (by unfold bareQ; dsimp only; rw [HSP.out]; simp) ((Chg.of_new (V := fun b => b = w.heap.size) hb5').set ⟨w.heap.size, 0, none⟩ (.bool false) (fun _ => rfl)) ?_)
      rw [set_block q5]
      rfl
    by_cases hfi : (formZ g.op).future = true ∧ ins = true
    · obtain ⟨hfu, rfl⟩ := hfi
      rw [hfu] at hfo
      have HFU := hid hfu
      clear hfu
      gi_wp2_with (first | (gi_at_call 49; refine (CallsIn.inRound l (callsIn_wide.2 hfo)).mono ?_; rintro e W4 ⟨rfl, hb4⟩; have hb6 := hb4; obtain ⟨y0, y4, q0, r0, r1, r2⟩ := HAT.out _ hb4) | (gi_at_call 48; go_loud (refine (CallsIn.inRound l (callsIn_wide.2 (HSH.out _ (hb4.alloc hb4.size _)))).mono ?_; rintro e W5 ⟨rfl, hb5⟩; have hb5' := (hb4.alloc hb4.size (.cells #[.int .i64 (formZ g.op).least, .int .i64 (formZ g.op).most, .int .i64 (formZ g.op).val, .int .i64 (formZ g.op).bound, .bool (formZ g.op).named, .bool (formZ g.op).past, .bool true, .bool true] 84)).trans (hb5.mono (by simp; have := hb4.size; omega)); obtain ⟨y0, y4, q5, r0, r1, r2⟩ := HAT.out _ hb5'; have p6 := (hb5.cell (p := ⟨W4.heap.size, 6, none⟩) (by simp)).trans (cell_new W4 _ _ _ 6 (.bool true) rfl rfl); (try (have y5 := HARG.out _ hb5')))))
      refine (fun z => ⟨z.1, rfl, z.2⟩) (HNOE.out _ (by unfold bareQ; dsimp only; rw [HFU.out]; simp) ((Chg.of_new (V := fun b => b = w.heap.size) hb5').set ⟨w.heap.size, 0, none⟩ (.bool false) (fun _ => rfl)) ?_)
      rw [set_block q5]
      rfl
    have hfi' : ((formZ g.op).future && ins) = false := by
      cases h1 : (formZ g.op).future
      · rfl
      · cases h2 : ins
        · rfl
        · exact absurd ⟨h1, h2⟩ hfi
    have HFI := hid hfi'
    clear hfi
    cases hfu : (formZ g.op).future <;> rw [hfu] at hfo <;> (have HFU := hid hfu) <;> clear hfu
    · by_cases h4 : g.op = 4
      · have hal := shaped_not HSP.out h4
        obtain ⟨b1, o1, A1, c1, a0, rfl, ha0, hfa⟩ := HGA.out.get hal
        have HARG := hid (fun (W' : World) (hb : Below W3.heap.size W3 W') => (show W'.cell? ⟨b1, o1, none⟩ = some (.int .i64 a0.op) from (hb.cell (p := ⟨b1, o1, none⟩) hfa.lt).trans (by have := hfa.c0; simpa using this)))
        have HA0 := hid ha0.out
        have H4 := hid h4
        have hali : (0 : Int) < g.args.length := by omega
        rw [h4] at hfo g0 HAT
        clear ha0 hfa hal h4
        by_cases h3 : a0.op = 3
        · have HOK3 := hid (show bareQ (g, _) = true from by unfold bareQ notQ; dsimp only; rw [HLO.out, HSP.out, HFI.out, HA0.out, h3]; simp)
          rw [h3] at HARG
          clear h3
          gi_wp2_with (first | (gi_at_call 49; refine (CallsIn.inRound l (callsIn_wide.2 hfo)).mono ?_; rintro e W4 ⟨rfl, hb4⟩; have hb6 := hb4; obtain ⟨y0, y4, q0, r0, r1, r2⟩ := HAT.out _ hb4) | (gi_at_call 48; go_loud (refine (CallsIn.inRound l (callsIn_wide.2 (HSH.out _ (hb4.alloc hb4.size _)))).mono ?_; rintro e W5 ⟨rfl, hb5⟩; have hb5' := (hb4.alloc hb4.size (.cells #[.int .i64 (formZ 4).least, .int .i64 (formZ 4).most, .int .i64 (formZ 4).val, .int .i64 (formZ 4).bound, .bool (formZ 4).named, .bool (formZ 4).past, .bool false, .bool true] 84)).trans (hb5.mono (by simp; have := hb4.size; omega)); obtain ⟨y0, y4, q5, r0, r1, r2⟩ := HAT.out _ hb5'; have p6 := (hb5.cell (p := ⟨W4.heap.size, 6, none⟩) (by simp)).trans (cell_new W4 _ _ _ 6 (.bool false) rfl rfl); (try (have y5 := HARG.out _ hb5')))))
          exact HOKE.out _ HOK3.out (Chg.of_new (V := fun b => b = w.heap.size) hb5') q5
        · have HOK3 := hid (show bareQ (g, _) = false from by unfold bareQ notQ; dsimp only; rw [HA0.out, H4.out, decide_eq_false h3]; simp)
          have h3' := beq_false_of h3
          clear h3
          gi_wp2_with (first | (gi_at_call 49; refine (CallsIn.inRound l (callsIn_wide.2 hfo)).mono ?_; rintro e W4 ⟨rfl, hb4⟩; have hb6 := hb4; obtain ⟨y0, y4, q0, r0, r1, r2⟩ := HAT.out _ hb4) | (gi_at_call 48; go_loud (refine (CallsIn.inRound l (callsIn_wide.2 (HSH.out _ (hb4.alloc hb4.size _)))).mono ?_; rintro e W5 ⟨rfl, hb5⟩; have hb5' := (hb4.alloc hb4.size (.cells #[.int .i64 (formZ 4).least, .int .i64 (formZ 4).most, .int .i64 (formZ 4).val, .int .i64 (formZ 4).bound, .bool (formZ 4).named, .bool (formZ 4).past, .bool false, .bool true] 84)).trans (hb5.mono (by simp; have := hb4.size; omega)); obtain ⟨y0, y4, q5, r0, r1, r2⟩ := HAT.out _ hb5'; have p6 := (hb5.cell (p := ⟨W4.heap.size, 6, none⟩) (by simp)).trans (cell_new W4 _ _ _ 6 (.bool false) rfl rfl); (try (have y5 := HARG.out _ hb5')))))
          refine (fun z => ⟨z.1, rfl, z.2⟩) (HNOE.out _ HOK3.out ((Chg.of_new (V := fun b => b = w.heap.size) hb5').set ⟨w.heap.size, 0, none⟩ (.bool false) (fun _ => rfl)) ?_)
          rw [set_block q5]
          rfl
      · have HOK3 := hid (show bareQ (g, _) = true from by unfold bareQ notQ; dsimp only; rw [HLO.out, HSP.out, HFI.out, decide_eq_false h4]; simp)
        have h4' := beq_false_of h4
        clear h4
        gi_wp2_with (first | (gi_at_call 49; refine (CallsIn.inRound l (callsIn_wide.2 hfo)).mono ?_; rintro e W4 ⟨rfl, hb4⟩; have hb6 := hb4; obtain ⟨y0, y4, q0, r0, r1, r2⟩ := HAT.out _ hb4) | (gi_at_call 48; go_loud (refine (CallsIn.inRound l (callsIn_wide.2 (HSH.out _ (hb4.alloc hb4.size _)))).mono ?_; rintro e W5 ⟨rfl, hb5⟩; have hb5' := (hb4.alloc hb4.size (.cells #[.int .i64 (formZ g.op).least, .int .i64 (formZ g.op).most, .int .i64 (formZ g.op).val, .int .i64 (formZ g.op).bound, .bool (formZ g.op).named, .bool (formZ g.op).past, .bool false, .bool true] 84)).trans (hb5.mono (by simp; have := hb4.size; omega)); obtain ⟨y0, y4, q5, r0, r1, r2⟩ := HAT.out _ hb5'; have p6 := (hb5.cell (p := ⟨W4.heap.size, 6, none⟩) (by simp)).trans (cell_new W4 _ _ _ 6 (.bool false) rfl rfl); (try (have y5 := HARG.out _ hb5')))))
        exact HOKE.out _ HOK3.out (Chg.of_new (V := fun b => b = w.heap.size) hb5') q5
    · obtain rfl : ins = false := by
        have := HFI.out
        rw [HFU.out] at this
        cases ins
        · rfl
        · cases this
      by_cases h4 : g.op = 4
      · have hal := shaped_not HSP.out h4
        obtain ⟨b1, o1, A1, c1, a0, rfl, ha0, hfa⟩ := HGA.out.get hal
        have HARG := hid (fun (W' : World) (hb : Below W3.heap.size W3 W') => (show W'.cell? ⟨b1, o1, none⟩ = some (.int .i64 a0.op) from (hb.cell (p := ⟨b1, o1, none⟩) hfa.lt).trans (by have := hfa.c0; simpa using this)))
        have HA0 := hid ha0.out
        have H4 := hid h4
        have hali : (0 : Int) < g.args.length := by omega
        rw [h4] at hfo g0 HAT
        clear ha0 hfa hal h4
        by_cases h3 : a0.op = 3
        · have HOK3 := hid (show bareQ (g, _) = true from by unfold bareQ notQ; dsimp only; rw [HLO.out, HSP.out, HFI.out, HA0.out, h3]; simp)
          rw [h3] at HARG
          clear h3
          gi_wp2_with (first | (gi_at_call 49; refine (CallsIn.inRound l (callsIn_wide.2 hfo)).mono ?_; rintro e W4 ⟨rfl, hb4⟩; have hb6 := hb4; obtain ⟨y0, y4, q0, r0, r1, r2⟩ := HAT.out _ hb4) | (gi_at_call 48; go_loud (refine (CallsIn.inRound l (callsIn_wide.2 (HSH.out _ (hb4.alloc hb4.size _)))).mono ?_; rintro e W5 ⟨rfl, hb5⟩; have hb5' := (hb4.alloc hb4.size (.cells #[.int .i64 (formZ 4).least, .int .i64 (formZ 4).most, .int .i64 (formZ 4).val, .int .i64 (formZ 4).bound, .bool (formZ 4).named, .bool (formZ 4).past, .bool true, .bool true] 84)).trans (hb5.mono (by simp; have := hb4.size; omega)); obtain ⟨y0, y4, q5, r0, r1, r2⟩ := HAT.out _ hb5'; have p6 := (hb5.cell (p := ⟨W4.heap.size, 6, none⟩) (by simp)).trans (cell_new W4 _ _ _ 6 (.bool true) rfl rfl); (try (have y5 := HARG.out _ hb5')))))
          exact HOKE.out _ HOK3.out (Chg.of_new (V := fun b => b = w.heap.size) hb5') q5
        · have HOK3 := hid (show bareQ (g, _) = false from by unfold bareQ notQ; dsimp only; rw [HA0.out, H4.out, decide_eq_false h3]; simp)
          have h3' := beq_false_of h3
          clear h3
          gi_wp2_with (first | (gi_at_call 49; refine (CallsIn.inRound l (callsIn_wide.2 hfo)).mono ?_; rintro e W4 ⟨rfl, hb4⟩; have hb6 := hb4; obtain ⟨y0, y4, q0, r0, r1, r2⟩ := HAT.out _ hb4) | (gi_at_call 48; go_loud (refine (CallsIn.inRound l (callsIn_wide.2 (HSH.out _ (hb4.alloc hb4.size _)))).mono ?_; rintro e W5 ⟨rfl, hb5⟩; have hb5' := (hb4.alloc hb4.size (.cells #[.int .i64 (formZ 4).least, .int .i64 (formZ 4).most, .int .i64 (formZ 4).val, .int .i64 (formZ 4).bound, .bool (formZ 4).named, .bool (formZ 4).past, .bool true, .bool true] 84)).trans (hb5.mono (by simp; have := hb4.size; omega)); obtain ⟨y0, y4, q5, r0, r1, r2⟩ := HAT.out _ hb5'; have p6 := (hb5.cell (p := ⟨W4.heap.size, 6, none⟩) (by simp)).trans (cell_new W4 _ _ _ 6 (.bool true) rfl rfl); (try (have y5 := HARG.out _ hb5')))))
          refine (fun z => ⟨z.1, rfl, z.2⟩) (HNOE.out _ HOK3.out ((Chg.of_new (V := fun b => b = w.heap.size) hb5').set ⟨w.heap.size, 0, none⟩ (.bool false) (fun _ => rfl)) ?_)
          rw [set_block q5]
          rfl
      · have HOK3 := hid (show bareQ (g, _) = true from by unfold bareQ notQ; dsimp only; rw [HLO.out, HSP.out, HFI.out, decide_eq_false h4]; simp)
        have h4' := beq_false_of h4
        clear h4
        gi_wp2_with (first | (gi_at_call 49; refine (CallsIn.inRound l (callsIn_wide.2 hfo)).mono ?_; rintro e W4 ⟨rfl, hb4⟩; have hb6 := hb4; obtain ⟨y0, y4, q0, r0, r1, r2⟩ := HAT.out _ hb4) | (gi_at_call 48; go_loud (refine (CallsIn.inRound l (callsIn_wide.2 (HSH.out _ (hb4.alloc hb4.size _)))).mono ?_; rintro e W5 ⟨rfl, hb5⟩; have hb5' := (hb4.alloc hb4.size (.cells #[.int .i64 (formZ g.op).least, .int .i64 (formZ g.op).most, .int .i64 (formZ g.op).val, .int .i64 (formZ g.op).bound, .bool (formZ g.op).named, .bool (formZ g.op).past, .bool true, .bool true] 84)).trans (hb5.mono (by simp; have := hb4.size; omega)); obtain ⟨y0, y4, q5, r0, r1, r2⟩ := HAT.out _ hb5'; have p6 := (hb5.cell (p := ⟨W4.heap.size, 6, none⟩) (by simp)).trans (cell_new W4 _ _ _ 6 (.bool true) rfl rfl); (try (have y5 := HARG.out _ hb5')))))
        exact HOKE.out _ HOK3.out (Chg.of_new (V := fun b => b = w.heap.size) hb5') q5
  case hdone =>
    rintro W3 hc ⟨h1, h2⟩ hD3
    have r0 := block_cell h2 (i := 0) rfl
    have r1 := block_free h2 (i := 0)
    have r2 := lt_of_block h2
    dsimp only
    go_wp2_with fail
    have hD4 := (at_set (w := W3) (p := ⟨w.heap.size, 0, none⟩) (u := .bool true) (show W2.heap.size ≠ w.heap.size by have := HS2.out; omega)).trans hD3
    have e4 : (W3.setCell ⟨w.heap.size, 0, none⟩ (.bool true)).heap[w.heap.size]? = some (.cells #[.bool true] 4 (0, 0)) := by rw [set_block h2]; rfl
    have hc4 := (HB2.out.trans (hc.below (B := w.heap.size) (fun b hb => by omega) HB2.out.size)).setCell (p := ⟨w.heap.size, 0, none⟩) (by simp) (.bool true)
    refine marks_ret rfl hD4 (v := .bool true) (fun w' hc' => ?_) (fun w' hc' => ⟨by rw [allB_true h1], hc4.trans (hc'.below (fun b hb => by have := HS2.out; omega) hc4.size)⟩)
    have := block_cell (hc'.box e4 (by have := HS2.out; omega)) (i := 0) rfl
    simp [results, Tryz.results86, go_sem, this]
  case hstop =>
    rintro c W3 hc ⟨rfl, h1, h2⟩ hD3
    dsimp only
    go_wp2_with fail
    have hc4 := HB2.out.trans (hc.below (B := w.heap.size) (fun b hb => by omega) HB2.out.size)
    refine marks_ret rfl hD3 (v := .bool false) (fun w' hc' => ?_) (fun w' hc' => ⟨by rw [h1], hc4.trans (hc'.below (fun b hb => by have := HS2.out; omega) hc4.size)⟩)
    have := block_cell (hc'.box h2 (by have := HS2.out; omega)) (i := 0) rfl
    simp [results, Tryz.results86, go_sem, this]
end Go.Proofs.YtdakdpfofgkjoaaGreatDoor
