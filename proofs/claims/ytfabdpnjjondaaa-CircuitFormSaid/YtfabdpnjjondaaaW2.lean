/-
  Walk of the law CircuitForm.
-/
import Derived.Test.YtfabdpnjjondaaaB6
import Derived.Test.YtfabdpnjjondaaaH4
set_option linter.unusedVariables false
set_option linter.unusedSimpArgs false
namespace Go.Proofs.Ytfabdpnjjondaaa
open Go.RowKit
attribute [local go_sem] cell_alloc_old

theorem comp_shared (m : Mly) : Shared (compileC m) :=
  used_shared (comp_used m) ((lats_cols m _ (fun i => blk_le _ _) (fun i => blk_le _ _) (laW m)).gr.fine ((outs_cols m _ (fun i => blk_le _ _) (bitsN m.outs)).gr.fine (newVars_fine m))).nd
theorem comp_parts (m : Mly) : (compileC m).ib = inW m ∧ (compileC m).lat.length = laW m ∧ (compileC m).outs.length = bitsN m.outs ∧ (compileC m).gates.length ≤ (latsM m).2.length := by
  obtain ⟨u1, u2, u3, -⟩ := used_get (comp_used m)
  have hl := comp_lens m
  exact ⟨rfl, u2.trans hl.1, u3.trans hl.2, by rw [show compileC m = usedC (latsM m).2 (inW m) (latsM m).1 (outsM m).1 from rfl, u1]; exact cnt_le _ _⟩
theorem count_le {n i la lo li t : Nat} (hn : 1 ≤ n) (hi : 1 ≤ i) (ht : t ≤ 2 * (la + li + 1 + (lo + la) * (3 * (n * ((i + 1) / 2) - 1)))) : t ≤ 20 * n * i * (la + lo + li) + 200 := by
  have h1 : n * ((i + 1) / 2) ≤ n * i := Nat.mul_le_mul (Nat.le_refl _) (by omega)
  have h2 : (lo + la) * (3 * (n * ((i + 1) / 2) - 1)) ≤ (la + lo + li) * (3 * (n * i)) := Nat.mul_le_mul (by omega) (by omega)
  have h3 : (la + lo + li) * (3 * (n * i)) = 3 * (n * i * (la + lo + li)) := by rw [Nat.mul_comm, Nat.mul_assoc]
  have h4 : 20 * n * i * (la + lo + li) = 20 * (n * i * (la + lo + li)) := by rw [Nat.mul_assoc 20 n i, Nat.mul_assoc 20]
  have h5 : 1 * (la + lo + li) ≤ n * i * (la + lo + li) := Nat.mul_le_mul (Nat.mul_pos hn hi) (Nat.le_refl _)
  omega

/-- The controller and two circuits in memory. -/
structure F2 (w : World) (m : Mly) (Ao : Option Addr) (co : Nat) (An : Option Addr) (cn : Nat) (c : Cir) (p1 p2 : Nat) (u1 u2 : Array Value) (wr : World) : Prop where
  bm : Bm w m Ao co An cn wr
  c1 : wr.heap[p1]? = some (.cells u1 25 (0, 0))
  c2 : wr.heap[p2]? = some (.cells u2 25 (0, 0))
  r1 : RdC wr (· < wr.heap.size) (.agg u1) c
  r2 : RdC wr (· < wr.heap.size) (.agg u2) c
theorem F2.after {w wr wr' : World} {m : Mly} {Ao An : Option Addr} {co cn p1 p2 : Nat} {c : Cir} {u1 u2 : Array Value} (h : F2 w m Ao co An cn c p1 p2 u1 u2 wr) (hb : Below wr.heap.size wr wr') : F2 w m Ao co An cn c p1 p2 u1 u2 wr' :=
  ⟨h.bm.below hb, (hb.block _ (lt_of_block h.c1)).trans h.c1, (hb.block _ (lt_of_block h.c2)).trans h.c2, (h.r1.keep (Keeps.of_below hb (fun _ h => h))).old, (h.r2.keep (Keeps.of_below hb (fun _ h => h))).old⟩

theorem cells13_below {w' w'' : World} {p0 p1 p2 p3 p4 p5 p6 p7 p8 p9 p10 p11 p12 : Addr} {x0 x1 x2 x3 x4 x5 x6 x7 x8 x9 x10 x11 x12 : Value}
    (h : w'.cell? p0 = some x0 ∧ w'.cell? p1 = some x1 ∧ w'.cell? p2 = some x2 ∧ w'.cell? p3 = some x3 ∧ w'.cell? p4 = some x4 ∧ w'.cell? p5 = some x5 ∧ w'.cell? p6 = some x6 ∧ w'.cell? p7 = some x7 ∧ w'.cell? p8 = some x8 ∧ w'.cell? p9 = some x9 ∧ w'.cell? p10 = some x10 ∧ w'.cell? p11 = some x11 ∧ w'.cell? p12 = some x12) (hb : Below w'.heap.size w' w'') : w''.cell? p0 = some x0 ∧ w''.cell? p1 = some x1 ∧ w''.cell? p2 = some x2 ∧ w''.cell? p3 = some x3 ∧ w''.cell? p4 = some x4 ∧ w''.cell? p5 = some x5 ∧ w''.cell? p6 = some x6 ∧ w''.cell? p7 = some x7 ∧ w''.cell? p8 = some x8 ∧ w''.cell? p9 = some x9 ∧ w''.cell? p10 = some x10 ∧ w''.cell? p11 = some x11 ∧ w''.cell? p12 = some x12 := by
  obtain ⟨h0, h1, h2, h3, h4, h5, h6, h7, h8, h9, h10, h11, h12⟩ := h
  have key : ∀ p u, w'.cell? p = some u → w''.cell? p = some u := fun p u h => (hb.cell (p := p) (World.block_lt_of_cell? w' _ h)).trans h
  exact ⟨key _ _ h0, key _ _ h1, key _ _ h2, key _ _ h3, key _ _ h4, key _ _ h5, key _ _ h6, key _ _ h7, key _ _ h8, key _ _ h9, key _ _ h10, key _ _ h11, key _ _ h12⟩

set_option maxRecDepth 100000 in
set_option maxHeartbeats 8000000 in
theorem law2_any {D : Dom} (w : World) (v : Value) (m : Mly) (h : RdM w D v m) :
    Calls Try.prog 4 #[v] w fun e w' => e = .returned (.bool true) ∧ Below w.heap.size w w' := by
  have HV := hid h.old
  obtain ⟨Ao, co, An, cn, rfl, ho, hn⟩ := h
  have hlo := ho.len.1
  have hln := hn.len.1
  clear ho hn
  go_enter Try.func4, Try.ntmps4
  go_wp2_with fail
  refine (head_any _).mono ?_
  rintro e w1 ⟨rfl, hb⟩
  have hs : Bm w m Ao co An cn w1 :=
    Bm.below (w' := w.alloc (.cells #[.int .i64 m.ins, .int .i64 m.outs, .int .i64 m.start, .slice Ao m.out.length co, .slice An m.next.length cn] 35)) ⟨by go_grown, Box.new _ _ _ rfl⟩ hb
  have HS := hid hs
  have x0 := hs.2 0 _ rfl
  have x1 := hs.2 1 _ rfl
  have x2 := hs.2 2 _ rfl
  have x3 := hs.2 3 _ rfl
  have x4 := hs.2 4 _ rfl
  clear hb hs
  go_wp2_with fail
  refine (right_any _ m none 0 [] w1 (HV.out.keep (Keeps.of_below HS.out.1 (fun _ h => h))) (RdI.nil w1 (fun _ => True) none (by omega))).mono ?_
  rintro e w2 ⟨rfl, hb⟩
  have hs := HS.out.below hb
  have HS := hid hs
  have x0 := hs.2 0 _ rfl
  have x1 := hs.2 1 _ rfl
  have x2 := hs.2 2 _ rfl
  have x3 := hs.2 3 _ rfl
  have x4 := hs.2 4 _ rfl
  clear hb hs
  cases hr : rightB m []
  · clear hr
    go_wp2_with fail
    go_ret
    exact ⟨rfl, HS.out.1⟩
  have hq := hr
  unfold rightB at hq
  simp only [Bool.and_eq_true, decide_eq_true_eq] at hq
  have hF := hq.1.1.1
  have hM := hq.1.1.2
  have hsm := few_small hF
  have hSz := hid (sized_of hM)
  have ho12 : m.out.length ≤ 1000000 := by omega
  have HO12 := hid ho12
  obtain ⟨e1, e2⟩ := compiled_ok hF hM
  have hcz : compileZ m = compileC m := by unfold compileZ; rw [if_pos e1]
  have HE := hid e1
  have hvc := (comp_valid hSz.out (by omega) hsm.2.2).1
  obtain ⟨c, hc⟩ : ∃ c, compileC m = c := ⟨_, rfl⟩
  rw [hc] at hvc hcz
  have HVC := hid hvc
  have HVB := hid ((validB_iff c).2 hvc)
  have hsh := comp_shared m
  rw [hc] at hsh
  have HSH := hid hsh
  have hp := comp_parts m
  have ht := comp_total hSz.out
  rw [hc] at hp
  obtain ⟨p1, p2, p3, p4⟩ := hp
  have q2 : m.next.length = m.out.length := hSz.out.nn
  have pl : (c.lat.length : Int) = (bitsN (m.next.length : Int) : Int) := by rw [p2, q2]; rfl
  have po : (c.outs.length : Int) = (bitsN m.outs : Int) := by rw [p3]
  have pi : c.ib = (bitsN m.ins : Int) := p1
  have i1 := hSz.out.i1
  have n1 := hSz.out.n1
  have hcl := hvc.l
  have hco := hvc.o
  have hci0 := hvc.i0
  have hci1 := hvc.i1
  have pg : (c.gates.length : Int) ≤ 20 * (m.next.length : Int) * m.ins * ((c.lat.length : Int) + (c.outs.length : Int) + c.ib) + 200 := by
    have hcount := count_le (n := m.out.length) (i := m.ins.toNat) (la := laW m) (lo := bitsN m.outs) (li := inW m) (by omega) (by omega) (Nat.le_trans p4 ht)
    have : (c.gates.length : Int) ≤ ((20 * m.out.length * m.ins.toNat * (laW m + bitsN m.outs + inW m) + 200 : Nat) : Int) := Int.ofNat_le.2 hcount
    have e : ((m.ins.toNat : Nat) : Int) = m.ins := by omega
    rw [p2, p3, p1, q2]
    simpa only [Int.natCast_add, Int.natCast_mul, e, Int.cast_ofNat_Int] using this
  have r1 : 0 ≤ 20 * (m.next.length : Int) * m.ins := Int.mul_nonneg (by omega) (by omega)
  have r2 : 20 * (m.next.length : Int) * m.ins ≤ 240 * 20 := Int.mul_le_mul (by omega) hsm.2.2 (by omega) (by omega)
  have r3 : 0 ≤ 20 * (m.next.length : Int) * m.ins * ((c.lat.length : Int) + (c.outs.length : Int) + c.ib) := Int.mul_nonneg r1 (by omega)
  have r4 : 20 * (m.next.length : Int) * m.ins * ((c.lat.length : Int) + (c.outs.length : Int) + c.ib) ≤ 240 * 20 * 24 := Int.mul_le_mul r2 (by omega) (by omega) (by omega)
  have m1 : m.ins ≤ 4611686018427387904 := by omega
  have m2 : m.outs ≤ 4611686018427387904 := by have := hSz.out.o2; omega
  have m3 : (m.next.length : Int) ≤ 4611686018427387904 := by omega
  have bl : ((c.lat.length : Int) == (bitsN (m.next.length : Int) : Int)) = true := beq_iff_eq.2 pl
  have bo : ((c.outs.length : Int) == (bitsN m.outs : Int)) = true := beq_iff_eq.2 po
  have bi : (c.ib == (bitsN m.ins : Int)) = true := beq_iff_eq.2 pi
  have M1 := hid m1
  have M2 := hid m2
  have M3 := hid m3
  have hc0 := hcz
  have HCZ := hid hc0
  have COMP : Hid (∀ W, RdM W (· < w.heap.size) (.agg #[.int .i64 m.ins, .int .i64 m.outs, .int .i64 m.start, .slice Ao m.out.length co, .slice An m.next.length cn]) m → Calls Try.prog 19 #[.agg #[.int .i64 m.ins, .int .i64 m.outs, .int .i64 m.start, .slice Ao m.out.length co, .slice An m.next.length cn]] W fun e w' => ∃ u, e = .returned (.tuple #[u, .int .i64 0]) ∧ Below W.heap.size W w' ∧ RdC w' (fun b => W.heap.size ≤ b) u c) := hid fun W hW => by
    have := compile_any W _ m hW HO12.out
    rw [HE.out, HCZ.out] at this
    exact this
  clear hr hq hF hM hsm ho12 e1 e2 hcz hvc hc hsh p1 p2 p3 p4 ht q2 pl po pi i1 n1 hc0 m1 m2 m3
  go_wp2_with fail
  refine (COMP.out w2 (HV.out.keep (Keeps.of_below HS.out.1 (fun _ h => h)))).mono ?_
  rintro e w3 ⟨u, rfl, hb, hr⟩
  have HR := hid hr.old
  obtain ⟨Bg, bg, Bl, bl', Bo, bo', rfl, hg, hl, ho⟩ := hr
  have hgl := hg.len.1
  have hs := HS.out.below hb
  have HS := hid hs
  have x0 := hs.2 0 _ rfl
  have x1 := hs.2 1 _ rfl
  have x2 := hs.2 2 _ rfl
  have x3 := hs.2 3 _ rfl
  have x4 := hs.2 4 _ rfl
  clear hb hs hg hl ho
  go_upto_region 5 with (fail)
  refine wp_gen fun W4 hW4 => ?_
  have hb4 : Below w3.heap.size w3 W4 := by rw [hW4]; go_grown
  have hc4 : W4.heap[w3.heap.size]? = some (.cells #[.int .i64 c.ib, .slice Bg c.gates.length bg, .slice Bl c.lat.length bl', .slice Bo c.outs.length bo'] 25 (0, 0)) := by rw [hW4]; exact heap_alloc_new w3 _
  have hs := HS.out.below hb4
  have HS := hid hs
  have HC := hid hc4
  have HR4 := hid (HR.out.keep (Keeps.of_below hb4 (fun _ h => h))).old
  clear hW4 x0 x1 x2 x3 x4
  have x0 := hs.2 0 _ rfl
  have x1 := hs.2 1 _ rfl
  have x2 := hs.2 2 _ rfl
  have x3 := hs.2 3 _ rfl
  have x4 := hs.2 4 _ rfl
  clear hs hc4 hb4
  go_wp2_with fail
  refine (COMP.out W4 (HV.out.keep (Keeps.of_below HS.out.1 (fun _ h => h)))).mono ?_
  rintro e w5 ⟨u, rfl, hb, hr⟩
  have HR5 := hid hr.old
  obtain ⟨Cg, cg, Cl, cl', Co, co', rfl, hg, hl, ho⟩ := hr
  have hs := HS.out.below hb
  have HS := hid hs
  have HC5 := hid ((hb.block _ (lt_of_block HC.out)).trans HC.out)
  have HR51 := hid (HR4.out.keep (Keeps.of_below hb (fun _ h => h))).old
  have x0 := hs.2 0 _ rfl
  have x1 := hs.2 1 _ rfl
  have x2 := hs.2 2 _ rfl
  have x3 := hs.2 3 _ rfl
  have x4 := hs.2 4 _ rfl
  have d0 := block_cell HC5.out (i := 0) rfl
  have d1 := block_cell HC5.out (i := 1) rfl
  have d2 := block_cell HC5.out (i := 2) rfl
  have d3 := block_cell HC5.out (i := 3) rfl
  clear hb hs hg hl ho
  go_upto_region 6 with (fail)
  refine wp_gen fun W6 hW6 => ?_
  have hb6 : Below w5.heap.size w5 W6 := by rw [hW6]; go_grown
  have hc6 : W6.heap[w5.heap.size]? = some (.cells #[.int .i64 c.ib, .slice Cg c.gates.length cg, .slice Cl c.lat.length cl', .slice Co c.outs.length co'] 25 (0, 0)) := by rw [hW6]; exact heap_alloc_new w5 _
  have hf : F2 w m Ao co An cn c w3.heap.size w5.heap.size #[.int .i64 c.ib, .slice Bg c.gates.length bg, .slice Bl c.lat.length bl', .slice Bo c.outs.length bo'] #[.int .i64 c.ib, .slice Cg c.gates.length cg, .slice Cl c.lat.length cl', .slice Co c.outs.length co'] W6 :=
    ⟨HS.out.below hb6, (hb6.block _ (lt_of_block HC5.out)).trans HC5.out, hc6, (HR51.out.keep (Keeps.of_below hb6 (fun _ h => h))).old, (HR5.out.keep (Keeps.of_below hb6 (fun _ h => h))).old⟩
  clear hW6 x0 x1 x2 x3 x4 d0 d1 d2 d3
  have hs := hf
  have HS := hid hs
  have x0 := hs.bm.2 0 _ rfl
  have x1 := hs.bm.2 1 _ rfl
  have x2 := hs.bm.2 2 _ rfl
  have x3 := hs.bm.2 3 _ rfl
  have x4 := hs.bm.2 4 _ rfl
  have d0 := block_cell hs.c1 (i := 0) rfl
  have d1 := block_cell hs.c1 (i := 1) rfl
  have d2 := block_cell hs.c1 (i := 2) rfl
  have d3 := block_cell hs.c1 (i := 3) rfl
  have g0 := block_cell hs.c2 (i := 0) rfl
  have g1 := block_cell hs.c2 (i := 1) rfl
  have g2 := block_cell hs.c2 (i := 2) rfl
  have g3 := block_cell hs.c2 (i := 3) rfl
  have z1 := lt_of_block hs.c1
  have z2 := lt_of_block hs.c2
  have z0 := World.block_lt_of_cell? _ _ x0
  clear hs hf hb6 hc6
  go_wp2_with fail
  have H1D := hid (HS.out.after ((Drawn.refl W6).drew.below _)).r1
  have H2D := hid (HS.out.after ((Drawn.refl W6).drew.below _)).r2
  have HFD := hid (HS.out.after ((Drawn.refl W6).drew.below _)).bm.1
  have y1 : IntKind.i64.wrap (20 * (m.next.length : Int)) = 20 * (m.next.length : Int) := IntWalk.i64_in _ (by omega)
  have y2 : IntKind.i64.wrap (20 * (m.next.length : Int) * m.ins) = 20 * (m.next.length : Int) * m.ins := IntWalk.i64_in _ (by omega)
  have y3 : IntKind.i64.wrap (20 * (m.next.length : Int) * m.ins * ((c.lat.length : Int) + (c.outs.length : Int) + c.ib)) = 20 * (m.next.length : Int) * m.ins * ((c.lat.length : Int) + (c.outs.length : Int) + c.ib) := IntWalk.i64_in _ (by omega)
  have y4 : IntKind.i64.wrap (20 * (m.next.length : Int) * m.ins * ((c.lat.length : Int) + (c.outs.length : Int) + c.ib) + 200) = 20 * (m.next.length : Int) * m.ins * ((c.lat.length : Int) + (c.outs.length : Int) + c.ib) + 200 := IntWalk.i64_in _ (by omega)
  have y5 : decide ((c.gates.length : Int) ≤ 20 * (m.next.length : Int) * m.ins * ((c.lat.length : Int) + (c.outs.length : Int) + c.ib) + 200) = true := decide_eq_true pg
  go_region_held3 (fun w' => w'.cell? ⟨w.heap.size, 0, none⟩ = some (.int .i64 m.ins) ∧ w'.cell? ⟨w.heap.size, 1, none⟩ = some (.int .i64 m.outs) ∧ w'.cell? ⟨w.heap.size, 2, none⟩ = some (.int .i64 m.start) ∧ w'.cell? ⟨w.heap.size, 3, none⟩ = some (.slice Ao m.out.length co) ∧ w'.cell? ⟨w.heap.size, 4, none⟩ = some (.slice An m.next.length cn) ∧ w'.cell? ⟨w3.heap.size, 0, none⟩ = some (.int .i64 c.ib) ∧ w'.cell? ⟨w3.heap.size, 1, none⟩ = some (.slice Bg c.gates.length bg) ∧ w'.cell? ⟨w3.heap.size, 2, none⟩ = some (.slice Bl c.lat.length bl') ∧ w'.cell? ⟨w3.heap.size, 3, none⟩ = some (.slice Bo c.outs.length bo') ∧ w'.cell? ⟨w5.heap.size, 0, none⟩ = some (.int .i64 c.ib) ∧ w'.cell? ⟨w5.heap.size, 1, none⟩ = some (.slice Cg c.gates.length cg) ∧ w'.cell? ⟨w5.heap.size, 2, none⟩ = some (.slice Cl c.lat.length cl') ∧ w'.cell? ⟨w5.heap.size, 3, none⟩ = some (.slice Co c.outs.length co'))
    (first
      | go_keep
      | exact cells13_below (by assumption) (by assumption))
    (first
      | (go_at_call 20
         refine (same_any _ _ c _ H1D.out H2D.out).mono ?_
         rintro e w7 ⟨rfl, hb7⟩)
      | (go_at_call 13
         refine (valid_any _ c _ (H1D.out.keep (Keeps.of_below hb7 (fun _ h => h)))).mono ?_
         rw [HVB.out]
         rintro e w8 ⟨rfl, hb8⟩)
      | (go_at_call 14
         refine (rvalid_any _ c _ (H1D.out.keep (Keeps.of_below (hb7.trans (hb8.mono hb7.size)) (fun _ h => h)))).mono ?_
         rw [HVB.out]
         rintro e w9 ⟨rfl, hb9⟩)
      | (go_at_call 21
         refine (shared_any _ c _ (H1D.out.keep (Keeps.of_below ((hb7.trans (hb8.mono hb7.size)).trans (hb9.mono (Nat.le_trans hb7.size hb8.size))) (fun _ h => h))) HVC.out HSH.out).mono ?_
         rintro e w10 ⟨rfl, hb10⟩)
      | (go_at_call 22
         refine (bits_any _ _ (by first | exact M1.out | exact M2.out | exact M3.out)).mono ?_
         rintro e w11 ⟨rfl, rfl⟩))
  all_goals
    have HFIN := hid (HFD.out.trans ((hb7.trans ((hb8.trans ((hb9.trans (hb10.mono hb9.size)).mono hb8.size)).mono hb7.size)).mono HFD.out.size))
    clear hb7 hb8 hb9 hb10
    go_wp2_with fail
    go_ret
    exact ⟨rfl, HFIN.out⟩
end Go.Proofs.Ytfabdpnjjondaaa
