/-
  Controllers as machines.
  Walks: whole, Trim.
  Walks of the reference: index, Every, cares, Reached.
-/
import Derived.Test.YtcmhginhfhiolaaZ01
import Derived.Laws.EntriesVeiled
import Derived.Test.YtcmhginhfhiolaaZ02
set_option linter.unusedVariables false
set_option linter.unusedSimpArgs false
namespace Go.Proofs.Ytcmhginhfhiolaa

def wholeM (m : Mly) : Mac := ⟨m.out.length, m.start.toNat, m.ins.toNat, m.outs, fun q x => some ((m.out.getD q []).getD x 0, ((m.next.getD q []).getD x 0).toNat)⟩
/-- The moves that matter. -/
def careM (m : Mly) (care : List (List Bool)) : Mac := ⟨m.out.length, m.start.toNat, m.ins.toNat, m.outs, fun q x => if (care.getD q []).getD x false = true then some ((m.out.getD q []).getD x 0, ((m.next.getD q []).getD x 0).toNat) else none⟩
theorem whole_ok {m : Mly} (h : Sized m) : (wholeM m).Ok := by
  have h1 := h.s0
  have h2 := h.s1
  have h3 := h.i1
  refine ⟨by show m.start.toNat < m.out.length; omega, fun q x o t hq hx e => ?_⟩
  have hx' : x < m.ins.toNat := hx
  have hr := h.nextr q x hq (by omega)
  simp only [wholeM] at e
  injection e with e
  injection e with _ e
  show t < m.out.length
  omega
theorem whole_total (m : Mly) : Total (wholeM m) := fun q x _ _ => ⟨_, _, rfl⟩
theorem care_ok {m : Mly} (h : Sized m) (care : List (List Bool)) : (careM m care).Ok := by
  have h0 := whole_ok h
  refine ⟨h0.st, fun q x o t hq hx e => ?_⟩
  simp only [careM] at e
  split at e
  · injection e with e
    injection e with e1 e2
    exact h0.tgt q x ((m.out.getD q []).getD x 0) t hq hx (by simp only [wholeM]; rw [← e2])
  · cases e
theorem whole_mv {m : Mly} (h : Sized m) {q x : Nat} (hq : q < m.out.length) (hx : (x : Int) < m.ins) : (wholeM m).mv q x = some ((m.out.getD q []).getD x 0, ((m.next.getD q []).getD x 0).toNat) := rfl
/-- The controller without states that cannot be reached. -/
def zeroMly : Mly := ⟨0, 0, 0, [], []⟩
def trimZ (m : Mly) : Mly := if mealyB m then build (wholeM m) else zeroMly
end Go.Proofs.Ytcmhginhfhiolaa
set_option linter.unusedVariables false
set_option linter.unusedSimpArgs false
namespace Go.Proofs.Ytcmhginhfhiolaa
open Go.RowKit Go.Shelf
attribute [local go_sem] cell_alloc_old

theorem build_full (fn : Nat) (caps : Array Value) (M : Mac) (I : World → Prop) (V : Dom) (B : Nat) (hmv : MvF fn caps M I V B) (hM : M.Ok) (hs : M.size ≤ 10000) (hi : M.ins ≤ 64)
    (w : World) (hI : I w) (hB : B ≤ w.heap.size) :
    Calls Try.prog 33 #[machV fn caps M] w fun e w' => ∃ u, e = .returned u ∧ I w' ∧ Chg V w w' ∧ RdM w' (fun b => w.heap.size ≤ b) u (build M) :=
  build_any fn caps M I V B hmv (order_any fn caps M I V B hmv hM hs hi) hM hs hi w hI hB

/-- The controller lies in block mb; its rows in blocks below B. -/
structure WhI (m : Mly) (mb B : Nat) (Ao : Option Addr) (co : Nat) (An : Option Addr) (cn : Nat) (W : World) : Prop where
  box : W.heap[mb]? = some (.cells #[.int .i64 m.ins, .int .i64 m.outs, .int .i64 m.start, .slice Ao m.out.length co, .slice An m.next.length cn] 24 (0, 0))
  out : RdII W (fun b => b < B) Ao co m.out
  next : RdII W (fun b => b < B) An cn m.next

theorem set5 {W : World} {b : Nat} {T : TypeId} {c0 c1 c2 c3 c4 : Value} (h : W.heap[b]? = some (.cells #[c0, c1, c2, c3, c4] T (0, 0))) (v0 v1 v2 v3 v4 : Value) :
    (((((W.setCell ⟨b, 0, none⟩ v0).setCell ⟨b, 1, none⟩ v1).setCell ⟨b, 2, none⟩ v2).setCell ⟨b, 3, none⟩ v3).setCell ⟨b, 4, none⟩ v4).heap[b]? = some (.cells #[v0, v1, v2, v3, v4] T (0, 0)) ∧
    Chg (fun a => a = b) W (((((W.setCell ⟨b, 0, none⟩ v0).setCell ⟨b, 1, none⟩ v1).setCell ⟨b, 2, none⟩ v2).setCell ⟨b, 3, none⟩ v3).setCell ⟨b, 4, none⟩ v4) := by
  constructor
  · rw [set_block (set_block (set_block (set_block (set_block h _) _) _) _) _]
    rfl
  · (repeat (refine Chg.set ?_ _ _ (fun _ => rfl)))
    exact Chg.refl _ _
/-- A controller's value that is stored over another one is read back. -/
theorem set5_rd {W w : World} {b B : Nat} {c0 c1 c2 c3 c4 : Value} {m : Mly} {Ao An : Option Addr} {co cn : Nat} (h : W.heap[b]? = some (.cells #[c0, c1, c2, c3, c4] 24 (0, 0))) (hw : Chg (fun _ => False) w W) (hb : w.heap.size ≤ b) (hB : b < B) (hwB : w.heap.size ≤ B)
    (hr : RdM W (fun k => B ≤ k) (.agg #[.int .i64 m.ins, .int .i64 m.outs, .int .i64 m.start, .slice Ao m.out.length co, .slice An m.next.length cn]) m) {W2 : World}
    (hW2 : W2 = ((((W.setCell ⟨b, 0, none⟩ (.int .i64 m.ins)).setCell ⟨b, 1, none⟩ (.int .i64 m.outs)).setCell ⟨b, 2, none⟩ (.int .i64 m.start)).setCell ⟨b, 3, none⟩ (.slice Ao m.out.length co)).setCell ⟨b, 4, none⟩ (.slice An m.next.length cn)) :
    (W2.cell? ⟨b, 0, none⟩ = some (.int .i64 m.ins) ∧ W2.cell? ⟨b, 1, none⟩ = some (.int .i64 m.outs) ∧ W2.cell? ⟨b, 2, none⟩ = some (.int .i64 m.start) ∧ W2.cell? ⟨b, 3, none⟩ = some (.slice Ao m.out.length co) ∧ W2.cell? ⟨b, 4, none⟩ = some (.slice An m.next.length cn)) ∧
    Below w.heap.size w W2 ∧ RdM W2 (fun k => w.heap.size ≤ k) (.agg #[.int .i64 m.ins, .int .i64 m.outs, .int .i64 m.start, .slice Ao m.out.length co, .slice An m.next.length cn]) m := by
  have h5 := set5 h (.int .i64 m.ins) (.int .i64 m.outs) (.int .i64 m.start) (.slice Ao m.out.length co) (.slice An m.next.length cn)
  rw [← hW2] at h5
  refine ⟨⟨block_cell h5.1 rfl, block_cell h5.1 rfl, block_cell h5.1 rfl, block_cell h5.1 rfl, block_cell h5.1 rfl⟩, (hw.trans' h5.2 (U := fun a => a = b) (V := fun _ => False) (fun a ha e => by omega)).below (fun _ _ h => h) (Nat.le_refl _), (hr.keep (h5.2.keeps fun a _ h e => by omega)).mono fun a h _ => by omega⟩

theorem WhI.keep {m : Mly} {mb B : Nat} {Ao An : Option Addr} {co cn : Nat} {W W' : World} (h : WhI m mb B Ao co An cn W) (hmb : mb < B) (hb : Below B W W') : WhI m mb B Ao co An cn W' :=
  ⟨(hb.block _ hmb).trans h.box, h.out.keep (Keeps.of_below hb fun _ h => h), h.next.keep (Keeps.of_below hb fun _ h => h)⟩

set_option maxHeartbeats 4000000 in
theorem whole1_mv (m : Mly) (hm : Sized m) (mb B : Nat) (Ao : Option Addr) (co : Nat) (An : Option Addr) (cn : Nat) (hmb : mb < B) :
    MvF 53 #[.pointer (some ⟨mb, 0, none⟩)] (wholeM m) (WhI m mb B Ao co An cn) (fun _ => False) B := by
  refine ⟨enters_of Try.func53 (by kernel_rfl) rfl, fun _ h => h.elim, fun W W' h hB hb => h.keep hmb hb, ?_⟩
  intro W q x hW hB hq hx
  have HM := hid hm
  have HW := hid hW
  have hq' : q < m.out.length := hq
  have hx' : x < m.ins.toNat := hx
  have hxi : (x : Int) < m.ins := by omega
  have hqn : q < m.next.length := by rw [hm.nn]; exact hq'
  have x3 := block_cell hW.box (i := 3) rfl
  have x4 := block_cell hW.box (i := 4) rfl
  obtain ⟨b1, o1, A1, c1, r1, rfl, _, _, HR1, hr1, hc1⟩ := hW.out.get hq'
  obtain ⟨b2, o2, A2, c2, r2, rfl, _, _, HR2, hr2, hc2⟩ := hW.next.get hqn
  have e1 := hm.outr q x hq' hxi
  have e2 := hm.nextr q x hq' hxi
  rw [HR1.out] at e1
  rw [HR2.out] at e2
  have hx1 : x < r1.length := by omega
  have hx2 : x < r2.length := by omega
  obtain ⟨b3, o3, y, rfl, _, _, HY, hc3⟩ := hr1.get hx1
  obtain ⟨b4, o4, z, rfl, _, _, HZ, hc4⟩ := hr2.get hx2
  rw [HZ.out] at e2
  have hres : mvO (wholeM m) q x = y ∧ mvT (wholeM m) q x = z := by
    have := mvT_yes (M := wholeM m) (q := q) (x := x) rfl
    rw [HR1.out, HR2.out, HY.out, HZ.out] at this
    exact ⟨this.1, this.2.trans (by omega)⟩
  rw [hres.1, hres.2]
  have hqi1 : (q : Int) < m.out.length := by omega
  have hqi2 : (q : Int) < m.next.length := by omega
  have hxi1 : (x : Int) < r1.length := by omega
  have hxi2 : (x : Int) < r2.length := by omega
  have l1 := hW.out.len.1
  have l2 := hW.next.len.1
  have l3 := hr1.len.1
  have l4 := hr2.len.1
  clear hm hW hq hx hres e1 e2 hr1 hr2
  go_enter Try.func53, Try.ntmps53
  go_wp2_with fail
  go_quiet (fail)
  go_wp2_with fail
  go_ret2
  exact ⟨rfl, HW.out.keep hmb ((Drawn.n W nq).below B), (Chg.refl _ W).drewN _⟩

theorem whole_start {m : Mly} (h : Sized m) : m.start = ((wholeM m).start : Int) ∧ m.ins = ((wholeM m).ins : Int) := by
  have h1 := h.s0
  have h2 := h.i1
  show m.start = (m.start.toNat : Int) ∧ m.ins = (m.ins.toNat : Int)
  omega
set_option maxHeartbeats 1000000 in
theorem whole_any (m : Mly) (hm : Sized m) (Ao : Option Addr) (co : Nat) (An : Option Addr) (cn : Nat) (w : World) :
    Calls Try.prog 32 #[.agg #[.int .i64 m.ins, .int .i64 m.outs, .int .i64 m.start, .slice Ao m.out.length co, .slice An m.next.length cn]] w fun e w' =>
      e = .returned (machV 53 #[.pointer (some ⟨w.heap.size, 0, none⟩)] (wholeM m)) ∧
      Below w.heap.size w w' ∧ w'.heap[w.heap.size]? = some (.cells #[.int .i64 m.ins, .int .i64 m.outs, .int .i64 m.start, .slice Ao m.out.length co, .slice An m.next.length cn] 24 (0, 0)) := by
  have hmf : ∀ (fn : Fn) (first cap : Array Value) (w : World), (Instr.makeFunc fn first cap).run Try.prog w = .ok (.func fn first cap) w := fun _ _ _ _ => rfl
  have HS := hid (whole_start hm)
  clear hm
  go_enter Try.func32, Try.ntmps32
  go_wp2_with fail
  have hv : machV 53 #[.pointer (some ⟨w.heap.size, 0, none⟩)] (wholeM m) = .agg #[.int .i64 m.out.length, .int .i64 m.start, .int .i64 m.ins, .int .i64 m.outs, .func (.func 53) #[] #[.pointer (some ⟨w.heap.size, 0, none⟩)]] := by
    unfold machV
    rw [← HS.out.1, ← HS.out.2]; rfl
  refine bodyPost_gen fun W2 hW2 => ?_
  have hb0 : Below w.heap.size w W2 := by rw [hW2]; go_grown
  have hb1 : W2.heap[w.heap.size]? = some (.cells #[.int .i64 m.ins, .int .i64 m.outs, .int .i64 m.start, .slice Ao m.out.length co, .slice An m.next.length cn] 24 (0, 0)) := by
    rw [hW2]; exact (Below.heap_alloc _ _ _ (by simp)).trans (heap_alloc_new w _)
  have hb2 : W2.heap[w.heap.size + 1]? = some (.cells #[.int .i64 m.out.length, .int .i64 m.start, .int .i64 m.ins, .int .i64 m.outs, .func (.func 53) #[] #[.pointer (some ⟨w.heap.size, 0, none⟩)]] 50 (0, 0)) := by
    rw [hW2]
    have := heap_alloc_new (w.alloc (.cells #[.int .i64 m.ins, .int .i64 m.outs, .int .i64 m.start, .slice Ao m.out.length co, .slice An m.next.length cn] 24)) (.cells #[.int .i64 m.out.length, .int .i64 m.start, .int .i64 m.ins, .int .i64 m.outs, .func (.func 53) #[] #[.pointer (some ⟨w.heap.size, 0, none⟩)]] 50)
    rwa [World.size_alloc] at this
  have p0 := block_cell hb2 (i := 0) rfl
  have p1 := block_cell hb2 (i := 1) rfl
  have p2 := block_cell hb2 (i := 2) rfl
  have p3 := block_cell hb2 (i := 3) rfl
  have p4 := block_cell hb2 (i := 4) rfl
  clear hW2
  exact bodyPost_ret (v := .agg #[.int .i64 m.out.length, .int .i64 m.start, .int .i64 m.ins, .int .i64 m.outs, .func (.func 53) #[] #[.pointer (some ⟨w.heap.size, 0, none⟩)]]) (by simp [results, Try.results32, go_sem, p0, p1, p2, p3, p4]) rfl ⟨by rw [hv], hb0, hb1⟩

set_option maxHeartbeats 4000000 in
theorem trim_any {D : Dom} (v : Value) (m : Mly) (w : World) (h : RdM w D v m) :
    Calls Try.prog 14 #[v] w fun e w' => ∃ u, e = .returned u ∧ Below w.heap.size w w' ∧ RdM w' (fun b => w.heap.size ≤ b) u (trimZ m) := by
  have HV := hid h.old
  obtain ⟨Ao, co, An, cn, rfl, ho, hn⟩ := h
  clear ho hn
  go_enter Try.func14, Try.ntmps14
  go_upto_region 1 with (fail)
  refine wp_gen fun W1 hW1 => ?_
  have hb1 : Below w.heap.size w W1 := by rw [hW1]; go_grown
  have hx1 : W1.heap[w.heap.size]? = some (.cells #[.int .i64 m.ins, .int .i64 m.outs, .int .i64 m.start, .slice Ao m.out.length co, .slice An m.next.length cn] 24 (0, 0)) := by
    rw [hW1]; (repeat (first | (refine at_new _ _ _ ?_; (simp only [World.size_alloc]; done)) | (refine (at_old _ _ _ ?_).trans ?_; (simp only [World.size_alloc]; omega))))
  have hr1 : W1.heap[w.heap.size + 1]? = some (.cells #[.int .i64 0, .int .i64 0, .int .i64 0, .slice none 0 0, .slice none 0 0] 24 (0, 0)) := by
    rw [hW1]; (repeat (first | (refine at_new _ _ _ ?_; (simp only [World.size_alloc]; done)) | (refine (at_old _ _ _ ?_).trans ?_; (simp only [World.size_alloc]; omega))))
  have HB1 := hid hb1
  have HR1 := hid hr1
  have HX1 := hid hx1
  have x0 := block_cell hx1 (i := 0) rfl
  have x1 := block_cell hx1 (i := 1) rfl
  have x2 := block_cell hx1 (i := 2) rfl
  have x3 := block_cell hx1 (i := 3) rfl
  have x4 := block_cell hx1 (i := 4) rfl
  clear hW1 hb1 hx1 hr1
  go_wp2_with fail
  refine (mvalid_any _ m W1 (HV.out.keep (Keeps.of_below HB1.out (fun _ h => h)))).mono ?_
  rintro e w2 ⟨rfl, hb2⟩
  have HB2 := hid (HB1.out.trans (hb2.mono HB1.out.size))
  have HR2 := hid ((hb2.block _ (lt_of_block HR1.out)).trans HR1.out)
  have HX2 := hid ((hb2.block _ (lt_of_block HX1.out)).trans HX1.out)
  have x0 := block_cell HX2.out (i := 0) rfl
  have x1 := block_cell HX2.out (i := 1) rfl
  have x2 := block_cell HX2.out (i := 2) rfl
  have x3 := block_cell HX2.out (i := 3) rfl
  have x4 := block_cell HX2.out (i := 4) rfl
  have q0 := block_cell HR2.out (i := 0) rfl
  have q1 := block_cell HR2.out (i := 1) rfl
  have q2 := block_cell HR2.out (i := 2) rfl
  have q3 := block_cell HR2.out (i := 3) rfl
  have q4 := block_cell HR2.out (i := 4) rfl
  have z0 := block_free HR2.out (i := 0)
  have z1 := block_free HR2.out (i := 1)
  have z2 := block_free HR2.out (i := 2)
  have z3 := block_free HR2.out (i := 3)
  have z4 := block_free HR2.out (i := 4)
  clear hb2
  cases hm : mealyB m
  · have hz : trimZ m = zeroMly := by unfold trimZ; rw [hm]; rfl
    have HZ := hid hz
    clear hm hz
    go_wp2_with fail
    refine bodyPost_gen fun W2 hW2 => ?_
    have hfin := set5_rd (m := zeroMly) (B := w2.heap.size) HR2.out (w := w) (Chg.of_new HB2.out) (by omega) (lt_of_block HR2.out) (HB2.out.size) ⟨none, 0, none, 0, rfl, RdII.nil _ _ _ (by omega), RdII.nil _ _ _ (by omega)⟩ hW2
    obtain ⟨⟨p0, p1, p2, p3, p4⟩, f1, f2⟩ := hfin
    have p0' : W2.cell? ⟨w.heap.size + 1, 0, none⟩ = some (.int .i64 0) := p0
    have p1' : W2.cell? ⟨w.heap.size + 1, 1, none⟩ = some (.int .i64 0) := p1
    have p2' : W2.cell? ⟨w.heap.size + 1, 2, none⟩ = some (.int .i64 0) := p2
    have p3' : W2.cell? ⟨w.heap.size + 1, 3, none⟩ = some (.slice none 0 0) := p3
    have p4' : W2.cell? ⟨w.heap.size + 1, 4, none⟩ = some (.slice none 0 0) := p4
    have F1 := hid f1
    have F2 := hid f2
    clear hW2 p0 p1 p2 p3 p4 f1 f2
    exact bodyPost_ret (v := .agg #[.int .i64 0, .int .i64 0, .int .i64 0, .slice none 0 0, .slice none 0 0]) (by simp [results, Try.results14, go_sem, p0', p1', p2', p3', p4']) rfl ⟨_, rfl, F1.out, by rw [HZ.out]; exact F2.out⟩
  · have hz : trimZ m = build (wholeM m) := by unfold trimZ; rw [hm]; rfl
    have hSz := sized_of hm
    have HZ := hid hz
    have HS := hid hSz
    clear hm hz hSz
    go_wp2_with fail
    refine (whole_any m HS.out Ao co An cn w2).mono ?_
    rintro e w3 ⟨rfl, hb3, hx3⟩
    have HB3 := hid (HB2.out.trans (hb3.mono HB2.out.size))
    have HR3 := hid ((hb3.block _ (lt_of_block HR2.out)).trans HR2.out)
    have hs3 : w2.heap.size < w3.heap.size := lt_of_block hx3
    have hs2 := HB2.out.size
    have hI3 : WhI m w2.heap.size w3.heap.size Ao co An cn w3 := by
      have hv := HV.out.keep (Keeps.of_below HB3.out (fun _ h => h))
      obtain ⟨Ao', co', An', cn', e, h1, h2⟩ := hv
      injection e with e
      simp only [Array.mk.injEq, List.cons.injEq, Value.slice.injEq] at e
      obtain ⟨-, -, -, ⟨e1, -, e2⟩, ⟨e3, -, e4⟩, -⟩ := e
      subst e1 e2 e3 e4
      exact ⟨hx3, h1.mono fun b h _ => by omega, h2.mono fun b h _ => by omega⟩
    have hms : (wholeM m).size ≤ 10000 := by have := HS.out.n2; show m.out.length ≤ 10000; omega
    have hmi : (wholeM m).ins ≤ 64 := by have := HS.out.i2; show m.ins.toNat ≤ 64; omega
    have HI3 := hid hI3
    clear hb3 hx3 hI3 x0 x1 x2 x3 x4 q0 q1 q2 q3 q4 z0 z1 z2 z3 z4
    go_wp2_with fail
    refine (build_full _ _ (wholeM m) _ _ w3.heap.size (whole1_mv m HS.out w2.heap.size w3.heap.size Ao co An cn hs3) (whole_ok HS.out) hms hmi w3 HI3.out (Nat.le_refl _)).mono ?_
    rintro e w4 ⟨u, rfl, -, hc4, hr4⟩
    obtain ⟨Bo, bo, Bn, bn, rfl, ho4, hn4⟩ := hr4
    have HR4 := hid (hc4.box HR3.out (fun h => h))
    have HC4 := hid ((Chg.of_new HB3.out).trans hc4)
    have HO4 := hid ho4
    have HN4 := hid hn4
    have q0 := block_cell HR4.out (i := 0) rfl
    have q1 := block_cell HR4.out (i := 1) rfl
    have q2 := block_cell HR4.out (i := 2) rfl
    have q3 := block_cell HR4.out (i := 3) rfl
    have q4 := block_cell HR4.out (i := 4) rfl
    have z0 := block_free HR4.out (i := 0)
    have z1 := block_free HR4.out (i := 1)
    have z2 := block_free HR4.out (i := 2)
    have z3 := block_free HR4.out (i := 3)
    have z4 := block_free HR4.out (i := 4)
    have hrb := lt_of_block HR2.out
    obtain ⟨M4, hM4⟩ : ∃ X, X = build (wholeM m) := ⟨_, rfl⟩
    rw [← hM4]
    have HM4 := hid hM4
    rw [← hM4] at HO4 HN4
    clear hc4 ho4 hn4 hM4
    go_wp2_with fail
    refine bodyPost_gen fun W2 hW2 => ?_
    have hfin := set5_rd (m := M4) (B := w3.heap.size) HR4.out (w := w) HC4.out (by omega) (by omega) (by omega) ⟨Bo, bo, Bn, bn, rfl, HO4.out, HN4.out⟩ hW2
    obtain ⟨⟨p0, p1, p2, p3, p4⟩, f1, f2⟩ := hfin
    have F1 := hid f1
    have F2 := hid f2
    clear hW2 q0 q1 q2 q3 q4 z0 z1 z2 z3 z4 f1 f2
    exact bodyPost_ret (v := .agg #[.int .i64 M4.ins, .int .i64 M4.outs, .int .i64 M4.start, .slice Bo M4.out.length bo, .slice Bn M4.next.length bn]) (by simp [results, Try.results14, go_sem, p0, p1, p2, p3, p4]) rfl ⟨_, rfl, F1.out, by rw [HZ.out, ← HM4.out]; exact F2.out⟩
end Go.Proofs.Ytcmhginhfhiolaa
set_option linter.unusedVariables false
set_option linter.unusedSimpArgs false
namespace Go.Proofs.Ytcmhginhfhiolaa
open Go.RowKit Go.Shelf
attribute [local go_sem] cell_alloc_old

/-- A slice of bools. -/
def RdB (w : World) (D : Dom) (A : Option Addr) (c : Nat) (zs : List Bool) : Prop := Rd w D 1 A zs.length c (zs.map (Value.bool))

section
variable {D E : Dom} {w w' : World} {A : Option Addr} {c : Nat} {zs : List Bool}
theorem RdB.nil (w : World) (D : Dom) (A : Option Addr) {c : Nat} (hc : c ≤ 9223372036854775807) : RdB w D A c [] := Rd.nil w D 1 A hc
theorem RdB.len (h : RdB w D A c zs) : zs.length ≤ 140737488355328 ∧ zs.length ≤ c ∧ c ≤ 9223372036854775807 := h.1.2
theorem RdB.keep (h : RdB w D A c zs) (hk : Keeps D w w') : RdB w' D A c zs := Rd.keep h hk
theorem RdB.mono (h : RdB w D A c zs) (hE : ∀ b, D b → b < w.heap.size → E b) : RdB w E A c zs := Rd.mono h hE
theorem RdB.old (h : RdB w D A c zs) : RdB w (· < w.heap.size) A c zs := Rd.old h
theorem RdB.get {k : Nat} (h : RdB w D A c zs) (hk : k < zs.length) : ∃ b o x, A = some ⟨b, o, none⟩ ∧ D b ∧ b < w.heap.size ∧ Hid (zs.getD k false = x) ∧ w.cell? ⟨b, o + k, none⟩ = some (Value.bool x) := by
  obtain ⟨b, o, e, hb, hl, hc⟩ := h.2 (by omega)
  exact ⟨b, o, _, e, hb, hl, hid rfl, hc k _ (by simp [hk])⟩
theorem RdB.ptr (h : RdB w D A c zs) (hk : 0 < zs.length) : ∃ b o, A = some ⟨b, o, none⟩ ∧ D b ∧ b < w.heap.size ∧ ∀ k, k < zs.length → w.cell? ⟨b, o + k, none⟩ = some (Value.bool (zs.getD k false)) := by
  obtain ⟨b, o, e, hb, hl, hc⟩ := h.2 (by omega)
  exact ⟨b, o, e, hb, hl, fun k hk => hc k _ (by simp [hk])⟩
theorem RdB.cut {k : Nat} (h : RdB w D A c zs) (hk : k ≤ zs.length) : RdB w D (if c = k then A else A.map (·.add k)) (c - k) (zs.drop k) := by
  have := Rd.cut (k := k) h hk
  unfold RdB
  simpa using this
theorem RdB.take {k : Nat} (h : RdB w D A c zs) (hk : k ≤ zs.length) : RdB w D A c (zs.take k) := by
  have := Rd.take (k := k) h hk
  unfold RdB
  simpa [Nat.min_eq_left hk] using this
theorem RdB.one {b o : Nat} {z : Bool} (hb : D b) (hc : w.cell? ⟨b, o, none⟩ = some (Value.bool z)) : RdB w D (some ⟨b, o, none⟩) 1 [z] := by
  refine ⟨⟨by simp, by simp, by simp, by omega⟩, fun _ => ⟨b, o, rfl, hb, World.block_lt_of_cell? w ⟨b, o, none⟩ hc, fun j u hu => ?_⟩⟩
  cases j with
  | zero => simp at hu; subst hu; exact hc
  | succ j => simp at hu
end

/-- A slice of slices of bools. -/
def RdBB (w : World) (D : Dom) (A : Option Addr) (c : Nat) (rows : List (List Bool)) : Prop :=
  ∃ vs : List Value, Rd w D 1 A rows.length c vs ∧ ∀ i, i < rows.length → ∃ A' c', vs[i]? = some (.slice A' (rows.getD i []).length c') ∧ RdB w D A' c' (rows.getD i [])

section
variable {D E : Dom} {w w' : World} {A : Option Addr} {c : Nat} {rows : List (List Bool)}
theorem RdBB.nil (w : World) (D : Dom) (A : Option Addr) {c : Nat} (hc : c ≤ 9223372036854775807) : RdBB w D A c [] := ⟨[], Rd.nil w D 1 A hc, fun _ h => absurd h (Nat.not_lt_zero _)⟩
theorem RdBB.len (h : RdBB w D A c rows) : rows.length ≤ 140737488355328 ∧ rows.length ≤ c ∧ c ≤ 9223372036854775807 := let ⟨_, h1, _⟩ := h; h1.1.2
theorem RdBB.keep (h : RdBB w D A c rows) (hk : Keeps D w w') : RdBB w' D A c rows :=
  let ⟨vs, h1, h2⟩ := h
  ⟨vs, h1.keep hk, fun i hi => let ⟨A', c', h3, h4⟩ := h2 i hi; ⟨A', c', h3, h4.keep hk⟩⟩
theorem RdBB.mono (h : RdBB w D A c rows) (hE : ∀ b, D b → b < w.heap.size → E b) : RdBB w E A c rows :=
  let ⟨vs, h1, h2⟩ := h
  ⟨vs, h1.mono hE, fun i hi => let ⟨A', c', h3, h4⟩ := h2 i hi; ⟨A', c', h3, h4.mono hE⟩⟩
theorem RdBB.old (h : RdBB w D A c rows) : RdBB w (· < w.heap.size) A c rows := h.mono fun _ _ hl => hl
theorem RdBB.get {k : Nat} (h : RdBB w D A c rows) (hk : k < rows.length) : ∃ b o A' c' r, A = some ⟨b, o, none⟩ ∧ D b ∧ b < w.heap.size ∧ Hid (rows.getD k [] = r) ∧ RdB w D A' c' r ∧
    w.cell? ⟨b, o + k, none⟩ = some (.slice A' r.length c') := by
  obtain ⟨vs, h1, h2⟩ := h
  obtain ⟨b, o, e, hb, hl, hc⟩ := h1.2 (by omega)
  obtain ⟨A', c', h3, h4⟩ := h2 k hk
  exact ⟨b, o, A', c', _, e, hb, hl, hid rfl, h4, hc k _ h3⟩
end


def idxZ (l : List Int) (n : Int) : Int := if n ∈ l then (l.idxOf n : Int) else -1
theorem idxOf_le {α : Type} [DecidableEq α] : ∀ (l : List α) (n : α) (k : Nat) (hk : k < l.length), l[k] = n → l.idxOf n ≤ k
  | [], _, _, hk, _ => absurd hk (Nat.not_lt_zero _)
  | a :: l, n, 0, _, h => by
    have : a = n := h
    subst this; simp
  | a :: l, n, k + 1, hk, h => by
    rw [List.idxOf_cons]
    have := idxOf_le l n k (by simpa using hk) (by simpa using h)
    cases hb : (a == n)
    · simp only [cond_false]; omega
    · simp only [cond_true]; omega
theorem idxZ_at {l : List Int} {n : Int} {k : Nat} (hk : k < l.length) (h : l.getD k 0 = n) (hb : ∀ j, j < k → l.getD j 0 ≠ n) : idxZ l n = k := by
  unfold idxZ
  have hm : n ∈ l := by rw [← h]; exact getD_mem l 0 hk
  rw [if_pos hm]
  have h1 : l.idxOf n < l.length := List.idxOf_lt_length_of_mem hm
  have h2 : l[l.idxOf n] = n := List.getElem_idxOf h1
  have h3 : l.getD (l.idxOf n) 0 = n := by rw [List.getD_eq_getElem?_getD, List.getElem?_eq_getElem h1, h2]; rfl
  have h4 : ¬ l.idxOf n < k := fun x => hb _ x h3
  have h5 := idxOf_le l n k hk (by rw [← h]; simp [List.getD, hk])
  omega
theorem idxZ_none {l : List Int} {n : Int} (hb : ∀ j, j < l.length → l.getD j 0 ≠ n) : idxZ l n = -1 := by
  unfold idxZ
  rw [if_neg]
  intro hm
  obtain ⟨j, hj, e⟩ := List.getElem_of_mem hm
  exact hb j hj (by simp [List.getD, hj, e])
theorem idxOf_cast (l : List Nat) (t : Nat) : (l.map fun q : Nat => (q : Int)).idxOf (t : Int) = l.idxOf t := by
  induction l with
  | nil => rfl
  | cons a l ih =>
    rw [List.map_cons, List.idxOf_cons, List.idxOf_cons, ih]
    have : ((a : Int) == (t : Int)) = (a == t) := by
      rw [Bool.eq_iff_iff, beq_iff_eq, beq_iff_eq]; omega
    rw [this]
theorem mem_cast (l : List Nat) (t : Nat) : (t : Int) ∈ (l.map fun q : Nat => (q : Int)) ↔ t ∈ l := by
  rw [List.mem_map]
  exact ⟨fun ⟨a, ha, e⟩ => by have : a = t := by omega
                              rw [← this]; exact ha, fun h => ⟨t, h, rfl⟩⟩
theorem idxZ_cast (l : List Nat) (t : Nat) : idxZ (l.map fun q : Nat => (q : Int)) (t : Int) = if t ∈ l then (l.idxOf t : Int) else -1 := by
  unfold idxZ
  rw [idxOf_cast]
  by_cases h : t ∈ l
  · rw [if_pos h, if_pos ((mem_cast l t).2 h)]
  · rw [if_neg h, if_neg (fun x => h ((mem_cast l t).1 x))]
theorem idxZ_range (l : List Int) (n : Int) : -1 ≤ idxZ l n ∧ idxZ l n < (l.length : Int) := by
  unfold idxZ
  split
  · have := List.idxOf_lt_length_of_mem ‹_›; omega
  · omega

set_option maxHeartbeats 1000000 in
theorem index_any {D : Dom} (A : Option Addr) (c : Nat) (l : List Int) (n : Int) (w : World) (h : RdI w D A c l) :
    Calls Try.prog 34 #[.slice A l.length c, .int .i64 n] w fun e w' => e = .returned (.int .i64 (idxZ l n)) ∧ w' = w := by
  have hm := h.len.1
  have HR := hid h
  clear h
  go_enter Try.func34, Try.ntmps34
  go_wp2
  go_loop [5] (fun t => ∃ k : Nat, k ≤ l.length ∧ t = .int .i64 k ∧ ∀ j, j < k → l.getD j 0 ≠ n) (fun t => l.length - (intOf t).toNat)
  case atStart => exact ⟨0, Nat.zero_le _, rfl, fun j hj => absurd hj (Nat.not_lt_zero _)⟩
  case round =>
    obtain ⟨k, hk, rfl, hb⟩ := hrel
    have HB := hid hb
    clear hb
    by_cases hlt : k < l.length
    · obtain ⟨b, o, x, rfl, _, _, HX, hc⟩ := HR.out.get hlt
      by_cases hx : x = n
      · have hx1 : (x == n) = true := beq_iff_eq.2 hx
        have HE := hid hx
        clear hx
        go_wp2
        go_ret
        exact ⟨ret_int (idxZ_at hlt (HX.out.trans HE.out) HB.out).symm, rfl⟩
      · have hx1 : (x == n) = false := beq_eq_false_iff_ne.2 hx
        have HE := hid hx
        clear hx
        go_wp2
        go_round
        case rel => exact ⟨k + 1, by omega, by go_num, fun j hj => by
          by_cases e : j = k
          · subst e; rw [HX.out]; exact HE.out
          · exact HB.out j (by omega)⟩
        case measure => simp [intOf]; omega
    · go_wp2
      go_ret
      exact ⟨ret_int (idxZ_none fun j hj => HB.out j (by omega)).symm, rfl⟩

/-- Care for a controller. -/
def caresB (m : Mly) (care : List (List Bool)) : Bool := decide (care.length = m.out.length) && allN care.length fun i => decide (((care.getD i []).length : Int) = m.ins)
def everyZ (m : Mly) (b : Bool) (k : Nat) : List (List Bool) := (List.range k).map fun _ => List.replicate m.ins.toNat b
theorem everyZ_succ (m : Mly) (b : Bool) (k : Nat) : everyZ m b (k + 1) = everyZ m b k ++ [List.replicate m.ins.toNat b] := by unfold everyZ; rw [List.range_succ, List.map_append]; rfl
theorem everyZ_len (m : Mly) (b : Bool) (k : Nat) : (everyZ m b k).length = k := by simp [everyZ]
theorem everyZ_get (m : Mly) (b : Bool) {k i : Nat} (h : i < k) : (everyZ m b k).getD i [] = List.replicate m.ins.toNat b := by simp [everyZ, List.getD, h]

set_option maxHeartbeats 2000000 in
theorem cares_any {D E : Dom} (v : Value) (m : Mly) (A : Option Addr) (ca : Nat) (care : List (List Bool)) (w : World) (h : RdM w D v m) (hc : RdBB w E A ca care) :
    Calls Try.prog 45 #[v, .slice A care.length ca] w fun e w' => e = .returned (.bool (caresB m care)) ∧ Below w.heap.size w w' := by
  have HC := hid hc.old
  have hcl := hc.len.1
  obtain ⟨Ao, co, An, cn, rfl, ho, hn⟩ := h
  have hlo := ho.len.1
  clear ho hn hc
  by_cases hl : care.length = m.out.length
  · have hne : ((care.length : Int) != (m.out.length : Int)) = false := by simp [hl]
    have HL := hid hl
    clear hl
    go_enter Try.func45, Try.ntmps45
    go_wp2_with fail
    refine wp_gen fun W1 hW1 => ?_
    have hb1 : Below w.heap.size w W1 := by rw [hW1]; go_grown
    have hx1 : W1.heap[w.heap.size]? = some (.cells #[.int .i64 m.ins, .int .i64 m.outs, .int .i64 m.start, .slice Ao m.out.length co, .slice An m.next.length cn] 24 (0, 0)) := by rw [hW1]; exact heap_alloc_new w _
    have HB1 := hid hb1
    have HX1 := hid hx1
    clear hW1 hb1 hx1
    go_loopw [5] (fun t wr => ∃ k : Nat, k ≤ care.length ∧ t = .int .i64 k ∧ SoFar k (fun i => decide (((care.getD i []).length : Int) = m.ins)) ∧ Drawn W1 wr) (fun t _ => care.length - (intOf t).toNat)
    case atStart => exact ⟨0, Nat.zero_le _, rfl, SoFar.zero _, Drawn.refl _⟩
    case round =>
      obtain ⟨k, hk, rfl, hso, hd⟩ := hrel
      have hbr := HB1.out.trans (hd.below _)
      have x0 := block_cell ((((hd.below W1.heap.size).block _ (lt_of_block HX1.out))).trans HX1.out) (i := 0) rfl
      have HSO := hid hso
      clear hso
      by_cases hlt : k < care.length
      · obtain ⟨b, o, A', c', r, rfl, _, had, HR, hr, hcell⟩ := (HC.out.keep (Keeps.of_below hbr fun _ h => h)).get hlt
        have hrl := hr.len.1
        have hki : (k : Int) < care.length := by omega
        clear hr
        by_cases hrr : (r.length : Int) = m.ins
        · have hne2 : ((r.length : Int) != m.ins) = false := by simp [hrr]
          have HRR := hid hrr
          clear hrr
          go_wp2_with fail
          go_quiet (fail)
          go_wp2_with fail
          go_roundw
          case rel => exact ⟨k + 1, by omega, by go_num, HSO.out.succ (by rw [HR.out]; exact decide_eq_true HRR.out), hd.drewN _⟩
          case measure => simp [intOf]; omega
        · have hne2 : ((r.length : Int) != m.ins) = true := by simp [hrr]
          have HRR := hid hrr
          clear hrr
          go_wp2_with fail
          go_quiet (fail)
          go_wp2_with fail
          go_ret
          exact ⟨ret_bool (by unfold caresB; rw [allN_false hlt (by rw [HR.out]; exact decide_eq_false HRR.out), Bool.and_false]), below_drewN hbr _⟩
      · go_wp2_with fail
        go_ret
        exact ⟨ret_bool (by unfold caresB; rw [decide_eq_true HL.out, HSO.out.all (by omega)]; rfl), hbr⟩
  · have hne : ((care.length : Int) != (m.out.length : Int)) = true := by
      rw [bne_iff_ne]; omega
    have HL := hid hl
    clear hl
    go_enter Try.func45, Try.ntmps45
    go_wp2_with fail
    go_ret
    exact ⟨ret_bool (by unfold caresB; rw [decide_eq_false HL.out]; rfl), by go_grown⟩
end Go.Proofs.Ytcmhginhfhiolaa
