/-
  Walk of the reference's Same.
-/
import Derived.Laws.StructEq
import Derived.ChangeKeysEq
import Derived.Test.YtcmhginhfhiolaaZ07
set_option linter.unusedVariables false
set_option linter.unusedSimpArgs false
namespace Go.Proofs.Ytcmhginhfhiolaa
open Go.RowKit Go.Shelf
attribute [local go_sem] cell_alloc_old

def pval (p : Nat × Nat) : Value := .agg #[.int .i64 p.1, .int .i64 p.2]
def pcells (p : Nat × Nat) : List Value := [.int .i64 p.1, .int .i64 p.2]
theorem pair_equal (w : World) (p q p' q' : Int) : (Op.equal 57 (.agg #[.int .i64 p, .int .i64 q]) (.agg #[.int .i64 p', .int .i64 q'])).run Try.prog w = .ok (decide (p = p' ∧ q = q')) w := by
  obtain ⟨i0, hti, hz0, hz1, hz2⟩ := info_parts int_info
  have u3 := Try.underlying3
  have a3 := Try.isAgg3
  have z3 := Try.sizeOf3
  have hc : Try.prog.cellsOf 3 = 1 := by kernel_rfl
  unfold Op.equal Op.maxDepth
  rw [show (10000 : Nat) = 9999 + 1 from rfl, run_equalIn_array w 9999 _ _ Try.underlying57 hti, hc]
  simp only [show List.range 2 = [0, 1] from rfl, Op.eqItems]
  go_simp
  by_cases h1 : p = p' <;> by_cases h2 : q = q' <;> simp [h1, h2]
theorem pair_eql (p q p' q' : Int) (w : World) : (binOp .eql 57 (.agg #[.int .i64 p, .int .i64 q]) (.agg #[.int .i64 p', .int .i64 q'])).run Try.prog w = .ok (.bool (decide (p = p' ∧ q = q'))) w := by
  have := pair_equal w p q p' q'
  simp only [binOp]
  simp [this]
theorem flat2_get : ∀ (L : List (Nat × Nat)) (k j : Nat) (h : k < L.length), j < 2 → (L.flatMap pcells)[k * 2 + j]? = (pcells (L.getD k (0, 0)))[j]?
  | [], k, j, h, _ => absurd h (Nat.not_lt_zero _)
  | g :: L, 0, j, _, hj => by
    rw [List.flatMap_cons, List.getElem?_append_left (by simp [pcells]; omega)]
    simp
  | g :: L, k + 1, j, h, hj => by
    rw [List.flatMap_cons, List.getElem?_append_right (by simp [pcells]; omega)]
    have e : (k + 1) * 2 + j - (pcells g).length = k * 2 + j := by simp [pcells]; omega
    rw [e, flat2_get L k j (by simpa using h) hj]
    simp
theorem flat2_len (L : List (Nat × Nat)) : (L.flatMap pcells).length = L.length * 2 := by
  induction L with
  | nil => rfl
  | cons p L ih => rw [List.flatMap_cons, List.length_append, ih]; simp [pcells]; omega
theorem two_info : (Try.prog.info? 57).map (fun i => (i.zero, i.size, i.bytes)) = some (some (.agg #[.int .i64 0, .int .i64 0]), 2, 16) := by kernel_rfl
theorem build_two (a b : Int) (w : World) : (Instr.build 57 #[(0, .int .i64 a), (1, .int .i64 b)]).run Try.prog w = .ok (.agg #[.int .i64 a, .int .i64 b]) w := run_build w 57 _ _ (by kernel_rfl)
attribute [local go_sem] build_two

theorem cells6_below {w w' : World} {p0 p1 p2 p3 p4 p5 : Addr} {x0 x1 x2 x3 x4 x5 : Value} (h : w.cell? p0 = some x0 ∧ w.cell? p1 = some x1 ∧ w.cell? p2 = some x2 ∧ w.cell? p3 = some x3 ∧ w.cell? p4 = some x4 ∧ w.cell? p5 = some x5) {B : Nat} (hb : Below B w w') (b0 : p0.block < B) (b1 : p1.block < B) (b2 : p2.block < B) (b3 : p3.block < B) (b4 : p4.block < B) (b5 : p5.block < B) : w'.cell? p0 = some x0 ∧ w'.cell? p1 = some x1 ∧ w'.cell? p2 = some x2 ∧ w'.cell? p3 = some x3 ∧ w'.cell? p4 = some x4 ∧ w'.cell? p5 = some x5 := by
  obtain ⟨h0, h1, h2, h3, h4, h5⟩ := h
  exact ⟨(hb.cell b0).trans h0, (hb.cell b1).trans h1, (hb.cell b2).trans h2, (hb.cell b3).trans h3, (hb.cell b4).trans h4, (hb.cell b5).trans h5⟩
/-- The cells of pair number k. -/
theorem pairs_cell {w : World} {base c k : Nat} {A : Option Addr} {L : List (Nat × Nat)} (h : w.ownsRow base 57 2 (.slice A L.length c) L.length (L.flatMap pcells)) (hk : k < L.length) :
    ∃ g, A = some ⟨g, 0, none⟩ ∧ base ≤ g ∧ g < w.heap.size ∧ w.cell? ⟨g, k * 2, none⟩ = some (.int .i64 ((L.getD k (0, 0)).1 : Int)) ∧ w.cell? ⟨g, k * 2 + 1, none⟩ = some (.int .i64 ((L.getD k (0, 0)).2 : Int)) := by
  have hA : ∃ g, A = some ⟨g, 0, none⟩ := by
    rcases h.2 with ⟨hv, h0⟩ | ⟨g, cap, cur, hv, _⟩
    · exact absurd h0 (by omega)
    · injection hv with hv; exact ⟨g, hv⟩
  obtain ⟨g, rfl⟩ := hA
  have hl := h.lt g rfl
  refine ⟨g, rfl, hl.1, hl.2, ?_, ?_⟩
  · rw [h.cellAt (k * 2) (by omega)]
    have := flat2_get L k 0 hk (by omega)
    rw [Nat.add_zero] at this
    rw [this]; rfl
  · rw [h.cellAt (k * 2 + 1) (by omega), flat2_get L k 1 hk (by omega)]; rfl

set_option maxRecDepth 100000 in
set_option maxHeartbeats 8000000 in
theorem rsame_any {D E : Dom} (va vb : Value) (a b : Mly) (w : World) (ha : RdM w D va a) (hb : RdM w E vb b) :
    Calls Try.prog 17 #[va, vb] w fun e w' => (∃ r : Bool, e = .returned (.bool r) ∧ (r = true ↔ SameP a b)) ∧ Below w.heap.size w w' := by
  obtain ⟨i0, hti, hz0, hz1, hz2⟩ := info_parts two_info
  have HVA := hid ha.old
  have HVB := hid hb.old
  obtain ⟨Ao, co, An, cn, rfl, ho, hn⟩ := ha
  obtain ⟨Bo, bo, Bn, bn, rfl, ko, kn⟩ := hb
  have HAO := hid ho.old
  have HAN := hid hn.old
  have HBO := hid ko.old
  have HBN := hid kn.old
  have l1 := ho.len.1
  have l2 := hn.len.1
  have l3 := ko.len.1
  have l4 := kn.len.1
  clear ho hn ko kn
  go_enter Try.func17, Try.ntmps17
  go_upto_region 1 with (fail)
  refine wp_gen fun W1 hW1 => ?_
  have hb1 : Below w.heap.size w W1 := by rw [hW1]; go_grown
  have hx1 : W1.heap[w.heap.size]? = some (.cells #[.int .i64 a.ins, .int .i64 a.outs, .int .i64 a.start, .slice Ao a.out.length co, .slice An a.next.length cn] 24 (0, 0)) := by
    rw [hW1]; (repeat (first | (refine at_new _ _ _ ?_; (simp only [World.size_alloc]; done)) | (refine (at_old _ _ _ ?_).trans ?_; (simp only [World.size_alloc]; omega))))
  have hy1 : W1.heap[w.heap.size + 1]? = some (.cells #[.int .i64 b.ins, .int .i64 b.outs, .int .i64 b.start, .slice Bo b.out.length bo, .slice Bn b.next.length bn] 24 (0, 0)) := by
    rw [hW1]; (repeat (first | (refine at_new _ _ _ ?_; (simp only [World.size_alloc]; done)) | (refine (at_old _ _ _ ?_).trans ?_; (simp only [World.size_alloc]; omega))))
  have HB1 := hid hb1
  have HX1 := hid hx1
  have HY1 := hid hy1
  clear hW1 hb1 hx1 hy1
  have x0 := block_cell HX1.out (i := 0) rfl
  have x1 := block_cell HX1.out (i := 1) rfl
  have x2 := block_cell HX1.out (i := 2) rfl
  have x3 := block_cell HX1.out (i := 3) rfl
  have x4 := block_cell HX1.out (i := 4) rfl
  have y0 := block_cell HY1.out (i := 0) rfl
  have y1 := block_cell HY1.out (i := 1) rfl
  have y2 := block_cell HY1.out (i := 2) rfl
  have y3 := block_cell HY1.out (i := 3) rfl
  have y4 := block_cell HY1.out (i := 4) rfl
  go_wp2_with fail
  refine (rmvalid_any _ a W1 (HVA.out.keep (Keeps.of_below HB1.out (fun _ h => h)))).mono ?_
  rintro e w2 ⟨rfl, hb2⟩
  have HB2 := hid (HB1.out.trans (hb2.mono HB1.out.size))
  have HX2 := hid ((hb2.block _ (lt_of_block HX1.out)).trans HX1.out)
  have HY2 := hid ((hb2.block _ (lt_of_block HY1.out)).trans HY1.out)
  clear hb2 x0 x1 x2 x3 x4 y0 y1 y2 y3 y4
  have x0 := block_cell HX2.out (i := 0) rfl
  have x1 := block_cell HX2.out (i := 1) rfl
  have x2 := block_cell HX2.out (i := 2) rfl
  have x3 := block_cell HX2.out (i := 3) rfl
  have x4 := block_cell HX2.out (i := 4) rfl
  have y0 := block_cell HY2.out (i := 0) rfl
  have y1 := block_cell HY2.out (i := 1) rfl
  have y2 := block_cell HY2.out (i := 2) rfl
  have y3 := block_cell HY2.out (i := 3) rfl
  have y4 := block_cell HY2.out (i := 4) rfl
  cases hma : mealyB a
  · have HMA := hid hma
    clear hma
    go_wp2_with fail
    go_ret
    exact ⟨⟨false, rfl, (fun h => by cases h), fun h => by have := h.1; rw [HMA.out] at this; cases this⟩, HB2.out⟩
  have HMA := hid hma
  clear hma
  go_wp2_with fail
  refine (rmvalid_any _ b w2 (HVB.out.keep (Keeps.of_below HB2.out (fun _ h => h)))).mono ?_
  rintro e w3 ⟨rfl, hb3⟩
  have HB3 := hid (HB2.out.trans (hb3.mono HB2.out.size))
  have HX3 := hid ((hb3.block _ (lt_of_block HX2.out)).trans HX2.out)
  have HY3 := hid ((hb3.block _ (lt_of_block HY2.out)).trans HY2.out)
  clear hb3 x0 x1 x2 x3 x4 y0 y1 y2 y3 y4
  have x0 := block_cell HX3.out (i := 0) rfl
  have x1 := block_cell HX3.out (i := 1) rfl
  have x2 := block_cell HX3.out (i := 2) rfl
  have x3 := block_cell HX3.out (i := 3) rfl
  have x4 := block_cell HX3.out (i := 4) rfl
  have y0 := block_cell HY3.out (i := 0) rfl
  have y1 := block_cell HY3.out (i := 1) rfl
  have y2 := block_cell HY3.out (i := 2) rfl
  have y3 := block_cell HY3.out (i := 3) rfl
  have y4 := block_cell HY3.out (i := 4) rfl
  cases hmb : mealyB b
  · have HMB := hid hmb
    clear hmb
    go_wp2_with fail
    go_ret
    exact ⟨⟨false, rfl, (fun h => by cases h), fun h => by have := h.2.1; rw [HMB.out] at this; cases this⟩, HB3.out⟩
  have HMB := hid hmb
  clear hmb
  by_cases hi : a.ins = b.ins
  case neg =>
    have n1 : (a.ins != b.ins) = true := by simp [hi]
    have HI := hid hi
    clear hi
    go_wp2_with fail
    go_ret
    exact ⟨⟨false, rfl, (fun h => by cases h), fun h => absurd h.2.2.1 HI.out⟩, HB3.out⟩
  have n1 : (a.ins != b.ins) = false := by simp [hi]
  have HI := hid hi
  clear hi
  by_cases hou : a.outs = b.outs
  case neg =>
    have n2 : (a.outs != b.outs) = true := by simp [hou]
    have HU := hid hou
    clear hou
    go_wp2_with fail
    go_ret
    exact ⟨⟨false, rfl, (fun h => by cases h), fun h => absurd h.2.2.2.1 HU.out⟩, HB3.out⟩
  have n2 : (a.outs != b.outs) = false := by simp [hou]
  have HU := hid hou
  clear hou
  have hSa := sized_of HMA.out
  have hSb := sized_of HMB.out
  have HSA := hid hSa
  have HSB := hid hSb
  obtain ⟨A, hA⟩ : ∃ A, A = wholeM a := ⟨_, rfl⟩
  obtain ⟨B, hB⟩ : ∃ B, B = wholeM b := ⟨_, rfl⟩
  have hokA : A.Ok := by rw [hA]; exact whole_ok hSa
  have hokB : B.Ok := by rw [hB]; exact whole_ok hSb
  have HOKA := hid hokA
  have HOKB := hid hokB
  have HA := hid hA
  have HB := hid hB
  have hsa : A.size = a.out.length := by rw [hA]; rfl
  have hsb : B.size = b.out.length := by rw [hB]; rfl
  have hia : a.ins = (A.ins : Int) := by rw [hA]; exact (whole_start hSa).2
  have hib : B.ins = A.ins := by
    rw [hA, hB]
    show b.ins.toNat = a.ins.toNat
    rw [HI.out]
  have hsta : a.start = (A.start : Int) := by rw [hA]; exact (whole_start hSa).1
  have hstb : b.start = (B.start : Int) := by rw [hB]; exact (whole_start hSb).1
  have HSSA := hid hsa
  have HSSB := hid hsb
  have HIA := hid hia
  have HIB := hid hib
  have HSTA := hid hsta
  have HSTB := hid hstb
  have hprod : A.size * B.size ≤ 3000 * 3000 := Nat.mul_le_mul (by have := hSa.n2; omega) (by have := hSb.n2; omega)
  have i2 := hSa.i2
  have i1 := hSa.i1
  have hsame : Hid (Sim A B A.start B.start ↔ SameP a b) := hid (by
    rw [hA, hB]
    exact ⟨fun h => ⟨HMA.out, HMB.out, HI.out, HU.out, h⟩, fun h => h.2.2.2.2⟩)
  clear hSa hSb hA hB hokA hokB hsa hsb hia hib hsta hstb
  go_wp2_with fail
  refine wp_gen fun W3 hW3 => ?_
  have hb4 : Below w3.heap.size w3 W3 := by rw [hW3]; go_grown
  have hl3 : W3.ownsRow w3.heap.size 57 2 (.slice (some ⟨w3.heap.size, 0, none⟩) 1 1) 1 ([(A.start, B.start)].flatMap pcells) := by
    have hnew : W3.heap[w3.heap.size]? = some (.cells #[.int .i64 a.start, .int .i64 b.start] 57 (0, 0)) := by rw [hW3]; exact heap_alloc_new w3 _
    exact ⟨rfl, .inr ⟨_, 1, _, rfl, Nat.le_refl _, hnew, by simp, by decide, by simp, by simp [pcells, HSTA.out, HSTB.out]⟩⟩
  have HB4 := hid hb4
  have HL3 := hid hl3
  have HX4 := hid ((hb4.block _ (lt_of_block HX3.out)).trans HX3.out)
  have HY4 := hid ((hb4.block _ (lt_of_block HY3.out)).trans HY3.out)
  have hs3 := HB3.out.size
  have hs4 := hb4.size
  have hxw := lt_of_block HX3.out
  have hyw := lt_of_block HY3.out
  have HBF := hid (Bfs.init (A := A) (B := B) HOKA.out.st HOKB.out.st)
  clear hW3 hb4 hl3 x0 x1 x2 x3 x4 y0 y1 y2 y3 y4
  go_loopw [5, 6] (fun s t wr => ∃ (L : List (Nat × Nat)) (i : Nat) (Av : Option Addr) (c : Nat), i ≤ L.length ∧ t = .int .i64 (i : Int) ∧ s = .slice Av L.length c ∧ wr.ownsRow w3.heap.size 57 2 (.slice Av L.length c) L.length (L.flatMap pcells) ∧
    Bfs A B L i 0 ∧ Below w3.heap.size W3 wr) (fun _ t _ => A.size * B.size + 1 - (intOf t).toNat)
  case atStart => exact ⟨[(A.start, B.start)], 0, _, _, by simp, rfl, rfl, HL3.out, HBF.out, Below.refl _ _⟩
  case round =>
    clear HBF HL3
    obtain ⟨L, i, Av, c, hi, rfl, rfl, hown, hbf, hbr⟩ := hrel
    have HO := hid hown
    have HBF := hid hbf
    have HBR := hid hbr
    have hlen := hbf.len
    have HXR := hid ((hbr.block w.heap.size hxw).trans HX4.out)
    have x0 := block_cell HXR.out (i := 0) rfl
    clear hown hbf hbr
    by_cases hlt : i < L.length
    · obtain ⟨g, rfl, hg1, hg2, hp, hq⟩ := pairs_cell HO.out hlt
      obtain ⟨pq, hpq⟩ : ∃ pq, L.getD i (0, 0) = pq := ⟨_, rfl⟩
      rw [hpq] at hp hq
      obtain ⟨p, q⟩ := pq
      dsimp only at hp hq
      have HPQ := hid hpq
      have hrng := HBF.out.rng _ (pair_mem L hlt)
      rw [hpq] at hrng
      obtain ⟨hpl, hql⟩ := hrng
      have hii : (i : Int) < L.length := by omega
      clear hpq
      obtain ⟨wz, rfl⟩ : ∃ wz : World, wz = wr := ⟨_, rfl⟩
      obtain ⟨Lz, rfl⟩ : ∃ Lz, Lz = L := ⟨_, rfl⟩
      obtain ⟨cz, rfl⟩ : ∃ cz, cz = c := ⟨_, rfl⟩
      go_wp2_with fail
      go_loopw [5, 9] (fun s t wr => ∃ (L : List (Nat × Nat)) (x : Nat) (Av : Option Addr) (c : Nat), x ≤ A.ins ∧ t = .int .i64 (x : Int) ∧ s = .slice Av L.length c ∧ i < L.length ∧ L.getD i (0, 0) = (p, q) ∧ wr.ownsRow w3.heap.size 57 2 (.slice Av L.length c) L.length (L.flatMap pcells) ∧
        Bfs A B L i x ∧ Below w3.heap.size W3 wr) (fun _ t _ => A.ins - (intOf t).toNat)
      case atStart => exact ⟨Lz, 0, _, _, Nat.zero_le _, rfl, rfl, hlt, HPQ.out, HO.out, HBF.out, HBR.out⟩
      case round =>
        obtain ⟨L, x, Av, c, hx, rfl, rfl, hil, hpq, hown, hbf, hbr⟩ := hrel
        have HO2 := hid hown
        have HBF2 := hid hbf
        have HBR2 := hid hbr
        have HPQ2 := hid hpq
        have hlen2 := hbf.len
        have HXR2 := hid ((hbr.block w.heap.size hxw).trans HX4.out)
        have HYR2 := hid ((hbr.block (w.heap.size + 1) hyw).trans HY4.out)
        have HBW := hid (HB3.out.trans ((HB4.out.trans (hbr.mono (Nat.le_refl _))).mono hs3))
        have x0 := block_cell HXR2.out (i := 0) rfl
        have x3 := block_cell HXR2.out (i := 3) rfl
        have x4 := block_cell HXR2.out (i := 4) rfl
        have y3 := block_cell HYR2.out (i := 3) rfl
        have y4 := block_cell HYR2.out (i := 4) rfl
        have hia2 : a.ins ≤ (A.ins : Int) := by have := HIA.out; omega
        have hia3 : (A.ins : Int) ≤ a.ins := by have := HIA.out; omega
        have hxwr : w.heap.size < wr.heap.size := lt_of_block HXR2.out
        have hywr : w.heap.size + 1 < wr.heap.size := lt_of_block HYR2.out
        clear hown hbf hbr hpq
        by_cases hxl : x < A.ins
        · have hxx : decide ((x : Int) < a.ins) = true := decide_eq_true (by omega)
          have hpa : p < a.out.length := by have := HSSA.out; omega
          have hqb : q < b.out.length := by have := HSSB.out; omega
          have hpn : p < a.next.length := by rw [HSA.out.nn]; exact hpa
          have hqn : q < b.next.length := by rw [HSB.out.nn]; exact hqb
          obtain ⟨b1, o1, A1, c1, r1, rfl, _, _, HR1, hr1, hc1⟩ := (HAO.out.keep (Keeps.of_below HBW.out fun _ h => h)).get hpa
          obtain ⟨b2, o2, A2, c2, r2, rfl, _, _, HR2, hr2, hc2⟩ := (HBO.out.keep (Keeps.of_below HBW.out fun _ h => h)).get hqb
          obtain ⟨b3, o3, A3, c3, r3, rfl, _, _, HR3, hr3, hc3⟩ := (HAN.out.keep (Keeps.of_below HBW.out fun _ h => h)).get hpn
          obtain ⟨b4, o4, A4, c4, r4, rfl, _, _, HR4, hr4, hc4⟩ := (HBN.out.keep (Keeps.of_below HBW.out fun _ h => h)).get hqn
          have hxa : (x : Int) < a.ins := by omega
          have hxb : (x : Int) < b.ins := by have := HI.out; omega
          have e1 := HSA.out.outr p x hpa hxa
          have e2 := HSB.out.outr q x hqb hxb
          have e3 := HSA.out.nextr p x hpa hxa
          have e4 := HSB.out.nextr q x hqb hxb
          rw [HR1.out] at e1
          rw [HR2.out] at e2
          rw [HR3.out] at e3
          rw [HR4.out] at e4
          have hx1 : x < r1.length := by omega
          have hx2 : x < r2.length := by omega
          have hx3 : x < r3.length := by omega
          have hx4 : x < r4.length := by omega
          obtain ⟨b5, o5, u1, rfl, _, _, HU1, hd1⟩ := hr1.get hx1
          obtain ⟨b6, o6, u2, rfl, _, _, HU2, hd2⟩ := hr2.get hx2
          obtain ⟨b7, o7, z1, rfl, _, _, HZ1, hd3⟩ := hr3.get hx3
          obtain ⟨b8, o8, z2, rfl, _, _, HZ2, hd4⟩ := hr4.get hx4
          rw [HZ1.out] at e3
          rw [HZ2.out] at e4
          obtain ⟨t1, rfl⟩ : ∃ t : Nat, z1 = t := ⟨z1.toNat, by omega⟩
          obtain ⟨t2, rfl⟩ : ∃ t : Nat, z2 = t := ⟨z2.toNat, by omega⟩
          have mvA : A.mv p x = some (u1, t1) := by
            rw [HA.out]; simp only [wholeM]; rw [HR1.out, HU1.out, HR3.out, HZ1.out, Int.toNat_natCast]
          have mvB : B.mv q x = some (u2, t2) := by
            rw [HB.out]; simp only [wholeM]; rw [HR2.out, HU2.out, HR4.out, HZ2.out, Int.toNat_natCast]
          have MVA := hid mvA
          have MVB := hid mvB
          have hpi1 : (p : Int) < a.out.length := by omega
          have hqi2 : (q : Int) < b.out.length := by omega
          have hpi3 : (p : Int) < a.next.length := by omega
          have hqi4 : (q : Int) < b.next.length := by omega
          have hxi1 : (x : Int) < r1.length := by omega
          have hxi2 : (x : Int) < r2.length := by omega
          have hxi3 : (x : Int) < r3.length := by omega
          have hxi4 : (x : Int) < r4.length := by omega
          have m1 := hr1.len.1
          have m2 := hr2.len.1
          have m3 := hr3.len.1
          have m4 := hr4.len.1
          clear hr1 hr2 hr3 hr4 e1 e2 e3 e4 mvA mvB hp hq
          by_cases hou : u1 = u2
          · have n3 : (u1 != u2) = false := by simp [hou]
            have HOU := hid hou
            clear hou
            go_wp2_with fail
            go_quiet (fail)
            go_upto_region 14 with (fail)
            go_cut [10] (fun v wc => ∃ nb : Nat, v = .pointer (some ⟨nb, 0, none⟩) ∧ wr.heap.size ≤ nb ∧ Below wr.heap.size wr wc ∧ wc.heap[nb]? = some (.cells #[.int .i64 (t1 : Int), .int .i64 (t2 : Int)] 57 (0, 0)))
            case first =>
              have hnb : ((wr.drewN (nq + 1)).alloc (.cells #[.int .i64 0, .int .i64 0] 57)).heap[wr.heap.size]? = some (.cells #[.int .i64 0, .int .i64 0] 57 (0, 0)) := heap_alloc_new (wr.drewN (nq + 1)) _
              have v0 := block_cell hnb (i := 0) rfl
              have v1 := block_cell hnb (i := 1) rfl
              have v2 := block_free hnb (i := 0)
              have v3 := block_free hnb (i := 1)
              have HNB := hid hnb
              have HS6 := hid (show wr.cell? ⟨w.heap.size, 4, none⟩ = some (.slice (some ⟨b3, o3, none⟩) a.next.length cn) ∧ wr.cell? ⟨w.heap.size + 1, 4, none⟩ = some (.slice (some ⟨b4, o4, none⟩) b.next.length bn) ∧
                  wr.cell? ⟨b3, o3 + p, none⟩ = some (.slice (some ⟨b7, o7, none⟩) r3.length c3) ∧ wr.cell? ⟨b4, o4 + q, none⟩ = some (.slice (some ⟨b8, o8, none⟩) r4.length c4) ∧ wr.cell? ⟨b7, o7 + x, none⟩ = some (.int .i64 (t1 : Int)) ∧ wr.cell? ⟨b8, o8 + x, none⟩ = some (.int .i64 (t2 : Int)) from ⟨x4, y4, hc3, hc4, hd3, hd4⟩)
              clear hnb
              go_region_held3 (fun w' => w'.cell? ⟨w.heap.size, 4, none⟩ = some (.slice (some ⟨b3, o3, none⟩) a.next.length cn) ∧ w'.cell? ⟨w.heap.size + 1, 4, none⟩ = some (.slice (some ⟨b4, o4, none⟩) b.next.length bn) ∧
                  w'.cell? ⟨b3, o3 + p, none⟩ = some (.slice (some ⟨b7, o7, none⟩) r3.length c3) ∧ w'.cell? ⟨b4, o4 + q, none⟩ = some (.slice (some ⟨b8, o8, none⟩) r4.length c4) ∧ w'.cell? ⟨b7, o7 + x, none⟩ = some (.int .i64 (t1 : Int)) ∧ w'.cell? ⟨b8, o8 + x, none⟩ = some (.int .i64 (t2 : Int)))
                (first
                  | go_keep
                  | exact cells6_below HS6.out (((((Drawn.n wr _).below wr.heap.size).alloc (Nat.le_refl _) _).setCell (p := ⟨wr.heap.size, 0, none⟩) (Nat.le_refl _) _).setCell (p := ⟨wr.heap.size, 1, none⟩) (Nat.le_refl _) _) hxwr hywr (by show b3 < _; omega) (by show b4 < _; omega) (by show b7 < _; omega) (by show b8 < _; omega))
                (fail)
              all_goals
                go_wp2_with fail
                go_meet
                refine ⟨wr.heap.size, rfl, Nat.le_refl _, ?_, ?_⟩
                · exact ((((Drawn.n wr _).below wr.heap.size).alloc (Nat.le_refl _) _).setCell (p := ⟨wr.heap.size, 0, none⟩) (Nat.le_refl _) _).setCell (p := ⟨wr.heap.size, 1, none⟩) (Nat.le_refl _) _
                · rw [set_block (set_block HNB.out _) _]; rfl
            case rest =>
              obtain ⟨nb, rfl, hnb, hbc, hnx⟩ := hcut
              have hmv1 : A.mv (L.getD i (0, 0)).1 x = some (u1, t1) := by rw [HPQ2.out]; exact MVA.out
              have hmv2 : B.mv (L.getD i (0, 0)).2 x = some (u1, t2) := by rw [HPQ2.out, HOU.out]; exact MVB.out
              have HM1 := hid hmv1
              have HM2 := hid hmv2
              have hsc := hbc.size
              have HOC := hid (own_below HO2.out hbc)
              have HNX := hid hnx
              have HBRC := hid (HBR2.out.trans (hbc.mono (by have := HBR2.out.size; omega)))
              have HXC := hid ((hbc.block _ hxwr).trans HXR2.out)
              have hnbs := lt_of_block hnx
              have hnbl : w3.heap.size ≤ nb := by have := HBR2.out.size; omega
              clear hmv1 hmv2 hbc hnx x0 x3 x4 y3 y4 hc1 hc2 hc3 hc4 hd1 hd2 hd3 hd4
              go_wp2_with fail
              go_loopw [11, 12] (fun f t wr => ∃ k : Nat, k ≤ L.length ∧ t = .int .i64 (k : Int) ∧ f = .bool (decide ((t1, t2) ∈ L.take k)) ∧ Drawn wc wr) (fun _ t _ => L.length - (intOf t).toNat)
              case atStart => exact ⟨0, Nat.zero_le _, rfl, by simp, Drawn.refl _⟩
              case round =>
                obtain ⟨k, hk, rfl, rfl, hd⟩ := hrel
                have HOK2 := hid (own_below HOC.out (hd.below wc.heap.size))
                have hnxr := ((hd.below wc.heap.size).block nb hnbs).trans HNX.out
                have y0 := block_cell hnxr (i := 0) rfl
                have y1 := block_cell hnxr (i := 1) rfl
                have HD := hid hd
                have hwcr : wc.heap.size ≤ wr.heap.size := (hd.below 0).size
                clear hnxr hd
                by_cases hin : (t1, t2) ∈ L.take k
                · have hd0 : decide ((t1, t2) ∈ L.take k) = true := decide_eq_true hin
                  have hold := HBF2.out.old HM1.out HM2.out (List.mem_of_mem_take hin)
                  have HOLD := hid hold
                  clear hin hold
                  by_cases hkl : k < L.length
                  · go_wp2_with fail
                    go_roundw
                    case rel => exact ⟨L, x + 1, Av, c, by omega, by go_num, rfl, hil, HPQ2.out, HOK2.out, HOLD.out, HBRC.out.trans (HD.out.below _)⟩
                    case measure => simp [intOf]; omega
                  · go_wp2_with fail
                    go_roundw
                    case rel => exact ⟨L, x + 1, Av, c, by omega, by go_num, rfl, hil, HPQ2.out, HOK2.out, HOLD.out, HBRC.out.trans (HD.out.below _)⟩
                    case measure => simp [intOf]; omega
                · have hd0 : decide ((t1, t2) ∈ L.take k) = false := decide_eq_false hin
                  have HIN := hid hin
                  clear hin
                  by_cases hkl : k < L.length
                  · obtain ⟨g', hg', _, _, hq0, hq1⟩ := pairs_cell HOK2.out hkl
                    obtain ⟨pk, hpk⟩ : ∃ pk, L.getD k (0, 0) = pk := ⟨_, rfl⟩
                    rw [hpk] at hq0 hq1
                    obtain ⟨p1, p2⟩ := pk
                    dsimp only at hq0 hq1
                    subst hg'
                    have hkki : (k : Int) < L.length := by omega
                    have htk : L.take (k + 1) = L.take k ++ [(p1, p2)] := by rw [take_succ_getD L (0, 0) hkl, hpk]
                    by_cases he : (p1, p2) = (t1, t2)
                    · obtain ⟨rfl, rfl⟩ := Prod.mk.inj he
                      have hpe : ∀ w, (binOp .eql 57 (.agg #[.int .i64 (p1 : Int), .int .i64 (p2 : Int)]) (.agg #[.int .i64 (p1 : Int), .int .i64 (p2 : Int)])).run Try.prog w = .ok (.bool true) w := fun w => by rw [pair_eql]; simp
                      have HT := hid (show decide ((p1, p2) ∈ L.take (k + 1)) = true by rw [htk]; simp)
                      clear he htk hpk
                      go_wp2_with fail
                      go_quiet (fail)
                      go_wp2_with fail
                      go_roundw
                      case rel => exact ⟨k + 1, by omega, by go_num, by rw [HT.out], HD.out.drewN _⟩
                      case measure => simp [intOf]; omega
                    · have hne : ¬ ((p1 : Int) = (t1 : Int) ∧ (p2 : Int) = (t2 : Int)) := fun h => he (by obtain ⟨h1, h2⟩ := h; exact Prod.ext (by show p1 = t1; omega) (by show p2 = t2; omega))
                      have hpe : ∀ w, (binOp .eql 57 (.agg #[.int .i64 (p1 : Int), .int .i64 (p2 : Int)]) (.agg #[.int .i64 (t1 : Int), .int .i64 (t2 : Int)])).run Try.prog w = .ok (.bool false) w := fun w => by rw [pair_eql, decide_eq_false hne]
                      have HT := hid (show decide ((t1, t2) ∈ L.take (k + 1)) = false by
                        refine decide_eq_false fun h => ?_
                        rw [htk, List.mem_append, List.mem_singleton] at h
                        rcases h with h | h
                        · exact HIN.out h
                        · exact he h.symm)
                      clear he htk hpk hne
                      go_wp2_with fail
                      go_quiet (fail)
                      go_wp2_with fail
                      go_roundw
                      case rel => exact ⟨k + 1, by omega, by go_num, by rw [HT.out], HD.out.drewN _⟩
                      case measure => simp [intOf]; omega
                  · have hmem : (t1, t2) ∉ L := by
                      have := HIN.out
                      rwa [List.take_of_length_le (by omega)] at this
                    have hnew := HBF2.out.new HOKA.out HOKB.out hil hxl HIB.out HM1.out HM2.out hmem
                    have hlen3 := hnew.len
                    rw [List.length_append, List.length_singleton] at hlen3
                    have HNEW := hid hnew
                    clear hmem hnew
                    go_wp2_with (at_builtin; go_must (refine wpList_append_rd _ rfl (.tmp 115) (.tmp 117) 58 rfl w3.heap.size 57 i0 _ 2 16 Try.underlying58 hti hz0 hz1 hz2 rfl (by omega) (.slice Av L.length c) L.length _ rfl (HOK2.out.alloc _) _ (some ⟨wr.heap.size, 0, none⟩) 1 1 _ rfl (Rd.fresh (D := fun _ => True) rfl trivial (by simp) (by omega)) (by simp [Value.oneCell']) (by omega) (maxLen_le (by omega)) (by simp; omega) ?_); intro A5 c5 w5 hown5 hg5 hat5)
                    have hb5 := Below.grown (B := w3.heap.size) ((HBRC.out.trans (HD.out.below _)).trans (((Below.refl wr.heap.size wr).alloc (Nat.le_refl _) _).mono (by omega))) hg5 (by simp; omega) (fun k hk => (HOK2.out.lt k hk).1)
                    have ho5 : w5.ownsRow w3.heap.size 57 2 (.slice A5 (L ++ [(t1, t2)]).length c5) (L ++ [(t1, t2)]).length ((L ++ [(t1, t2)]).flatMap pcells) := by
                      rw [List.length_append, List.flatMap_append]
                      exact hown5
                    have HB5 := hid hb5
                    have HO5 := hid ho5
                    clear hown5 hg5 hat5 hb5 ho5
                    go_roundw
                    case rel => exact ⟨L ++ [(t1, t2)], x + 1, A5, c5, by omega, by go_num, by simp, by simp; omega, by rw [pair_app L _ hil]; exact HPQ2.out, HO5.out, HNEW.out, HB5.out⟩
                    case measure => simp [intOf]; omega
          · have n3 : (u1 != u2) = true := by simp [hou]
            have hno := HBF2.out.no hil hxl (by rw [HPQ2.out]; exact MVA.out) (by rw [HPQ2.out]; exact MVB.out) hou
            have HNO := hid (fun h => hno (hsame.out.2 h))
            clear hou hno
            go_wp2_with fail
            go_quiet (fail)
            go_wp2_with fail
            go_ret
            exact ⟨⟨false, rfl, (fun h => by cases h), fun h => absurd h HNO.out⟩, below_drewN HBW.out _⟩
        · obtain rfl : x = A.ins := by omega
          have hxx : decide ((A.ins : Int) < a.ins) = false := decide_eq_false (by omega)
          have HNX := hid (HBF2.out.next hil)
          go_wp2_with fail
          go_roundw
          case rel => exact ⟨L, i + 1, Av, c, by omega, by go_num, rfl, HO2.out, HNX.out, HBR2.out⟩
          case measure => simp [intOf]; omega
    · have hfin := HBF.out.all (by omega)
      have HFIN := hid (hsame.out.1 hfin)
      clear hfin
      go_wp2_with fail
      go_ret
      exact ⟨⟨true, rfl, (fun _ => HFIN.out), fun _ => rfl⟩, HB3.out.trans ((HB4.out.trans (HBR.out.mono (Nat.le_refl _))).mono hs3)⟩
end Go.Proofs.Ytcmhginhfhiolaa
