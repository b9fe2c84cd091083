/-
  What FormulaLattice's walk needs besides: False, fields, lists of three; the plain facts.
-/
import Derived.Test.YtahgbgniaiccbaaGreatDoorZKF
set_option linter.unusedVariables false
set_option linter.unusedSimpArgs false
namespace Go.Proofs.YtahgbgniaiccbaaGreatDoor
open Go.RowKit Go.Shelf
theorem buildF_oL (o : Int) (w : World) : (Instr.build 24 #[(0, .int .i64 o)]).run Tryz.prog w = .ok (.agg #[.int .i64 o, .string ⟨#[]⟩, .int .i64 0, .int .i64 0, .slice none 0 0]) w := run_build w 24 _ _ (by kernel_rfl)
attribute [local go_sem] cell_alloc_old buildF_oL

theorem alloc_sz (w : World) (o : Obj) : (w.alloc o).heap.size = w.heap.size + 1 := by simp
theorem drew_sz (w : World) : (World.drew w).heap.size = w.heap.size := rfl
theorem rfalse_any (w : World) :
    Calls Tryz.prog 11 #[] w fun e w' => e = .returned (.agg #[.int .i64 2, .string ⟨#[]⟩, .int .i64 0, .int .i64 0, .slice none 0 0]) ∧ Below w.heap.size w w' := by
  go_enter Tryz.func11, Tryz.ntmps11
  go_wp2_with fail
  refine bodyPost_gen fun W hW => ?_
  have hb : Below w.heap.size w W := by rw [hW]; go_grown
  have hc : W.heap[w.heap.size]? = some (.cells #[.int .i64 2, .string ⟨#[]⟩, .int .i64 0, .int .i64 0, .slice none 0 0] 24 (0, 0)) := by rw [hW]; exact heap_alloc_new w _
  have r0 := block_cell hc (i := 0) rfl
  have r1 := block_cell hc (i := 1) rfl
  have r2 := block_cell hc (i := 2) rfl
  have r3 := block_cell hc (i := 3) rfl
  have r4 := block_cell hc (i := 4) rfl
  clear hW
  exact bodyPost_ret (v := .agg #[.int .i64 2, .string ⟨#[]⟩, .int .i64 0, .int .i64 0, .slice none 0 0]) (by simp [results, Tryz.results11, go_sem, r0, r1, r2, r3, r4]) rfl ⟨rfl, hb⟩
theorem false_lit (w : World) :
    Calls Tryz.prog 11 #[] w fun e w' => e = .returned (.agg #[.int .i64 2, .string ⟨#[]⟩, .int .i64 0, .int .i64 0, .slice none 0 0]) ∧ VF w' 2 ⟨#[]⟩ 0 0 none 0 0 (opF 2 []) ∧ Below w.heap.size w w' :=
  (rfalse_any w).mono fun e w' ⟨e1, hb⟩ => ⟨e1, ⟨[], rfl, rfl, RdA.nil _ _ _ (by omega)⟩, hb⟩
theorem field_op (o : Int) (n : ByteArray) (v b : Int) (A : Option Addr) (k c : Nat) (w : World) : (Instr.field 24 (.agg #[.int .i64 o, .string n, .int .i64 v, .int .i64 b, .slice A k c]) 0).run Tryz.prog w = .ok (.int .i64 o) w := by kernel_rfl
section
variable {w u' cur : World} {o : Int} {n : ByteArray} {v b : Int} {A : Option Addr} {k c : Nat} {f : Fm} {o2 : Int} {n2 : ByteArray} {v2 b2 : Int} {A2 : Option Addr} {k2 c2 : Nat} {f2 : Fm} {o3 : Int} {n3 : ByteArray} {v3 b3 : Int} {A3 : Option Addr} {k3 c3 : Nat} {f3 : Fm} {kb : Nat}
theorem and_litL (g : Fm) {l : List Fm} (hl : k = l.length) (hz : connZ 5 l = g) (h : RdA w AnyD l A c) (hs : sizes l ≤ 1000000) (hg : GF w) (hk : GK w) :
    Calls Tryz.prog 7 #[.slice A k c] w fun e w' => ∃ A' c', e = .returned (.agg #[.int .i64 g.op, .string g.name, .int .i64 g.val, .int .i64 g.bound, .slice A' g.args.length c']) ∧ VC w' g.op g.name g.val g.bound A' g.args.length c' g ∧ Below w.heap.size w w' := and_litc g hz h hl hs hg hk
theorem or_litL (g : Fm) {l : List Fm} (hl : k = l.length) (hz : connZ 6 l = g) (h : RdA w AnyD l A c) (hs : sizes l ≤ 1000000) (hg : GF w) (hk : GK w) :
    Calls Tryz.prog 9 #[.slice A k c] w fun e w' => ∃ A' c', e = .returned (.agg #[.int .i64 g.op, .string g.name, .int .i64 g.val, .int .i64 g.bound, .slice A' g.args.length c']) ∧ VC w' g.op g.name g.val g.bound A' g.args.length c' g ∧ Below w.heap.size w w' := or_litc g hz h hl hs hg hk
theorem lit_slice3 (h : VF w o n v b A k c f) (h2 : VF w o2 n2 v2 b2 A2 k2 c2 f2) (h3 : VF w o3 n3 v3 b3 A3 k3 c3 f3)
    (hk : w.heap[kb]? = some (.cells #[.int .i64 o, .string n, .int .i64 v, .int .i64 b, .slice A k c, .int .i64 o2, .string n2, .int .i64 v2, .int .i64 b2, .slice A2 k2 c2, .int .i64 o3, .string n3, .int .i64 v3, .int .i64 b3, .slice A3 k3 c3] 24 (0, 0))) : RdA w AnyD [f, f2, f3] (some ⟨kb, 0, none⟩) 3 := by
  obtain ⟨gs, rfl, rfl, h⟩ := h
  obtain ⟨gs2, rfl, rfl, h2⟩ := h2
  obtain ⟨gs3, rfl, rfl, h3⟩ := h3
  exact RdA.litAny (sl := [(A, c), (A2, c2), (A3, c3)]) hk rfl rfl rfl (by omega) fun i hi => by
    have : i = 0 ∨ i = 1 ∨ i = 2 := by simp at hi; omega
    rcases this with rfl | rfl | rfl
    · exact h
    · exact h2
    · exact h3
theorem sl3_of (hb : Below cur.heap.size cur u') (h : VF cur o n v b A k c f) (h2 : VF cur o2 n2 v2 b2 A2 k2 c2 f2) (h3 : VF cur o3 n3 v3 b3 A3 k3 c3 f3)
    (hk : cur.heap[kb]? = some (.cells #[.int .i64 o, .string n, .int .i64 v, .int .i64 b, .slice A k c, .int .i64 o2, .string n2, .int .i64 v2, .int .i64 b2, .slice A2 k2 c2, .int .i64 o3, .string n3, .int .i64 v3, .int .i64 b3, .slice A3 k3 c3] 24 (0, 0))) : RdA u' AnyD [f, f2, f3] (some ⟨kb, 0, none⟩) 3 := (lit_slice3 h h2 h3 hk).any hb
theorem sl3_ofd (hb : Below (World.drew cur).heap.size (World.drew cur) u') (h : VF cur o n v b A k c f) (h2 : VF cur o2 n2 v2 b2 A2 k2 c2 f2) (h3 : VF cur o3 n3 v3 b3 A3 k3 c3 f3)
    (hk : cur.heap[kb]? = some (.cells #[.int .i64 o, .string n, .int .i64 v, .int .i64 b, .slice A k c, .int .i64 o2, .string n2, .int .i64 v2, .int .i64 b2, .slice A2 k2 c2, .int .i64 o3, .string n3, .int .i64 v3, .int .i64 b3, .slice A3 k3 c3] 24 (0, 0))) : RdA u' AnyD [f, f2, f3] (some ⟨kb, 0, none⟩) 3 := sl3_of (cur := cur) ⟨hb.os, hb.tape, hb.output, hb.size, hb.block⟩ h h2 h3 hk
end
theorem connZ_400 (op : Int) (l : List Fm) : (connZ op l).size ≤ 400 := by
  unfold connZ
  split
  · split
    · rename_i h
      exact (loose_out h).1
    · decide
  · decide
theorem connZ_nil (op : Int) (hop : op = 5 ∨ op = 6) : (connZ op []).op = unitZ op := by
  have e : joinZ op ([].map canonZ) = opF (unitZ op) [] := rfl
  have hl : looseB (opF (unitZ op) []) = true := loose_of (by rw [leaf_size]; omega) (by rw [leaf_depth]; omega) (allI_leaf (unit_12 op))
  unfold connZ
  rw [if_pos (show ([] : List Fm).all looseB = true from rfl), e, if_pos hl]
  rfl
structure Latt (op : Int) (f g h fg gh c : Fm) : Prop where
  efg : connZ op [f, g] = fg
  egh : connZ op [g, h] = gh
  gf : connZ op [g, f] = fg
  p1 : connZ op [f, gh] = connZ op [fg, h]
  p2 : connZ op [f, g, h] = connZ op [fg, h]
  ff : connZ op [f, f] = c
  fu : connZ op [f, opF (unitZ op) []] = c
  uf : connZ op [opF (unitZ op) [], f] = c
  fz : (connZ op [f, opF (zeroZ op) []]).op = zeroZ op
  zf : (connZ op [opF (zeroZ op) [], f]).op = zeroZ op
  s2 : sizes [f, g] ≤ 1000000
  s2' : sizes [g, h] ≤ 1000000
  s2'' : sizes [g, f] ≤ 1000000
  s3 : sizes [f, g, h] ≤ 1000000
  s4 : sizes [fg, h] ≤ 1000000
  s5 : sizes [f, gh] ≤ 1000000
  s6 : sizes [f, f] ≤ 1000000
  s7 : ∀ o, sizes [f, opF o []] ≤ 1000000
  s8 : ∀ o, sizes [opF o [], f] ≤ 1000000
  fs : fg.size ≤ 1000000
  cs : c.size ≤ 1000000
theorem latt_of {op : Int} (hop : op = 5 ∨ op = 6) {f g h : Fm} (hf : lowB f = true) (hg : lowB g = true) (hh : lowB h = true) : Latt op f g h (connZ op [f, g]) (connZ op [g, h]) (canonicalZ f) := by
  obtain ⟨l1, l2, l3, l4, l5, l6, l7, l8⟩ := lattice hop hf hg hh
  have e := canonical_loose (low_out hf).2.2
  have a1 := (low_out hf).1
  have a2 := (low_out hg).1
  have a3 := (low_out hh).1
  have c1 := connZ_400 op [f, g]
  have c2 := connZ_400 op [g, h]
  have lf : ∀ o, (opF o []).size = 1 := leaf_size
  refine ⟨rfl, rfl, l1.symm, l2.symm, l3, by rw [e]; exact l4, by rw [e]; exact l5, by rw [e]; exact l6, l7, l8, ?_, ?_, ?_, ?_, ?_, ?_, ?_, ?_, ?_, by omega, canonicalZ_size f⟩
  all_goals (try intro o); simp only [sizes]; (try have := lf o); omega
end Go.Proofs.YtahgbgniaiccbaaGreatDoor
