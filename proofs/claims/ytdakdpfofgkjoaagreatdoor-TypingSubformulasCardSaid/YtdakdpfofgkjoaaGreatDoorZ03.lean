/-
  Walks of the reference: Same, Op, True, Is, Late.
-/
import Derived.Test.YtdakdpfofgkjoaaGreatDoorZ02
set_option linter.unusedVariables false
set_option linter.unusedSimpArgs false
namespace Go.Proofs.YtdakdpfofgkjoaaGreatDoor
open Go.RowKit
theorem bodyPost_gen {P : Program} {f : Func} {Q : Ending → World → Prop} {e : Exit} {a : Act} {w : World} (h : ∀ W, W = w → bodyPost P f Q e a W) : bodyPost P f Q e a w := h w rfl
theorem buildF_op (o : Int) (A : Option Addr) (n c : Nat) (w : World) : (Instr.build 28 #[(0, .int .i64 o), (4, .slice A n c)]).run Tryz.prog w = .ok (.agg #[.int .i64 o, .string ⟨#[]⟩, .int .i64 0, .int .i64 0, .slice A n c]) w := run_build w 28 _ _ (by kernel_rfl)
theorem buildF_o (o : Int) (w : World) : (Instr.build 28 #[(0, .int .i64 o)]).run Tryz.prog w = .ok (.agg #[.int .i64 o, .string ⟨#[]⟩, .int .i64 0, .int .i64 0, .slice none 0 0]) w := run_build w 28 _ _ (by kernel_rfl)
theorem buildF_is (o v : Int) (s : ByteArray) (w : World) : (Instr.build 28 #[(0, .int .i64 o), (1, .string s), (2, .int .i64 v)]).run Tryz.prog w = .ok (.agg #[.int .i64 o, .string s, .int .i64 v, .int .i64 0, .slice none 0 0]) w := run_build w 28 _ _ (by kernel_rfl)
theorem buildF_late (o v : Int) (A : Option Addr) (n c : Nat) (w : World) : (Instr.build 28 #[(0, .int .i64 o), (2, .int .i64 v), (4, .slice A n c)]).run Tryz.prog w = .ok (.agg #[.int .i64 o, .string ⟨#[]⟩, .int .i64 v, .int .i64 0, .slice A n c]) w := run_build w 28 _ _ (by kernel_rfl)
attribute [local go_sem] cell_alloc_old buildF_op buildF_o buildF_is buildF_late

abbrev AnyD : Dom := fun _ => True
theorem rsame_any {D E : Dom} (f g : Fm) (v v' : Value) (w : World) (h : RdF3 w D v f) (h' : RdF3 w E v' g) :
    Calls Tryz.prog 15 #[v, v'] w fun e w' => e = .returned (.bool (decide (f.cmp g = 0))) ∧ Below w.heap.size w w' := by
  obtain ⟨A, c, rfl, ha⟩ := h
  obtain ⟨A', c', rfl, ha'⟩ := h'
  have HA := hid ha.old
  have HA2 := hid ha'.old
  clear ha ha'
  go_enter Tryz.func15, Tryz.ntmps15
  go_upto_region 1 with (fail)
  refine wp_gen fun W hW => ?_
  obtain ⟨w1, h1⟩ : ∃ w1, w1 = w.alloc (.cells #[.int .i64 f.op, .string f.name, .int .i64 f.val, .int .i64 f.bound, .slice A f.args.length c] 28) := ⟨_, rfl⟩
  have s1 : w1.heap.size = w.heap.size + 1 := by rw [h1]; simp
  have b1 : Below w.heap.size w w1 := by rw [h1]; go_grown
  have m1 : Box5 w1 w.heap.size f A c := by rw [h1]; exact Box5.new w f A c
  rw [← h1] at hW
  have b2 : Below w1.heap.size w1 W := by rw [hW]; go_grown
  obtain ⟨x0, x1, x2, x3, x4, xl⟩ := (m1.below b2).cells
  obtain ⟨y0, y1, y2, y3, y4, yl⟩ := (show Box5 W (w.heap.size + 1) g A' c' by rw [hW, ← s1]; exact Box5.new w1 g A' c').cells
  have HBW := hid (b1.trans (b2.mono b1.size))
  clear hW h1 s1 b1 m1 b2
  go_wp2_with fail
  refine (rcmp_any f g _ _ W ⟨A, c, rfl, HA.out.keep (Keeps.of_below HBW.out fun _ h => h)⟩ ⟨A', c', rfl, HA2.out.keep (Keeps.of_below HBW.out fun _ h => h)⟩).mono ?_
  rintro e w1 ⟨rfl, hb⟩
  have HB := hid (HBW.out.trans (hb.mono HBW.out.size))
  clear hb
  obtain ⟨k, hk⟩ : ∃ k, k = f.cmp g := ⟨_, rfl⟩
  rw [← hk]
  have HK := hid hk
  clear hk
  go_wp2_with fail
  go_ret
  refine ⟨ret_bool ?_, HB.out⟩
  rw [← HK.out]
  by_cases e : k = 0
  · rw [decide_eq_true e]; exact beq_iff_eq.2 e
  · rw [decide_eq_false e]; exact beq_false_of e
/-- A formula with an operator and arguments. -/
def opF (o : Int) (l : List Fm) : Fm := .mk o ⟨#[]⟩ 0 0 l
def lateF (o v : Int) (l : List Fm) : Fm := .mk o ⟨#[]⟩ v 0 l
def isF (s : ByteArray) (v : Int) : Fm := .mk 3 s v 0 []
theorem rop_any (o : Int) (A : Option Addr) (n c : Nat) (w : World) :
    Calls Tryz.prog 88 #[.int .i64 o, .slice A n c] w fun e w' => e = .returned (.agg #[.int .i64 o, .string ⟨#[]⟩, .int .i64 0, .int .i64 0, .slice A n c]) ∧ Below w.heap.size w w' := by
  go_enter Tryz.func88, Tryz.ntmps88
  go_wp2_with fail
  refine bodyPost_gen fun W hW => ?_
  have hb : Below w.heap.size w W := by rw [hW]; go_grown
  have hc : W.heap[w.heap.size]? = some (.cells #[.int .i64 o, .string ⟨#[]⟩, .int .i64 0, .int .i64 0, .slice A n c] 28 (0, 0)) := by rw [hW]; exact heap_alloc_new w _
  have r0 := block_cell hc (i := 0) rfl
  have r1 := block_cell hc (i := 1) rfl
  have r2 := block_cell hc (i := 2) rfl
  have r3 := block_cell hc (i := 3) rfl
  have r4 := block_cell hc (i := 4) rfl
  clear hW
  exact bodyPost_ret (v := .agg #[.int .i64 o, .string ⟨#[]⟩, .int .i64 0, .int .i64 0, .slice A n c]) (by simp [results, Tryz.results88, go_sem, r0, r1, r2, r3, r4]) rfl ⟨rfl, hb⟩
theorem rtrue_any  (w : World) :
    Calls Tryz.prog 90 #[] w fun e w' => e = .returned (.agg #[.int .i64 1, .string ⟨#[]⟩, .int .i64 0, .int .i64 0, .slice none 0 0]) ∧ Below w.heap.size w w' := by
  go_enter Tryz.func90, Tryz.ntmps90
  go_wp2_with fail
  refine bodyPost_gen fun W hW => ?_
  have hb : Below w.heap.size w W := by rw [hW]; go_grown
  have hc : W.heap[w.heap.size]? = some (.cells #[.int .i64 1, .string ⟨#[]⟩, .int .i64 0, .int .i64 0, .slice none 0 0] 28 (0, 0)) := by rw [hW]; exact heap_alloc_new w _
  have r0 := block_cell hc (i := 0) rfl
  have r1 := block_cell hc (i := 1) rfl
  have r2 := block_cell hc (i := 2) rfl
  have r3 := block_cell hc (i := 3) rfl
  have r4 := block_cell hc (i := 4) rfl
  clear hW
  exact bodyPost_ret (v := .agg #[.int .i64 1, .string ⟨#[]⟩, .int .i64 0, .int .i64 0, .slice none 0 0]) (by simp [results, Tryz.results90, go_sem, r0, r1, r2, r3, r4]) rfl ⟨rfl, hb⟩
theorem rlate_any (o x : Int) (A : Option Addr) (n c : Nat) (w : World) :
    Calls Tryz.prog 93 #[.int .i64 o, .int .i64 x, .slice A n c] w fun e w' => e = .returned (.agg #[.int .i64 o, .string ⟨#[]⟩, .int .i64 x, .int .i64 0, .slice A n c]) ∧ Below w.heap.size w w' := by
  go_enter Tryz.func93, Tryz.ntmps93
  go_wp2_with fail
  refine bodyPost_gen fun W hW => ?_
  have hb : Below w.heap.size w W := by rw [hW]; go_grown
  have hc : W.heap[w.heap.size]? = some (.cells #[.int .i64 o, .string ⟨#[]⟩, .int .i64 x, .int .i64 0, .slice A n c] 28 (0, 0)) := by rw [hW]; exact heap_alloc_new w _
  have r0 := block_cell hc (i := 0) rfl
  have r1 := block_cell hc (i := 1) rfl
  have r2 := block_cell hc (i := 2) rfl
  have r3 := block_cell hc (i := 3) rfl
  have r4 := block_cell hc (i := 4) rfl
  clear hW
  exact bodyPost_ret (v := .agg #[.int .i64 o, .string ⟨#[]⟩, .int .i64 x, .int .i64 0, .slice A n c]) (by simp [results, Tryz.results93, go_sem, r0, r1, r2, r3, r4]) rfl ⟨rfl, hb⟩
end Go.Proofs.YtdakdpfofgkjoaaGreatDoor
