/-
  Walk of the law CircuitOutputs.
-/
import Derived.Test.YtfabdpnjjondaaaL2
import Derived.Test.YtfabdpnjjondaaaH2
import Derived.Test.YtfabdpnjjondaaaG17
set_option linter.unusedVariables false
set_option linter.unusedSimpArgs false
namespace Go.Proofs.Ytfabdpnjjondaaa
open Go.RowKit
attribute [local go_sem] cell_alloc_old

/-- Old memory is as it was; the first new block holds the controller that came in. -/
def Bm (w : World) (m : Mly) (Ao : Option Addr) (co : Nat) (An : Option Addr) (cn : Nat) (w' : World) : Prop :=
  Below w.heap.size w w' ∧ Box w' w.heap.size #[.int .i64 m.ins, .int .i64 m.outs, .int .i64 m.start, .slice Ao m.out.length co, .slice An m.next.length cn]
theorem Bm.below {w w' w'' : World} {m : Mly} {Ao An : Option Addr} {co cn : Nat} (h : Bm w m Ao co An cn w') (hb : Below w'.heap.size w' w'') : Bm w m Ao co An cn w'' :=
  ⟨h.1.trans (hb.mono h.1.size), h.2.below hb (Nat.le_refl _)⟩
theorem few_small {m : Mly} (h : fewM m = true) : m.out.length ≤ 12 ∧ m.next.length ≤ 12 ∧ m.ins ≤ 20 := by
  unfold fewM at h
  simp only [Bool.and_eq_true, decide_eq_true_eq] at h
  exact ⟨h.1.1.1.1, h.1.1.1.2, h.1.1.2⟩
theorem compiled_ok {m : Mly} (h : fewM m = true) (hm : mealyB m = true) : compileE m = 0 ∧ compiledZ m = 0 := by
  have hs := sized_of hm
  obtain ⟨h1, h2, h3⟩ := few_small h
  have q1 : (m.out.length : Int) * m.ins ≤ 12 * 20 := Int.mul_le_mul (by omega) h3 (by have := hs.i1; omega) (by omega)
  have q2 : (m.next.length : Int) * m.ins ≤ 12 * 20 := Int.mul_le_mul (by omega) h3 (by have := hs.i1; omega) (by omega)
  exact ⟨by unfold compileE; rw [if_pos hm, if_neg (by omega)], by unfold compiledZ; rw [if_pos hm, if_neg (by omega)]⟩
theorem compiled_no {m : Mly} (hm : mealyB m = false) : compileE m = 1 ∧ compiledZ m = 1 := by
  have h : ¬ mealyB m = true := by rw [hm]; decide
  exact ⟨by unfold compileE; rw [if_neg h], by unfold compiledZ; rw [if_neg h]⟩

set_option maxRecDepth 100000 in
set_option maxHeartbeats 8000000 in
theorem law6_any {D E : Dom} (w : World) (v : Value) (m : Mly) (A : Option Addr) (ca : Nat) (ins : List Int) (h : RdM w D v m) (hi : RdI w E A ca ins) :
    Calls Try.prog 8 #[v, .slice A ins.length ca] w fun e w' => e = .returned (.bool true) ∧ Below w.heap.size w w' := by
  have HV := hid h.old
  have HI := hid hi.old
  have hni := hi.len.1
  obtain ⟨Ao, co, An, cn, rfl, ho, hn⟩ := h
  have hlo := ho.len.1
  have hln := hn.len.1
  clear ho hn hi
  go_enter Try.func8, Try.ntmps8
  go_wp2_with fail
  refine (head_any _).mono ?_
  rintro e w1 ⟨rfl, hb⟩
  have hs : Bm w m Ao co An cn w1 :=
    Bm.below (w' := w.alloc (.cells #[.int .i64 m.ins, .int .i64 m.outs, .int .i64 m.start, .slice Ao m.out.length co, .slice An m.next.length cn] 35)) ⟨by go_grown, Box.new _ _ _ rfl⟩ hb
  have HS := hid hs
  have x0 := hs.2 0 _ rfl
  have x1 := hs.2 1 _ rfl
  have x2 := hs.2 2 _ rfl
  have x3 := hs.2 3 _ rfl
  have x4 := hs.2 4 _ rfl
  clear hb hs
  go_wp2_with fail
  refine (fewm_any _ m w1 (HV.out.keep (Keeps.of_below HS.out.1 (fun _ h => h)))).mono ?_
  rintro e w2 ⟨rfl, hb⟩
  have hs := HS.out.below hb
  have HS := hid hs
  have x0 := hs.2 0 _ rfl
  have x1 := hs.2 1 _ rfl
  have x2 := hs.2 2 _ rfl
  have x3 := hs.2 3 _ rfl
  have x4 := hs.2 4 _ rfl
  clear hb hs
  cases hf : fewM m
  · clear hf
    go_wp2_with fail
    go_ret
    exact ⟨rfl, HS.out.1⟩
  have HF := hid hf
  have hsm := few_small hf
  have ho12 : m.out.length ≤ 1000000 := by omega
  have hn12 : m.next.length ≤ 1000000 := by omega
  have HO12 := hid ho12
  have HN12 := hid hn12
  clear hf hsm ho12 hn12
  go_wp2_with fail
  refine (compile_any w2 _ m (HV.out.keep (Keeps.of_below HS.out.1 (fun _ h => h))) HO12.out).mono ?_
  rintro e w3 ⟨u, rfl, hb, hr⟩
  have HR := hid hr.old
  obtain ⟨Bg, bg, Bl, bl, Bo, bo, rfl, hg, hl, ho⟩ := hr
  have hgl := hg.len.1
  have hll := hl.len.1
  have hol := ho.len.1
  have hs := HS.out.below hb
  have HS := hid hs
  have x0 := hs.2 0 _ rfl
  have x1 := hs.2 1 _ rfl
  have x2 := hs.2 2 _ rfl
  have x3 := hs.2 3 _ rfl
  have x4 := hs.2 4 _ rfl
  have hlt3 : w.heap.size < w3.heap.size := World.block_lt_of_cell? w3 _ x0
  clear hb hs hg hl ho
  go_upto_region 5 with (fail)
  refine wp_gen fun W4 hW4 => ?_
  have hb4 : Below w3.heap.size w3 W4 := by rw [hW4]; go_grown
  have hc4 : W4.heap[w3.heap.size]? = some (.cells #[.int .i64 (compileZ m).ib, .slice Bg (compileZ m).gates.length bg, .slice Bl (compileZ m).lat.length bl, .slice Bo (compileZ m).outs.length bo] 25 (0, 0)) := by rw [hW4]; exact heap_alloc_new w3 _
  have hsz4 : w3.heap.size < W4.heap.size := lt_of_block hc4
  have hs := HS.out.below hb4
  have HS := hid hs
  have HC := hid hc4
  have HR4 := hid (HR.out.keep (Keeps.of_below hb4 (fun _ h => h)))
  clear hW4 x0 x1 x2 x3 x4
  have x0 := hs.2 0 _ rfl
  have x1 := hs.2 1 _ rfl
  have x2 := hs.2 2 _ rfl
  have x3 := hs.2 3 _ rfl
  have x4 := hs.2 4 _ rfl
  clear hs hc4 hb4
  go_wp2_with fail
  refine (compiled_any _ m W4 (HV.out.keep (Keeps.of_below HS.out.1 (fun _ h => h))) HN12.out).mono ?_
  rintro e w5 ⟨rfl, hb5⟩
  have hc5 := (hb5.block _ hsz4).trans HC.out
  have hs := HS.out.below hb5
  have HS := hid hs
  have HC := hid hc5
  have HR5 := hid (HR4.out.keep (Keeps.of_below hb5 (fun b h => by have : b < w3.heap.size := h; omega)))
  have hsz5 : w3.heap.size < w5.heap.size := lt_of_block hc5
  have x0 := hs.2 0 _ rfl
  have x1 := hs.2 1 _ rfl
  have x2 := hs.2 2 _ rfl
  have x3 := hs.2 3 _ rfl
  have x4 := hs.2 4 _ rfl
  have d0 := block_cell hc5 (i := 0) rfl
  have d1 := block_cell hc5 (i := 1) rfl
  have d2 := block_cell hc5 (i := 2) rfl
  have d3 := block_cell hc5 (i := 3) rfl
  clear hb5 hc5 hs
  cases hm : mealyB m
  · obtain ⟨e1, e2⟩ := compiled_no hm
    have hg0 : (compileZ m).gates.length = 0 := by unfold compileZ; rw [e1]; rfl
    have ho0 : (compileZ m).outs.length = 0 := by unfold compileZ; rw [e1]; rfl
    rw [hg0] at d1
    rw [ho0] at d3
    rw [e1, e2]
    clear hm e1 e2 hg0 ho0
    go_wp2_with fail
    go_ret
    exact ⟨rfl, HS.out.1⟩
  obtain ⟨e1, e2⟩ := compiled_ok HF.out hm
  have hcz : compileZ m = compileC m := by unfold compileZ; rw [if_pos e1]
  have HCZ := hid hcz
  have HM := hid hm
  rw [e1, e2]
  clear hm e1 e2 hcz
  go_wp2_with fail
  refine (right_any _ m A ca ins w5 (HV.out.keep (Keeps.of_below HS.out.1 (fun _ h => h))) (HI.out.keep (Keeps.of_below HS.out.1 (fun _ h => h)))).mono ?_
  rintro e w6 ⟨rfl, hb6⟩
  have hc6 := (hb6.block _ hsz5).trans HC.out
  have hs := HS.out.below hb6
  have HS := hid hs
  have HC := hid hc6
  have HR6 := hid (HR5.out.keep (Keeps.of_below hb6 (fun b h => by have : b < w3.heap.size := h; omega)))
  have hsz6 : w3.heap.size < w6.heap.size := lt_of_block hc6
  have x0 := hs.2 0 _ rfl
  have x1 := hs.2 1 _ rfl
  have x2 := hs.2 2 _ rfl
  have x3 := hs.2 3 _ rfl
  have x4 := hs.2 4 _ rfl
  have d0 := block_cell hc6 (i := 0) rfl
  have d1 := block_cell hc6 (i := 1) rfl
  have d2 := block_cell hc6 (i := 2) rfl
  have d3 := block_cell hc6 (i := 3) rfl
  clear hb6 hc6 hs
  cases hr : rightB m ins
  · clear hr
    go_wp2_with fail
    go_ret
    exact ⟨rfl, HS.out.1⟩
  have hq := hr
  unfold rightB at hq
  simp only [Bool.and_eq_true, decide_eq_true_eq] at hq
  have HB := hid hq.2
  have h24 : ins.length ≤ 24 := hq.1.2
  have hin : Hid (∀ j, j < ins.length → 0 ≤ ins.getD j 0 ∧ ins.getD j 0 < m.ins) := hid fun j hj => by
    have := allN_true.1 hq.2 j hj
    simpa only [Bool.and_eq_true, decide_eq_true_eq] using this
  have hSz := hid (sized_of HM.out)
  have hsm := few_small HF.out
  have HRUN : Hid (runZ (compileZ m) ins = mOuts m m.start ins ins.length) := hid (by
    rw [HCZ.out]
    exact comp_run hSz.out (comp_valid hSz.out (by omega) hsm.2.2).1 hin.out)
  have HS0 := hid hSz.out.s0
  have HS1 := hid hSz.out.s1
  have H24 := hid h24
  clear hr hq hsm h24
  go_wp2_with fail
  refine (mrun_any _ m m.start A ca ins w6 (HV.out.keep (Keeps.of_below HS.out.1 (fun _ h => h))) (HI.out.keep (Keeps.of_below HS.out.1 (fun _ h => h))) HM.out HS0.out HS1.out HB.out (by have := H24.out; omega)).mono ?_
  obtain ⟨out, hout⟩ : ∃ o, mOuts m m.start ins ins.length = o := ⟨_, rfl⟩
  have hml : out.length = ins.length := by rw [← hout]; exact mOuts_len _ _ _ _
  rw [hout] at HRUN ⊢
  have HML := hid hml
  clear hout hml
  rintro e w7 ⟨B7, c7, rfl, hb7, hr7⟩
  have hc7 := (hb7.block _ hsz6).trans HC.out
  have hs := HS.out.below hb7
  have HS := hid hs
  have HR7 := hid (HR6.out.keep (Keeps.of_below hb7 (fun b h => by have : b < w3.heap.size := h; omega)))
  have HO7 := hid hr7.old
  have d0 := block_cell hc7 (i := 0) rfl
  have d1 := block_cell hc7 (i := 1) rfl
  have d2 := block_cell hc7 (i := 2) rfl
  have d3 := block_cell hc7 (i := 3) rfl
  have hsz7 : w3.heap.size < w7.heap.size := lt_of_block hc7
  have x0 := hs.2 0 _ rfl
  clear hb7 hc7 hs hr7
  go_wp2_with fail
  refine (run_at _ w7 (compileZ m) ins _ A ca HR7.out (HI.out.keep (Keeps.of_below HS.out.1 (fun _ h => h))) (by have := H24.out; omega) HRUN.out).mono ?_
  rintro e w8 ⟨B8, c8, rfl, hb8, hr8⟩
  have hs := HS.out.below hb8
  have HS := hid hs
  have HO8 := hid (HO7.out.keep (Keeps.of_below hb8 (fun _ h => h)))
  have HR8 := hid hr8.old
  have HIS : Hid (Calls Try.prog 15 #[.slice B8 out.length c8, .slice B7 ins.length c7] w8 fun e w' => e = .returned (.bool true) ∧ Drawn w8 w') := hid (by
    have := ints_same w8 out B8 B7 c8 c7 HR8.out HO8.out
    rw [HML.out] at this ⊢
    exact this)
  clear hb8 hr8 hs
  go_wp2_with fail
  refine HIS.out.mono ?_
  rintro e w9 ⟨rfl, hd⟩
  have hb9 := HS.out.1.trans (hd.below _)
  have HB9 := hid hb9
  clear hd hb9
  go_wp2_with fail
  go_ret
  exact ⟨rfl, HB9.out⟩
end Go.Proofs.Ytfabdpnjjondaaa
