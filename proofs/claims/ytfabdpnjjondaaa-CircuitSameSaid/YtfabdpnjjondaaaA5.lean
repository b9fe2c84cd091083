/-
  Walks: Ints, Few, gate, formed.
-/
import Derived.Test.YtfabdpnjjondaaaA4
set_option linter.unusedVariables false
set_option linter.unusedSimpArgs false
namespace Go.Proofs.Ytfabdpnjjondaaa
open Go.RowKit

set_option maxHeartbeats 400000 in
theorem ints_any {D E : Dom} (A B : Option Addr) (c d : Nat) (xs ys : List Int) (w : World) (hx : RdI w D A c xs) (hy : RdI w E B d ys) :
    Calls Try.prog 15 #[.slice A xs.length c, .slice B ys.length d] w fun e w' => e = .returned (.bool (decide (xs = ys))) ∧ Drawn w w' := by
  have hm := hx.len.1
  have HXS := hid hx
  have HYS := hid hy
  clear hx hy
  by_cases hn : xs.length = ys.length
  · have hne : ((xs.length : Int) != (ys.length : Int)) = false := by simp [hn]
    have HN := hid hn
    have hle : ys.length ≤ xs.length := by omega
    clear hn
    go_enter Try.func15, Try.ntmps15
    go_wp2
    go_loopw [5] (fun t wr => ∃ k : Nat, k ≤ xs.length ∧ t = .int .i64 k ∧ SoFar k (fun j => decide (xs.getD j 0 = ys.getD j 0)) ∧ Drawn w wr) (fun t _ => xs.length - (intOf t).toNat)
    case atStart => exact ⟨0, Nat.zero_le _, rfl, SoFar.zero _, Drawn.refl w⟩
    case round =>
      obtain ⟨k, hk, rfl, hb, hd⟩ := hrel
      have HB := hid hb
      clear hb
      by_cases hlt : k < xs.length
      · have hlt2 : k < ys.length := by have := HN.out; omega
        obtain ⟨b, o, x, rfl, _, _, HX, hc⟩ := (HXS.out.keep hd.keeps).get hlt
        obtain ⟨b', o', y, rfl, _, _, HY, hc'⟩ := (HYS.out.keep hd.keeps).get hlt2
        go_wp2
        go_quiet (fail)
        by_cases he : x = y
        · have hne : (x != y) = false := by simp [he]
          have HE := hid he
          clear he
          go_wp2
          go_roundw
          case rel => exact ⟨k + 1, by omega, by go_num, HB.out.succ (by rw [HX.out, HY.out]; simp [HE.out]), hd.drewN _⟩
          case measure => simp [intOf]; omega
        · have hne : (x != y) = true := by simp [he]
          have HE := hid he
          clear he
          go_wp2
          go_ret
          refine ⟨ret_bool ?_, hd.drewN _⟩
          refine (decide_eq_false fun h => HE.out ?_).symm
          rw [← HX.out, ← HY.out, h]
      · go_wp2
        go_ret
        refine ⟨ret_bool ?_, hd⟩
        refine (decide_eq_true ?_).symm
        refine List.ext_getElem HN.out fun j h1 h2 => ?_
        have := HB.out j (by omega)
        simpa [List.getD, h1, h2] using this
  · have hne : ((xs.length : Int) != (ys.length : Int)) = true := bne_iff_ne.2 (by omega)
    have HN := hid hn
    clear hn
    go_enter Try.func15, Try.ntmps15
    go_wp2
    go_ret
    exact ⟨ret_bool (decide_eq_false fun h => HN.out (by rw [h])).symm, Drawn.refl w⟩

set_option maxHeartbeats 400000 in
theorem few_any {D : Dom} (v : Value) (c : Cir) (w : World) (h : RdC w D v c) :
    Calls Try.prog 10 #[v] w fun e w' => e = .returned (.bool (fewB c)) ∧ Below w.heap.size w w' := by
  obtain ⟨Ag, cg, Al, cl, Ao, co, rfl, hg, hl, ho⟩ := h
  clear hg hl ho
  go_enter Try.func10, Try.ntmps10
  go_wp2
  all_goals (go_ret; exact ⟨ret_bool (by unfold fewB; rw [Bool.eq_iff_iff]; simp only [Bool.and_eq_true, decide_eq_true_eq, Bool.false_eq_true, false_iff]; omega), by go_grown⟩)

attribute [local go_sem] cell_alloc_old
theorem gate_fin {a b : Bool} (h : a = b) : Ending.returned (.bool a) = .returned (.bool b) := by rw [h]
set_option maxHeartbeats 1000000 in
theorem gate_any {D : Dom} (v : Value) (c : Cir) (i : Nat) (w : World) (h : RdC w D v c) (hi : i < c.gates.length) :
    Calls Try.prog 34 #[v, .int .i64 i] w fun e w' => e = .returned (.bool (gateB c.ib c.lat.length i (c.gates.getD i default))) ∧ Below w.heap.size w w' := by
  obtain ⟨Ag, cg, Al, cl, Ao, co, rfl, hg, hl, ho⟩ := h
  have hn := hg.len.1
  have hn2 := hl.len.1
  obtain ⟨b, o, g, rfl, _, had, HX, h0, h1, h2⟩ := hg.get hi
  rw [HX.out]
  clear hg hl ho HX
  go_enter Try.func34, Try.ntmps34
  go_wp2
  all_goals
    go_ret
    refine ⟨ret_bool ?_, by go_grown⟩
    simp only [beq_iff_eq, beq_eq_false_iff_ne, ne_eq] at *
    unfold gateB
    rw [Bool.eq_iff_iff]
    (repeat' split) <;> simp only [Bool.and_eq_true, decide_eq_true_eq, Bool.false_eq_true, false_iff, beq_iff_eq] <;> omega

set_option maxHeartbeats 1000000 in
theorem formed_any {D : Dom} (v : Value) (c : Cir) (i : Nat) (w : World) (h : RdC w D v c) (hi : i < c.gates.length) :
    Calls Try.prog 33 #[v, .int .i64 i] w fun e w' => e = .returned (.bool (gateB c.ib c.lat.length i (c.gates.getD i default))) ∧ Below w.heap.size w w' := by
  obtain ⟨Ag, cg, Al, cl, Ao, co, rfl, hg, hl, ho⟩ := h
  have hn := hg.len.1
  have hn2 := hl.len.1
  obtain ⟨b, o, g, rfl, _, had, HX, h0, h1, h2⟩ := hg.get hi
  rw [HX.out]
  clear hg hl ho HX
  go_enter Try.func33, Try.ntmps33
  go_wp2_with (go_at_call 28; refine (below_new _ _ _ _ (by simp)).mono ?_; rintro e w' ⟨rfl, rfl⟩)
  all_goals
    go_ret
    refine ⟨ret_bool ?_, by go_grown⟩
    simp only [beq_iff_eq, beq_eq_false_iff_ne, ne_eq] at *
    unfold gateB
    rw [Bool.eq_iff_iff]
    (repeat' split) <;> simp only [Bool.and_eq_true, decide_eq_true_eq, Bool.false_eq_true, false_iff, beq_iff_eq] <;> omega
end Go.Proofs.Ytfabdpnjjondaaa
