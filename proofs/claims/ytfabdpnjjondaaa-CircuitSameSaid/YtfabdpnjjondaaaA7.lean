/-
  Walks: Valid of circuits in the reference.
-/
import Derived.Test.YtfabdpnjjondaaaA6
import Derived.Test.YtfabdpnjjondaaaOwn
set_option linter.unusedVariables false
set_option linter.unusedSimpArgs false
namespace Go.Proofs.Ytfabdpnjjondaaa
open Go.RowKit
theorem int_info : (Try.prog.info? 3).map (fun i => (i.zero, i.size, i.bytes)) = some (some (.int .i64 0), 1, 8) := by kernel_rfl

theorem getD_app_l {α : Type} (a b : List α) (d : α) (j : Nat) (h : j < a.length) : (a ++ b).getD j d = a.getD j d := by simp [List.getD, List.getElem?_append, h]
theorem getD_app_r {α : Type} (a b : List α) (d : α) (j : Nat) (h : a.length ≤ j) : (a ++ b).getD j d = b.getD (j - a.length) d := by simp [List.getD, List.getElem?_append, Nat.not_lt.2 h]
theorem belowB_app (n : Int) (a b : List Int) : belowB n (a ++ b) = (belowB n a && belowB n b) := by
  rw [Bool.eq_iff_iff, Bool.and_eq_true]
  unfold belowB
  simp only [allN_true, List.length_append]
  constructor
  · intro h
    refine ⟨fun j hj => ?_, fun j hj => ?_⟩
    · have := h j (by omega); rwa [getD_app_l _ _ _ _ hj] at this
    · have := h (a.length + j) (by omega); rw [getD_app_r _ _ _ _ (by omega)] at this; simpa using this
  · rintro ⟨h1, h2⟩ j hj
    rcases Nat.lt_or_ge j a.length with h | h
    · rw [getD_app_l _ _ _ _ h]; exact h1 j h
    · rw [getD_app_r _ _ _ _ h]; exact h2 _ (by omega)

set_option maxHeartbeats 2000000 in
theorem rvalid_any {D : Dom} (v : Value) (c : Cir) (w : World) (h : RdC w D v c) :
    Calls Try.prog 14 #[v] w fun e w' => e = .returned (.bool (validB c)) ∧ Below w.heap.size w w' := by
  have HV := hid h
  obtain ⟨i0, hi, hz0, hz1, hz2⟩ := info_parts int_info
  have hz2' : i0.bytes = 8 := hz2
  obtain ⟨Ag, cg, Al, cl, Ao, co, rfl, hg, hl, ho⟩ := h
  have hn := hg.len.1
  have hn2 := hl.len.1
  have hn3 := ho.len.1
  have HL := hid hl.old
  have HO := hid ho.old
  clear hg hl ho
  by_cases hs : 0 ≤ c.ib ∧ c.ib ≤ 6 ∧ c.lat.length ≤ 12 ∧ c.outs.length ≤ 6 ∧ c.gates.length ≤ 20000
  · obtain ⟨h1, h2, h3, h4, h5⟩ := hs
    go_enter Try.func14, Try.ntmps14
    go_wp2_with fail
    go_loopw [3] (fun t wr => ∃ k : Nat, k ≤ c.gates.length ∧ t = .int .i64 k ∧ SoFar k (fun i => gateB c.ib c.lat.length i (c.gates.getD i default)) ∧
        Box wr w.heap.size #[.int .i64 c.ib, .slice Ag c.gates.length cg, .slice Al c.lat.length cl, .slice Ao c.outs.length co] ∧ Below w.heap.size w wr) (fun t _ => c.gates.length - (intOf t).toNat)
    case atStart => exact ⟨0, Nat.zero_le _, rfl, SoFar.zero _, Box.new _ _ _ rfl, by go_grown⟩
    case round =>
      obtain ⟨k, hk, rfl, hb, hbox, hbw⟩ := hrel
      have HB := hid hb
      have HBX := hid hbox
      have x0 := hbox 0 _ rfl
      have x1 := hbox 1 _ rfl
      have x2 := hbox 2 _ rfl
      have x3 := hbox 3 _ rfl
      have hwl := World.block_lt_of_cell? wr _ x0
      clear hb hbox
      have HVr := hid (HV.out.keep ((Keeps.refl _ w).belowLe hbw (Nat.le_refl _)))
      have HLr := hid (HL.out.keep ((Keeps.refl _ w).belowLe hbw (Nat.le_refl _)))
      have HOr := hid (HO.out.keep ((Keeps.refl _ w).belowLe hbw (Nat.le_refl _)))
      by_cases hlt : k < c.gates.length
      · by_cases hg : gateB c.ib c.lat.length k (c.gates.getD k default) = true
        · have HGB := hid hg
          clear hg
          go_wp2_with (go_at_call 34; refine (gate_any _ c k _ HVr.out hlt).mono ?_; rintro e w1 ⟨rfl, hb1⟩; rw [HGB.out])
          go_roundw
          case rel => exact ⟨k + 1, by omega, by go_num, HB.out.succ HGB.out, HBX.out.below hb1 (Nat.le_refl _), hbw.trans (hb1.mono hbw.size)⟩
          case measure => simp [intOf]; omega
        · have HGB := hid (Bool.eq_false_iff.2 hg)
          clear hg
          go_wp2_with (go_at_call 34; refine (gate_any _ c k _ HVr.out hlt).mono ?_; rintro e w1 ⟨rfl, hb1⟩; rw [HGB.out])
          go_ret
          exact ⟨ret_bool (by unfold validB; rw [allN_false hlt HGB.out]; simp), hbw.trans (hb1.mono hbw.size)⟩
      · have HAL : Hid (allN c.gates.length (fun i => gateB c.ib c.lat.length i (c.gates.getD i default)) = true) := hid (HB.out.all (by omega))
        have hlt' : c.gates.length ≤ k := by omega
        clear hlt
        go_wp2_with fail
        have hbase : w.heap.size ≤ wr.heap.size := hbw.size
        have hml : maxLen = 9223372036854775807 := rfl
        have HML := hid hml
        clear hml
        go_region_held3 (fun w' => w'.cell? ⟨w.heap.size, 2, none⟩ = some (.slice Al c.lat.length cl) ∧ w'.cell? ⟨w.heap.size, 3, none⟩ = some (.slice Ao c.outs.length co))
          (first
            | go_keep
            | exact ⟨((HBX.out.alloc _).drew.grown hg1 (by simp [Value.ownBlock]; omega)) 2 _ rfl, ((HBX.out.alloc _).drew.grown hg1 (by simp [Value.ownBlock]; omega)) 3 _ rfl⟩
            | exact ⟨(((HBX.out.alloc _).drew.grown hg1 (by simp [Value.ownBlock]; omega)).grown hg2 (by rcases hat1 with e | e <;> rw [e] <;> simp [Value.ownBlock] <;> omega)) 2 _ rfl, (((HBX.out.alloc _).drew.grown hg1 (by simp [Value.ownBlock]; omega)).grown hg2 (by rcases hat1 with e | e <;> rw [e] <;> simp [Value.ownBlock] <;> omega)) 3 _ rfl⟩)
          (first
            | (refine step_append_rd _ (by rfl) _ _ 23 (by rfl) (w.heap.size + 1) 3 i0 _ 1 8 Try.underlying23 hi hz0 hz1 hz2 rfl (by omega) (.slice (some ⟨wr.heap.size, 0, none⟩) 0 0) 0 [] (by rfl) (World.ownsRow_lit wr #[] 0 hwl (Nat.zero_le _) (by simp)) _ Al c.lat.length cl _ (by rfl) (HLr.out.keep ((Keeps.refl _ wr).alloc _).drew) (ints_one _) (by omega) (by rw [HML.out]; omega) (by simp; omega) ?_
               intro A1 c1 w1 hown1 hg1 hat1)
            | (refine step_append_rd _ (by rfl) _ _ 23 (by rfl) (w.heap.size + 1) 3 i0 _ 1 8 Try.underlying23 hi hz0 hz1 hz2 rfl (by omega) (.slice A1 (0 + c.lat.length) c1) (0 + c.lat.length) _ (by rfl) hown1 _ Ao c.outs.length co _ (by rfl) (HOr.out.keep (((Keeps.refl _ wr).alloc _).drew.grown hg1 (by intro k hk; simp [Value.ownBlock] at hk; omega))) (ints_one _) (by omega) (by rw [HML.out]; omega) (by have := hg1.size; simp only [World.size_alloc, World.size_drew] at this; omega) ?_
               intro A2 c2 w2 hown2 hg2 hat2))
        have hbx2 : Box w2 w.heap.size #[.int .i64 c.ib, .slice Ag c.gates.length cg, .slice Al c.lat.length cl, .slice Ao c.outs.length co] :=
          ((HBX.out.alloc _).drew.grown hg1 (by simp [Value.ownBlock]; omega)).grown hg2 (by rcases hat1 with e | e <;> rw [e] <;> simp [Value.ownBlock] <;> omega)
        have hbw1 : Below w.heap.size w w1 := ((hbw.alloc hbase _).drew).grown hg1 (by simp; omega) (by simp [Value.ownBlock]; omega)
        have hbw2 : Below w.heap.size w w2 := hbw1.grown hg2 hbw1.size (by
          intro j hj
          rcases hat1 with e | e <;> rw [e] at hj <;> simp [Value.ownBlock] at hj <;> omega)
        have hall : RdI w2 (fun b => w.heap.size < b) A2 c2 (c.lat ++ c.outs) := by
          have := Rd.own hown2 (D := fun b => w.heap.size < b) (by omega) (fun g hg => by omega)
          unfold RdI
          rw [List.length_append, List.map_append]
          simpa using this
        have HBX2 := hid hbx2
        have HBW2 := hid hbw2
        have HALL := hid hall
        have HLEN : Hid ((c.lat ++ c.outs).length = c.lat.length + c.outs.length) := hid List.length_append
        clear hbx2 hbw1 hbw2 hall hat1 hat2 hown1 hown2 hg1 hg2 x0 x1 x2 x3
        go_wp2_with fail
        go_loopw [5] (fun t w3 => ∃ j : Nat, j ≤ c.lat.length + c.outs.length ∧ t = .int .i64 j ∧ SoFar j (fun i => decide (0 ≤ (c.lat ++ c.outs).getD i 0) && decide ((c.lat ++ c.outs).getD i 0 < c.gates.length)) ∧ Drawn w2 w3)
          (fun t _ => c.lat.length + c.outs.length - (intOf t).toNat)
        case atStart => exact ⟨0, Nat.zero_le _, rfl, SoFar.zero _, Drawn.refl _⟩
        case round =>
          obtain ⟨j, hj, rfl, hb2, hd⟩ := hrel
          have HB2 := hid hb2
          have hbox3 := HBX2.out.below (hd.below w2.heap.size) (Nat.le_refl _)
          have x1 := hbox3 1 _ rfl
          clear hb2 hbox3
          by_cases hlt2 : j < c.lat.length + c.outs.length
          · obtain ⟨b, o, x, rfl, _, _, HX, hc⟩ := (HALL.out.keep hd.keeps).get (k := j) (by rw [HLEN.out]; exact hlt2)
            by_cases hx0 : 0 ≤ x
            · have hd0 : decide (x < 0) = false := decide_eq_false (by omega)
              go_wp2_with fail
              go_quiet (fail)
              by_cases hx1 : x < c.gates.length
              · have hd1 : decide ((c.gates.length : Int) ≤ x) = false := decide_eq_false (by omega)
                go_wp2_with fail
                go_roundw
                case rel => exact ⟨j + 1, by omega, by go_num, HB2.out.succ (by rw [HX.out]; simp; omega), hd.drewN _⟩
                case measure => simp [intOf]; omega
              · have hd1 : decide ((c.gates.length : Int) ≤ x) = true := decide_eq_true (by omega)
                go_wp2_with fail
                go_ret
                refine ⟨ret_bool ?_, HBW2.out.trans ((hd.drewN _).below _)⟩
                unfold validB
                rw [Bool.and_assoc, ← belowB_app]
                unfold belowB
                rw [allN_false (n := (c.lat ++ c.outs).length) (j := j) (by rw [HLEN.out]; exact hlt2) (by rw [HX.out]; simp; omega)]
                simp
            · have hd0 : decide (x < 0) = true := decide_eq_true (by omega)
              go_wp2_with fail
              go_quiet (fail)
              go_wp2_with fail
              go_ret
              refine ⟨ret_bool ?_, HBW2.out.trans ((hd.drewN _).below _)⟩
              unfold validB
              rw [Bool.and_assoc, ← belowB_app]
              unfold belowB
              rw [allN_false (n := (c.lat ++ c.outs).length) (j := j) (by rw [HLEN.out]; exact hlt2) (by rw [HX.out]; simp; omega)]
              simp
          · go_wp2_with fail
            go_ret
            refine ⟨ret_bool ?_, HBW2.out.trans (hd.below _)⟩
            unfold validB
            rw [Bool.and_assoc, ← belowB_app]
            unfold belowB
            rw [HB2.out.all (by rw [HLEN.out]; omega), HAL.out]
            simp
            omega
  · go_enter Try.func14, Try.ntmps14
    go_wp2
    all_goals
      go_ret
      exact ⟨ret_bool (by
        symm; unfold validB; simp only [Bool.and_eq_false_iff, decide_eq_false_iff_not]; omega), by go_grown⟩
end Go.Proofs.Ytfabdpnjjondaaa
