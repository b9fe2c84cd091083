/-
  Walk of the law CircuitMatchesReference.
-/
import Derived.Test.YtfabdpnjjondaaaL2
import Derived.Deep.RegionHeld3
set_option linter.unusedVariables false
set_option linter.unusedSimpArgs false
namespace Go.Proofs.Ytfabdpnjjondaaa
open Go.RowKit
attribute [local go_sem] cell_alloc_old

/-- Old memory is as it was; block b holds the circuit that came in. -/
def At4 (w : World) (b : Nat) (x0 x1 x2 x3 : Value) (w' : World) : Prop :=
  Below w.heap.size w w' ∧ w'.cell? ⟨b, 0, none⟩ = some x0 ∧ w'.cell? ⟨b, 1, none⟩ = some x1 ∧ w'.cell? ⟨b, 2, none⟩ = some x2 ∧ w'.cell? ⟨b, 3, none⟩ = some x3
theorem At4.below {w w' w'' : World} {b : Nat} {x0 x1 x2 x3 : Value} (h : At4 w b x0 x1 x2 x3 w') (hb : Below w'.heap.size w' w'') : At4 w b x0 x1 x2 x3 w'' := by
  obtain ⟨h1, h2, h3, h4, h5⟩ := h
  have key : ∀ j u, w'.cell? ⟨b, j, none⟩ = some u → w''.cell? ⟨b, j, none⟩ = some u := fun j u h => (hb.cell (p := ⟨b, j, none⟩) (World.block_lt_of_cell? w' _ h)).trans h
  exact ⟨h1.trans (hb.mono h1.size), key _ _ h2, key _ _ h3, key _ _ h4, key _ _ h5⟩

theorem cells4_below {w' w'' : World} {b : Nat} {x0 x1 x2 x3 : Value} (h : w'.cell? ⟨b, 0, none⟩ = some x0 ∧ w'.cell? ⟨b, 1, none⟩ = some x1 ∧ w'.cell? ⟨b, 2, none⟩ = some x2 ∧ w'.cell? ⟨b, 3, none⟩ = some x3) (hb : Below w'.heap.size w' w'') :
    w''.cell? ⟨b, 0, none⟩ = some x0 ∧ w''.cell? ⟨b, 1, none⟩ = some x1 ∧ w''.cell? ⟨b, 2, none⟩ = some x2 ∧ w''.cell? ⟨b, 3, none⟩ = some x3 := by
  obtain ⟨h2, h3, h4, h5⟩ := h
  have key : ∀ j u, w'.cell? ⟨b, j, none⟩ = some u → w''.cell? ⟨b, j, none⟩ = some u := fun j u h => (hb.cell (p := ⟨b, j, none⟩) (World.block_lt_of_cell? w' _ h)).trans h
  exact ⟨key _ _ h2, key _ _ h3, key _ _ h4, key _ _ h5⟩

set_option maxRecDepth 100000 in
set_option maxHeartbeats 4000000 in
theorem law1_any {D E : Dom} (w : World) (v : Value) (c : Cir) (lat inp : Int) (A : Option Addr) (ca : Nat) (ins : List Int) (h : RdC w D v c) (hi : RdI w E A ca ins) :
    Calls Try.prog 3 #[v, .int .i64 lat, .int .i64 inp, .slice A ins.length ca] w fun e w' => e = .returned (.bool true) ∧ Below w.heap.size w w' := by
  have HV := hid h.old
  have HI := hid hi.old
  have hni := hi.len.1
  obtain ⟨Ag, cg, Al, cl, Ao, co, rfl, hg, hl, ho⟩ := h
  clear hg hl ho hi
  go_enter Try.func3, Try.ntmps3
  go_wp2_with fail
  refine (head_any _).mono ?_
  rintro e w1 ⟨rfl, hb1⟩
  have hs : At4 w w.heap.size (.int .i64 c.ib) (.slice Ag c.gates.length cg) (.slice Al c.lat.length cl) (.slice Ao c.outs.length co) w1 := by
    refine At4.below (w' := w.alloc (.cells #[.int .i64 c.ib, .slice Ag c.gates.length cg, .slice Al c.lat.length cl, .slice Ao c.outs.length co] 25)) ⟨by go_grown, ?_, ?_, ?_, ?_⟩ hb1
    all_goals exact cell_new _ _ _ _ _ _ rfl rfl
  have HS := hid hs
  obtain ⟨hb0, x0, x1, x2, x3⟩ := hs
  clear hb1 hb0
  go_wp2_with fail
  refine (few_any _ c w1 (HV.out.keep (Keeps.of_below HS.out.1 (fun _ h => h)))).mono ?_
  rintro e w2 ⟨rfl, hb⟩
  have hs := HS.out.below hb
  have HS := hid hs
  obtain ⟨hb0, x0, x1, x2, x3⟩ := hs
  clear hb hb0
  obtain ⟨f, hf⟩ : ∃ f, fewB c = f := ⟨_, rfl⟩
  rw [hf]
  clear hf
  cases f
  · go_wp2_with fail
    go_ret
    exact ⟨rfl, HS.out.1⟩
  by_cases hl20 : 20 < ins.length
  · have hd : decide (20 < ins.length) = true := decide_eq_true hl20
    have hd2 : decide ((20 : Int) < (ins.length : Int)) = true := decide_eq_true (by omega)
    go_wp2_with fail
    go_ret
    exact ⟨rfl, HS.out.1⟩
  have hd : decide (20 < ins.length) = false := decide_eq_false hl20
  have hd2 : decide ((20 : Int) < (ins.length : Int)) = false := decide_eq_false (by omega)
  go_wp2_with fail
  refine (cstep_any _ c lat inp w2 (HV.out.keep (Keeps.of_below HS.out.1 (fun _ h => h)))).mono ?_
  rintro e w3 ⟨rfl, hb⟩
  have hs := HS.out.below hb
  have HS := hid hs
  obtain ⟨hb0, x0, x1, x2, x3⟩ := hs
  clear hb hb0
  go_wp2_with fail
  refine (rstep_any _ c lat inp w3 (HV.out.keep (Keeps.of_below HS.out.1 (fun _ h => h)))).mono ?_
  rintro e w4 ⟨rfl, hb⟩
  have hs := HS.out.below hb
  have HS := hid hs
  obtain ⟨hb0, x0, x1, x2, x3⟩ := hs
  clear hb hb0
  go_wp2_with fail
  have hmil : ins.length ≤ 1000000 := by omega
  have HVD := hid (HV.out.keep (Keeps.of_below HS.out.1.drew (fun _ h => h))).old
  have HID := hid (HI.out.keep (Keeps.of_below HS.out.1.drew (fun _ h => h))).old
  have hws := HS.out.1.size
  have hws2 : w.heap.size ≤ w4.drew.heap.size := hws
  have HMIL := hid hmil
  clear hmil
  go_region_held3 (fun w' => w'.cell? ⟨w.heap.size, 0, none⟩ = some (.int .i64 c.ib) ∧ w'.cell? ⟨w.heap.size, 1, none⟩ = some (.slice Ag c.gates.length cg) ∧ w'.cell? ⟨w.heap.size, 2, none⟩ = some (.slice Al c.lat.length cl) ∧ w'.cell? ⟨w.heap.size, 3, none⟩ = some (.slice Ao c.outs.length co))
    (first
      | go_keep
      | exact cells4_below (by assumption) (hb9.below _)
      | exact cells4_below (by assumption) (by assumption))
    (first
      | (go_at_call 13
         refine (valid_any _ c _ HVD.out).mono ?_
         rintro e w5 ⟨rfl, hb5⟩)
      | (go_at_call 14
         refine (rvalid_any _ c _ (HVD.out.keep (Keeps.of_below hb5 (fun _ h => h)))).mono ?_
         rintro e w6 ⟨rfl, hb6⟩)
      | (go_at_call 16
         refine (run_any _ c A ca ins _ (HVD.out.keep (Keeps.of_below (hb5.trans (hb6.mono hb5.size)) (fun _ h => h))) (HID.out.keep (Keeps.of_below (hb5.trans (hb6.mono hb5.size)) (fun _ h => h))) HMIL.out).mono ?_
         rintro e w7 ⟨A7, c7, rfl, hb7, hr7⟩)
      | (go_at_call 17
         refine (rrun_any _ c A ca ins _ (HVD.out.keep (Keeps.of_below ((hb5.trans (hb6.mono hb5.size)).trans (hb7.mono (Nat.le_trans hb5.size hb6.size))) (fun _ h => h))) (HID.out.keep (Keeps.of_below ((hb5.trans (hb6.mono hb5.size)).trans (hb7.mono (Nat.le_trans hb5.size hb6.size))) (fun _ h => h))) HMIL.out).mono ?_
         rintro e w8 ⟨A8, c8, rfl, hb8, hr8⟩)
      | (go_at_call 15
         refine (ints_any _ _ _ _ (runZ c ins) (runZ c ins) _ (hr7.old.keep (Keeps.of_below hb8 (fun _ h => h))) hr8).mono ?_
         rintro e w9 ⟨rfl, hb9⟩))
  all_goals
    have hfin : Below w.heap.size w w8 := HS.out.1.drew.trans ((hb5.trans ((hb6.trans ((hb7.trans (hb8.mono hb7.size)).mono hb6.size)).mono hb5.size)).mono hws2)
    have HFIN := hid (hfin.trans (hb9.below w.heap.size))
    clear hfin hb5 hb6 hb7 hb8 hr7 hr8
    go_wp2_with fail
    go_ret
    exact ⟨rfl, HFIN.out⟩
end Go.Proofs.Ytfabdpnjjondaaa
