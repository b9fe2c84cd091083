/-
  Walk of the references' Small (signals) and Few: they answer, and what they ask of lengths.
  What the rows' listed variables hold gives the two tables.
  Arguments opened: formulas; what was read reads again behind a call that leaves old memory alone.
  Arguments opened: signals, requirements, specifications.
-/
import Derived.Test.YtdakdpfofgkjoaaGreatDoorZ41
import Derived.Test.YtdakdpfofgkjoaaGreatDoorZ01
import Derived.Test.YtdakdpfofgkjoaaGreatDoorRows
import Derived.ProofKit
import Derived.LaidMore
import Derived.OpenShut
import Derived.Stop.Joined
import Derived.Test.YtdakdpfofgkjoaaGreatDoorZ06
import Derived.SizedLaws
import Derived.Deep.Slices
import Derived.Deep.SlicePairs
import Derived.Deep.Fields
import Derived.Lib.SmallJoins
import Derived.Test.YtdakdpfofgkjoaaGreatDoorZ00
import Derived.Test.YtdakdpfofgkjoaaGreatDoorZ32
set_option linter.unusedVariables false
set_option linter.unusedSimpArgs false
namespace Go.Proofs.YtdakdpfofgkjoaaGreatDoor
open Go.RowKit Go.Shelf
attribute [local go_sem] cell_alloc_old

def smallSB (l : List Sg) : Bool := decide (l.length ≤ 10) && allN l.length fun i => decide ((l.getD i default).name.size ≤ 40)
def fewQ (r : Rq) : Bool := decide (r.name.size ≤ 40) && decide (r.part.size ≤ 40) && decide (r.f.size ≤ 120)
def fewB (l : List Sg) (rs : List Rq) : Bool := smallSB l && decide (rs.length ≤ 20) && allN rs.length fun i => fewQ (rs.getD i default)
theorem small_len {l : List Sg} (h : smallSB l = true) : l.length ≤ 10 := by
  unfold smallSB at h
  rw [Bool.and_eq_true, decide_eq_true_eq] at h
  exact h.1
theorem few_len {l : List Sg} {rs : List Rq} (h : fewB l rs = true) : l.length ≤ 10 ∧ rs.length ≤ 20 := by
  unfold fewB at h
  simp only [Bool.and_eq_true, decide_eq_true_eq] at h
  exact ⟨small_len h.1.1, h.1.2⟩
set_option maxRecDepth 100000 in
set_option maxHeartbeats 2000000 in
theorem ssmall_any {D : Dom} (l : List Sg) (A : Option Addr) (c n : Nat) (w : World) (hn : n = l.length) (h : RdG w D A c l) :
    Calls Tryz.prog 16 #[.slice A n c] w fun e w' => e = .returned (.bool (smallSB l)) ∧ Below w.heap.size w w' := by
  subst hn
  have hlen := h.len.1
  have HH := hid h
  clear h
  by_cases h10 : 10 < l.length
  · have hi10 : 10 < (l.length : Int) := by omega
    have HR := hid (show smallSB l = false by unfold smallSB; rw [decide_eq_false (by omega)]; rfl)
    go_enter Tryz.func16, Tryz.ntmps16
    go_wp2_with fail
    go_ret
    exact ⟨ret_bool HR.out.symm, Below.refl _ _⟩
  have H10 := hid (show l.length ≤ 10 by omega)
  have hi10 : ¬ 10 < (l.length : Int) := by omega
  clear h10
  go_enter Tryz.func16, Tryz.ntmps16
  go_wp2_with fail
  go_loopw [3] (fun q wr => ∃ i : Nat, i ≤ l.length ∧ q = .int .i64 (i : Int) ∧ SameW w wr ∧ Hid (SoFar i fun i => decide ((l.getD i default).name.size ≤ 40))) (fun q _ => l.length - (intOf q).toNat)
  case atStart => exact ⟨0, Nat.zero_le _, rfl, rfl, SoFar.zero _⟩
  case round =>
    obtain ⟨i, hi, rfl, hw, HS⟩ := hrel
    obtain rfl : w = wr := hw.symm
    by_cases hlt : i < l.length
    · have hii : (i : Int) < l.length := by omega
      obtain ⟨b, o, t, rfl, hlb, HX, x0, x1, x2⟩ := HH.out.get hlt
      have HNAME := hid (show (l.getD i default).name = t.name by rw [HX.out])
      clear HX
      by_cases h40 : 40 < t.name.size
      · have hi40 : 40 < (t.name.size : Int) := by omega
        have HR := hid (show smallSB l = false by unfold smallSB; rw [allN_false hlt (by rw [HNAME.out]; exact decide_eq_false (by omega))]; simp)
        clear h40
        go_wp2_with fail
        go_ret
        exact ⟨ret_bool HR.out.symm, Below.refl _ _⟩
      · have hi40 : ¬ 40 < (t.name.size : Int) := by omega
        have HT := hid (show decide ((l.getD i default).name.size ≤ 40) = true by rw [HNAME.out]; exact decide_eq_true (by omega))
        clear h40
        go_wp2_with fail
        go_roundw
        case rel => exact ⟨i + 1, by omega, by go_num, rfl, HS.out.succ HT.out⟩
        case measure => simp [intOf]; omega
    · have hii : ¬ (i : Int) < l.length := by omega
      have HR := hid (show smallSB l = true by unfold smallSB; rw [decide_eq_true H10.out, HS.out.all (by omega)]; rfl)
      go_wp2_with fail
      go_ret
      exact ⟨ret_bool HR.out.symm, Below.refl _ _⟩
set_option maxRecDepth 100000 in
set_option maxHeartbeats 4000000 in
theorem few_any {D E : Dom} (l : List Sg) (rs : List Rq) (AS : Option Addr) (n cS : Nat) (AR : Option Addr) (m cR : Nat) (w : World) (hn : n = l.length) (hl : RdG w D AS cS l) (hm : m = rs.length) (hr : RdR w E AR cR rs) :
    Calls Tryz.prog 6 #[.agg #[.slice AS n cS, .slice AR m cR]] w fun e w' => e = .returned (.bool (fewB l rs)) ∧ Below w.heap.size w w' := by
  subst hn hm
  have hlen := hl.len.1
  have hlen2 := hr.len.1
  have HL := hid hl.old
  have HR := hid hr.old
  clear hl hr
  go_enter Tryz.func6, Tryz.ntmps6
  go_upto_region 1 with (fail)
  refine wp_gen fun W hW => ?_
  have HB := hid (show Below w.heap.size w W by rw [hW]; go_grown)
  have HS := hid (show SpecAt W w.heap.size AS l.length cS AR rs.length cR by show W.heap[_]? = _; rw [hW]; exact at_new _ _ _ rfl)
  clear hW
  obtain ⟨s0, s1, s2⟩ := HS.out.cells
  have HSM := hid (ssmall_any l AS cS l.length W rfl (HL.out.any HB.out))
  cases hsm : smallSB l
  · have HRR := hid (show fewB l rs = false by unfold fewB; rw [hsm]; rfl)
    rw [hsm] at HSM
    clear hsm
    go_wp2_with (go_at_call 16; (with_reducible refine HSM.out.mono ?_); rintro e V ⟨rfl, hbV⟩; have HBV := hid hbV; clear hbV s0 s1 s2)
    go_ret
    exact ⟨ret_bool HRR.out.symm, HB.out.trans (HBV.out.mono HB.out.size)⟩
  have HSB := hid hsm
  rw [hsm] at HSM
  clear hsm
  by_cases h20 : 20 < rs.length
  · have hi20 : 20 < (rs.length : Int) := by omega
    have HRR := hid (show fewB l rs = false by unfold fewB; rw [decide_eq_false (show ¬ rs.length ≤ 20 by omega)]; simp)
    go_wp2_with (go_at_call 16; (with_reducible refine HSM.out.mono ?_); rintro e V ⟨rfl, hbV⟩; have HBV := hid hbV; obtain ⟨t0, t1, t2⟩ := (HS.out.below hbV).cells; clear hbV s0 s1 s2)
    go_ret
    exact ⟨ret_bool HRR.out.symm, HB.out.trans (HBV.out.mono HB.out.size)⟩
  have hi20 : ¬ 20 < (rs.length : Int) := by omega
  have H20 := hid (show rs.length ≤ 20 by omega)
  clear h20
  go_upto_region 3 with (go_at_call 16; (with_reducible refine HSM.out.mono ?_); rintro e V ⟨rfl, hbV⟩; have HBV := hid hbV; obtain ⟨t0, t1, t2⟩ := (HS.out.below hbV).cells; clear hbV s0 s1 s2)
  have HSV := hid (HS.out.below HBV.out)
  have HBW := hid (HB.out.trans (HBV.out.mono HB.out.size))
  clear t0 t1 t2
  go_wp2_with fail
  go_loopw [3] (fun q wr => ∃ i : Nat, i ≤ rs.length ∧ q = .int .i64 (i : Int) ∧ Hid (Below V.heap.size V wr) ∧ Hid (SoFar i fun i => fewQ (rs.getD i default))) (fun q _ => rs.length - (intOf q).toNat)
  case atStart => exact ⟨0, Nat.zero_le _, rfl, Below.refl _ _, SoFar.zero _⟩
  case round =>
    obtain ⟨i, hi, rfl, HBR, HSF⟩ := hrel
    have HSR := hid (HSV.out.below HBR.out)
    obtain ⟨s0, s1, s2⟩ := HSR.out.cells
    have HBB := hid (HBW.out.trans (HBR.out.mono HBW.out.size))
    by_cases hlt : i < rs.length
    · have hii : (i : Int) < rs.length := by omega
      have HLT := hid hlt
      obtain ⟨b, o, A1, c1, r, rfl, HX, hr1⟩ := (HR.out.any HBB.out).get hlt
      have HQ := hid (show fewQ (rs.getD i default) = fewQ r by rw [HX.out])
      clear HX
      have HFS := hid (show Calls Tryz.prog 7 #[.agg #[.int .i64 r.f.op, .string r.f.name, .int .i64 r.f.val, .int .i64 r.f.bound, .slice A1 r.f.args.length c1], .int .i64 120] wr (fun e w' => e = .returned (.bool (decide (r.f.size ≤ 120))) ∧ Below wr.heap.size wr w') from rsmall_any r.f _ 120 wr ⟨A1, c1, rfl, hr1.form.args⟩ (by omega))
      obtain ⟨_, hlb, n0, n1, _, n3, n4, n5, n6, n7, _⟩ := hr1
      by_cases h1 : 40 < r.name.size
      · have hi1 : 40 < (r.name.size : Int) := by omega
        have HRR := hid (show fewB l rs = false by unfold fewB; rw [allN_false hlt (by show fewQ (rs.getD i default) = false; rw [HQ.out]; unfold fewQ; rw [decide_eq_false (by omega)]; rfl)]; simp)
        clear h1
        go_wp2_with fail
        go_ret
        exact ⟨ret_bool HRR.out.symm, HBB.out⟩
      have hi1 : ¬ 40 < (r.name.size : Int) := by omega
      by_cases h2 : 40 < r.part.size
      · have hi2 : 40 < (r.part.size : Int) := by omega
        have HRR := hid (show fewB l rs = false by unfold fewB; rw [allN_false hlt (by show fewQ (rs.getD i default) = false; rw [HQ.out]; unfold fewQ; rw [decide_eq_false (show ¬ r.part.size ≤ 40 by omega)]; simp)]; simp)
        clear h1 h2
        go_wp2_with fail
        go_ret
        exact ⟨ret_bool HRR.out.symm, HBB.out⟩
      have hi2 : ¬ 40 < (r.part.size : Int) := by omega
      cases h3 : decide (r.f.size ≤ 120)
      · have HRR := hid (show fewB l rs = false by unfold fewB; rw [allN_false hlt (by show fewQ (rs.getD i default) = false; rw [HQ.out]; unfold fewQ; rw [h3]; simp)]; simp)
        rw [h3] at HFS
        clear h1 h2 h3
        go_wp2_with (go_at_call 7; (with_reducible refine HFS.out.mono ?_); rintro e V2 ⟨rfl, hb2⟩; have HB2 := hid hb2; clear hb2)
        go_ret
        exact ⟨ret_bool HRR.out.symm, HBB.out.trans (HB2.out.mono HBB.out.size)⟩
      · have HT := hid (show fewQ (rs.getD i default) = true by rw [HQ.out]; unfold fewQ; rw [h3, decide_eq_true (by omega), decide_eq_true (by omega)]; rfl)
        rw [h3] at HFS
        clear h1 h2 h3
        go_wp2_with (go_at_call 7; (with_reducible refine HFS.out.mono ?_); rintro e V2 ⟨rfl, hb2⟩; have HB2 := hid hb2; clear hb2)
        go_roundw
        case rel => exact ⟨i + 1, by have := HLT.out; omega, by go_num, HBR.out.trans (HB2.out.mono HBR.out.size), HSF.out.succ HT.out⟩
        case measure => have := HLT.out; simp [intOf]; omega
    · have hii : ¬ (i : Int) < rs.length := by omega
      have HRR := hid (show fewB l rs = true by unfold fewB; rw [HSB.out, decide_eq_true H20.out, HSF.out.all (by omega)]; rfl)
      go_wp2_with fail
      go_ret
      exact ⟨ret_bool HRR.out.symm, HBB.out⟩
end Go.Proofs.YtdakdpfofgkjoaaGreatDoor
set_option linter.unusedVariables false
set_option linter.unusedSimpArgs false
namespace Go.Proofs.YtdakdpfofgkjoaaGreatDoor
open Go.ChangeShapes Go.WideShapes Go.ChangeAt Go.WideMaps Go.WideElems Go.RowKit

def formD {H : Type} (s : Form) : DataW H := .agg [.lit (.int .i64 s.least), .lit (.int .i64 s.most), .lit (.int .i64 s.val), .lit (.int .i64 s.bound), .lit (.bool s.named), .lit (.bool s.past), .lit (.bool s.future), .lit (.bool s.loose)]
theorem forms_data {H : Type} : (Rows.laid_foresight_formula_forms : DataW H) = .agg (formsL.map formD) := rfl
theorem keys_data {H : Type} : (Rows.laid_foresight_signal_keys : DataW H) = .agg (keysL.map fun s => .lit (.string s.data.toList)) := rfl
theorem gKeys : Tryz.prog.globalNamed "foresight/signal.keys" = some 1 := by kernel_rfl
theorem gForms : Tryz.prog.globalNamed "foresight/formula.forms" = some 0 := by kernel_rfl
theorem take_one {l : List Value} {j : Nat} {v : Value} (h : (l.drop j).take 1 = [v]) : l[j]? = some v := by
  have h1 := congrArg (fun x : List Value => x[0]?) h
  simpa [List.getElem?_take] using h1
section
variable {H : Type} {enc : TypeId × Value → H} {w : World} {base : Nat} {sp : Nat → Bool} {held : Bool}
theorem form_cells {fuel : Nat} {cs : List Value} {s : Form} {ps : List MemPlace} (h : DataW.trod enc Tryz.prog w base sp held fuel 84 cs = some (formD s, ps)) :
    cs[0]? = some (.int .i64 s.least) ∧ cs[1]? = some (.int .i64 s.most) ∧ cs[2]? = some (.int .i64 s.val) ∧ cs[3]? = some (.int .i64 s.bound) ∧ cs[4]? = some (.bool s.named) ∧ cs[5]? = some (.bool s.past) ∧ cs[6]? = some (.bool s.future) ∧ cs[7]? = some (.bool s.loose) := by
  obtain ⟨xs, n, rfl, hx, hl, hn, hel⟩ := DataW.trod_struct Tryz.underlying84 h
  simp only [Prod.mk.injEq, formD, DataW.agg.injEq] at hx
  have c3 : Tryz.prog.cellsOf 3 = 1 := by kernel_rfl
  have c4 : Tryz.prog.cellsOf 4 = 1 := by kernel_rfl
  have e0 : DataW.trod enc Tryz.prog w base sp held n 3 ((cs.drop 0).take (Tryz.prog.cellsOf 3)) = xs[0]? := hel 0 _ rfl
  have e1 : DataW.trod enc Tryz.prog w base sp held n 3 ((cs.drop 1).take (Tryz.prog.cellsOf 3)) = xs[1]? := hel 1 _ rfl
  have e2 : DataW.trod enc Tryz.prog w base sp held n 3 ((cs.drop 2).take (Tryz.prog.cellsOf 3)) = xs[2]? := hel 2 _ rfl
  have e3 : DataW.trod enc Tryz.prog w base sp held n 3 ((cs.drop 3).take (Tryz.prog.cellsOf 3)) = xs[3]? := hel 3 _ rfl
  have e4 : DataW.trod enc Tryz.prog w base sp held n 4 ((cs.drop 4).take (Tryz.prog.cellsOf 4)) = xs[4]? := hel 4 _ rfl
  have e5 : DataW.trod enc Tryz.prog w base sp held n 4 ((cs.drop 5).take (Tryz.prog.cellsOf 4)) = xs[5]? := hel 5 _ rfl
  have e6 : DataW.trod enc Tryz.prog w base sp held n 4 ((cs.drop 6).take (Tryz.prog.cellsOf 4)) = xs[6]? := hel 6 _ rfl
  have e7 : DataW.trod enc Tryz.prog w base sp held n 4 ((cs.drop 7).take (Tryz.prog.cellsOf 4)) = xs[7]? := hel 7 _ rfl
  match xs, hn, hx, e0, e1, e2, e3, e4, e5, e6, e7 with
  | [x0, x1, x2, x3, x4, x5, x6, x7], _, hx, e0, e1, e2, e3, e4, e5, e6, e7 =>
    simp only [List.map_cons, List.map_nil, List.cons.injEq, and_true] at hx
    obtain ⟨⟨h0, h1, h2, h3, h4, h5, h6, h7⟩, _⟩ := hx
    rw [c3] at e0 e1 e2 e3
    rw [c4] at e4 e5 e6 e7
    obtain ⟨k0, a0, b0, _⟩ := DataW.trod_int Tryz.underlying3 e0
    obtain ⟨k1, a1, b1, _⟩ := DataW.trod_int Tryz.underlying3 e1
    obtain ⟨k2, a2, b2, _⟩ := DataW.trod_int Tryz.underlying3 e2
    obtain ⟨k3, a3, b3, _⟩ := DataW.trod_int Tryz.underlying3 e3
    obtain ⟨k4, a4, b4⟩ := DataW.trod_bool Tryz.underlying4 e4
    obtain ⟨k5, a5, b5⟩ := DataW.trod_bool Tryz.underlying4 e5
    obtain ⟨k6, a6, b6⟩ := DataW.trod_bool Tryz.underlying4 e6
    obtain ⟨k7, a7, b7⟩ := DataW.trod_bool Tryz.underlying4 e7
    rw [b0] at h0
    rw [b1] at h1
    rw [b2] at h2
    rw [b3] at h3
    rw [b4] at h4
    rw [b5] at h5
    rw [b6] at h6
    rw [b7] at h7
    simp only [DataW.lit.injEq, Lit.int.injEq, Lit.bool.injEq, true_and] at h0 h1 h2 h3 h4 h5 h6 h7
    subst h0 h1 h2 h3 h4 h5 h6 h7
    exact ⟨take_one a0, take_one a1, take_one a2, take_one a3, take_one a4, take_one a5, take_one a6, take_one a7⟩
end
theorem of_laid {W : World} (h : laidMetH Tryz.prog [("foresight/signal.keys", Rows.laid_foresight_signal_keys), ("foresight/formula.forms", Rows.laid_foresight_formula_forms)] W) : GF W ∧ GK W := by
  rw [MakeChecks.laidMetH_plain _ _ _ (by kernel_rfl)] at h
  obtain ⟨ps, ⟨g0, t0, cs0, f0, p0, q0, hg0, ht0, hv0, hd0, ⟨g1, t1, cs1, f1, p1, q1, hg1, ht1, hv1, hd1, _, _⟩, _⟩, _, _⟩ := h
  obtain rfl := Option.some.inj (gKeys.symm.trans hg0)
  obtain rfl := Option.some.inj (gForms.symm.trans hg1)
  obtain rfl := Option.some.inj ((show (Tryz.prog.globals[1]?).map (·.type) = some 124 by kernel_rfl).symm.trans ht0)
  obtain rfl := Option.some.inj ((show (Tryz.prog.globals[0]?).map (·.type) = some 112 by kernel_rfl).symm.trans ht1)
  rw [keys_data] at hd0
  rw [forms_data] at hd1
  constructor
  · obtain ⟨xs, m, rfl, hx, hlen, hn, hel⟩ := DataW.trod_array Tryz.underlying112 hd1
    have c8 : Tryz.prog.cellsOf 84 = 8 := by kernel_rfl
    simp only [Prod.mk.injEq, DataW.agg.injEq] at hx
    have key : ∀ k, k < 20 → ∀ j u, (((cs1.toList.drop (k * 8)).take 8)[j]? = some u) → W.cell? ⟨0, k * 8 + j, none⟩ = some u := fun k hk j u hu => by
      have hj : j < 8 := by
        rcases Nat.lt_or_ge j 8 with h | h
        · exact h
        · rw [List.getElem?_take_eq_none h] at hu; cases hu
      rw [List.getElem?_take_of_lt hj, List.getElem?_drop] at hu
      have := World.var?_cell hg1 hv1 (k * 8 + j)
      rw [this, ← hu]
      simp
    have el : ∀ k, k < 20 → _ := fun k hk => by
      have e := hel k hk
      rw [c8] at e
      have hk' : k < xs.length := by rw [hn]; exact hk
      rw [List.getElem?_eq_getElem hk'] at e
      have e2 : xs[k].1 = formD (formsL.getD k form0) := by
        have h1 : (xs.map (·.1))[k]? = (formsL.map formD)[k]? := by rw [← hx.1]
        rw [List.getElem?_map, List.getElem?_map, List.getElem?_eq_getElem hk'] at h1
        have hf : k < formsL.length := hk
        rw [List.getElem?_eq_getElem hf] at h1
        simp only [Option.map_some, Option.some.injEq] at h1
        rw [h1]
        simp [List.getD, List.getElem?_eq_getElem hf]
      have e3 : xs[k] = (formD (formsL.getD k form0), xs[k].2) := Prod.ext e2 rfl
      rw [e3] at e
      exact form_cells e
    refine ⟨?_, fun k hk => ?_⟩
    · have := key 0 (by omega) 0 _ (el 0 (by omega)).1
      exact World.block_lt_of_cell? W ⟨0, _, none⟩ this
    · obtain ⟨a0, a1, a2, a3, a4, a5, a6, a7⟩ := el k hk
      exact ⟨key k hk 0 _ a0, key k hk 1 _ a1, key k hk 2 _ a2, key k hk 3 _ a3, key k hk 4 _ a4, key k hk 5 _ a5, key k hk 6 _ a6, key k hk 7 _ a7⟩
  · obtain ⟨xs, m, rfl, hx, hlen, hn, hel⟩ := DataW.trod_array Tryz.underlying124 hd0
    have c1 : Tryz.prog.cellsOf 9 = 1 := by kernel_rfl
    simp only [Prod.mk.injEq, DataW.agg.injEq] at hx
    have el : ∀ k, k < 10 → W.cell? ⟨1, k, none⟩ = some (.string (keysL.getD k ByteArray.empty)) := fun k hk => by
      have e := hel k hk
      rw [c1, Nat.mul_one] at e
      have hk' : k < xs.length := by rw [hn]; exact hk
      rw [List.getElem?_eq_getElem hk'] at e
      obtain ⟨s, e1, e2, _⟩ := DataW.trod_string Tryz.underlying9 e
      have h1 : (xs.map (·.1))[k]? = (keysL.map fun s => (.lit (.string s.data.toList) : DataW Unit))[k]? := by rw [← hx.1]
      have hf : k < keysL.length := hk
      rw [List.getElem?_map, List.getElem?_map, List.getElem?_eq_getElem hk', List.getElem?_eq_getElem hf, e2] at h1
      simp only [Option.map_some, Option.some.injEq, DataW.lit.injEq, Lit.string.injEq] at h1
      have hs : s = keysL[k] := by
        have := Array.toList_inj.1 h1
        cases s
        cases hq : keysL[k]
        rw [hq] at this
        simp only at this
        rw [this]
      have := World.var?_cell hg0 hv0 k
      rw [this]
      have h2 := take_one e1
      rw [hs] at h2
      have h3 : keysL.getD k ByteArray.empty = keysL[k] := by simp [List.getD, List.getElem?_eq_getElem hf]
      rw [h3, ← h2]
      simp
    exact ⟨World.block_lt_of_cell? W ⟨1, _, none⟩ (el 0 (by omega)), el⟩
end Go.Proofs.YtdakdpfofgkjoaaGreatDoor
set_option linter.unusedVariables false
set_option linter.unusedSimpArgs false
namespace Go.Proofs.YtdakdpfofgkjoaaGreatDoor
open Go.ChangeShapes Go.WideShapes Go.RowKit Go.Deep Go.Joins

/-- The data's slices are within the reach. -/
def Light {H : Type} (P : Program) (t : TypeId) (d : DataW H) : Prop := (d.weights P t).all (· ≤ reachBytes) = true
theorem light_at {H : Type} {P : Program} {ts : List TypeId} {ds : List (DataW H)} (h : (DataW.weightsEach P ts ds).all (· ≤ reachBytes) = true) {j : Nat} {t : TypeId} {d : DataW H} (ht : ts[j]? = some t) (hd : ds[j]? = some d) : Light P t d := by
  unfold Light
  rw [List.all_eq_true] at h ⊢
  exact fun n hn => h n (DataW.weights_mem_each ht hd n hn)
theorem light_slice {H : Type} {P : Program} {t e : TypeId} {elems spare : List (DataW H)} (hu : P.underlying t = some (.slice e)) (h : Light P t (.slice elems spare)) :
    (elems.length + spare.length) * P.bytesOf e ≤ reachBytes ∧ ∀ d ∈ elems, Light P e d := by
  unfold Light at h
  simp only [DataW.weights, hu, List.all_cons, Bool.and_eq_true, decide_eq_true_eq, List.all_append] at h
  refine ⟨h.1, fun d hd => ?_⟩
  have key : ∀ (l : List (DataW H)), (DataW.weightsAll P e l).all (· ≤ reachBytes) = true → ∀ d ∈ l, Light P e d := by
    intro l
    induction l with
    | nil => intro _ d hd; cases hd
    | cons x l ih =>
      intro hl d hd
      simp only [DataW.weightsAll, List.all_append, Bool.and_eq_true] at hl
      rcases List.mem_cons.1 hd with rfl | hd
      · exact hl.1
      · exact ih hl.2 d hd
  exact key elems h.2.1 d hd

section
variable {H : Type} {enc : TypeId × Value → H} {w : World} {base : Nat} {held : Bool}
theorem plain_addr {a : Addr} {u : Value} (h : w.cell? (a.add 0) = some u) : a = ⟨a.block, a.off, none⟩ ∧ a.block < w.heap.size := by
  have h0 : a.add 0 = a := by unfold Addr.add; simp
  rw [h0] at h
  refine ⟨?_, World.block_lt_of_cell? w a h⟩
  obtain ⟨b, o, s⟩ := a
  cases s with
  | none => rfl
  | some s =>
    unfold World.cell? at h
    split at h <;> simp at h
theorem add_at (b o k : Nat) : (⟨b, o, none⟩ : Addr).add k = ⟨b, o + k, none⟩ := by
  unfold Addr.add
  by_cases h : k = 0 <;> simp [h]

theorem getD_snoc_o {α : Type} (l : List α) (x d : α) (j : Nat) : (l ++ [x]).getD j d = if j < l.length then l.getD j d else if j = l.length then x else d := by
  simp only [List.getD, List.getElem?_append]
  split
  · rfl
  · split
    · rename_i h h2; subst h2; simp
    · rename_i h h2
      rw [List.getElem?_eq_none (by simp; omega)]; rfl
theorem exists_list {α : Type} (d : α) {n : Nat} {P : Nat → α → Prop} (h : ∀ i, i < n → ∃ x, P i x) : ∃ l : List α, l.length = n ∧ ∀ i, i < n → P i (l.getD i d) := by
  induction n with
  | zero => exact ⟨[], rfl, fun i hi => absurd hi (Nat.not_lt_zero _)⟩
  | succ n ih =>
    obtain ⟨l, hl, hp⟩ := ih (fun i hi => h i (by omega))
    obtain ⟨x, hx⟩ := h n (by omega)
    refine ⟨l ++ [x], by simp [hl], fun i hi => ?_⟩
    rw [getD_snoc_o, hl]
    split
    · exact hp i ‹_›
    · rw [if_pos (by omega)]
      obtain rfl : i = n := by omega
      exact hx
theorem light_agg {P : Program} {t : TypeId} {fs : Array Field} {parts : List (DataW H)} (hu : P.underlying t = some (.struct fs)) (h : Light P t (.agg parts)) {j : Nat} {f : Field} {d : DataW H} (hf : fs[j]? = some f) (hd : parts[j]? = some d) : Light P f.type d := by
  unfold Light at h
  simp only [DataW.weights, hu] at h
  exact light_at h (j := j) (by simp [hf]) hd
theorem flat_size {α : Type} (f : α → List Value) (s : Nat) (hf : ∀ x, (f x).length = s) (l : List α) : (l.flatMap f).length = l.length * s := by
  induction l with
  | nil => simp
  | cons x l ih => rw [List.flatMap_cons, List.length_append, hf, ih, List.length_cons, Nat.add_mul, Nat.one_mul]; omega
theorem zip_parts {α β : Type} : ∀ l : List (α × β), (l.map Prod.fst).zip (l.map Prod.snd) = l
  | [] => rfl
  | x :: l => by simp [zip_parts l]
theorem cells_F : Tryz.prog.cellsOf 28 = 5 := by kernel_rfl
theorem bytes_F : Tryz.prog.bytesOf 28 = 64 := by kernel_rfl
theorem cells_i : Tryz.prog.cellsOf 3 = 1 := by kernel_rfl
theorem cells_s : Tryz.prog.cellsOf 9 = 1 := by kernel_rfl
theorem cells_fs : Tryz.prog.cellsOf 26 = 1 := by kernel_rfl
set_option maxRecDepth 100000 in
/-- The fields of a formula that came in. -/
theorem open_fields {n : Nat} {cs : List Value} {y : DataW H × List MemPlace} (h : DataW.trod enc Tryz.prog w base (fun _ => true) held n 28 cs = some y) (hcl : cs.length = 5) :
    ∃ (o : Int) (s : ByteArray) (v b : Int) (a : Value) (k : Nat) (y4 : DataW H × List MemPlace) (d0 d1 d2 d3 : DataW H), cs = [.int .i64 o, .string s, .int .i64 v, .int .i64 b, a] ∧ y.1 = .agg [d0, d1, d2, d3, y4.1] ∧ DataW.trod enc Tryz.prog w base (fun _ => true) held k 26 [a] = some y4 := by
  obtain ⟨xs, k', _, hxy, _, hyl, hf⟩ := DataW.trod_struct Tryz.underlying28 h
  match xs, hyl, cs, hcl with
  | [y0, y1, y2, y3, y4], _, [v0, v1, v2, v3, v4], _ =>
    have g0 : DataW.trod enc Tryz.prog w base (fun _ => true) held k' 3 [v0] = some y0 := by
      have := hf 0 _ rfl
      change DataW.trod enc Tryz.prog w base (fun _ => true) held k' 3 (([v0, v1, v2, v3, v4].drop 0).take (Tryz.prog.cellsOf 3)) = some y0 at this
      rw [cells_i] at this
      simpa using this
    have g1 : DataW.trod enc Tryz.prog w base (fun _ => true) held k' 9 [v1] = some y1 := by
      have := hf 1 _ rfl
      change DataW.trod enc Tryz.prog w base (fun _ => true) held k' 9 (([v0, v1, v2, v3, v4].drop 1).take (Tryz.prog.cellsOf 9)) = some y1 at this
      rw [cells_s] at this
      simpa using this
    have g2 : DataW.trod enc Tryz.prog w base (fun _ => true) held k' 3 [v2] = some y2 := by
      have := hf 2 _ rfl
      change DataW.trod enc Tryz.prog w base (fun _ => true) held k' 3 (([v0, v1, v2, v3, v4].drop 2).take (Tryz.prog.cellsOf 3)) = some y2 at this
      rw [cells_i] at this
      simpa using this
    have g3 : DataW.trod enc Tryz.prog w base (fun _ => true) held k' 3 [v3] = some y3 := by
      have := hf 3 _ rfl
      change DataW.trod enc Tryz.prog w base (fun _ => true) held k' 3 (([v0, v1, v2, v3, v4].drop 3).take (Tryz.prog.cellsOf 3)) = some y3 at this
      rw [cells_i] at this
      simpa using this
    have g4 : DataW.trod enc Tryz.prog w base (fun _ => true) held k' 26 [v4] = some y4 := by
      have := hf 4 _ rfl
      change DataW.trod enc Tryz.prog w base (fun _ => true) held k' 26 (([v0, v1, v2, v3, v4].drop 4).take (Tryz.prog.cellsOf 26)) = some y4 at this
      rw [cells_fs] at this
      simpa using this
    obtain ⟨z0, hz0, _⟩ := DataW.trod_int Tryz.underlying3 g0
    obtain ⟨z1, hz1, _⟩ := DataW.trod_string Tryz.underlying9 g1
    obtain ⟨z2, hz2, _⟩ := DataW.trod_int Tryz.underlying3 g2
    obtain ⟨z3, hz3, _⟩ := DataW.trod_int Tryz.underlying3 g3
    have e0 : v0 = .int .i64 z0 := by simpa using hz0
    have e1 : v1 = .string z1 := by simpa using hz1
    have e2 : v2 = .int .i64 z2 := by simpa using hz2
    have e3 : v3 = .int .i64 z3 := by simpa using hz3
    refine ⟨z0, z1, z2, z3, v4, k', y4, y0.1, y1.1, y2.1, y3.1, by rw [e0, e1, e2, e3], ?_, g4⟩
    rw [hxy]
    rfl
set_option maxRecDepth 100000 in
/-- A slice of formulas that came in. -/
theorem open_FL : ∀ (N : Nat) {n : Nat} {v : Value} {y : DataW H × List MemPlace}, SizeOf.sizeOf y.1 ≤ N → DataW.trod enc Tryz.prog w base (fun _ => true) held n 26 [v] = some y → Light Tryz.prog 26 y.1 →
    ∃ (A : Option Addr) (c : Nat) (l : List Fm), v = .slice A l.length c ∧ RdA w (· < w.heap.size) l A c := by
  intro N
  induction N with
  | zero =>
    intro n v y hN h hl
    exfalso
    have : 0 < SizeOf.sizeOf y.1 := by cases y.1 <;> simp <;> omega
    omega
  | succ N ih =>
    intro n v y hN h hl
    rcases open_slice Tryz.underlying26 h with ⟨hv, rfl⟩ | ⟨a, len, cap, m, k, D, Pl, hv, hb, hlc, hcm, hmm, rfl, hx⟩
    · obtain rfl : v = .slice none 0 0 := by simpa using hv
      exact ⟨none, 0, [], rfl, RdA.nil _ _ _ (by omega)⟩
    · obtain rfl : v = .slice (some a) len cap := by simpa using hv
      simp only [if_true] at hmm
      obtain rfl : cap = m := hmm.symm
      obtain ⟨h8, hin⟩ := light_slice Tryz.underlying26 hl
      rw [bytes_F] at h8
      simp only [List.length_map, List.length_range, reachBytes] at h8
      rw [cells_F] at hx
      have each : ∀ i, i < len → ∃ q : Fm × (Option Addr × Nat), w.cell? (a.add (i * 5)) = some (.int .i64 q.1.op) ∧ w.cell? (a.add (i * 5 + 1)) = some (.string q.1.name) ∧ w.cell? (a.add (i * 5 + 2)) = some (.int .i64 q.1.val) ∧ w.cell? (a.add (i * 5 + 3)) = some (.int .i64 q.1.bound) ∧ w.cell? (a.add (i * 5 + 4)) = some (.slice q.2.1 q.1.args.length q.2.2) ∧ RdA w (· < w.heap.size) q.1.args q.2.1 q.2.2 := by
        intro i hi
        obtain ⟨cs', hc, ht'⟩ := hx i (by omega)
        obtain ⟨_, hcl, hat⟩ := World.cells?_some hc
        obtain ⟨o, s, vv, bb, av, k2, y4, d0, d1, d2, d3, rfl, hy, g4⟩ := open_fields ht' hcl
        have hDm : D i ∈ (List.range len).map D := List.mem_map.2 ⟨i, by simp [hi], rfl⟩
        have hli := hin (D i) hDm
        have hy : D i = .agg [d0, d1, d2, d3, y4.1] := hy
        have hs1 : SizeOf.sizeOf (D i) < SizeOf.sizeOf ((List.range len).map D) := List.sizeOf_lt_of_mem hDm
        have hs2 : SizeOf.sizeOf y4.1 ≤ N := by
          rw [hy] at hs1
          simp at hN hs1
          omega
        rw [hy] at hli
        obtain ⟨A2, c2, l2, e4, r2⟩ := ih hs2 g4 (light_agg Tryz.underlying28 hli (j := 4) rfl rfl)
        have c0 := hat 0 (by omega)
        have c1 := hat 1 (by omega)
        have c2' := hat 2 (by omega)
        have c3 := hat 3 (by omega)
        have c4 := hat 4 (by omega)
        rw [Go.Deep.add_add] at c0 c1 c2' c3 c4
        exact ⟨(.mk o s vv bb l2, (A2, c2)), by simpa [Fm.op] using c0, by simpa [Fm.name] using c1, by simpa [Fm.val] using c2', by simpa [Fm.bound] using c3, by simpa [e4, Fm.args] using c4, r2⟩
      obtain ⟨qs, hgl, hg⟩ := exists_list (default, (none, 0)) each
      have hz : (qs.map Prod.fst).zip (qs.map Prod.snd) = qs := zip_parts qs
      have hlen : (qs.map Prod.snd).length = (qs.map Prod.fst).length := by simp
      refine ⟨some a, cap, qs.map Prod.fst, by rw [List.length_map, hgl], .mk _ _ _ (qs.map Prod.snd) hlen ?_ fun i hi => ?_⟩
      · rw [List.length_map]
        have hfl : (cellsF (qs.map Prod.fst) (qs.map Prod.snd)).length = qs.length * 5 := by
          unfold cellsF
          rw [hz]
          exact flat_size _ 5 (fun _ => rfl) qs
        refine ⟨⟨hfl, by omega, by omega, hcm⟩, fun hn => ?_⟩
        rw [hgl] at hn
        obtain ⟨ha, hlt⟩ := plain_addr (by simpa using (hg 0 hn).1)
        refine ⟨a.block, a.off, by rw [← ha], hlt, hlt, fun j u hu => ?_⟩
        have hjl : j < qs.length * 5 := by
          rcases Nat.lt_or_ge j (qs.length * 5) with h | h
          · exact h
          · rw [List.getElem?_eq_none (by rw [hfl]; exact h)] at hu; cases hu
        obtain ⟨q, r, rfl, hr⟩ : ∃ q r, j = q * 5 + r ∧ r < 5 := ⟨j / 5, j % 5, by omega, by omega⟩
        have hq : q < qs.length := by omega
        rw [cellsF_at hlen (by simpa using hq) hr] at hu
        have e1 : (qs.map Prod.fst).getD q default = (qs.getD q (default, (none, 0))).1 := by simp [List.getD, hq]
        have e2 : (qs.map Prod.snd).getD q (none, 0) = (qs.getD q (default, (none, 0))).2 := by simp [List.getD, hq]
        rw [e1, e2] at hu
        obtain ⟨c0, c1, c2, c3, c4, _⟩ := hg q (by omega)
        rw [ha, add_at] at c0 c1 c2 c3 c4
        match r, hr with
        | 0, _ => simp only [fcells] at hu; have hu := Option.some.inj hu; rw [← hu]; exact c0
        | 1, _ => simp only [fcells] at hu; have hu := Option.some.inj hu; rw [← hu]; exact c1
        | 2, _ => simp only [fcells] at hu; have hu := Option.some.inj hu; rw [← hu]; exact c2
        | 3, _ => simp only [fcells] at hu; have hu := Option.some.inj hu; rw [← hu]; exact c3
        | 4, _ => simp only [fcells] at hu; have hu := Option.some.inj hu; rw [← hu]; exact c4
      · rw [List.length_map] at hi
        have := (hg i (by omega)).2.2.2.2.2
        simpa [List.getD, hi] using this
set_option maxRecDepth 100000 in
/-- A formula that came in. -/
theorem open_F {v : Value} {d : DataW H} {p : List MemPlace} {r : Reach} {b0 : Nat} (hv : Value.okWide Tryz.prog w r b0 28 v) (h : DataW.Trod enc Tryz.prog w base (fun _ => true) held 28 v d p) (hl : Light Tryz.prog 28 d) :
    ∃ f : Fm, RdF3 w (· < w.heap.size) v f := by
  obtain ⟨cs, rfl, hsz⟩ := okWide_struct Tryz.underlying28 hv
  obtain ⟨l⟩ := cs
  obtain ⟨fuel, hf⟩ := h
  have hl5 : l.length = 5 := hsz.trans cells_F
  obtain ⟨o, s, vv, bb, av, k2, y4, d0, d1, d2, d3, e, hy, g4⟩ := open_fields hf hl5
  have e' : l = [.int .i64 o, .string s, .int .i64 vv, .int .i64 bb, av] := e
  have hy : d = .agg [d0, d1, d2, d3, y4.1] := hy
  rw [hy] at hl
  obtain ⟨A2, c2, l2, e4, r2⟩ := open_FL _ (Nat.le_refl _) g4 (light_agg Tryz.underlying28 hl (j := 4) rfl rfl)
  subst e' e4
  exact ⟨.mk o s vv bb l2, A2, c2, rfl, r2⟩
end
theorem own_none : ownKnob Tryz.prog.godebug = none := by kernel_rfl
theorem laid_out : laidOutB Tryz.prog = true := by kernel_rfl
/-- What was read reads again behind a call that leaves old memory alone. -/
theorem reads_again {H : Type} {enc : TypeId × Value → H} {W W' : World} {sp : Nat → Bool} {t : TypeId} {v : Value} {d : DataW H} {ps : List MemPlace} (hl : laidOutB Tryz.prog = true) (hr : Tryz.prog.readableRec t = true) (hrow : t < Tryz.prog.types.size)
    (h : DataW.Trod enc Tryz.prog W 0 (fun _ => true) true t v d ps) (hb : Below W.heap.size W W') (hlt : ∀ x ∈ ps, x.block < W.heap.size) (hsp : ∀ x ∈ ps, sp x.block = true) : DataW.Trod enc Tryz.prog W' 0 sp true t v d ps :=
  WideElems.Trod_stays hl hr hrow h (fun x hx => hb.same (hlt x hx)) hsp
theorem post_of_below {H : Type} {enc : TypeId × Value → H} {P : Program} {f : Func} {s : ChangeSpec} {apart fresh handsOn again : Bool} {W W' : World} {args : Array Value} {v : Value} {ds gs : List (DataW H)} {before pa pv : List MemPlace}
    (hW : DataW.Whole enc P f.params.toList s.vars apart W args.toList ds gs before)
    (hres : ∀ (b : Nat) (sp : Nat → Bool) (hd : Bool), DataW.TrodAll enc P W' b sp hd f.resultTypes.toList (v.resultList f.resultTypes.size) (s.fn H (ds ++ gs)).results [])
    (hargs : ∀ sp : Nat → Bool, (∀ p ∈ before, sp p.block = true) → DataW.TrodAll enc P W' 0 sp true f.params.toList args.toList (s.fn H (ds ++ gs)).args pa)
    (hvars : ∀ sp : Nat → Bool, (∀ p ∈ before, sp p.block = true) → DataW.TrodVars enc P W' sp s.vars (s.fn H (ds ++ gs)).vars pv)
    (hps : before = pa ++ pv) (hb : Below W.heap.size W W')
    (hok : ∀ (j : Nat) (t : TypeId) (r : Value), f.resultTypes[j]? = some t → (v.resultList f.resultTypes.size)[j]? = some r → Value.okWide P W' .any 0 t r) :
    s.post enc P f apart fresh handsOn again W args v W' := by
  have hlt : ∀ p ∈ before, p.block < W.heap.size := fun p hp => hW.lt p hp
  have hold : ∀ p ∈ before, (fun b => decide (b < W.heap.size)) p.block = true := fun p hp => by simpa using hlt p hp
  refine ⟨ds, gs, before, [], pa, pv, hW, hres _ _ _, hargs _ hold, hvars _ hold, World.keptBut_mono (fun p hp => ⟨hp, ?_⟩) (hb.frame (· ∈ before)), fun _ => ?_⟩
  · rw [hps, List.mem_append] at hp
    exact Or.inr hp
  · obtain ⟨_, _, _, _, _, hz, hn⟩ := hW
    refine ⟨hok, _, _, ([] ++ pa) ++ pv, ⟨[] ++ pa, pv, trodAll_append (hargs _ (fun _ _ => rfl)) (hres _ _ _), hvars _ (fun _ _ => rfl), rfl, ?_, ?_⟩, ?_⟩
    · intro b off hp
      have hin : MemPlace.cell b off ∈ before := by rw [hps]; simpa using hp
      rw [hb.frozen (hlt _ hin)]
      exact hz b off hin
    · intro ha
      have := hn ha
      rw [hps] at this
      simpa using this
    · intro p hp _
      rw [hps]
      simpa using hp
end Go.Proofs.YtdakdpfofgkjoaaGreatDoor
set_option linter.unusedVariables false
set_option linter.unusedSimpArgs false
namespace Go.Proofs.YtdakdpfofgkjoaaGreatDoor
open Go.ChangeShapes Go.WideShapes Go.RowKit Go.Deep Go.Joins

theorem cells_G : Tryz.prog.cellsOf 75 = 3 := by kernel_rfl
theorem bytes_G : Tryz.prog.bytesOf 75 = 32 := by kernel_rfl
theorem cells_Q : Tryz.prog.cellsOf 54 = 8 := by kernel_rfl
theorem bytes_Q : 1 ≤ Tryz.prog.bytesOf 54 := of_decide_eq_true (by kernel_rfl)
theorem cells_b : Tryz.prog.cellsOf 4 = 1 := by kernel_rfl
theorem cells_S : Tryz.prog.cellsOf 25 = 2 := by kernel_rfl
theorem cells_gl : Tryz.prog.cellsOf 22 = 1 := by kernel_rfl
theorem cells_ql : Tryz.prog.cellsOf 23 = 1 := by kernel_rfl
section
variable {H : Type} {enc : TypeId × Value → H} {w : World} {base : Nat} {held : Bool}
set_option maxRecDepth 100000 in
/-- The fields of a signal that came in. -/
theorem open_gfields {n : Nat} {cs : List Value} {y : DataW H × List MemPlace} (h : DataW.trod enc Tryz.prog w base (fun _ => true) held n 75 cs = some y) (hcl : cs.length = 3) :
    ∃ s : Sg, cs = gcells s := by
  obtain ⟨xs, k', _, hxy, _, hyl, hf⟩ := DataW.trod_struct Tryz.underlying75 h
  match xs, hyl, cs, hcl with
  | [y0, y1, y2], _, [v0, v1, v2], _ =>
    have g0 : DataW.trod enc Tryz.prog w base (fun _ => true) held k' 9 [v0] = some y0 := by
      have := hf 0 _ rfl
      change DataW.trod enc Tryz.prog w base (fun _ => true) held k' 9 (([v0, v1, v2].drop 0).take (Tryz.prog.cellsOf 9)) = some y0 at this
      rw [cells_s] at this
      simpa using this
    have g1 : DataW.trod enc Tryz.prog w base (fun _ => true) held k' 4 [v1] = some y1 := by
      have := hf 1 _ rfl
      change DataW.trod enc Tryz.prog w base (fun _ => true) held k' 4 (([v0, v1, v2].drop 1).take (Tryz.prog.cellsOf 4)) = some y1 at this
      rw [cells_b] at this
      simpa using this
    have g2 : DataW.trod enc Tryz.prog w base (fun _ => true) held k' 3 [v2] = some y2 := by
      have := hf 2 _ rfl
      change DataW.trod enc Tryz.prog w base (fun _ => true) held k' 3 (([v0, v1, v2].drop 2).take (Tryz.prog.cellsOf 3)) = some y2 at this
      rw [cells_i] at this
      simpa using this
    obtain ⟨z0, hz0, _⟩ := DataW.trod_string Tryz.underlying9 g0
    obtain ⟨z1, hz1⟩ := DataW.trod_bool Tryz.underlying4 g1
    obtain ⟨z2, hz2, _⟩ := DataW.trod_int Tryz.underlying3 g2
    have e0 : v0 = .string z0 := by simpa using hz0
    have e1 : v1 = .bool z1 := by simpa using hz1.1
    have e2 : v2 = .int .i64 z2 := by simpa using hz2
    exact ⟨⟨z0, z1, z2⟩, by rw [e0, e1, e2]; rfl⟩
set_option maxRecDepth 100000 in
/-- A slice of signals that came in. -/
theorem open_GL {n : Nat} {v : Value} {y : DataW H × List MemPlace} (h : DataW.trod enc Tryz.prog w base (fun _ => true) held n 22 [v] = some y) (hl : Light Tryz.prog 22 y.1) :
    ∃ (A : Option Addr) (c : Nat) (l : List Sg), v = .slice A l.length c ∧ RdG w (· < w.heap.size) A c l := by
  rcases open_slice Tryz.underlying22 h with ⟨hv, rfl⟩ | ⟨a, len, cap, m, k, D, Pl, hv, hb, hlc, hcm, hmm, rfl, hx⟩
  · obtain rfl : v = .slice none 0 0 := by simpa using hv
    exact ⟨none, 0, [], rfl, RdG.nil _ _ _ (by omega)⟩
  · obtain rfl : v = .slice (some a) len cap := by simpa using hv
    simp only [if_true] at hmm
    obtain rfl : cap = m := hmm.symm
    obtain ⟨h8, hin⟩ := light_slice Tryz.underlying22 hl
    rw [bytes_G] at h8
    simp only [List.length_map, List.length_range, reachBytes] at h8
    rw [cells_G] at hx
    have each : ∀ i, i < len → ∃ q : Sg, w.cell? (a.add (i * 3)) = some (.string q.name) ∧ w.cell? (a.add (i * 3 + 1)) = some (.bool q.inp) ∧ w.cell? (a.add (i * 3 + 2)) = some (.int .i64 q.size) := by
      intro i hi
      obtain ⟨cs', hc, ht'⟩ := hx i (by omega)
      obtain ⟨_, hcl, hat⟩ := World.cells?_some hc
      obtain ⟨s, rfl⟩ := open_gfields ht' hcl
      have c0 := hat 0 (by omega)
      have c1 := hat 1 (by omega)
      have c2 := hat 2 (by omega)
      rw [Go.Deep.add_add] at c0 c1 c2
      exact ⟨s, by simpa [gcells] using c0, by simpa [gcells] using c1, by simpa [gcells] using c2⟩
    obtain ⟨gs, hgl, hg⟩ := exists_list default each
    refine ⟨some a, cap, gs, by rw [hgl], ⟨⟨flat_size gcells 3 (fun _ => rfl) gs, by omega, by omega, hcm⟩, fun hn => ?_⟩⟩
    rw [hgl] at hn
    obtain ⟨ha, hlt⟩ := plain_addr (by simpa using (hg 0 hn).1)
    refine ⟨a.block, a.off, by rw [← ha], hlt, hlt, fun j u hu => ?_⟩
    have hjl : j < gs.length * 3 := by
      rcases Nat.lt_or_ge j (gs.length * 3) with h | h
      · exact h
      · rw [List.getElem?_eq_none (by rw [flat_size gcells 3 (fun _ => rfl) gs]; exact h)] at hu; cases hu
    obtain ⟨q, r, rfl, hr⟩ : ∃ q r, j = q * 3 + r ∧ r < 3 := ⟨j / 3, j % 3, by omega, by omega⟩
    rw [flatF_at gcells default 3 (fun _ => rfl) gs q r (by omega) hr] at hu
    obtain ⟨c0, c1, c2⟩ := hg q (by omega)
    rw [ha, add_at] at c0 c1 c2
    match r, hr with
    | 0, _ => simp only [gcells] at hu; have hu := Option.some.inj hu; rw [← hu]; exact c0
    | 1, _ => simp only [gcells] at hu; have hu := Option.some.inj hu; rw [← hu]; exact c1
    | 2, _ => simp only [gcells] at hu; have hu := Option.some.inj hu; rw [← hu]; exact c2
/-- A slice of signals that came in as an argument. -/
theorem open_GT {v : Value} {d : DataW H} {p : List MemPlace} (hc : v.cells = #[v]) (h : DataW.Trod enc Tryz.prog w base (fun _ => true) held 22 v d p) (hl : Light Tryz.prog 22 d) :
    ∃ (A : Option Addr) (c : Nat) (l : List Sg), v = .slice A l.length c ∧ RdG w (· < w.heap.size) A c l := by
  obtain ⟨n, hn⟩ := h
  rw [hc] at hn
  exact open_GL hn hl
set_option maxRecDepth 100000 in
/-- A signal that came in as an argument. -/
theorem open_G1 {v : Value} {d : DataW H} {p : List MemPlace} {r : Reach} {b0 : Nat} (hv : Value.okWide Tryz.prog w r b0 75 v) (h : DataW.Trod enc Tryz.prog w base (fun _ => true) held 75 v d p) :
    ∃ s : Sg, v = .agg #[.string s.name, .bool s.inp, .int .i64 s.size] := by
  obtain ⟨cs, rfl, hsz⟩ := okWide_struct Tryz.underlying75 hv
  obtain ⟨l⟩ := cs
  obtain ⟨fuel, hf⟩ := h
  have hl3 : l.length = 3 := hsz.trans cells_G
  obtain ⟨s, e⟩ := open_gfields hf hl3
  have e' : l = gcells s := e
  exact ⟨s, by rw [e']; rfl⟩
set_option maxRecDepth 100000 in
/-- The fields of a requirement that came in. -/
theorem open_qfields {n : Nat} {cs : List Value} {y : DataW H × List MemPlace} (h : DataW.trod enc Tryz.prog w base (fun _ => true) held n 54 cs = some y) (hcl : cs.length = 8) (hl : Light Tryz.prog 54 y.1) :
    ∃ (r : Rq) (s : Option Addr × Nat), cs = qcells r s ∧ RdA w (· < w.heap.size) r.f.args s.1 s.2 := by
  obtain ⟨xs, k', _, hxy, _, hyl, hf⟩ := DataW.trod_struct Tryz.underlying54 h
  match xs, hyl, cs, hcl with
  | [y0, y1, y2, y3], _, [v0, v1, v2, v3, v4, v5, v6, v7], _ =>
    have g0 : DataW.trod enc Tryz.prog w base (fun _ => true) held k' 9 [v0] = some y0 := by
      have := hf 0 _ rfl
      change DataW.trod enc Tryz.prog w base (fun _ => true) held k' 9 (([v0, v1, v2, v3, v4, v5, v6, v7].drop 0).take (Tryz.prog.cellsOf 9)) = some y0 at this
      rw [cells_s] at this
      simpa using this
    have g1 : DataW.trod enc Tryz.prog w base (fun _ => true) held k' 9 [v1] = some y1 := by
      have := hf 1 _ rfl
      change DataW.trod enc Tryz.prog w base (fun _ => true) held k' 9 (([v0, v1, v2, v3, v4, v5, v6, v7].drop 1).take (Tryz.prog.cellsOf 9)) = some y1 at this
      rw [cells_s] at this
      simpa using this
    have g2 : DataW.trod enc Tryz.prog w base (fun _ => true) held k' 3 [v2] = some y2 := by
      have := hf 2 _ rfl
      change DataW.trod enc Tryz.prog w base (fun _ => true) held k' 3 (([v0, v1, v2, v3, v4, v5, v6, v7].drop 2).take (Tryz.prog.cellsOf 3)) = some y2 at this
      rw [cells_i] at this
      simpa using this
    have g3 : DataW.trod enc Tryz.prog w base (fun _ => true) held k' 28 [v3, v4, v5, v6, v7] = some y3 := by
      have := hf 3 _ rfl
      change DataW.trod enc Tryz.prog w base (fun _ => true) held k' 28 (([v0, v1, v2, v3, v4, v5, v6, v7].drop 3).take (Tryz.prog.cellsOf 28)) = some y3 at this
      rw [cells_F] at this
      simpa using this
    obtain ⟨z0, hz0, _⟩ := DataW.trod_string Tryz.underlying9 g0
    obtain ⟨z1, hz1, _⟩ := DataW.trod_string Tryz.underlying9 g1
    obtain ⟨z2, hz2, _⟩ := DataW.trod_int Tryz.underlying3 g2
    have e0 : v0 = .string z0 := by simpa using hz0
    have e1 : v1 = .string z1 := by simpa using hz1
    have e2 : v2 = .int .i64 z2 := by simpa using hz2
    obtain ⟨o, s, vv, bb, av, k2, y4, d0, d1, d2, d3, e, hy, g4⟩ := open_fields g3 rfl
    have hy1 : y.1 = .agg [y0.1, y1.1, y2.1, y3.1] := by rw [hxy]; rfl
    rw [hy1] at hl
    have hl3 := light_agg Tryz.underlying54 hl (j := 3) rfl rfl
    rw [hy] at hl3
    obtain ⟨A2, c2, l2, e4, r2⟩ := open_FL _ (Nat.le_refl _) g4 (light_agg Tryz.underlying28 hl3 (j := 4) rfl rfl)
    simp only [List.cons.injEq, and_true] at e
    obtain ⟨q3, q4, q5, q6, q7⟩ := e
    exact ⟨⟨z0, z1, z2, .mk o s vv bb l2⟩, (A2, c2), by rw [e0, e1, e2, q3, q4, q5, q6, q7, e4]; rfl, r2⟩
set_option maxRecDepth 100000 in
/-- A slice of requirements that came in. -/
theorem open_QL {n : Nat} {v : Value} {y : DataW H × List MemPlace} (h : DataW.trod enc Tryz.prog w base (fun _ => true) held n 23 [v] = some y) (hl : Light Tryz.prog 23 y.1) :
    ∃ (A : Option Addr) (c : Nat) (l : List Rq), v = .slice A l.length c ∧ RdR w (· < w.heap.size) A c l := by
  rcases open_slice Tryz.underlying23 h with ⟨hv, rfl⟩ | ⟨a, len, cap, m, k, D, Pl, hv, hb, hlc, hcm, hmm, rfl, hx⟩
  · obtain rfl : v = .slice none 0 0 := by simpa using hv
    exact ⟨none, 0, [], rfl, RdR.nil _ _ _ (by omega)⟩
  · obtain rfl : v = .slice (some a) len cap := by simpa using hv
    simp only [if_true] at hmm
    obtain rfl : cap = m := hmm.symm
    obtain ⟨h8, hin⟩ := light_slice Tryz.underlying23 hl
    simp only [List.length_map, List.length_range] at h8
    have hcap : len ≤ 140737488355328 := by
      have h1 := Nat.le_mul_of_pos_right (len + (cap - len)) bytes_Q
      have h2 := Nat.le_trans h1 (by simpa using h8)
      have h3 : reachBytes ≤ 140737488355328 := by decide
      omega
    rw [cells_Q] at hx
    have each : ∀ i, i < len → ∃ q : Rq × (Option Addr × Nat), (∀ j u, j < 8 → (qcells q.1 q.2)[j]? = some u → w.cell? (a.add (i * 8 + j)) = some u) ∧ RdA w (· < w.heap.size) q.1.f.args q.2.1 q.2.2 := by
      intro i hi
      obtain ⟨cs', hc, ht'⟩ := hx i (by omega)
      obtain ⟨_, hcl, hat⟩ := World.cells?_some hc
      have hDm : D i ∈ (List.range len).map D := List.mem_map.2 ⟨i, by simp [hi], rfl⟩
      obtain ⟨r, s, rfl, hr⟩ := open_qfields ht' hcl (hin (D i) hDm)
      refine ⟨(r, s), fun j u hj hu => ?_, hr⟩
      have c0 := hat j (by omega)
      rw [Go.Deep.add_add] at c0
      rw [c0]
      exact hu
    obtain ⟨qs, hgl, hg⟩ := exists_list (default, (none, 0)) each
    have hz : (qs.map Prod.fst).zip (qs.map Prod.snd) = qs := zip_parts qs
    have hlen : (qs.map Prod.snd).length = (qs.map Prod.fst).length := by simp
    refine ⟨some a, cap, qs.map Prod.fst, by rw [List.length_map, hgl], qs.map Prod.snd, hlen, ?_, fun i hi => ?_⟩
    · rw [List.length_map]
      have hfl : (cellsQ (qs.map Prod.fst) (qs.map Prod.snd)).length = qs.length * 8 := by
        unfold cellsQ
        rw [hz]
        exact flat_size _ 8 (fun _ => rfl) qs
      refine ⟨⟨hfl, by omega, by omega, hcm⟩, fun hn => ?_⟩
      rw [hgl] at hn
      obtain ⟨ha, hlt⟩ := plain_addr (by simpa using (hg 0 hn).1 0 _ (by omega) rfl)
      refine ⟨a.block, a.off, by rw [← ha], hlt, hlt, fun j u hu => ?_⟩
      have hjl : j < qs.length * 8 := by
        rcases Nat.lt_or_ge j (qs.length * 8) with h | h
        · exact h
        · rw [List.getElem?_eq_none (by rw [hfl]; exact h)] at hu; cases hu
      obtain ⟨q, r, rfl, hr⟩ : ∃ q r, j = q * 8 + r ∧ r < 8 := ⟨j / 8, j % 8, by omega, by omega⟩
      have hq : q < qs.length := by omega
      rw [cellsQ_at hlen (by simpa using hq) hr] at hu
      have e1 : (qs.map Prod.fst).getD q default = (qs.getD q (default, (none, 0))).1 := by simp [List.getD, hq]
      have e2 : (qs.map Prod.snd).getD q (none, 0) = (qs.getD q (default, (none, 0))).2 := by simp [List.getD, hq]
      rw [e1, e2] at hu
      have := (hg q (by omega)).1 r u hr hu
      rw [ha, add_at] at this
      exact this
    · rw [List.length_map] at hi
      have := (hg i (by omega)).2
      simpa [List.getD, hi] using this
set_option maxRecDepth 100000 in
/-- A specification that came in. -/
theorem open_S {v : Value} {d : DataW H} {p : List MemPlace} {r : Reach} {b0 : Nat} (hv : Value.okWide Tryz.prog w r b0 25 v) (h : DataW.Trod enc Tryz.prog w base (fun _ => true) held 25 v d p) (hl : Light Tryz.prog 25 d) :
    ∃ (A : Option Addr) (c : Nat) (l : List Sg) (B : Option Addr) (e : Nat) (rs : List Rq), v = .agg #[.slice A l.length c, .slice B rs.length e] ∧ RdG w (· < w.heap.size) A c l ∧ RdR w (· < w.heap.size) B e rs := by
  obtain ⟨cs, rfl, hsz⟩ := okWide_struct Tryz.underlying25 hv
  obtain ⟨l⟩ := cs
  obtain ⟨fuel, hf⟩ := h
  have hl2 : l.length = 2 := hsz.trans cells_S
  obtain ⟨xs, k', _, hxy, _, hyl, hg⟩ := DataW.trod_struct Tryz.underlying25 hf
  match xs, hyl, l, hl2 with
  | [y0, y1], _, [v0, v1], _ =>
    have g0 : DataW.trod enc Tryz.prog w base (fun _ => true) held k' 22 [v0] = some y0 := by
      have := hg 0 _ rfl
      change DataW.trod enc Tryz.prog w base (fun _ => true) held k' 22 (([v0, v1].drop 0).take (Tryz.prog.cellsOf 22)) = some y0 at this
      rw [cells_gl] at this
      simpa using this
    have g1 : DataW.trod enc Tryz.prog w base (fun _ => true) held k' 23 [v1] = some y1 := by
      have := hg 1 _ rfl
      change DataW.trod enc Tryz.prog w base (fun _ => true) held k' 23 (([v0, v1].drop 1).take (Tryz.prog.cellsOf 23)) = some y1 at this
      rw [cells_ql] at this
      simpa using this
    have hd : d = .agg [y0.1, y1.1] := by
      simp only [Prod.mk.injEq] at hxy
      simpa using hxy.1
    subst hd
    obtain ⟨A, c, l, e0, r0⟩ := open_GL g0 (light_agg Tryz.underlying25 hl (j := 0) rfl rfl)
    obtain ⟨B, e, rs, e1, r1⟩ := open_QL g1 (light_agg Tryz.underlying25 hl (j := 1) rfl rfl)
    subst e0 e1
    exact ⟨A, c, l, B, e, rs, rfl, r0, r1⟩
end
end Go.Proofs.YtdakdpfofgkjoaaGreatDoor
