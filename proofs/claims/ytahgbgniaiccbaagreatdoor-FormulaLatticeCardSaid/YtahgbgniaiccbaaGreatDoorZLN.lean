/-
  What the rows' listed variables hold gives the two tables.
-/
import Derived.Test.YtahgbgniaiccbaaGreatDoorRows
import Derived.ProofKit
import Derived.LaidMore
import Derived.OpenShut
import Derived.Stop.Joined
import Derived.Test.YtahgbgniaiccbaaGreatDoorZ06
set_option linter.unusedVariables false
set_option linter.unusedSimpArgs false
namespace Go.Proofs.YtahgbgniaiccbaaGreatDoor
open Go.ChangeShapes Go.WideShapes Go.ChangeAt Go.WideMaps Go.WideElems Go.RowKit

def formD {H : Type} (s : Form) : DataW H := .agg [.lit (.int .i64 s.least), .lit (.int .i64 s.most), .lit (.int .i64 s.val), .lit (.int .i64 s.bound), .lit (.bool s.named), .lit (.bool s.past), .lit (.bool s.future), .lit (.bool s.loose)]
theorem forms_data {H : Type} : (Rows.laid_foresight_formula_forms : DataW H) = .agg (formsL.map formD) := rfl
theorem keys_data {H : Type} : (Rows.laid_foresight_signal_keys : DataW H) = .agg (keysL.map fun s => .lit (.string s.data.toList)) := rfl
theorem gKeys : Tryz.prog.globalNamed "foresight/signal.keys" = some 1 := by kernel_rfl
theorem gForms : Tryz.prog.globalNamed "foresight/formula.forms" = some 0 := by kernel_rfl
theorem take_one {l : List Value} {j : Nat} {v : Value} (h : (l.drop j).take 1 = [v]) : l[j]? = some v := by
  have h1 := congrArg (fun x : List Value => x[0]?) h
  simpa [List.getElem?_take] using h1
section
variable {H : Type} {enc : TypeId × Value → H} {w : World} {base : Nat} {sp : Nat → Bool} {held : Bool}
theorem form_cells {fuel : Nat} {cs : List Value} {s : Form} {ps : List MemPlace} (h : DataW.trod enc Tryz.prog w base sp held fuel 68 cs = some (formD s, ps)) :
    cs[0]? = some (.int .i64 s.least) ∧ cs[1]? = some (.int .i64 s.most) ∧ cs[2]? = some (.int .i64 s.val) ∧ cs[3]? = some (.int .i64 s.bound) ∧ cs[4]? = some (.bool s.named) ∧ cs[5]? = some (.bool s.past) ∧ cs[6]? = some (.bool s.future) ∧ cs[7]? = some (.bool s.loose) := by
  obtain ⟨xs, n, rfl, hx, hl, hn, hel⟩ := DataW.trod_struct Tryz.underlying68 h
  simp only [Prod.mk.injEq, formD, DataW.agg.injEq] at hx
  have c3 : Tryz.prog.cellsOf 3 = 1 := by kernel_rfl
  have c4 : Tryz.prog.cellsOf 4 = 1 := by kernel_rfl
  have e0 : DataW.trod enc Tryz.prog w base sp held n 3 ((cs.drop 0).take (Tryz.prog.cellsOf 3)) = xs[0]? := hel 0 _ rfl
  have e1 : DataW.trod enc Tryz.prog w base sp held n 3 ((cs.drop 1).take (Tryz.prog.cellsOf 3)) = xs[1]? := hel 1 _ rfl
  have e2 : DataW.trod enc Tryz.prog w base sp held n 3 ((cs.drop 2).take (Tryz.prog.cellsOf 3)) = xs[2]? := hel 2 _ rfl
  have e3 : DataW.trod enc Tryz.prog w base sp held n 3 ((cs.drop 3).take (Tryz.prog.cellsOf 3)) = xs[3]? := hel 3 _ rfl
  have e4 : DataW.trod enc Tryz.prog w base sp held n 4 ((cs.drop 4).take (Tryz.prog.cellsOf 4)) = xs[4]? := hel 4 _ rfl
  have e5 : DataW.trod enc Tryz.prog w base sp held n 4 ((cs.drop 5).take (Tryz.prog.cellsOf 4)) = xs[5]? := hel 5 _ rfl
  have e6 : DataW.trod enc Tryz.prog w base sp held n 4 ((cs.drop 6).take (Tryz.prog.cellsOf 4)) = xs[6]? := hel 6 _ rfl
  have e7 : DataW.trod enc Tryz.prog w base sp held n 4 ((cs.drop 7).take (Tryz.prog.cellsOf 4)) = xs[7]? := hel 7 _ rfl
  match xs, hn, hx, e0, e1, e2, e3, e4, e5, e6, e7 with
  | [x0, x1, x2, x3, x4, x5, x6, x7], _, hx, e0, e1, e2, e3, e4, e5, e6, e7 =>
    simp only [List.map_cons, List.map_nil, List.cons.injEq, and_true] at hx
    obtain ⟨⟨h0, h1, h2, h3, h4, h5, h6, h7⟩, _⟩ := hx
    rw [c3] at e0 e1 e2 e3
    rw [c4] at e4 e5 e6 e7
    obtain ⟨k0, a0, b0, _⟩ := DataW.trod_int Tryz.underlying3 e0
    obtain ⟨k1, a1, b1, _⟩ := DataW.trod_int Tryz.underlying3 e1
    obtain ⟨k2, a2, b2, _⟩ := DataW.trod_int Tryz.underlying3 e2
    obtain ⟨k3, a3, b3, _⟩ := DataW.trod_int Tryz.underlying3 e3
    obtain ⟨k4, a4, b4⟩ := DataW.trod_bool Tryz.underlying4 e4
    obtain ⟨k5, a5, b5⟩ := DataW.trod_bool Tryz.underlying4 e5
    obtain ⟨k6, a6, b6⟩ := DataW.trod_bool Tryz.underlying4 e6
    obtain ⟨k7, a7, b7⟩ := DataW.trod_bool Tryz.underlying4 e7
    rw [b0] at h0
    rw [b1] at h1
    rw [b2] at h2
    rw [b3] at h3
    rw [b4] at h4
    rw [b5] at h5
    rw [b6] at h6
    rw [b7] at h7
    simp only [DataW.lit.injEq, Lit.int.injEq, Lit.bool.injEq, true_and] at h0 h1 h2 h3 h4 h5 h6 h7
    subst h0 h1 h2 h3 h4 h5 h6 h7
    exact ⟨take_one a0, take_one a1, take_one a2, take_one a3, take_one a4, take_one a5, take_one a6, take_one a7⟩
end
theorem of_laid {W : World} (h : laidMetH Tryz.prog [("foresight/signal.keys", Rows.laid_foresight_signal_keys), ("foresight/formula.forms", Rows.laid_foresight_formula_forms)] W) : GF W ∧ GK W := by
  rw [MakeChecks.laidMetH_plain _ _ _ (by kernel_rfl)] at h
  obtain ⟨ps, ⟨g0, t0, cs0, f0, p0, q0, hg0, ht0, hv0, hd0, ⟨g1, t1, cs1, f1, p1, q1, hg1, ht1, hv1, hd1, _, _⟩, _⟩, _, _⟩ := h
  obtain rfl := Option.some.inj (gKeys.symm.trans hg0)
  obtain rfl := Option.some.inj (gForms.symm.trans hg1)
  obtain rfl := Option.some.inj ((show (Tryz.prog.globals[1]?).map (·.type) = some 92 by kernel_rfl).symm.trans ht0)
  obtain rfl := Option.some.inj ((show (Tryz.prog.globals[0]?).map (·.type) = some 88 by kernel_rfl).symm.trans ht1)
  rw [keys_data] at hd0
  rw [forms_data] at hd1
  constructor
  · obtain ⟨xs, m, rfl, hx, hlen, hn, hel⟩ := DataW.trod_array Tryz.underlying88 hd1
    have c8 : Tryz.prog.cellsOf 68 = 8 := by kernel_rfl
    simp only [Prod.mk.injEq, DataW.agg.injEq] at hx
    have key : ∀ k, k < 20 → ∀ j u, (((cs1.toList.drop (k * 8)).take 8)[j]? = some u) → W.cell? ⟨0, k * 8 + j, none⟩ = some u := fun k hk j u hu => by
      have hj : j < 8 := by
        rcases Nat.lt_or_ge j 8 with h | h
        · exact h
        · rw [List.getElem?_take_eq_none h] at hu; cases hu
      rw [List.getElem?_take_of_lt hj, List.getElem?_drop] at hu
      have := World.var?_cell hg1 hv1 (k * 8 + j)
      rw [this, ← hu]
      simp
    have el : ∀ k, k < 20 → _ := fun k hk => by
      have e := hel k hk
      rw [c8] at e
      have hk' : k < xs.length := by rw [hn]; exact hk
      rw [List.getElem?_eq_getElem hk'] at e
      have e2 : xs[k].1 = formD (formsL.getD k form0) := by
        have h1 : (xs.map (·.1))[k]? = (formsL.map formD)[k]? := by rw [← hx.1]
        rw [List.getElem?_map, List.getElem?_map, List.getElem?_eq_getElem hk'] at h1
        have hf : k < formsL.length := hk
        rw [List.getElem?_eq_getElem hf] at h1
        simp only [Option.map_some, Option.some.injEq] at h1
        rw [h1]
        simp [List.getD, List.getElem?_eq_getElem hf]
      have e3 : xs[k] = (formD (formsL.getD k form0), xs[k].2) := Prod.ext e2 rfl
      rw [e3] at e
      exact form_cells e
    refine ⟨?_, fun k hk => ?_⟩
    · have := key 0 (by omega) 0 _ (el 0 (by omega)).1
      exact World.block_lt_of_cell? W ⟨0, _, none⟩ this
    · obtain ⟨a0, a1, a2, a3, a4, a5, a6, a7⟩ := el k hk
      exact ⟨key k hk 0 _ a0, key k hk 1 _ a1, key k hk 2 _ a2, key k hk 3 _ a3, key k hk 4 _ a4, key k hk 5 _ a5, key k hk 6 _ a6, key k hk 7 _ a7⟩
  · obtain ⟨xs, m, rfl, hx, hlen, hn, hel⟩ := DataW.trod_array Tryz.underlying92 hd0
    have c1 : Tryz.prog.cellsOf 9 = 1 := by kernel_rfl
    simp only [Prod.mk.injEq, DataW.agg.injEq] at hx
    have el : ∀ k, k < 10 → W.cell? ⟨1, k, none⟩ = some (.string (keysL.getD k ByteArray.empty)) := fun k hk => by
      have e := hel k hk
      rw [c1, Nat.mul_one] at e
      have hk' : k < xs.length := by rw [hn]; exact hk
      rw [List.getElem?_eq_getElem hk'] at e
      obtain ⟨s, e1, e2, _⟩ := DataW.trod_string Tryz.underlying9 e
      have h1 : (xs.map (·.1))[k]? = (keysL.map fun s => (.lit (.string s.data.toList) : DataW Unit))[k]? := by rw [← hx.1]
      have hf : k < keysL.length := hk
      rw [List.getElem?_map, List.getElem?_map, List.getElem?_eq_getElem hk', List.getElem?_eq_getElem hf, e2] at h1
      simp only [Option.map_some, Option.some.injEq, DataW.lit.injEq, Lit.string.injEq] at h1
      have hs : s = keysL[k] := by
        have := Array.toList_inj.1 h1
        cases s
        cases hq : keysL[k]
        rw [hq] at this
        simp only at this
        rw [this]
      have := World.var?_cell hg0 hv0 k
      rw [this]
      have h2 := take_one e1
      rw [hs] at h2
      have h3 : keysL.getD k ByteArray.empty = keysL[k] := by simp [List.getD, List.getElem?_eq_getElem hf]
      rw [h3, ← h2]
      simp
    exact ⟨World.block_lt_of_cell? W ⟨1, _, none⟩ (el 0 (by omega)), el⟩
end Go.Proofs.YtahgbgniaiccbaaGreatDoor
