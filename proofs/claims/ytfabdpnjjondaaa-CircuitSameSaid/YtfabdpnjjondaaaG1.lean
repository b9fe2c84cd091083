/-
  The list of different gates as plain functions: add, constant, not, and, or, choose, build; what they keep.
-/
import Derived.Test.YtfabdpnjjondaaaS28
set_option linter.unusedVariables false
set_option linter.unusedSimpArgs false
namespace Go.Proofs.Ytfabdpnjjondaaa

abbrev GS := List Gt
def addG (gs : GS) (g : Gt) : Int × GS := if g ∈ gs then ((gs.idxOf g : Nat), gs) else ((gs.length : Nat), gs ++ [g])
def notG (gs : GS) (a : Int) : Int × GS := if (gs.getD a.toNat default).k = 5 then ((gs.getD a.toNat default).a, gs) else addG gs ⟨5, a, 0⟩
def constG (gs : GS) (v : Int) : Int × GS := if v = 1 then notG (addG gs ⟨1, 0, 0⟩).2 (addG gs ⟨1, 0, 0⟩).1 else addG gs ⟨1, 0, 0⟩
def andStep (no : Int) (s : Int × GS) (a : Int) : Int × GS :=
  if a = s.1 then s else
  let x := notG s.2 no
  if a = x.1 then (s.1, x.2) else
  let y := notG x.2 no
  if s.1 = y.1 then (a, y.2) else
  if a = no then (no, y.2) else
  if s.1 = no then (no, y.2) else
  let z := notG y.2 s.1
  if a = z.1 then (no, z.2) else addG z.2 ⟨4, min a s.1, max a s.1⟩
def andTo (no : Int) (s : Int × GS) (list : List Int) : Nat → Int × GS
  | 0 => s
  | k + 1 => andStep no (andTo no s list k) (list.getD k 0)
def andG (gs : GS) (list : List Int) : Int × GS := andTo (constG gs 0).1 (constG (constG gs 0).2 1) list list.length
def negTo (gs : GS) (list : List Int) : Nat → List Int × GS
  | 0 => ([], gs)
  | k + 1 => ((negTo gs list k).1 ++ [(notG (negTo gs list k).2 (list.getD k 0)).1], (notG (negTo gs list k).2 (list.getD k 0)).2)
def orG (gs : GS) (list : List Int) : Int × GS :=
  let n := negTo gs list list.length
  let x := andG n.2 n.1
  notG x.2 x.1
def chooseG (gs : GS) (a zero one : Int) : Int × GS :=
  let yes := constG gs 1
  if zero = one then (zero, yes.2)
  else if zero = yes.1 then orG (notG yes.2 a).2 [(notG yes.2 a).1, one]
  else if one = yes.1 then orG yes.2 [a, zero]
  else
    let n := notG yes.2 a
    let x := andG n.2 [n.1, zero]
    let y := andG x.2 [a, one]
    orG y.2 [x.1, y.1]
def someB (x : Int) (cells : List Int) : Bool := cells.any fun c => decide (c = x)
def emptyB (cells : List Int) : Bool := allN cells.length fun j => decide (cells.getD j 0 = -1)
def buildG (gs : GS) (cells : List Int) : List Int → Int × GS
  | [] => constG gs (if someB 1 cells then 1 else 0)
  | v :: vs =>
    if someB 0 cells && someB 1 cells then
      let low := cells.take (cells.length / 2)
      let high := cells.drop (cells.length / 2)
      let z := buildG gs low vs
      let o := buildG z.2 high vs
      if emptyB low then (o.1, o.2) else if emptyB high then (z.1, o.2) else chooseG o.2 v z.1 o.1
    else constG gs (if someB 1 cells then 1 else 0)

/-- All gates are right. -/
def Ok (ib nl : Int) (gs : GS) : Prop := ∀ j, j < gs.length → gateB ib nl j (gs.getD j default) = true
/-- r is a gate of a longer list of right gates. -/
structure Up (ib nl : Int) (gs : GS) (r : Int × GS) : Prop where
  pre : gs <+: r.2
  ok : Ok ib nl r.2
  lo : 0 ≤ r.1
  hi : r.1 < r.2.length

section
variable {ib nl : Int} {gs : GS}
theorem Up.len {r : Int × GS} (h : Up ib nl gs r) : gs.length ≤ r.2.length := h.pre.length_le
theorem Up.trans {r s : Int × GS} (h : Up ib nl gs r) (k : Up ib nl r.2 s) : Up ib nl gs s := ⟨h.pre.trans k.pre, k.ok, k.lo, k.hi⟩
theorem Up.with_ {r : Int × GS} (h : Up ib nl gs r) {a : Int} (h0 : 0 ≤ a) (h1 : a < r.2.length) : Up ib nl gs (a, r.2) := ⟨h.pre, h.ok, h0, h1⟩
theorem Up.self (h : Ok ib nl gs) {a : Int} (h0 : 0 ≤ a) (h1 : a < gs.length) : Up ib nl gs (a, gs) := ⟨List.prefix_rfl, h, h0, h1⟩
theorem Ok.snoc (h : Ok ib nl gs) {g : Gt} (hg : gateB ib nl gs.length g = true) : Ok ib nl (gs ++ [g]) := by
  intro j hj
  rw [getD_snoc]
  simp only [List.length_append, List.length_singleton] at hj
  split
  · exact h j ‹_›
  · have : j = gs.length := by omega
    subst this
    simpa using hg
theorem add_up (h : Ok ib nl gs) {g : Gt} (hg : gateB ib nl gs.length g = true) : Up ib nl gs (addG gs g) := by
  unfold addG
  split
  · rename_i hm
    exact ⟨List.prefix_rfl, h, by simp, by simpa using List.idxOf_lt_length_of_mem hm⟩
  · exact ⟨List.prefix_append _ _, h.snoc hg, by simp, by simp; omega⟩
theorem Ok.not_range (h : Ok ib nl gs) {a : Int} (h0 : 0 ≤ a) (h1 : a < gs.length) (h5 : (gs.getD a.toNat default).k = 5) : 0 ≤ (gs.getD a.toNat default).a ∧ (gs.getD a.toNat default).a < a := by
  have := h a.toNat (by omega)
  simp only [gateB, h5, Bool.and_eq_true, decide_eq_true_eq] at this
  simp only [show ¬ ((5 : Int) = 1) by omega, show ¬ ((5 : Int) = 2) by omega, show ¬ ((5 : Int) = 3) by omega, show ¬ ((5 : Int) = 4) by omega, if_false, if_true, Bool.and_eq_true, decide_eq_true_eq] at this
  omega
theorem not_up (h : Ok ib nl gs) {a : Int} (h0 : 0 ≤ a) (h1 : a < gs.length) : Up ib nl gs (notG gs a) := by
  unfold notG
  split
  · rename_i h5
    have := h.not_range h0 h1 h5
    exact Up.self h this.1 (by omega)
  · exact add_up h (by simp [gateB]; omega)
theorem const_up (h : Ok ib nl gs) (v : Int) : Up ib nl gs (constG gs v) := by
  have h1 : Up ib nl gs (addG gs ⟨1, 0, 0⟩) := add_up h (by simp [gateB])
  unfold constG
  split
  · exact h1.trans (not_up h1.ok h1.lo h1.hi)
  · exact h1
theorem andStep_up {no a : Int} {s : Int × GS} (h : Up ib nl gs s) (n0 : 0 ≤ no) (n1 : no < gs.length) (a0 : 0 ≤ a) (a1 : a < gs.length) : Up ib nl gs (andStep no s a) := by
  have hl := h.len
  have hx : Up ib nl gs (notG s.2 no) := h.trans (not_up h.ok n0 (by omega))
  have hlx := hx.len
  have hlsx := (not_up h.ok n0 (a := no) (by omega)).len
  have hy : Up ib nl gs (notG (notG s.2 no).2 no) := hx.trans (not_up hx.ok n0 (by omega))
  have hly := hy.len
  have hlxy := (not_up hx.ok n0 (a := no) (by omega)).len
  have hs1 := h.lo
  have hs2 := h.hi
  have hz : Up ib nl gs (notG (notG (notG s.2 no).2 no).2 s.1) := hy.trans (not_up hy.ok hs1 (by omega))
  have hlz := hz.len
  have hlyz := (not_up hy.ok hs1 (a := s.1) (by omega)).len
  unfold andStep
  dsimp only
  split
  · exact h
  split
  · exact hx.with_ hs1 (by omega)
  split
  · exact hy.with_ a0 (by omega)
  split
  · exact hy.with_ n0 (by omega)
  split
  · exact hy.with_ n0 (by omega)
  split
  · exact hz.with_ n0 (by omega)
  · refine hz.trans (add_up hz.ok ?_)
    simp only [gateB]
    simp
    omega
theorem andTo_up {no : Int} {s : Int × GS} (h : Up ib nl gs s) (n0 : 0 ≤ no) (n1 : no < gs.length) (list : List Int) (hl : ∀ j, j < list.length → 0 ≤ list.getD j 0 ∧ list.getD j 0 < gs.length) : ∀ k, k ≤ list.length → Up ib nl gs (andTo no s list k)
  | 0, _ => h
  | k + 1, hk => andStep_up (andTo_up h n0 n1 list hl k (by omega)) n0 n1 (hl k (by omega)).1 (hl k (by omega)).2
theorem and_up (h : Ok ib nl gs) (list : List Int) (hl : ∀ j, j < list.length → 0 ≤ list.getD j 0 ∧ list.getD j 0 < gs.length) : Up ib nl gs (andG gs list) := by
  have hc := const_up h 0
  have hlc := hc.len
  exact hc.trans (andTo_up (const_up hc.ok 1) hc.lo hc.hi list (fun j hj => ⟨(hl j hj).1, by have := (hl j hj).2; omega⟩) _ (Nat.le_refl _))
theorem neg_len (gs : GS) (list : List Int) : ∀ k, (negTo gs list k).1.length = k
  | 0 => rfl
  | k + 1 => by simp [negTo, neg_len gs list k]
theorem neg_up (h : Ok ib nl gs) (list : List Int) (hl : ∀ j, j < list.length → 0 ≤ list.getD j 0 ∧ list.getD j 0 < gs.length) : ∀ k, k ≤ list.length →
    gs <+: (negTo gs list k).2 ∧ Ok ib nl (negTo gs list k).2 ∧ ∀ j, j < k → 0 ≤ (negTo gs list k).1.getD j 0 ∧ (negTo gs list k).1.getD j 0 < (negTo gs list k).2.length
  | 0, _ => ⟨List.prefix_rfl, h, fun _ hj => absurd hj (Nat.not_lt_zero _)⟩
  | k + 1, hk => by
    obtain ⟨h1, h2, h3⟩ := neg_up h list hl k (by omega)
    have hk' := hl k (by omega)
    have hle := h1.length_le
    have hn := not_up h2 hk'.1 (a := list.getD k 0) (by omega)
    refine ⟨h1.trans hn.pre, hn.ok, fun j hj => ?_⟩
    simp only [negTo]
    rw [getD_snoc, neg_len]
    have hll := hn.len
    split
    · have := h3 j ‹_›; omega
    · have : j = k := by omega
      rw [if_pos this]
      exact ⟨hn.lo, hn.hi⟩
theorem or_up (h : Ok ib nl gs) (list : List Int) (hl : ∀ j, j < list.length → 0 ≤ list.getD j 0 ∧ list.getD j 0 < gs.length) : Up ib nl gs (orG gs list) := by
  obtain ⟨h1, h2, h3⟩ := neg_up h list hl list.length (Nat.le_refl _)
  have hx := and_up h2 (negTo gs list list.length).1 (fun j hj => h3 j (by rwa [neg_len] at hj))
  have hn := not_up hx.ok hx.lo hx.hi
  exact ⟨h1.trans (hx.pre.trans hn.pre), hn.ok, hn.lo, hn.hi⟩
theorem two_range {n : Nat} {a b : Int} (h1 : 0 ≤ a) (h2 : a < n) (h3 : 0 ≤ b) (h4 : b < n) : ∀ j, j < [a, b].length → 0 ≤ [a, b].getD j 0 ∧ [a, b].getD j 0 < n := by
  intro j hj
  match j, hj with
  | 0, _ => exact ⟨h1, h2⟩
  | 1, _ => exact ⟨h3, h4⟩
  | j + 2, hj => simp at hj; omega
theorem choose_up (h : Ok ib nl gs) {a zero one : Int} (a0 : 0 ≤ a) (a1 : a < gs.length) (z0 : 0 ≤ zero) (z1 : zero < gs.length) (o0 : 0 ≤ one) (o1 : one < gs.length) : Up ib nl gs (chooseG gs a zero one) := by
  have hy := const_up h 1
  have hly := hy.len
  have hn := not_up hy.ok a0 (a := a) (by omega)
  have hln := hn.len
  have hn0 := hn.lo
  have hn1 := hn.hi
  unfold chooseG
  dsimp only
  split
  · exact hy.with_ z0 (by omega)
  split
  · exact (hy.trans hn).trans (or_up hn.ok _ (two_range hn.lo hn.hi o0 (by omega)))
  split
  · exact hy.trans (or_up hy.ok _ (two_range a0 (by omega) z0 (by omega)))
  · have hx := and_up hn.ok _ (two_range hn.lo hn.hi z0 (b := zero) (by omega))
    have hlx := hx.len
    have hyy := and_up hx.ok _ (two_range a0 (a := a) (by omega) o0 (b := one) (by omega))
    have hlyy := hyy.len
    have hx1 := hx.hi
    exact (((hy.trans hn).trans hx).trans hyy).trans (or_up hyy.ok _ (two_range hx.lo (by omega) hyy.lo hyy.hi))
theorem build_up : ∀ (vars : List Int) (gs : GS) (cells : List Int), Ok ib nl gs → (∀ j, j < vars.length → 0 ≤ vars.getD j 0 ∧ vars.getD j 0 < gs.length) → Up ib nl gs (buildG gs cells vars)
  | [], gs, cells, h, _ => const_up h _
  | v :: vs, gs, cells, h, hv => by
    have hv0 := hv 0 (by simp)
    simp only [List.getD_cons_zero] at hv0
    have hvs : ∀ j, j < vs.length → 0 ≤ vs.getD j 0 ∧ vs.getD j 0 < gs.length := fun j hj => by simpa using hv (j + 1) (by simpa using hj)
    have hz := build_up vs gs (cells.take (cells.length / 2)) h hvs
    have hlz := hz.len
    have ho := build_up vs (buildG gs (cells.take (cells.length / 2)) vs).2 (cells.drop (cells.length / 2)) hz.ok (fun j hj => ⟨(hvs j hj).1, by have := (hvs j hj).2; omega⟩)
    have hlo := ho.len
    have h1 := hz.lo
    have h2 := hz.hi
    have h3 := ho.lo
    have h4 := ho.hi
    unfold buildG
    split
    · dsimp only
      split
      · exact hz.trans ho
      split
      · exact (hz.trans ho).with_ h1 (by omega)
      · exact (hz.trans ho).trans (choose_up ho.ok hv0.1 (by omega) h1 (by omega) h3 h4)
    · exact const_up h _
end
end Go.Proofs.Ytfabdpnjjondaaa
