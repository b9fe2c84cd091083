/-
  The values of gates: what add, constant, not, and, or, choose and build stand for.
-/
import Derived.Test.YtfabdpnjjondaaaG1
set_option linter.unusedVariables false
set_option linter.unusedSimpArgs false
namespace Go.Proofs.Ytfabdpnjjondaaa

/-- The value of gate j of a list of gates. -/
def V (lat inp : Int) (gs : GS) (j : Int) : Int := (valsTo gs lat inp gs.length).getD j.toNat 0
/-- The value of a gate over the gates of a list. -/
def valAt (lat inp : Int) (gs : GS) (g : Gt) : Int := valOf lat inp (valsTo gs lat inp gs.length) g

theorem V_01 (lat inp : Int) (gs : GS) (j : Int) : V lat inp gs j = 0 ∨ V lat inp gs j = 1 := valsTo_01 _ _ _ _ _
theorem valsTo_pre {gs hs : GS} (lat inp : Int) (h : gs <+: hs) : ∀ k, k ≤ gs.length → valsTo hs lat inp k = valsTo gs lat inp k
  | 0, _ => rfl
  | k + 1, hk => by
    obtain ⟨t, rfl⟩ := h
    have e : (gs ++ t).getD k default = gs.getD k default := by simp [List.getD, List.getElem?_append_left hk]
    rw [valsTo, valsTo, valsTo_pre lat inp ⟨t, rfl⟩ k (by omega), e]
theorem valsTo_getD (gs : GS) (lat inp : Int) {k j : Nat} (h : j < k) : (valsTo gs lat inp k).getD j 0 = valOf lat inp (valsTo gs lat inp j) (gs.getD j default) := by
  induction k with
  | zero => omega
  | succ k ih =>
    rw [valsTo, getD_snoc, valsTo_len]
    split
    · exact ih ‹_›
    · rw [if_pos (by omega), show k = j by omega]
theorem V_pre {gs hs : GS} (lat inp : Int) (h : gs <+: hs) {j : Int} (h0 : 0 ≤ j) (h1 : j < gs.length) : V lat inp hs j = V lat inp gs j := by
  have hl := h.length_le
  unfold V
  have hj : j.toNat < gs.length := by omega
  rw [valsTo_getD hs lat inp (show j.toNat < hs.length by omega), valsTo_getD gs lat inp hj, valsTo_pre lat inp h _ (by omega)]
  obtain ⟨t, rfl⟩ := h
  simp [List.getD, List.getElem?_append_left hj]
theorem gateB_range {ib nl i : Int} {g : Gt} (h : gateB ib nl i g = true) : (g.k = 4 → 0 ≤ g.a ∧ g.a < g.b ∧ g.b < i) ∧ (g.k = 5 → 0 ≤ g.a ∧ g.a < i) := by
  unfold gateB at h
  constructor
  · intro hk
    simp [hk] at h
    omega
  · intro hk
    simp [hk] at h
    omega
theorem valOf_part {lat inp : Int} {gs : GS} {g : Gt} {ib nl : Int} {j : Nat} (hj : j ≤ gs.length) (h : gateB ib nl j g = true) : valOf lat inp (valsTo gs lat inp j) g = valAt lat inp gs g := by
  have hr := gateB_range h
  have e : ∀ a : Int, 0 ≤ a → a < j → (valsTo gs lat inp j).getD a.toNat 0 = (valsTo gs lat inp gs.length).getD a.toNat 0 := fun a h0 h1 => by
    rw [valsTo_getD gs lat inp (show a.toNat < j by omega), valsTo_getD gs lat inp (show a.toNat < gs.length by omega)]
  unfold valAt valOf
  split
  · rfl
  split
  · rfl
  split
  · have := hr.1 ‹_›
    rw [e g.a (by omega) (by omega), e g.b (by omega) (by omega)]
  split
  · have := hr.2 ‹_›
    rw [e g.a (by omega) (by omega)]
  · rfl
section
variable {ib nl : Int} {gs : GS} {lat inp : Int}
theorem V_gate (h : Ok ib nl gs) {j : Int} (h0 : 0 ≤ j) (h1 : j < gs.length) : V lat inp gs j = valAt lat inp gs (gs.getD j.toNat default) := by
  have hj : j.toNat < gs.length := by omega
  unfold V
  rw [valsTo_getD gs lat inp hj, valOf_part (by omega) (h _ hj)]
theorem valAt_pre {hs : GS} (h : gs <+: hs) {g : Gt} (hg : gateB ib nl gs.length g = true) : valAt lat inp hs g = valAt lat inp gs g := by
  rw [← valOf_part (gs := hs) h.length_le hg, valsTo_pre lat inp h _ (Nat.le_refl _)]; rfl
theorem valAt_and {a b : Int} : valAt lat inp gs ⟨4, a, b⟩ = V lat inp gs a * V lat inp gs b := rfl
theorem valAt_not {a : Int} : valAt lat inp gs ⟨5, a, 0⟩ = 1 - V lat inp gs a := rfl
theorem getD_idxOf {g : Gt} (h : g ∈ gs) : gs.getD (gs.idxOf g) default = g := by
  have := List.idxOf_lt_length_of_mem h
  simp [List.getD, this]
theorem add_V (h : Ok ib nl gs) {g : Gt} (hg : gateB ib nl gs.length g = true) : V lat inp (addG gs g).2 (addG gs g).1 = valAt lat inp gs g := by
  have hu := add_up h hg
  rw [V_gate hu.ok hu.lo hu.hi]
  rw [← valAt_pre hu.pre hg]
  congr 1
  unfold addG
  split
  · simp only [Int.toNat_natCast]
    exact getD_idxOf ‹_›
  · simp [List.getD]
theorem not_V (h : Ok ib nl gs) {a : Int} (h0 : 0 ≤ a) (h1 : a < gs.length) : V lat inp (notG gs a).2 (notG gs a).1 = 1 - V lat inp gs a := by
  unfold notG
  split
  · rename_i h5
    have hr := h.not_range h0 h1 h5
    rw [V_gate h h0 h1]
    obtain ⟨g, hg⟩ : ∃ g, gs.getD a.toNat default = g := ⟨_, rfl⟩
    rw [hg] at h5 hr ⊢
    obtain ⟨k, x, y⟩ := g
    dsimp only at h5 hr ⊢
    subst h5
    show V lat inp gs x = 1 - (1 - V lat inp gs x)
    omega
  · rw [add_V h (by simp [gateB]; omega)]
    rfl
theorem const_V (h : Ok ib nl gs) (v : Int) : V lat inp (constG gs v).2 (constG gs v).1 = if v = 1 then 1 else 0 := by
  have hg : gateB ib nl gs.length ⟨1, 0, 0⟩ = true := by simp [gateB]
  have h1 : Up ib nl gs (addG gs ⟨1, 0, 0⟩) := add_up h hg
  have h2 : V lat inp (addG gs ⟨1, 0, 0⟩).2 (addG gs ⟨1, 0, 0⟩).1 = 0 := by rw [add_V h hg]; rfl
  unfold constG
  split
  · rw [not_V h1.ok h1.lo h1.hi, h2]; rfl
  · exact h2
theorem V_up {r : Int × GS} (h : Up ib nl gs r) {j : Int} (h0 : 0 ≤ j) (h1 : j < gs.length) : V lat inp r.2 j = V lat inp gs j := V_pre lat inp h.pre h0 h1
theorem andStep_V {no a : Int} {s : Int × GS} (h : Up ib nl gs s) (n0 : 0 ≤ no) (n1 : no < gs.length) (hno : V lat inp gs no = 0) (a0 : 0 ≤ a) (a1 : a < gs.length) :
    V lat inp (andStep no s a).2 (andStep no s a).1 = V lat inp s.2 s.1 * V lat inp gs a := by
  have hl := h.len
  have hxs := not_up h.ok n0 (a := no) (by omega)
  have hx : Up ib nl gs (notG s.2 no) := h.trans hxs
  have hlx := hxs.len
  have hys := not_up hx.ok n0 (a := no) (by omega)
  have hy : Up ib nl gs (notG (notG s.2 no).2 no) := hx.trans hys
  have hly := hys.len
  have hs1 := h.lo
  have hs2 := h.hi
  have hzs := not_up hy.ok hs1 (a := s.1) (by omega)
  have hz : Up ib nl gs (notG (notG (notG s.2 no).2 no).2 s.1) := hy.trans hzs
  have hlz := hzs.len
  have ea : V lat inp s.2 a = V lat inp gs a := V_up h a0 a1
  have ea1 : V lat inp (notG s.2 no).2 a = V lat inp gs a := V_up hx a0 a1
  have ea2 : V lat inp (notG (notG s.2 no).2 no).2 a = V lat inp gs a := V_up hy a0 a1
  have ea3 : V lat inp (notG (notG (notG s.2 no).2 no).2 s.1).2 a = V lat inp gs a := V_up hz a0 a1
  have er1 : V lat inp (notG s.2 no).2 s.1 = V lat inp s.2 s.1 := V_up hxs hs1 hs2
  have er2 : V lat inp (notG (notG s.2 no).2 no).2 s.1 = V lat inp s.2 s.1 := (V_up hys hs1 (by omega)).trans er1
  have er3 : V lat inp (notG (notG (notG s.2 no).2 no).2 s.1).2 s.1 = V lat inp s.2 s.1 := (V_up hzs hs1 (by omega)).trans er2
  have en : V lat inp s.2 no = 0 := (V_up h n0 n1).trans hno
  have en1 : V lat inp (notG s.2 no).2 no = 0 := (V_up hx n0 n1).trans hno
  have en2 : V lat inp (notG (notG s.2 no).2 no).2 no = 0 := (V_up hy n0 n1).trans hno
  have en3 : V lat inp (notG (notG (notG s.2 no).2 no).2 s.1).2 no = 0 := (V_up hz n0 n1).trans hno
  have ex : V lat inp (notG s.2 no).2 (notG s.2 no).1 = 1 := by rw [not_V h.ok n0 (by omega), en]; rfl
  have ey : V lat inp (notG (notG s.2 no).2 no).2 (notG (notG s.2 no).2 no).1 = 1 := by rw [not_V hx.ok n0 (by omega), en1]; rfl
  have ez : V lat inp (notG (notG (notG s.2 no).2 no).2 s.1).2 (notG (notG (notG s.2 no).2 no).2 s.1).1 = 1 - V lat inp s.2 s.1 := by rw [not_V hy.ok hs1 (by omega), er2]
  have h01 := V_01 lat inp s.2 s.1
  unfold andStep
  dsimp only
  split
  · rename_i e
    rw [← ea, e]
    rcases h01 with h | h <;> rw [h] <;> rfl
  split
  · rename_i e
    rw [er1, ← ea1, e, ex]; omega
  split
  · rename_i e
    rw [ea2, ← er2, e, ey]; omega
  split
  · rename_i e
    rw [en2, ← ea, e, en]; omega
  split
  · rename_i e
    rw [en2, e, en]; omega
  split
  · rename_i e
    rw [en3, ← ea3, e, ez]
    rcases h01 with h | h <;> rw [h] <;> rfl
  · rw [add_V (ib := ib) (nl := nl) hz.ok (by simp [gateB]; omega), valAt_and]
    rcases Int.le_total a s.1 with hle | hle
    · rw [Int.min_eq_left hle, Int.max_eq_right hle, ea3, er3, Int.mul_comm]
    · rw [Int.min_eq_right hle, Int.max_eq_left hle, ea3, er3]
theorem and_V (h : Ok ib nl gs) {x y : Int} (x0 : 0 ≤ x) (x1 : x < gs.length) (y0 : 0 ≤ y) (y1 : y < gs.length) : V lat inp (andG gs [x, y]).2 (andG gs [x, y]).1 = V lat inp gs x * V lat inp gs y := by
  have hc := const_up h 0
  have hd := const_up hc.ok 1
  have hlc := hc.len
  have hld := hd.len
  have hno : V lat inp (constG gs 0).2 (constG gs 0).1 = 0 := const_V h 0
  have h1 : V lat inp (constG (constG gs 0).2 1).2 (constG (constG gs 0).2 1).1 = 1 := const_V hc.ok 1
  have hu := andStep_up hd hc.lo hc.hi x0 (a := x) (by omega)
  show V lat inp (andStep (constG gs 0).1 (andStep (constG gs 0).1 (constG (constG gs 0).2 1) x) y).2 (andStep (constG gs 0).1 (andStep (constG gs 0).1 (constG (constG gs 0).2 1) x) y).1 = _
  rw [andStep_V hu hc.lo hc.hi hno y0 (by omega), andStep_V hd hc.lo hc.hi hno x0 (by omega), h1, V_up hc x0 x1, V_up hc y0 y1, Int.one_mul]
theorem or_V (h : Ok ib nl gs) {x y : Int} (x0 : 0 ≤ x) (x1 : x < gs.length) (y0 : 0 ≤ y) (y1 : y < gs.length) : V lat inp (orG gs [x, y]).2 (orG gs [x, y]).1 = 1 - (1 - V lat inp gs x) * (1 - V lat inp gs y) := by
  have hx := not_up h x0 x1
  have hlx := hx.len
  have hy := not_up hx.ok y0 (a := y) (by omega)
  have hly := hy.len
  have hxh := hx.hi
  have ha := and_up hy.ok _ (two_range hx.lo (by omega) hy.lo hy.hi)
  show V lat inp (notG (andG (notG (notG gs x).2 y).2 [(notG gs x).1, (notG (notG gs x).2 y).1]).2 (andG (notG (notG gs x).2 y).2 [(notG gs x).1, (notG (notG gs x).2 y).1]).1).2 (notG (andG (notG (notG gs x).2 y).2 [(notG gs x).1, (notG (notG gs x).2 y).1]).2 (andG (notG (notG gs x).2 y).2 [(notG gs x).1, (notG (notG gs x).2 y).1]).1).1 = _
  rw [not_V ha.ok ha.lo ha.hi, and_V hy.ok hx.lo (by omega) hy.lo hy.hi, V_up hy hx.lo hx.hi, not_V h x0 x1, not_V hx.ok y0 (by omega), V_up hx y0 y1]
theorem choose_V (h : Ok ib nl gs) {a zero one : Int} (a0 : 0 ≤ a) (a1 : a < gs.length) (z0 : 0 ≤ zero) (z1 : zero < gs.length) (o0 : 0 ≤ one) (o1 : one < gs.length) :
    V lat inp (chooseG gs a zero one).2 (chooseG gs a zero one).1 = if V lat inp gs a = 0 then V lat inp gs zero else V lat inp gs one := by
  have hy := const_up h 1
  have hly := hy.len
  have hn := not_up hy.ok a0 (a := a) (by omega)
  have hln := hn.len
  have hn0 := hn.lo
  have hn1 := hn.hi
  have hyv : V lat inp (constG gs 1).2 (constG gs 1).1 = 1 := const_V h 1
  have ea := V_up hy (lat := lat) (inp := inp) a0 a1
  have ez := V_up hy (lat := lat) (inp := inp) z0 z1
  have eo := V_up hy (lat := lat) (inp := inp) o0 o1
  have ea2 := V_up hn (lat := lat) (inp := inp) a0 (by omega)
  have ez2 := V_up hn (lat := lat) (inp := inp) z0 (by omega)
  have eo2 := V_up hn (lat := lat) (inp := inp) o0 (by omega)
  have env : V lat inp (notG (constG gs 1).2 a).2 (notG (constG gs 1).2 a).1 = 1 - V lat inp gs a := by rw [not_V hy.ok a0 (by omega), ea]
  have va := V_01 lat inp gs a
  have vz := V_01 lat inp gs zero
  have vo := V_01 lat inp gs one
  unfold chooseG
  dsimp only
  split
  · rename_i e
    subst e
    rw [ez]
    split <;> rfl
  split
  · rename_i e
    rw [← e, ez] at hyv
    rw [or_V hn.ok hn.lo hn.hi o0 (by omega), env, eo2, eo, hyv]
    rcases va with h | h <;> rw [h] <;> simp <;> omega
  split
  · rename_i e
    rw [← e, eo] at hyv
    rw [or_V hy.ok a0 (by omega) z0 (by omega), ea, ez, hyv]
    rcases va with h | h <;> rw [h] <;> simp <;> omega
  · have hx := and_up hn.ok _ (two_range hn.lo hn.hi z0 (b := zero) (by omega))
    have hlx := hx.len
    have hyy := and_up hx.ok _ (two_range a0 (a := a) (by omega) o0 (b := one) (by omega))
    have hlyy := hyy.len
    have hx1 := hx.hi
    rw [or_V hyy.ok hx.lo (by omega) hyy.lo hyy.hi, V_up hyy hx.lo hx.hi, and_V hn.ok hn.lo hn.hi z0 (by omega), and_V hx.ok a0 (by omega) o0 (by omega), V_up hx a0 (by omega), V_up hx o0 (by omega), env, ea2, ea, ez2, ez, eo2, eo]
    rcases va with h | h <;> rw [h] <;> simp <;> omega
/-- The row that the values of the variables point to, the first variable first. -/
def rowV (lat inp : Int) (gs : GS) : List Int → Nat
  | [] => 0
  | v :: vs => (V lat inp gs v).toNat * 2 ^ vs.length + rowV lat inp gs vs
theorem rowV_lt (vars : List Int) : rowV lat inp gs vars < 2 ^ vars.length := by
  induction vars with
  | nil => simp [rowV]
  | cons v vs ih =>
    simp only [rowV, List.length_cons, Nat.pow_succ]
    rcases V_01 lat inp gs v with h | h <;> rw [h] <;> simp <;> omega
theorem rowV_up {r : Int × GS} (h : Up ib nl gs r) (vars : List Int) (hv : ∀ j, j < vars.length → 0 ≤ vars.getD j 0 ∧ vars.getD j 0 < gs.length) : rowV lat inp r.2 vars = rowV lat inp gs vars := by
  induction vars with
  | nil => rfl
  | cons v vs ih =>
    have h0 := hv 0 (by simp)
    simp only [List.getD_cons_zero] at h0
    rw [rowV, rowV, V_up h h0.1 h0.2, ih (fun j hj => by simpa using hv (j + 1) (by simpa using hj))]
theorem someB_of {x : Int} {cells : List Int} {j : Nat} (hj : j < cells.length) (h : cells.getD j 0 = x) : someB x cells = true := by
  unfold someB
  rw [List.any_eq_true]
  refine ⟨cells[j], List.getElem_mem hj, ?_⟩
  simpa [List.getD, hj] using h
theorem emptyB_all {cells : List Int} (h : emptyB cells = true) {j : Nat} (hj : j < cells.length) : cells.getD j 0 = -1 := by
  have := allN_true.1 h j hj
  simpa using this
theorem build_V : ∀ (vars : List Int) (gs : GS) (cells : List Int), Ok ib nl gs → (∀ j, j < vars.length → 0 ≤ vars.getD j 0 ∧ vars.getD j 0 < gs.length) → cells.length = 2 ^ vars.length →
    (∀ j, j < cells.length → cells.getD j 0 = -1 ∨ cells.getD j 0 = 0 ∨ cells.getD j 0 = 1) → cells.getD (rowV lat inp gs vars) 0 ≠ -1 → V lat inp (buildG gs cells vars).2 (buildG gs cells vars).1 = cells.getD (rowV lat inp gs vars) 0 := by
  have short : ∀ (gs : GS) (cells : List Int) (r : Nat), Ok ib nl gs → r < cells.length → (∀ j, j < cells.length → cells.getD j 0 = -1 ∨ cells.getD j 0 = 0 ∨ cells.getD j 0 = 1) → cells.getD r 0 ≠ -1 → (someB 0 cells = false ∨ someB 1 cells = false) →
      V lat inp (constG gs (if someB 1 cells then 1 else 0)).2 (constG gs (if someB 1 cells then 1 else 0)).1 = cells.getD r 0 := by
    intro gs cells r h hr hc hn hs
    rw [const_V h]
    have e0 : someB 0 cells = false → cells.getD r 0 ≠ 0 := fun h0 e => by rw [someB_of hr e] at h0; cases h0
    have e1 : someB 1 cells = false → cells.getD r 0 ≠ 1 := fun h0 e => by rw [someB_of hr e] at h0; cases h0
    have e2 : someB 1 cells = true → cells.getD r 0 ≠ 0 := fun h1 => by
      rcases hs with h0 | h0
      · exact e0 h0
      · rw [h0] at h1; cases h1
    have := hc r hr
    cases h1 : someB 1 cells
    · have := e1 h1
      rw [if_neg (by decide)]
      omega
    · have := e2 h1
      rw [if_pos rfl]
      omega
  intro vars
  induction vars with
  | nil =>
    intro gs cells h _ hlen hc hn
    refine short gs cells _ h (by rw [hlen]; exact rowV_lt _) hc hn ?_
    match cells, hlen with
    | [x], _ => by_cases h : x = 0 <;> simp [someB, h]
  | cons v vs ih =>
    intro gs cells h hv hlen hc hn
    have hrl := rowV_lt (lat := lat) (inp := inp) (gs := gs) (v :: vs)
    rw [← hlen] at hrl
    have hv0 := hv 0 (by simp)
    simp only [List.getD_cons_zero] at hv0
    have hvs : ∀ j, j < vs.length → 0 ≤ vs.getD j 0 ∧ vs.getD j 0 < gs.length := fun j hj => by simpa using hv (j + 1) (by simpa using hj)
    unfold buildG
    split
    · dsimp only
      have hq : cells.length / 2 = 2 ^ vs.length := by rw [hlen, List.length_cons, Nat.pow_succ]; omega
      have hcl : cells.length = 2 * 2 ^ vs.length := by rw [hlen, List.length_cons, Nat.pow_succ]; omega
      rw [hq]
      have hp : 0 < 2 ^ vs.length := Nat.two_pow_pos _
      obtain ⟨p, hpe⟩ : ∃ p, 2 ^ vs.length = p := ⟨_, rfl⟩
      have hz := build_up vs gs (cells.take (2 ^ vs.length)) h hvs
      have hlz := hz.len
      have hvs2 : ∀ j, j < vs.length → 0 ≤ vs.getD j 0 ∧ vs.getD j 0 < (buildG gs (cells.take (2 ^ vs.length)) vs).2.length := fun j hj => ⟨(hvs j hj).1, by have := (hvs j hj).2; omega⟩
      have ho := build_up vs (buildG gs (cells.take (2 ^ vs.length)) vs).2 (cells.drop (2 ^ vs.length)) hz.ok hvs2
      have hlo := ho.len
      have h1 := hz.lo
      have h2 := hz.hi
      have h3 := ho.lo
      have h4 := ho.hi
      have rz := rowV_lt (lat := lat) (inp := inp) (gs := gs) vs
      have ru := rowV_up (lat := lat) (inp := inp) hz vs hvs
      have iz := ih gs (cells.take (2 ^ vs.length)) h hvs (by simp; omega) (fun j hj => by
        rw [getD_take _ _ (by simp at hj; omega)]; exact hc j (by simp at hj; omega))
      have io := ih (buildG gs (cells.take (2 ^ vs.length)) vs).2 (cells.drop (2 ^ vs.length)) hz.ok hvs2 (by simp; omega) (fun j hj => by
        have := hc (2 ^ vs.length + j) (by simp at hj; omega)
        simpa [List.getD] using this)
      rw [ru] at io
      rw [getD_take _ _ rz] at iz
      have ed : (cells.drop (2 ^ vs.length)).getD (rowV lat inp gs vs) 0 = cells.getD (2 ^ vs.length + rowV lat inp gs vs) 0 := by simp [List.getD]
      rw [ed] at io
      have vz : V lat inp (buildG (buildG gs (cells.take (2 ^ vs.length)) vs).2 (cells.drop (2 ^ vs.length)) vs).2 (buildG gs (cells.take (2 ^ vs.length)) vs).1 = V lat inp (buildG gs (cells.take (2 ^ vs.length)) vs).2 (buildG gs (cells.take (2 ^ vs.length)) vs).1 := V_up ho h1 h2
      rcases V_01 lat inp gs v with e | e
      · have er : rowV lat inp gs (v :: vs) = rowV lat inp gs vs := by simp [rowV, e]
        rw [er] at hn ⊢
        split
        · rename_i he
          exact absurd (by have := emptyB_all he (j := rowV lat inp gs vs) (by simp; omega); rwa [getD_take _ _ rz] at this) hn
        split
        · rw [vz]; exact iz hn
        · rw [choose_V ho.ok hv0.1 (by omega) h1 (by omega) h3 h4, V_up (hz.trans ho) hv0.1 hv0.2, e, if_pos rfl, vz]
          exact iz hn
      · have er : rowV lat inp gs (v :: vs) = 2 ^ vs.length + rowV lat inp gs vs := by simp [rowV, e]
        rw [er] at hn ⊢
        split
        · exact io hn
        split
        · rename_i _ he
          exact absurd (by have := emptyB_all he (j := rowV lat inp gs vs) (by simp; omega); rwa [ed] at this) hn
        · rw [choose_V ho.ok hv0.1 (by omega) h1 (by omega) h3 h4, V_up (hz.trans ho) hv0.1 hv0.2, e, if_neg (by decide)]
          exact io hn
    · refine short gs cells _ h hrl hc hn ?_
      rename_i hs
      rw [Bool.and_eq_true] at hs
      cases h0 : someB 0 cells
      · exact .inl rfl
      · right
        cases h1 : someB 1 cells
        · rfl
        · exact absurd ⟨h0, h1⟩ hs
end
end Go.Proofs.Ytfabdpnjjondaaa
