/-
  A further gate at the beginning of a circuit changes no output.
-/
import Derived.Test.YtfabdpnjjondaaaP7
set_option linter.unusedVariables false
set_option linter.unusedSimpArgs false
namespace Go.Proofs.Ytfabdpnjjondaaa

def shiftG (g : Gt) : Gt := if g.k = 4 then ⟨4, g.a + 1, g.b + 1⟩ else if g.k = 5 then ⟨5, g.a + 1, g.b⟩ else g
def plus1 (l : List Int) (k : Nat) : List Int := (l.take k).map (· + 1)
def movedC (c : Cir) (g : Gt) : Cir := ⟨c.ib, g :: c.gates.map shiftG, plus1 c.lat c.lat.length, plus1 c.outs c.outs.length⟩
theorem plus1_all (l : List Int) : plus1 l l.length = l.map (· + 1) := by unfold plus1; rw [List.take_length]
theorem plus1_succ (l : List Int) {k : Nat} (h : k < l.length) : plus1 l (k + 1) = plus1 l k ++ [l.getD k 0 + 1] := by
  unfold plus1
  rw [take_succ_getD l 0 h, List.map_append]; rfl
theorem plus1_len (l : List Int) {k : Nat} (h : k ≤ l.length) : (plus1 l k).length = k := by unfold plus1; simp; omega

theorem valOf_shift {lat inp : Int} {v : Int} {vs : List Int} {ib nl i : Int} {g : Gt} (h : gateB ib nl i g = true) : valOf lat inp (v :: vs) (shiftG g) = valOf lat inp vs g := by
  have hr := gateB_range h
  have e : ∀ a : Int, 0 ≤ a → (v :: vs).getD (a + 1).toNat 0 = vs.getD a.toNat 0 := fun a ha => by
    rw [show (a + 1).toNat = a.toNat + 1 by omega, List.getD_cons_succ]
  unfold shiftG
  by_cases h4 : g.k = 4
  · have := hr.1 h4
    rw [if_pos h4]
    unfold valOf
    simp only [h4, show ¬ ((4 : Int) = 2) by omega, show ¬ ((4 : Int) = 3) by omega, if_false, if_true]
    rw [e g.a (by omega), e g.b (by omega)]
  · by_cases h5 : g.k = 5
    · have := hr.2 h5
      rw [if_neg h4, if_pos h5]
      unfold valOf
      simp only [h5, show ¬ ((5 : Int) = 2) by omega, show ¬ ((5 : Int) = 3) by omega, show ¬ ((5 : Int) = 4) by omega, if_false, if_true]
      rw [e g.a (by omega)]
    · rw [if_neg h4, if_neg h5]
      unfold valOf
      simp only [h4, h5, if_false]
theorem valOf_leaf {lat inp : Int} {vs ws : List Int} {g : Gt} (h4 : g.k ≠ 4) (h5 : g.k ≠ 5) : valOf lat inp vs g = valOf lat inp ws g := by
  unfold valOf
  simp only [h4, h5, if_false]
section
variable {c : Cir} {g : Gt} {lat inp : Int}
theorem vals_moved {ib nl : Int} {gs : List Gt} (h : ∀ j, j < gs.length → gateB ib nl j (gs.getD j default) = true) : ∀ k, k ≤ gs.length → valsTo (g :: gs.map shiftG) lat inp (k + 1) = valOf lat inp [] g :: valsTo gs lat inp k
  | 0, _ => by simp [valsTo]
  | k + 1, hk => by
    rw [valsTo, vals_moved h k (by omega), valsTo]
    have e : (g :: gs.map shiftG).getD (k + 1) default = shiftG (gs.getD k default) := by
      have hk' : k < gs.length := by omega
      simp [List.getD, hk']
    rw [e, valOf_shift (h k (by omega))]
    rfl
theorem numTo_moved {v : Int} {vs gs : List Int} (h : ∀ j, j < gs.length → 0 ≤ gs.getD j 0) : ∀ k, k ≤ gs.length → numTo (v :: vs) (gs.map (· + 1)) k = numTo vs gs k
  | 0, _ => rfl
  | k + 1, hk => by
    rw [numTo, numTo, numTo_moved h k (by omega)]
    have e : (gs.map (· + 1)).getD k 0 = gs.getD k 0 + 1 := by
      have hk' : k < gs.length := by omega
      simp [List.getD, hk']
    have := h k (by omega)
    rw [e, show (gs.getD k 0 + 1).toNat = (gs.getD k 0).toNat + 1 by omega, List.getD_cons_succ]
structure VC (c : Cir) : Prop where
  i0 : 0 ≤ c.ib
  i1 : c.ib ≤ 6
  l : c.lat.length ≤ 12
  o : c.outs.length ≤ 6
  g : c.gates.length ≤ 20000
  ok : ∀ j, j < c.gates.length → gateB c.ib c.lat.length j (c.gates.getD j default) = true
  lr : ∀ j, j < c.lat.length → 0 ≤ c.lat.getD j 0 ∧ c.lat.getD j 0 < c.gates.length
  or_ : ∀ j, j < c.outs.length → 0 ≤ c.outs.getD j 0 ∧ c.outs.getD j 0 < c.gates.length
theorem belowB_iff {n : Int} {xs : List Int} : belowB n xs = true ↔ ∀ j, j < xs.length → 0 ≤ xs.getD j 0 ∧ xs.getD j 0 < n := by
  unfold belowB
  rw [allN_true]
  simp
theorem validB_iff (c : Cir) : validB c = true ↔ VC c := by
  unfold validB
  simp only [Bool.and_eq_true, decide_eq_true_eq, allN_true, belowB_iff]
  constructor
  · rintro ⟨⟨⟨⟨⟨⟨⟨h1, h2⟩, h3⟩, h4⟩, h5⟩, h6⟩, h7⟩, h8⟩
    exact ⟨h1, h2, h3, h4, h5, h6, h7, h8⟩
  · rintro ⟨h1, h2, h3, h4, h5, h6, h7, h8⟩
    exact ⟨⟨⟨⟨⟨⟨⟨h1, h2⟩, h3⟩, h4⟩, h5⟩, h6⟩, h7⟩, h8⟩
theorem gateB_shift {ib nl i : Int} (h : gateB ib nl i g = true) : gateB ib nl (i + 1) (shiftG g) = true := by
  obtain ⟨k, a, b⟩ := g
  unfold gateB shiftG at *
  dsimp only at *
  by_cases h4 : k = 4
  · subst h4
    simp at h ⊢
    omega
  · by_cases h5 : k = 5
    · subst h5
      simp at h ⊢
      omega
    · simp only [h4, h5, if_false] at h ⊢
      exact h
theorem gateB_leaf {ib nl i j : Int} (h : gateB ib nl i g = true) (h4 : g.k ≠ 4) (h5 : g.k ≠ 5) : gateB ib nl j g = true := by
  unfold gateB at *
  simp only [h4, h5, if_false] at h ⊢
  exact h
theorem moved_valid (h : VC c) (hf : c.gates.length ≤ 60) {i : Nat} (hi : i < c.gates.length) (hg : c.gates.getD i default = g) (h4 : g.k ≠ 4) (h5 : g.k ≠ 5) : VC (movedC c g) := by
  have hlen : (movedC c g).gates.length = c.gates.length + 1 := by simp [movedC]
  have hll : (movedC c g).lat.length = c.lat.length := by simp [movedC, plus1_all]
  have hol : (movedC c g).outs.length = c.outs.length := by simp [movedC, plus1_all]
  refine ⟨h.i0, h.i1, by rw [hll]; exact h.l, by rw [hol]; exact h.o, by omega, fun j hj => ?_, fun j hj => ?_, fun j hj => ?_⟩
  · rw [hll]
    cases j with
    | zero =>
      show gateB c.ib c.lat.length _ g = true
      rw [← hg] at h4 h5 ⊢
      exact gateB_leaf (h.ok i hi) h4 h5
    | succ j =>
      rw [hlen] at hj
      have hj' : j < c.gates.length := by omega
      have e : (movedC c g).gates.getD (j + 1) default = shiftG (c.gates.getD j default) := by simp [movedC, List.getD, hj']
      rw [e]
      exact gateB_shift (h.ok j hj')
  · rw [hll] at hj
    have e : (movedC c g).lat.getD j 0 = c.lat.getD j 0 + 1 := by simp [movedC, plus1_all, List.getD, hj]
    have := h.lr j hj
    rw [e, hlen]
    omega
  · rw [hol] at hj
    have e : (movedC c g).outs.getD j 0 = c.outs.getD j 0 + 1 := by simp [movedC, plus1_all, List.getD, hj]
    have := h.or_ j hj
    rw [e, hlen]
    omega
/-- Two circuits that differ in the numbers of latches and outputs alone, with the same values, run alike. -/
theorem runZ_alike {c d : Cir} (hc : VC c) (hd : VC d) (hib : c.ib = d.ib) (hl : c.lat.length = d.lat.length) (h1 : ∀ lat inp, numZ (valsZ c lat inp) c.outs = numZ (valsZ d lat inp) d.outs) (h2 : ∀ lat inp, numZ (valsZ c lat inp) c.lat = numZ (valsZ d lat inp) d.lat) (ins : List Int) : runZ c ins = runZ d ins := by
  have hs : ∀ lat inp, stepC c lat inp = stepC d lat inp := fun lat inp => by unfold stepC; rw [h1, h2]
  have hlat : ∀ k, latTo c ins k = latTo d ins k := by
    intro k
    induction k with
    | zero => rfl
    | succ k ih => rw [latTo, latTo, ih, hs]
  have hout : ∀ k, outsTo c ins k = outsTo d ins k := by
    intro k
    induction k with
    | zero => rfl
    | succ k ih => rw [outsTo, outsTo, ih, hlat, hs]
  unfold runZ
  rw [(validB_iff c).2 hc, (validB_iff d).2 hd, hib, hout]
theorem moved_run (h : VC c) (hf : c.gates.length ≤ 60) {i : Nat} (hi : i < c.gates.length) (hg : c.gates.getD i default = g) (h4 : g.k ≠ 4) (h5 : g.k ≠ 5) (ins : List Int) : runZ (movedC c g) ins = runZ c ins := by
  have hm := moved_valid h hf hi hg h4 h5
  have hv : ∀ lat inp, valsZ (movedC c g) lat inp = valOf lat inp [] g :: valsZ c lat inp := fun lat inp => by
    have e : (movedC c g).gates.length = c.gates.length + 1 := by simp [movedC]
    unfold valsZ
    rw [e]
    exact vals_moved h.ok _ (Nat.le_refl _)
  refine runZ_alike hm h rfl (by simp [movedC, plus1_all]) (fun lat inp => ?_) (fun lat inp => ?_) ins
  · rw [hv]
    unfold numZ
    show numTo _ (plus1 c.outs c.outs.length) _ = _
    rw [plus1_all, show (movedC c g).outs.length = c.outs.length by simp [movedC, plus1_all]]
    exact numTo_moved (fun j hj => (h.or_ j hj).1) _ (Nat.le_refl _)
  · rw [hv]
    unfold numZ
    show numTo _ (plus1 c.lat c.lat.length) _ = _
    rw [plus1_all, show (movedC c g).lat.length = c.lat.length by simp [movedC, plus1_all]]
    exact numTo_moved (fun j hj => (h.lr j hj).1) _ (Nat.le_refl _)
end

/-- The first k numbers with those of gates equal to g replaced by 0. -/
def zeroTo (gs : List Gt) (g : Gt) (l : List Int) (k : Nat) : List Int := (List.range l.length).map fun j => if j < k ∧ gs.getD (l.getD j 0).toNat default = g then 0 else l.getD j 0
theorem zeroTo_len (gs : List Gt) (g : Gt) (l : List Int) (k : Nat) : (zeroTo gs g l k).length = l.length := by simp [zeroTo]
theorem zeroTo_get (gs : List Gt) (g : Gt) (l : List Int) (k : Nat) {j : Nat} (h : j < l.length) : (zeroTo gs g l k).getD j 0 = if j < k ∧ gs.getD (l.getD j 0).toNat default = g then 0 else l.getD j 0 := by
  simp [zeroTo, List.getD, h]
theorem ext_getD {l m : List Int} (hl : l.length = m.length) (h : ∀ j, j < l.length → l.getD j 0 = m.getD j 0) : l = m := by
  apply List.ext_getElem hl
  intro i h1 h2
  have := h i h1
  simpa [List.getD, h1, h2] using this
theorem getD_set (l : List Int) (k : Nat) (x : Int) {j : Nat} (hj : j < l.length) : (l.set k x).getD j 0 = if j = k then x else l.getD j 0 := by
  by_cases h : j = k
  · subst h
    simp [List.getD, hj]
  · rw [if_neg h]
    simp [List.getD, List.getElem?_set, Ne.symm h]
theorem zeroTo_zero (gs : List Gt) (g : Gt) (l : List Int) : zeroTo gs g l 0 = l := by
  apply ext_getD (zeroTo_len _ _ _ _)
  intro j hj
  rw [zeroTo_len] at hj
  rw [zeroTo_get _ _ _ _ hj, if_neg (by omega)]
theorem zeroTo_at (gs : List Gt) (g : Gt) (l : List Int) {k : Nat} (hk : k < l.length) : (zeroTo gs g l k).getD k 0 = l.getD k 0 := by
  rw [zeroTo_get _ _ _ _ hk, if_neg (by omega)]
theorem zeroTo_yes {gs : List Gt} {g : Gt} {l : List Int} {k : Nat} (hk : k < l.length) (h : gs.getD (l.getD k 0).toNat default = g) : zeroTo gs g l (k + 1) = (zeroTo gs g l k).set k 0 := by
  apply ext_getD (by simp [zeroTo_len])
  intro j hj
  rw [zeroTo_len] at hj
  rw [zeroTo_get _ _ _ _ hj, getD_set _ _ _ (by rw [zeroTo_len]; exact hj), zeroTo_get _ _ _ _ hj]
  by_cases e : j = k
  · subst e
    rw [if_pos ⟨by omega, h⟩, if_pos rfl]
  · rw [if_neg e]
    have : j < k + 1 ↔ j < k := by omega
    simp only [this]
theorem zeroTo_no {gs : List Gt} {g : Gt} {l : List Int} {k : Nat} (hk : k < l.length) (h : gs.getD (l.getD k 0).toNat default ≠ g) : zeroTo gs g l (k + 1) = zeroTo gs g l k := by
  apply ext_getD (by simp [zeroTo_len])
  intro j hj
  rw [zeroTo_len] at hj
  rw [zeroTo_get _ _ _ _ hj, zeroTo_get _ _ _ _ hj]
  by_cases e : j = k
  · subst e
    rw [if_neg (fun x => h x.2), if_neg (fun x => h x.2)]
  · have : j < k + 1 ↔ j < k := by omega
    simp only [this]
/-- Equal gates that refer to no gates have the same value as the first one. -/
theorem zero_val {c : Cir} {g : Gt} (h : VC c) (h0 : c.gates.getD 0 default = g) (h4 : g.k ≠ 4) (h5 : g.k ≠ 5) (lat inp : Int) {j : Nat} (hj : j < c.gates.length) (hg : c.gates.getD j default = g) : (valsZ c lat inp).getD j 0 = (valsZ c lat inp).getD 0 0 := by
  unfold valsZ
  rw [valsTo_getD _ _ _ hj, valsTo_getD _ _ _ (show 0 < c.gates.length by omega), hg, h0]
  exact valOf_leaf h4 h5
theorem numTo_zero {c : Cir} {g : Gt} (h : VC c) (h0 : c.gates.getD 0 default = g) (h4 : g.k ≠ 4) (h5 : g.k ≠ 5) (lat inp : Int) {l : List Int} (hl : ∀ j, j < l.length → 0 ≤ l.getD j 0 ∧ l.getD j 0 < c.gates.length) :
    ∀ k, k ≤ l.length → numTo (valsZ c lat inp) (zeroTo c.gates g l l.length) k = numTo (valsZ c lat inp) l k
  | 0, _ => rfl
  | k + 1, hk => by
    rw [numTo, numTo, numTo_zero h h0 h4 h5 lat inp hl k (by omega), zeroTo_get _ _ _ _ (show k < l.length by omega)]
    have hr := hl k (by omega)
    split
    · rename_i hh
      rw [zero_val h h0 h4 h5 lat inp (j := (l.getD k 0).toNat) (by omega) hh.2]; rfl
    · rfl
def zeroedC (c : Cir) (g : Gt) : Cir := ⟨c.ib, c.gates, zeroTo c.gates g c.lat c.lat.length, zeroTo c.gates g c.outs c.outs.length⟩
theorem zeroed_run {c : Cir} {g : Gt} (h : VC c) (hn : 0 < c.gates.length) (h0 : c.gates.getD 0 default = g) (h4 : g.k ≠ 4) (h5 : g.k ≠ 5) (ins : List Int) : runZ (zeroedC c g) ins = runZ c ins := by
  have rng : ∀ l : List Int, (∀ j, j < l.length → 0 ≤ l.getD j 0 ∧ l.getD j 0 < c.gates.length) → ∀ j, j < (zeroTo c.gates g l l.length).length → 0 ≤ (zeroTo c.gates g l l.length).getD j 0 ∧ (zeroTo c.gates g l l.length).getD j 0 < c.gates.length := by
    intro l hl j hj
    rw [zeroTo_len] at hj
    rw [zeroTo_get _ _ _ _ hj]
    have := hl j hj
    split <;> omega
  have hz : VC (zeroedC c g) := by
    refine ⟨h.i0, h.i1, by simp [zeroedC, zeroTo_len]; exact h.l, by simp [zeroedC, zeroTo_len]; exact h.o, h.g, fun j hj => ?_, rng c.lat h.lr, rng c.outs h.or_⟩
    have := h.ok j hj
    simpa [zeroedC, zeroTo_len] using this
  refine runZ_alike hz h rfl (by simp [zeroedC, zeroTo_len]) (fun lat inp => ?_) (fun lat inp => ?_) ins
  · show numTo (valsZ c lat inp) (zeroTo c.gates g c.outs c.outs.length) (zeroTo c.gates g c.outs c.outs.length).length = _
    rw [zeroTo_len]
    exact numTo_zero h h0 h4 h5 lat inp h.or_ _ (Nat.le_refl _)
  · show numTo (valsZ c lat inp) (zeroTo c.gates g c.lat c.lat.length) (zeroTo c.gates g c.lat c.lat.length).length = _
    rw [zeroTo_len]
    exact numTo_zero h h0 h4 h5 lat inp h.lr _ (Nat.le_refl _)
end Go.Proofs.Ytfabdpnjjondaaa
