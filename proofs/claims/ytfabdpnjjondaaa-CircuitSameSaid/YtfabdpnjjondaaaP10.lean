/-
  The circuit with the needed gates alone: its gates, values, numbers; it is valid and shared.
-/
import Derived.Test.YtfabdpnjjondaaaP9
set_option linter.unusedVariables false
set_option linter.unusedSimpArgs false
namespace Go.Proofs.Ytfabdpnjjondaaa

/-- The number whose bits are the values of some gates. -/
def sumV (lat inp : Int) (gs : GS) (l : List Int) : Nat → Int
  | 0 => 0
  | k + 1 => sumV lat inp gs l k + pow2 k * V lat inp gs (l.getD k 0)
/-- The circuit is shared: its gates differ, and each one is used. -/
def Shared (c : Cir) : Prop := c.gates.Nodup ∧ ∀ m, m < c.gates.length → (∃ i, i < c.lat.length ∧ (c.lat.getD i 0).toNat = m) ∨ (∃ i, i < c.outs.length ∧ (c.outs.getD i 0).toNat = m) ∨ ∃ i, i < c.gates.length ∧ refers (c.gates.getD i default) m
section
variable {ib nl : Int} {gs : GS} {lats outs : List Int}
structure UsedIn (ib nl : Int) (gs : GS) (lats outs : List Int) : Prop where
  ok : Ok ib nl gs
  lr : ∀ j, j < lats.length → 0 ≤ lats.getD j 0 ∧ lats.getD j 0 < gs.length
  or_ : ∀ j, j < outs.length → 0 ≤ outs.getD j 0 ∧ outs.getD j 0 < gs.length
theorem nums_get {num l : List Int} {j : Nat} (h : j < l.length) : (numsTo num l l.length).getD j 0 = num.getD (l.getD j 0).toNat 0 := by
  unfold numsTo
  rw [List.take_length]
  simp [List.getD, h]
theorem used_get (h : UsedIn ib nl gs lats outs) :
    (usedC gs ib lats outs).gates.length = cnt (needOf gs lats outs) gs.length ∧ (usedC gs ib lats outs).lat.length = lats.length ∧ (usedC gs ib lats outs).outs.length = outs.length ∧
    (∀ j, j < gs.length → (needOf gs lats outs).getD j false = true → (usedC gs ib lats outs).gates.getD (cnt (needOf gs lats outs) j) default = renC (needOf gs lats outs) (gs.getD j default)) ∧
    (∀ j, j < lats.length → (usedC gs ib lats outs).lat.getD j 0 = (cnt (needOf gs lats outs) (lats.getD j 0).toNat : Nat)) ∧
    (∀ j, j < outs.length → (usedC gs ib lats outs).outs.getD j 0 = (cnt (needOf gs lats outs) (outs.getD j 0).toNat : Nat)) := by
  obtain ⟨n1, n2, n3, n4⟩ := need_spec h.ok h.lr h.or_
  obtain ⟨k1, k2⟩ := keep_spec h.ok n3 gs.length (Nat.le_refl _)
  refine ⟨k1, numsTo_len _ _ (Nat.le_refl _), numsTo_len _ _ (Nat.le_refl _), fun j hj hn => (k2 j hj hn).2, fun j hj => ?_, fun j hj => ?_⟩
  · show (numsTo _ lats lats.length).getD j 0 = _
    rw [nums_get hj]
    have := h.lr j hj
    exact (k2 _ (by omega) (n1 j hj)).1
  · show (numsTo _ outs outs.length).getD j 0 = _
    rw [nums_get hj]
    have := h.or_ j hj
    exact (k2 _ (by omega) (n2 j hj)).1
theorem used_ok (h : UsedIn ib nl gs lats outs) : Ok ib nl (usedC gs ib lats outs).gates := by
  obtain ⟨n1, n2, n3, n4⟩ := need_spec h.ok h.lr h.or_
  obtain ⟨u1, u2, u3, u4, u5, u6⟩ := used_get h
  intro m hm
  rw [u1] at hm
  obtain ⟨j, hj, hn, rfl⟩ := cnt_surj _ _ hm
  rw [u4 j hj hn]
  have hg := h.ok j hj
  have hr := gateB_range hg
  have hc : ∀ x, refers (gs.getD j default) x → cnt (needOf gs lats outs) x < cnt (needOf gs lats outs) j := fun x hx => cnt_lt (refers_lt h.ok hj hx) (n3 j x hj hn hx)
  unfold renC
  by_cases h4 : (gs.getD j default).k = 4
  · rw [if_pos h4]
    have ha := n3 j _ hj hn (.inl ⟨.inl h4, rfl⟩)
    have hb := hc _ (.inr ⟨h4, rfl⟩)
    have hr4 := hr.1 h4
    have hab := cnt_lt (N := needOf gs lats outs) (show (gs.getD j default).a.toNat < (gs.getD j default).b.toNat by omega) ha
    generalize cnt (needOf gs lats outs) (gs.getD j default).a.toNat = x at hab hb ⊢
    generalize cnt (needOf gs lats outs) (gs.getD j default).b.toNat = y at hab hb ⊢
    simp [gateB]
    omega
  · by_cases h5 : (gs.getD j default).k = 5
    · rw [if_neg h4, if_pos h5]
      have ha := hc _ (.inl ⟨.inr h5, rfl⟩)
      have hb0 : (gs.getD j default).b = 0 := by
        generalize gs.getD j default = g at hg h5
        unfold gateB at hg
        simp [h5] at hg
        exact hg.2
      rw [hb0]
      generalize cnt (needOf gs lats outs) (gs.getD j default).a.toNat = x at ha ⊢
      simp [gateB]
      omega
    · rw [if_neg h4, if_neg h5]
      exact gateB_leaf hg h4 h5
theorem used_V (h : UsedIn ib nl gs lats outs) (lat inp : Int) : ∀ j, j < gs.length → (needOf gs lats outs).getD j false = true → V lat inp (usedC gs ib lats outs).gates (cnt (needOf gs lats outs) j : Nat) = V lat inp gs (j : Nat) := by
  obtain ⟨n1, n2, n3, n4⟩ := need_spec h.ok h.lr h.or_
  obtain ⟨u1, u2, u3, u4, u5, u6⟩ := used_get h
  intro j
  induction j using Nat.strongRecOn with
  | ind j ih =>
    intro hj hn
    have hlt : cnt (needOf gs lats outs) j < (usedC gs ib lats outs).gates.length := by rw [u1]; exact cnt_lt hj hn
    rw [V_gate (used_ok h) (by omega) (by omega), V_gate h.ok (by omega) (by omega), Int.toNat_natCast, Int.toNat_natCast, u4 j hj hn]
    have hr := gateB_range (h.ok j hj)
    have key : ∀ x : Int, 0 ≤ x → refers (gs.getD j default) x.toNat → V lat inp (usedC gs ib lats outs).gates (cnt (needOf gs lats outs) x.toNat : Nat) = V lat inp gs x := fun x h0 hx => by
      have hl := refers_lt h.ok hj hx
      have := ih x.toNat hl (by omega) (n3 j _ hj hn hx)
      rw [this]
      congr 1
      omega
    generalize gs.getD j default = g at hr key ⊢
    unfold renC
    by_cases h4 : g.k = 4
    · rw [if_pos h4, valAt_and]
      have r4 := hr.1 h4
      rw [key g.a (by omega) (.inl ⟨.inl h4, rfl⟩), key g.b (by omega) (.inr ⟨h4, rfl⟩)]
      show _ = valOf lat inp _ g
      unfold valOf
      simp only [h4, show ¬ ((4 : Int) = 2) by omega, show ¬ ((4 : Int) = 3) by omega, if_false, if_true]
      rfl
    · by_cases h5 : g.k = 5
      · rw [if_neg h4, if_pos h5]
        have r5 := hr.2 h5
        have e : valAt lat inp (usedC gs ib lats outs).gates ⟨5, (cnt (needOf gs lats outs) g.a.toNat : Nat), g.b⟩ = 1 - V lat inp (usedC gs ib lats outs).gates (cnt (needOf gs lats outs) g.a.toNat : Nat) := rfl
        rw [e, key g.a (by omega) (.inl ⟨.inr h5, rfl⟩)]
        show _ = valOf lat inp _ g
        unfold valOf
        simp only [h5, show ¬ ((5 : Int) = 2) by omega, show ¬ ((5 : Int) = 3) by omega, show ¬ ((5 : Int) = 4) by omega, if_false, if_true]
        rfl
      · rw [if_neg h4, if_neg h5]
        exact valOf_leaf h4 h5
theorem sum_of (lat inp : Int) {vs gates : List Int} {gs : GS} {l : List Int} (h : ∀ j, j < l.length → vs.getD (gates.getD j 0).toNat 0 = V lat inp gs (l.getD j 0)) : ∀ k, k ≤ l.length → numTo vs gates k = sumV lat inp gs l k
  | 0, _ => rfl
  | k + 1, hk => by rw [numTo, sumV, sum_of lat inp h k (by omega), h k (by omega)]
theorem used_step (h : UsedIn ib nl gs lats outs) (lat inp : Int) : stepC (usedC gs ib lats outs) lat inp = (sumV lat inp gs outs outs.length, sumV lat inp gs lats lats.length) := by
  obtain ⟨n1, n2, n3, n4⟩ := need_spec h.ok h.lr h.or_
  obtain ⟨u1, u2, u3, u4, u5, u6⟩ := used_get h
  have key : ∀ x : Int, 0 ≤ x → x < gs.length → (needOf gs lats outs).getD x.toNat false = true → (valsZ (usedC gs ib lats outs) lat inp).getD (cnt (needOf gs lats outs) x.toNat) 0 = V lat inp gs x := fun x h0 h1 hn => by
    have := used_V h lat inp x.toNat (by omega) hn
    unfold V at this
    rw [Int.toNat_natCast] at this
    unfold valsZ
    rw [this]
    unfold V
    congr 1
  unfold stepC numZ
  rw [u2, u3]
  refine Prod.ext ?_ ?_
  · refine sum_of lat inp (fun j hj => ?_) _ (Nat.le_refl _)
    have := h.or_ j hj
    rw [u6 j hj, Int.toNat_natCast]
    exact key _ this.1 this.2 (n2 j hj)
  · refine sum_of lat inp (fun j hj => ?_) _ (Nat.le_refl _)
    have := h.lr j hj
    rw [u5 j hj, Int.toNat_natCast]
    exact key _ this.1 this.2 (n1 j hj)
theorem used_valid (h : UsedIn ib nl gs lats outs) (hnl : nl = lats.length) (i0 : 0 ≤ ib) (i1 : ib ≤ 6) (hl : lats.length ≤ 12) (ho : outs.length ≤ 6) (hg : gs.length ≤ 20000) : VC (usedC gs ib lats outs) := by
  obtain ⟨n1, n2, n3, n4⟩ := need_spec h.ok h.lr h.or_
  obtain ⟨u1, u2, u3, u4, u5, u6⟩ := used_get h
  have hc := cnt_le (needOf gs lats outs) gs.length
  refine ⟨i0, i1, by rw [u2]; exact hl, by rw [u3]; exact ho, by rw [u1]; omega, fun j hj => ?_, fun j hj => ?_, fun j hj => ?_⟩
  · have := used_ok h j hj
    rw [u2, ← hnl]
    exact this
  · rw [u2] at hj
    have := h.lr j hj
    rw [u5 j hj, u1]
    have := cnt_lt (N := needOf gs lats outs) (show (lats.getD j 0).toNat < gs.length by omega) (n1 j hj)
    omega
  · rw [u3] at hj
    have := h.or_ j hj
    rw [u6 j hj, u1]
    have := cnt_lt (N := needOf gs lats outs) (show (outs.getD j 0).toNat < gs.length by omega) (n2 j hj)
    omega
theorem renC_inj {N : List Bool} {g g' : Gt} {i i' : Int} (hg : gateB ib nl i g = true) (hg' : gateB ib nl i' g' = true) (hn : ∀ x, refers g x → N.getD x false = true) (hn' : ∀ x, refers g' x → N.getD x false = true) (h : renC N g = renC N g') : g = g' := by
  have hr := gateB_range hg
  have hr' := gateB_range hg'
  have kk : ∀ x : Gt, (renC N x).k = x.k := fun x => by
    unfold renC
    split
    · exact (by assumption : x.k = 4).symm
    · split
      · exact (by assumption : x.k = 5).symm
      · rfl
  have hk : g.k = g'.k := by rw [← kk g, ← kk g', h]
  have inj : ∀ x y : Int, 0 ≤ x → 0 ≤ y → N.getD x.toNat false = true → N.getD y.toNat false = true → ((cnt N x.toNat : Nat) : Int) = (cnt N y.toNat : Nat) → x = y := fun x y h0 h1 h2 h3 h4 => by
    have := cnt_inj h2 h3 (by omega)
    omega
  unfold renC at h
  by_cases h4 : g.k = 4
  · have h4' : g'.k = 4 := by rw [← hk]; exact h4
    rw [if_pos h4, if_pos h4'] at h
    injection h with _ ha hb
    have r := hr.1 h4
    have r' := hr'.1 h4'
    have e1 := inj g.a g'.a (by omega) (by omega) (hn _ (.inl ⟨.inl h4, rfl⟩)) (hn' _ (.inl ⟨.inl h4', rfl⟩)) ha
    have e2 := inj g.b g'.b (by omega) (by omega) (hn _ (.inr ⟨h4, rfl⟩)) (hn' _ (.inr ⟨h4', rfl⟩)) hb
    obtain ⟨k, a, b⟩ := g
    obtain ⟨k', a', b'⟩ := g'
    dsimp only at hk e1 e2
    rw [hk, e1, e2]
  · have h4' : ¬ g'.k = 4 := by rw [← hk]; exact h4
    by_cases h5 : g.k = 5
    · have h5' : g'.k = 5 := by rw [← hk]; exact h5
      rw [if_neg h4, if_neg h4', if_pos h5, if_pos h5'] at h
      injection h with _ ha hb
      have r := hr.2 h5
      have r' := hr'.2 h5'
      have e1 := inj g.a g'.a (by omega) (by omega) (hn _ (.inl ⟨.inr h5, rfl⟩)) (hn' _ (.inl ⟨.inr h5', rfl⟩)) ha
      obtain ⟨k, a, b⟩ := g
      obtain ⟨k', a', b'⟩ := g'
      dsimp only at hk e1 hb
      rw [hk, e1, hb]
    · have h5' : ¬ g'.k = 5 := by rw [← hk]; exact h5
      rw [if_neg h4, if_neg h4', if_neg h5, if_neg h5'] at h
      exact h
theorem used_shared (h : UsedIn ib nl gs lats outs) (hf : gs.Nodup) : Shared (usedC gs ib lats outs) := by
  obtain ⟨n1, n2, n3, n4⟩ := need_spec h.ok h.lr h.or_
  obtain ⟨u1, u2, u3, u4, u5, u6⟩ := used_get h
  constructor
  · unfold List.Nodup
    rw [List.pairwise_iff_getElem]
    intro i i' hi hi' hlt he
    have hg : ∀ x (hx : x < (usedC gs ib lats outs).gates.length), (usedC gs ib lats outs).gates[x] = (usedC gs ib lats outs).gates.getD x default := fun x hx => by simp [List.getD, hx]
    rw [hg i hi, hg i' hi'] at he
    rw [u1] at hi hi'
    obtain ⟨j, hj, hn, rfl⟩ := cnt_surj _ _ hi
    obtain ⟨j', hj', hn', rfl⟩ := cnt_surj _ _ hi'
    rw [u4 j hj hn, u4 j' hj' hn'] at he
    have := renC_inj (h.ok j hj) (h.ok j' hj') (fun x hx => n3 j x hj hn hx) (fun x hx => n3 j' x hj' hn' hx) he
    have := nodup_getD hf hj hj' this
    subst this
    omega
  · intro m hm
    rw [u1] at hm
    obtain ⟨j, hj, hn, rfl⟩ := cnt_surj _ _ hm
    rcases n4 j hj hn with ⟨i, hi, rfl⟩ | ⟨i, hi, rfl⟩ | ⟨i, hi, hin, hrf⟩
    · exact .inl ⟨i, by rw [u2]; exact hi, by rw [u5 i hi, Int.toNat_natCast]⟩
    · exact .inr (.inl ⟨i, by rw [u3]; exact hi, by rw [u6 i hi, Int.toNat_natCast]⟩)
    · refine .inr (.inr ⟨cnt (needOf gs lats outs) i, by rw [u1]; exact cnt_lt hi hin, ?_⟩)
      rw [u4 i hi hin]
      unfold renC refers at *
      rcases hrf with ⟨h45, ha⟩ | ⟨h4, hb⟩
      · by_cases h4 : (gs.getD i default).k = 4
        · rw [if_pos h4]
          exact .inl ⟨.inl rfl, by rw [Int.toNat_natCast, ha]⟩
        · have h5 := h45.resolve_left h4
          rw [if_neg h4, if_pos h5]
          exact .inl ⟨.inr rfl, by rw [Int.toNat_natCast, ha]⟩
      · rw [if_pos h4]
        exact .inr ⟨rfl, by rw [Int.toNat_natCast, hb]⟩
end
end Go.Proofs.Ytfabdpnjjondaaa
