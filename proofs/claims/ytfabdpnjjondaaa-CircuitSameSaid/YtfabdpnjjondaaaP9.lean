/-
  The circuit with the needed gates alone: valid, shared, with the same values.
-/
import Derived.Test.YtfabdpnjjondaaaP8
set_option linter.unusedVariables false
set_option linter.unusedSimpArgs false
namespace Go.Proofs.Ytfabdpnjjondaaa

theorem getB_set (l : List Bool) (k : Nat) (x : Bool) (j : Nat) : (l.set k x).getD j false = if j = k ∧ k < l.length then x else l.getD j false := by
  by_cases h : j = k
  · subst h
    by_cases hl : j < l.length
    · simp [List.getD, hl]
    · rw [if_neg (fun x => hl x.2), List.set_eq_of_length_le (by omega)]
  · rw [if_neg (fun x => h x.1)]
    simp [List.getD, List.getElem?_set, Ne.symm h]
/-- Gate g refers to gate j. -/
def refers (g : Gt) (j : Nat) : Prop := ((g.k = 4 ∨ g.k = 5) ∧ g.a.toNat = j) ∨ (g.k = 4 ∧ g.b.toNat = j)
theorem markTo_true {need : List Bool} {l : List Int} : ∀ {k j : Nat}, j < need.length → ((markTo need l k).getD j false = true ↔ need.getD j false = true ∨ ∃ i, i < k ∧ (l.getD i 0).toNat = j)
  | 0, j, hj => by simp [markTo]
  | k + 1, j, hj => by
    rw [markTo, getB_set, markTo_len]
    have ih := markTo_true (l := l) (k := k) hj
    split
    · rename_i h
      exact ⟨fun _ => .inr ⟨k, by omega, h.1.symm⟩, fun _ => rfl⟩
    · rename_i h
      rw [ih]
      constructor
      · rintro (h1 | ⟨i, h1, h2⟩)
        · exact .inl h1
        · exact .inr ⟨i, by omega, h2⟩
      · rintro (h1 | ⟨i, h1, h2⟩)
        · exact .inl h1
        · by_cases e : i = k
          · subst e
            exact absurd ⟨h2.symm, by omega⟩ h
          · exact .inr ⟨i, by omega, h2⟩
section
variable {ib nl : Int} {gs : GS}
theorem step_true (hok : Ok ib nl gs) {need : List Bool} (hl : need.length = gs.length) {i j : Nat} (hi : i < gs.length) (hj : j < gs.length) :
    (needStep gs need i).getD j false = true ↔ need.getD j false = true ∨ (need.getD i false = true ∧ refers (gs.getD i default) j) := by
  have hg := hok i hi
  have hr := gateB_range hg
  unfold needStep refers
  generalize gs.getD i default = g at hg hr ⊢
  split
  · rename_i h
    have hal : g.a.toNat < need.length := by
      rcases h.2 with h4 | h5
      · have := hr.1 h4; omega
      · have := hr.2 h5; omega
    rw [getB_set, List.length_set, getB_set]
    rcases h.2 with h4 | h5
    · have h3 := hr.1 h4
      have hbl : g.b.toNat < need.length := by omega
      simp only [h4, decide_true, Bool.or_true, true_or, true_and, h.1, or_true, hal, hbl, and_true]
      by_cases e1 : j = g.b.toNat
      · rw [if_pos e1]; simp [e1]
      · rw [if_neg e1, getB_set]
        simp only [hal, and_true]
        by_cases e2 : j = g.a.toNat
        · rw [if_pos e2]; simp [e2]
        · rw [if_neg e2]
          constructor
          · exact .inl
          · rintro (h | h | h)
            · exact h
            · exact absurd h.symm e2
            · exact absurd h.symm e1
    · have h4 : g.k ≠ 4 := by omega
      simp only [h5, h.1, true_and, and_true, hal]
      simp only [show ¬ ((5 : Int) = 4) by omega, decide_false, Bool.or_false, false_or, false_and, or_false, or_true, true_and]
      have e0 : (need.set g.a.toNat true).getD g.b.toNat false = if g.b.toNat = g.a.toNat then true else need.getD g.b.toNat false := by
        rw [getB_set]; simp only [hal, and_true]
      have e3 : (need.set g.a.toNat true).getD j false = if j = g.a.toNat then true else need.getD j false := by
        rw [getB_set]; simp only [hal, and_true]
      rw [e3]
      by_cases e2 : j = g.a.toNat
      · rw [if_pos e2]
        by_cases e1 : j = g.b.toNat ∧ g.b.toNat < need.length
        · rw [if_pos e1, if_pos (e1.1.symm.trans e2)]; simp [e2]
        · rw [if_neg e1]; simp [e2]
      · rw [if_neg e2]
        by_cases e1 : j = g.b.toNat ∧ g.b.toNat < need.length
        · rw [if_pos e1, if_neg (fun x => e2 (e1.1.trans x)), ← e1.1]
          constructor
          · exact .inl
          · rintro (h | h)
            · exact h
            · exact absurd h.symm e2
        · rw [if_neg e1]
          constructor
          · exact .inl
          · rintro (h | h)
            · exact h
            · exact absurd h.symm e2
  · rename_i h
    constructor
    · exact .inl
    · rintro (h1 | ⟨h1, h2⟩)
      · exact h1
      · refine absurd ⟨h1, ?_⟩ h
        rcases h2 with h2 | h2
        · exact h2.1
        · exact .inl h2.1
theorem refers_lt (hok : Ok ib nl gs) {i j : Nat} (hi : i < gs.length) (h : refers (gs.getD i default) j) : j < i := by
  have hr := gateB_range (hok i hi)
  rcases h with ⟨h4 | h5, h2⟩ | ⟨h4, h2⟩
  · have := hr.1 h4; omega
  · have := hr.2 h5; omega
  · have := hr.1 h4; omega
theorem down_true (hok : Ok ib nl gs) : ∀ (i : Nat) (need : List Bool), need.length = gs.length → i ≤ gs.length →
    (∀ j, i ≤ j → j < gs.length → (needDown gs i need).getD j false = need.getD j false) ∧ (∀ j, j < gs.length → need.getD j false = true → (needDown gs i need).getD j false = true) ∧
    (∀ i' j, i' < i → (needDown gs i need).getD i' false = true → refers (gs.getD i' default) j → (needDown gs i need).getD j false = true) ∧
    (∀ j, j < gs.length → (needDown gs i need).getD j false = true → need.getD j false = true ∨ ∃ i', i' < i ∧ (needDown gs i need).getD i' false = true ∧ refers (gs.getD i' default) j)
  | 0, need, hl, hi => ⟨fun _ _ _ => rfl, fun _ _ h => h, fun _ _ h => absurd h (Nat.not_lt_zero _), fun _ _ h => .inl h⟩
  | i + 1, need, hl, hi => by
    have hi' : i < gs.length := by omega
    obtain ⟨h1, h2, h3, h4⟩ := down_true hok i (needStep gs need i) (by rw [needStep_len, hl]) (by omega)
    have st : ∀ j, j < gs.length → _ := fun j hj => step_true hok hl hi' hj
    have same : ∀ j, i ≤ j → j < gs.length → ((needStep gs need i).getD j false = true ↔ need.getD j false = true) := fun j hij hj => by
      rw [st j hj]
      constructor
      · rintro (h | ⟨_, h⟩)
        · exact h
        · have := refers_lt hok hi' h; omega
      · exact .inl
    have same' : ∀ j, i ≤ j → j < gs.length → (needStep gs need i).getD j false = need.getD j false := fun j hij hj => by
      rw [Bool.eq_iff_iff]; exact same j hij hj
    rw [needDown]
    refine ⟨fun j hij hj => (h1 j (by omega) hj).trans (same' j (by omega) hj), fun j hj h => h2 j hj ((st j hj).2 (.inl h)), fun i' j hi2 hr hrf => ?_, fun j hj h => ?_⟩
    · by_cases e : i' = i
      · subst e
        have hj := refers_lt hok hi' hrf
        have hn : need.getD i' false = true := by
          rw [h1 i' (Nat.le_refl _) hi', same' i' (Nat.le_refl _) hi'] at hr
          exact hr
        exact h2 j (by omega) ((st j (by omega)).2 (.inr ⟨hn, hrf⟩))
      · exact h3 i' j (by omega) hr hrf
    · rcases h4 j hj h with h5 | ⟨i', h5, h6⟩
      · rcases (st j hj).1 h5 with h6 | ⟨h6, h7⟩
        · exact .inl h6
        · refine .inr ⟨i, by omega, ?_, h7⟩
          rw [h1 i (Nat.le_refl _) hi', same' i (Nat.le_refl _) hi']
          exact h6
      · exact .inr ⟨i', by omega, h6⟩
/-- What is needed: the numbers that latches and outputs refer to, and what these need. -/
theorem need_spec (hok : Ok ib nl gs) {lats outs : List Int} (hl : ∀ j, j < lats.length → 0 ≤ lats.getD j 0 ∧ lats.getD j 0 < gs.length) (ho : ∀ j, j < outs.length → 0 ≤ outs.getD j 0 ∧ outs.getD j 0 < gs.length) :
    (∀ j, j < lats.length → (needOf gs lats outs).getD (lats.getD j 0).toNat false = true) ∧ (∀ j, j < outs.length → (needOf gs lats outs).getD (outs.getD j 0).toNat false = true) ∧
    (∀ i j, i < gs.length → (needOf gs lats outs).getD i false = true → refers (gs.getD i default) j → (needOf gs lats outs).getD j false = true) ∧
    (∀ j, j < gs.length → (needOf gs lats outs).getD j false = true → (∃ i, i < lats.length ∧ (lats.getD i 0).toNat = j) ∨ (∃ i, i < outs.length ∧ (outs.getD i 0).toNat = j) ∨ ∃ i, i < gs.length ∧ (needOf gs lats outs).getD i false = true ∧ refers (gs.getD i default) j) := by
  obtain ⟨h1, h2, h3, h4⟩ := down_true hok gs.length (marks gs lats outs 2) (marks_len _ _ _ _) (Nat.le_refl _)
  have mk : ∀ j, j < gs.length → ((marks gs lats outs 2).getD j false = true ↔ (∃ i, i < lats.length ∧ (lats.getD i 0).toNat = j) ∨ ∃ i, i < outs.length ∧ (outs.getD i 0).toNat = j) := fun j hj => by
    show (markTo (markTo (List.replicate gs.length false) lats lats.length) outs outs.length).getD j false = true ↔ _
    rw [markTo_true (by rw [markTo_len]; simpa using hj), markTo_true (by simpa using hj)]
    have : (List.replicate gs.length false).getD j false = false := by simp [List.getD, hj]
    rw [this]
    simp
  refine ⟨fun j hj => ?_, fun j hj => ?_, h3, fun j hj h => ?_⟩
  · have := hl j hj
    exact h2 _ (by omega) ((mk _ (by omega)).2 (.inl ⟨j, hj, rfl⟩))
  · have := ho j hj
    exact h2 _ (by omega) ((mk _ (by omega)).2 (.inr ⟨j, hj, rfl⟩))
  · rcases h4 j hj h with h5 | h5
    · rcases (mk j hj).1 h5 with h6 | h6
      · exact .inl h6
      · exact .inr (.inl h6)
    · exact .inr (.inr h5)
end

/-- The number of needed gates below i. -/
def cnt (N : List Bool) : Nat → Nat
  | 0 => 0
  | i + 1 => cnt N i + if N.getD i false = true then 1 else 0
theorem cnt_mono (N : List Bool) {i j : Nat} (h : i ≤ j) : cnt N i ≤ cnt N j := by
  induction j with
  | zero => obtain rfl : i = 0 := by omega
            exact Nat.le_refl _
  | succ j ih =>
    by_cases e : i = j + 1
    · subst e; exact Nat.le_refl _
    · have := ih (by omega)
      rw [cnt]; omega
theorem cnt_lt {N : List Bool} {i j : Nat} (h : i < j) (hi : N.getD i false = true) : cnt N i < cnt N j := by
  have := cnt_mono N (show i + 1 ≤ j by omega)
  rw [cnt, if_pos hi] at this
  omega
theorem cnt_inj {N : List Bool} {i j : Nat} (hi : N.getD i false = true) (hj : N.getD j false = true) (h : cnt N i = cnt N j) : i = j := by
  rcases Nat.lt_trichotomy i j with h1 | h1 | h1
  · have := cnt_lt h1 hi; omega
  · exact h1
  · have := cnt_lt h1 hj; omega
theorem cnt_surj {N : List Bool} : ∀ (n m : Nat), m < cnt N n → ∃ j, j < n ∧ N.getD j false = true ∧ cnt N j = m
  | 0, m, h => by simp [cnt] at h
  | n + 1, m, h => by
    by_cases e : m < cnt N n
    · obtain ⟨j, h1, h2⟩ := cnt_surj n m e
      exact ⟨j, by omega, h2⟩
    · rw [cnt] at h
      by_cases hn : N.getD n false = true
      · rw [if_pos hn] at h
        exact ⟨n, by omega, hn, by omega⟩
      · rw [if_neg hn] at h; omega
theorem cnt_le (N : List Bool) : ∀ n, cnt N n ≤ n
  | 0 => Nat.le_refl _
  | n + 1 => by
    have := cnt_le N n
    rw [cnt]; split <;> omega
/-- A gate with the new numbers. -/
def renC (N : List Bool) (g : Gt) : Gt := if g.k = 4 then ⟨4, cnt N g.a.toNat, cnt N g.b.toNat⟩ else if g.k = 5 then ⟨5, cnt N g.a.toNat, g.b⟩ else g
section
variable {ib nl : Int} {gs : GS} {N : List Bool}
theorem keep_spec (hok : Ok ib nl gs) (hc : ∀ i j, i < gs.length → N.getD i false = true → refers (gs.getD i default) j → N.getD j false = true) : ∀ i, i ≤ gs.length →
    (keepTo gs N i).2.length = cnt N i ∧ (∀ j, j < i → N.getD j false = true → (keepTo gs N i).1.getD j 0 = (cnt N j : Nat) ∧ (keepTo gs N i).2.getD (cnt N j) default = renC N (gs.getD j default))
  | 0, _ => ⟨rfl, fun j hj => absurd hj (Nat.not_lt_zero _)⟩
  | i + 1, hi => by
    have hi' : i < gs.length := by omega
    obtain ⟨h1, h2⟩ := keep_spec hok hc i (by omega)
    have hkl := keepTo_len gs N i
    rw [keepTo, cnt]
    split
    · rename_i hn
      dsimp only
      refine ⟨by simp [h1], fun j hj hjn => ?_⟩
      by_cases e : j = i
      · subst e
        refine ⟨by rw [getD_set _ _ _ (by omega), if_pos rfl, h1], ?_⟩
        rw [getD_snoc, if_neg (by omega), if_pos h1.symm]
        have hr := gateB_range (hok j hi')
        have key : ∀ x, refers (gs.getD j default) x → ((keepTo gs N j).1.set j ((keepTo gs N j).2.length : Int)).getD x 0 = (cnt N x : Nat) := fun x hx => by
          have hxl := refers_lt hok hi' hx
          rw [getD_set _ _ _ (by omega), if_neg (by omega)]
          exact (h2 x hxl (hc j x hi' hn hx)).1
        unfold ren renC
        by_cases h4 : (gs.getD j default).k = 4
        · rw [if_pos h4, if_pos h4, key _ (.inl ⟨.inl h4, rfl⟩), key _ (.inr ⟨h4, rfl⟩)]
        · by_cases h5 : (gs.getD j default).k = 5
          · rw [if_neg h4, if_pos h5, if_neg h4, if_pos h5, key _ (.inl ⟨.inr h5, rfl⟩)]
          · rw [if_neg h4, if_neg h5, if_neg h4, if_neg h5]
      · have hj' : j < i := by omega
        obtain ⟨h3, h4⟩ := h2 j hj' hjn
        refine ⟨by rw [getD_set _ _ _ (by omega), if_neg e]; exact h3, ?_⟩
        rw [getD_snoc, if_pos (by rw [h1]; exact cnt_lt hj' hjn)]
        exact h4
    · rename_i hn
      refine ⟨by omega, fun j hj hjn => ?_⟩
      by_cases e : j = i
      · subst e; exact absurd hjn hn
      · exact h2 j (by omega) hjn
end
end Go.Proofs.Ytfabdpnjjondaaa
