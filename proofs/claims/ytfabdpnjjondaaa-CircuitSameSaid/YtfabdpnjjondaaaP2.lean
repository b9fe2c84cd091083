/-
  How many gates there are: each choice adds at most three conjunctions; there are no more negations than other gates.
-/
import Derived.Test.YtfabdpnjjondaaaP1
set_option linter.unusedVariables false
set_option linter.unusedSimpArgs false
namespace Go.Proofs.Ytfabdpnjjondaaa

theorem idxOf_app_mem {α : Type} [DecidableEq α] {l t : List α} {a : α} (h : a ∈ l) : (l ++ t).idxOf a = l.idxOf a := by
  rw [List.idxOf_append, if_pos h]
theorem idxOf_app_new {α : Type} [DecidableEq α] {l t : List α} {a : α} (h : a ∉ l) : (l ++ t).idxOf a = t.idxOf a + l.length := by
  rw [List.idxOf_append, if_neg h]
theorem add_mem {gs : GS} {g : Gt} (h : g ∈ gs) : addG gs g = (((gs.idxOf g : Nat) : Int), gs) := if_pos h
theorem add_pre {gs hs : GS} {g : Gt} (h : g ∈ gs) (hp : gs <+: hs) : addG hs g = (((gs.idxOf g : Nat) : Int), hs) := by
  obtain ⟨t, rfl⟩ := hp
  rw [add_mem (List.mem_append_left _ h), idxOf_app_mem h]
theorem add_has (gs : GS) (g : Gt) : g ∈ (addG gs g).2 ∧ (addG gs g).1 = (((addG gs g).2.idxOf g : Nat) : Int) := by
  unfold addG
  split
  · exact ⟨‹_›, rfl⟩
  · rename_i h
    refine ⟨by simp, ?_⟩
    dsimp only
    rw [idxOf_app_new h]
    simp

/-- The two constants are there. -/
structure C (gs : GS) (no yes : Int) : Prop where
  f : (⟨1, 0, 0⟩ : Gt) ∈ gs
  fi : no = ((gs.idxOf ⟨1, 0, 0⟩ : Nat) : Int)
  t : (⟨5, no, 0⟩ : Gt) ∈ gs
  ti : yes = ((gs.idxOf ⟨5, no, 0⟩ : Nat) : Int)
section
variable {gs hs : GS} {no yes : Int}
theorem C.pre (h : C gs no yes) (hp : gs <+: hs) : C hs no yes := by
  obtain ⟨t, rfl⟩ := hp
  exact ⟨List.mem_append_left _ h.f, by rw [idxOf_app_mem h.f]; exact h.fi, List.mem_append_left _ h.t, by rw [idxOf_app_mem h.t]; exact h.ti⟩
theorem C.at_no (h : C gs no yes) : gs.getD no.toNat default = ⟨1, 0, 0⟩ := by rw [h.fi, Int.toNat_natCast]; exact getD_idxOf h.f
theorem C.at_yes (h : C gs no yes) : gs.getD yes.toNat default = ⟨5, no, 0⟩ := by rw [h.ti, Int.toNat_natCast]; exact getD_idxOf h.t
theorem C.no_ne (h : C gs no yes) : no ≠ yes := fun e => by
  have h1 := h.at_no
  rw [e, h.at_yes] at h1
  injection h1 with h1
  omega
theorem C.const0 (h : C gs no yes) : constG gs 0 = (no, gs) := by
  unfold constG
  rw [if_neg (by decide), add_mem h.f, ← h.fi]
theorem C.not_no (h : C gs no yes) : notG gs no = (yes, gs) := by
  unfold notG
  rw [if_neg (by rw [h.at_no]; decide), add_mem h.t, ← h.ti]
theorem C.not_yes (h : C gs no yes) : notG gs yes = (no, gs) := by
  unfold notG
  rw [h.at_yes]; rfl
theorem C.const1 (h : C gs no yes) : constG gs 1 = (yes, gs) := by
  unfold constG
  rw [if_pos rfl, add_mem h.f, ← h.fi]
  exact h.not_no
theorem C.of_const (gs : GS) (hok : ∃ ib nl, Ok ib nl gs) : ∃ no, C (constG gs 1).2 no (constG gs 1).1 := by
  obtain ⟨ib, nl, hok⟩ := hok
  obtain ⟨hm, hi⟩ := add_has gs ⟨1, 0, 0⟩
  refine ⟨(addG gs ⟨1, 0, 0⟩).1, ?_⟩
  have hk : ((addG gs ⟨1, 0, 0⟩).2.getD (addG gs ⟨1, 0, 0⟩).1.toNat default) = ⟨1, 0, 0⟩ := by
    rw [hi, Int.toNat_natCast]; exact getD_idxOf hm
  have e : constG gs 1 = addG (addG gs ⟨1, 0, 0⟩).2 ⟨5, (addG gs ⟨1, 0, 0⟩).1, 0⟩ := by
    unfold constG notG
    rw [if_pos rfl, if_neg (by rw [hk]; decide)]
  rw [e]
  obtain ⟨hm2, hi2⟩ := add_has (addG gs ⟨1, 0, 0⟩).2 ⟨5, (addG gs ⟨1, 0, 0⟩).1, 0⟩
  have hp : (addG gs ⟨1, 0, 0⟩).2 <+: (addG (addG gs ⟨1, 0, 0⟩).2 ⟨5, (addG gs ⟨1, 0, 0⟩).1, 0⟩).2 := by
    generalize addG gs ⟨1, 0, 0⟩ = r
    unfold addG
    split
    · exact List.prefix_rfl
    · exact List.prefix_append _ _
  refine ⟨hp.subset hm, ?_, hm2, hi2⟩
  obtain ⟨t, ht⟩ := hp
  rw [← ht, idxOf_app_mem hm]
  exact hi
theorem C.and (h : C gs no yes) (x y : Int) : andG gs [x, y] = andStep no (x, gs) y := by
  show andStep (constG gs 0).1 (andStep (constG gs 0).1 (constG (constG gs 0).2 1) x) y = _
  rw [h.const0]
  dsimp only
  rw [h.const1]
  congr 1
  unfold andStep
  dsimp only
  rw [h.not_no]
  dsimp only
  rw [h.not_no]
  dsimp only
  split
  · rename_i e; rw [e]
  · rw [if_pos rfl]
theorem C.andStep (h : C gs no yes) (x y : Int) : andStep no (x, gs) y = if y = x then (x, gs) else if y = yes then (x, gs) else if x = yes then (y, gs) else if y = no then (no, gs) else if x = no then (no, gs) else
    if y = (notG gs x).1 then (no, (notG gs x).2) else addG (notG gs x).2 ⟨4, min y x, max y x⟩ := by
  unfold Go.Proofs.Ytfabdpnjjondaaa.andStep
  dsimp only
  rw [h.not_no]
  dsimp only
  rw [h.not_no]
end

/-- The number of conjunctions, of negations, of other gates. -/
def cA (gs : GS) : Nat := gs.countP fun g => decide (g.k = 4)
def cN (gs : GS) : Nat := gs.countP fun g => decide (g.k = 5)
def cO (gs : GS) : Nat := gs.countP fun g => !decide (g.k = 4) && !decide (g.k = 5)
theorem c_sum : ∀ gs : GS, gs.length = cA gs + cN gs + cO gs
  | [] => rfl
  | g :: gs => by
    have := c_sum gs
    unfold cA cN cO at this ⊢
    simp only [List.length_cons, List.countP_cons]
    by_cases h4 : g.k = 4
    · simp [h4]; omega
    · by_cases h5 : g.k = 5
      · simp [h5]; omega
      · simp [h4, h5]; omega
theorem cA_add (gs : GS) (g : Gt) : cA (addG gs g).2 ≤ cA gs + 1 ∧ (g.k ≠ 4 → cA (addG gs g).2 = cA gs) := by
  unfold addG cA
  split
  · exact ⟨by simp, fun _ => rfl⟩
  · simp only [List.countP_append, List.countP_cons, List.countP_nil]
    constructor
    · split <;> omega
    · intro h; simp [h]
theorem cA_not (gs : GS) (a : Int) : cA (notG gs a).2 = cA gs := by
  unfold notG
  split
  · rfl
  · exact (cA_add gs _).2 (show ¬ (5 : Int) = 4 by decide)
theorem cA_const (gs : GS) (v : Int) : cA (constG gs v).2 = cA gs := by
  have h := (cA_add gs ⟨1, 0, 0⟩).2 (by decide)
  unfold constG
  split
  · rw [cA_not, h]
  · exact h
/-- What may come beside conjunctions and negations: the constant. -/
def pO (gs : GS) : Nat := cO gs + if (⟨1, 0, 0⟩ : Gt) ∈ gs then 0 else 1
theorem pO_add (gs : GS) (g : Gt) (h : g.k = 4 ∨ g.k = 5 ∨ g = ⟨1, 0, 0⟩) : pO (addG gs g).2 = pO gs := by
  unfold addG
  split
  · rfl
  · rename_i hm
    unfold pO cO
    simp only [List.countP_append, List.countP_cons, List.countP_nil, List.mem_append, List.mem_singleton]
    rcases h with h | h | h
    · have : ¬ (⟨1, 0, 0⟩ : Gt) = g := fun e => by rw [← e] at h; exact absurd h (by decide)
      simp [h, this]
    · have : ¬ (⟨1, 0, 0⟩ : Gt) = g := fun e => by rw [← e] at h; exact absurd h (by decide)
      simp [h, this]
    · subst h
      simp [hm]
theorem pO_not (gs : GS) (a : Int) : pO (notG gs a).2 = pO gs := by
  unfold notG
  split
  · rfl
  · exact pO_add gs _ (.inr (.inl rfl))
theorem pO_const (gs : GS) (v : Int) : pO (constG gs v).2 = pO gs := by
  have h := pO_add gs ⟨1, 0, 0⟩ (.inr (.inr rfl))
  unfold constG
  split
  · rw [pO_not, h]
  · exact h

/-- No gate stands twice, no negation negates a negation. -/
structure Fine (gs : GS) : Prop where
  nd : gs.Nodup
  nn : ∀ j, j < gs.length → (gs.getD j default).k = 5 → 0 ≤ (gs.getD j default).a ∧ (gs.getD j default).a < j ∧ (gs.getD (gs.getD j default).a.toNat default).k ≠ 5
theorem Fine.add {gs : GS} (h : Fine gs) (g : Gt) (hg : g.k = 5 → 0 ≤ g.a ∧ g.a < gs.length ∧ (gs.getD g.a.toNat default).k ≠ 5) : Fine (addG gs g).2 := by
  unfold addG
  split
  · exact h
  · rename_i hm
    refine ⟨?_, fun j hj hk => ?_⟩
    · rw [List.nodup_append]
      refine ⟨h.nd, by simp, ?_⟩
      intro a ha b hb e
      simp at hb
      subst hb e
      exact hm ha
    · dsimp only at hj hk ⊢
      simp only [List.length_append, List.length_singleton] at hj
      rw [getD_snoc] at hk ⊢
      by_cases hjl : j < gs.length
      · rw [if_pos hjl] at hk ⊢
        have := h.nn j hjl hk
        refine ⟨this.1, this.2.1, ?_⟩
        rw [getD_snoc, if_pos (by omega)]
        exact this.2.2
      · rw [if_neg hjl, if_pos (by omega)] at hk ⊢
        have := hg hk
        refine ⟨this.1, by omega, ?_⟩
        rw [getD_snoc, if_pos (by omega)]
        exact this.2.2
theorem Fine.not {gs : GS} (h : Fine gs) {a : Int} (h0 : 0 ≤ a) (h1 : a < gs.length) : Fine (notG gs a).2 := by
  unfold notG
  split
  · exact h
  · rename_i hk
    exact h.add _ fun _ => ⟨h0, h1, hk⟩
theorem Fine.const {gs : GS} (h : Fine gs) {ib nl : Int} (hok : Ok ib nl gs) (v : Int) : Fine (constG gs v).2 := by
  have h1 : Up ib nl gs (addG gs ⟨1, 0, 0⟩) := add_up hok (by simp [gateB])
  have h2 : Fine (addG gs ⟨1, 0, 0⟩).2 := h.add _ fun h => absurd h (by decide)
  unfold constG
  split
  · exact h2.not h1.lo h1.hi
  · exact h2

/-- What the growth of a list keeps: it stays fine, the constant alone comes beside conjunctions and negations, of which at most n come. -/
structure Gr (n : Nat) (gs hs : GS) : Prop where
  fine : Fine gs → Fine hs
  po : pO hs = pO gs
  ca : cA hs ≤ cA gs + n
theorem Gr.refl (gs : GS) : Gr 0 gs gs := ⟨id, rfl, Nat.le_refl _⟩
theorem Gr.trans {n m : Nat} {gs hs ks : GS} (h : Gr n gs hs) (k : Gr m hs ks) : Gr (n + m) gs ks := ⟨fun x => k.fine (h.fine x), k.po.trans h.po, by have := h.ca; have := k.ca; omega⟩
theorem Gr.mono {n m : Nat} {gs hs : GS} (h : Gr n gs hs) (hm : n ≤ m) : Gr m gs hs := ⟨h.fine, h.po, by have := h.ca; omega⟩
section
variable {ib nl : Int} {gs : GS} {no yes : Int}
theorem not_gr {a : Int} (h0 : 0 ≤ a) (h1 : a < gs.length) : Gr 0 gs (notG gs a).2 := ⟨fun h => h.not h0 h1, pO_not gs a, by rw [cA_not]; omega⟩
theorem const_gr (h : Ok ib nl gs) (v : Int) : Gr 0 gs (constG gs v).2 := ⟨fun hf => hf.const h v, pO_const gs v, by rw [cA_const]; omega⟩
theorem and_gr (h : Ok ib nl gs) (hc : C gs no yes) {x y : Int} (x0 : 0 ≤ x) (x1 : x < gs.length) : Gr 1 gs (andG gs [x, y]).2 ∧ (y = yes → (andG gs [x, y]).2 = gs) := by
  rw [hc.and, hc.andStep]
  have hz := not_gr (gs := gs) x0 x1
  constructor
  · split
    · exact (Gr.refl _).mono (by omega)
    split
    · exact (Gr.refl _).mono (by omega)
    split
    · exact (Gr.refl _).mono (by omega)
    split
    · exact (Gr.refl _).mono (by omega)
    split
    · exact (Gr.refl _).mono (by omega)
    split
    · exact hz.mono (by omega)
    · exact (hz.trans (m := 1) ⟨fun hf => hf.add _ fun h => absurd h (by show ¬ (4 : Int) = 5; decide), pO_add _ _ (.inl rfl), (cA_add _ _).1⟩).mono (by omega)
  · intro hy
    subst hy
    split
    · rfl
    · simp
theorem or_gr (h : Ok ib nl gs) (hc : C gs no yes) {x y : Int} (x0 : 0 ≤ x) (x1 : x < gs.length) (y0 : 0 ≤ y) (y1 : y < gs.length) : Gr 1 gs (orG gs [x, y]).2 ∧ (y = no → Gr 0 gs (orG gs [x, y]).2) := by
  have hx := not_up h x0 x1
  have hlx := hx.len
  have hy := not_up hx.ok y0 (a := y) (by omega)
  have hly := hy.len
  have hxh := hx.hi
  have ha := and_up hy.ok _ (two_range hx.lo (by omega) hy.lo hy.hi)
  have hc2 := hc.pre (hx.pre.trans hy.pre)
  have hag := and_gr (x := (notG gs x).1) (y := (notG (notG gs x).2 y).1) hy.ok hc2 hx.lo (by omega)
  have hnx := not_gr (gs := gs) x0 x1
  have hny := not_gr (gs := (notG gs x).2) (a := y) y0 (by omega)
  have hn := not_gr ha.lo ha.hi
  constructor
  · exact ((hnx.trans hny).trans (hag.1.trans hn)).mono (by omega)
  · intro e
    have e2 : (notG (notG gs x).2 y).1 = yes := by rw [e, (hc.pre hx.pre).not_no]
    have e3 := hag.2 e2
    show Gr 0 gs (notG (andG (notG (notG gs x).2 y).2 [(notG gs x).1, (notG (notG gs x).2 y).1]).2 _).2
    refine ((hnx.trans hny).trans (Gr.trans (n := 0) ?_ hn)).mono (by omega)
    rw [e3]
    exact Gr.refl _
theorem choose_gr (h : Ok ib nl gs) {a zero one : Int} (a0 : 0 ≤ a) (a1 : a < gs.length) (z0 : 0 ≤ zero) (z1 : zero < gs.length) (o0 : 0 ≤ one) (o1 : one < gs.length) :
    Gr 3 gs (chooseG gs a zero one).2 ∧ (∀ no, C (constG gs 1).2 no (constG gs 1).1 → (zero = no ∧ one = (constG gs 1).1 ∨ zero = (constG gs 1).1 ∧ one = no) → Gr 0 gs (chooseG gs a zero one).2) := by
  have hy := const_up h 1
  have hly := hy.len
  have hn := not_up hy.ok a0 (a := a) (by omega)
  have hln := hn.len
  have hn0 := hn.lo
  have hn1 := hn.hi
  obtain ⟨no, hc⟩ := C.of_const gs ⟨ib, nl, h⟩
  have hcg := const_gr h 1
  have hng := not_gr (gs := (constG gs 1).2) (a := a) a0 (by omega)
  have hcn := hc.pre hn.pre
  constructor
  · unfold chooseG
    dsimp only
    split
    · exact hcg.mono (by omega)
    split
    · exact ((hcg.trans hng).trans (or_gr hn.ok hcn hn.lo hn.hi o0 (by omega)).1).mono (by omega)
    split
    · exact (hcg.trans (or_gr hy.ok hc a0 (by omega) z0 (by omega)).1).mono (by omega)
    · have hx := and_up hn.ok _ (two_range hn.lo hn.hi z0 (b := zero) (by omega))
      have hlx := hx.len
      have hyy := and_up hx.ok _ (two_range a0 (a := a) (by omega) o0 (b := one) (by omega))
      have hlyy := hyy.len
      have hx1 := hx.hi
      have g1 := (and_gr (x := (notG (constG gs 1).2 a).1) (y := zero) hn.ok hcn hn.lo hn.hi).1
      have g2 := (and_gr (x := a) (y := one) hx.ok (hcn.pre hx.pre) a0 (by omega)).1
      have g3 := (or_gr hyy.ok ((hcn.pre hx.pre).pre hyy.pre) hx.lo (by omega) hyy.lo hyy.hi).1
      exact (((hcg.trans hng).trans g1).trans (g2.trans g3)).mono (by omega)
  · intro no' hc' hzo
    have hnn : no' = no := by rw [hc'.fi, hc.fi]
    subst hnn
    have hne := hc.no_ne
    unfold chooseG
    dsimp only
    rcases hzo with ⟨rfl, rfl⟩ | ⟨rfl, rfl⟩
    · rw [if_neg hne, if_neg hne, if_pos rfl]
      exact (hcg.trans ((or_gr hy.ok hc a0 (by omega) z0 (by omega)).2 rfl)).mono (by omega)
    · rw [if_neg (fun e => hne e.symm), if_pos rfl]
      exact ((hcg.trans hng).trans ((or_gr hn.ok hcn hn.lo hn.hi o0 (by omega)).2 rfl)).mono (by omega)
end

/-- The number of pairs of neighbours of which one is not free. -/
def blk : Nat → List Int → Nat
  | n + 2, cells => blk (n + 1) (cells.take (cells.length / 2)) + blk (n + 1) (cells.drop (cells.length / 2))
  | _, cells => if emptyB cells then 0 else 1
theorem emptyB_iff {cells : List Int} : emptyB cells = true ↔ ∀ j, j < cells.length → cells.getD j 0 = -1 := by
  unfold emptyB
  rw [allN_true]
  simp
theorem emptyB_take_drop {cells : List Int} (q : Nat) : emptyB cells = (emptyB (cells.take q) && emptyB (cells.drop q)) := by
  rw [Bool.eq_iff_iff, Bool.and_eq_true, emptyB_iff, emptyB_iff, emptyB_iff]
  constructor
  · intro h
    refine ⟨fun j hj => ?_, fun j hj => ?_⟩
    · rw [List.length_take] at hj
      rw [getD_take _ _ (by omega)]; exact h j (by omega)
    · rw [List.length_drop] at hj
      have := h (q + j) (by omega)
      simpa [List.getD] using this
  · rintro ⟨h1, h2⟩ j hj
    by_cases hq : j < q
    · have := h1 j (by rw [List.length_take]; omega)
      rwa [getD_take _ _ hq] at this
    · have := h2 (j - q) (by rw [List.length_drop]; omega)
      simp only [List.getD, List.getElem?_drop] at this
      rw [show q + (j - q) = j by omega] at this
      exact this
theorem blk_empty : ∀ (n : Nat) (cells : List Int), emptyB cells = true → blk n cells = 0
  | 0, cells, h => by simp [blk, h]
  | 1, cells, h => by simp [blk, h]
  | n + 2, cells, h => by
    rw [emptyB_take_drop (cells.length / 2), Bool.and_eq_true] at h
    rw [blk, blk_empty (n + 1) _ h.1, blk_empty (n + 1) _ h.2]
theorem blk_pos : ∀ (n : Nat) (cells : List Int), emptyB cells = false → 1 ≤ blk n cells
  | 0, cells, h => by simp [blk, h]
  | 1, cells, h => by simp [blk, h]
  | n + 2, cells, h => by
    rw [emptyB_take_drop (cells.length / 2), Bool.and_eq_false_iff] at h
    rw [blk]
    rcases h with h | h
    · have := blk_pos (n + 1) _ h; omega
    · have := blk_pos (n + 1) _ h; omega
theorem some_one (x y : Int) : someB x [y] = decide (y = x) := by simp [someB]
theorem build_gr {ib nl : Int} : ∀ (n : Nat) (vars : List Int) (gs : GS) (cells : List Int), vars.length = n → Ok ib nl gs → (∀ j, j < vars.length → 0 ≤ vars.getD j 0 ∧ vars.getD j 0 < gs.length) → cells.length = 2 ^ n →
    (∀ j, j < cells.length → cells.getD j 0 = -1 ∨ cells.getD j 0 = 0 ∨ cells.getD j 0 = 1) → Gr (3 * (blk n cells - 1)) gs (buildG gs cells vars).2
  | 0, vars, gs, cells, hn, h, hv, hlen, hc => by
    obtain rfl : vars = [] := List.eq_nil_of_length_eq_zero hn
    exact (const_gr h _).mono (by omega)
  | 1, vars, gs, cells, hn, h, hv, hlen, hc => by
    match vars, hn, cells, hlen with
    | [v], _, [x, y], _ =>
      have hv0 := hv 0 (by simp)
      simp only [List.getD_cons_zero] at hv0
      have hx := hc 0 (by simp)
      have hy := hc 1 (by simp)
      simp only [List.getD_cons_zero, List.getD_cons_succ] at hx hy
      unfold buildG
      split
      · rename_i hs
        have hxy : x = 0 ∧ y = 1 ∨ x = 1 ∧ y = 0 := by
          simp only [someB, List.any_cons, List.any_nil, Bool.or_false, Bool.and_eq_true, Bool.or_eq_true, decide_eq_true_eq] at hs
          omega
        dsimp only [List.length_cons, List.length_nil, Nat.reduceAdd, Nat.reduceDiv, List.take_succ_cons, List.take_zero, List.drop_succ_cons, List.drop_zero]
        have ex : emptyB [x] = false := by rcases hxy with h | h <;> rw [h.1] <;> rfl
        have ey : emptyB [y] = false := by rcases hxy with h | h <;> rw [h.2] <;> rfl
        rw [show List.drop 1 [x, y] = [y] from rfl, ex, ey]
        simp only [Bool.false_eq_true, if_false, buildG, some_one]
        have h1 := const_up h (if (decide (x = 1)) = true then 1 else 0)
        have hl1 := h1.len
        have h2 := const_up h1.ok (if (decide (y = 1)) = true then 1 else 0)
        have hl2 := h2.len
        have hh1 := h1.hi
        have g12 := (const_gr h (if (decide (x = 1)) = true then 1 else 0)).trans (const_gr h1.ok (if (decide (y = 1)) = true then 1 else 0))
        have hch := (choose_gr h2.ok hv0.1 (a := v) (by omega) h1.lo (by omega) h2.lo h2.hi).2
        obtain ⟨no, hcc⟩ := C.of_const _ ⟨ib, nl, h2.ok⟩
        refine (g12.trans (hch no hcc ?_)).mono (by omega)
        have hk0 : ∀ (ks : GS), ks <+: (constG (constG gs (if (decide (x = 1)) = true then 1 else 0)).2 (if (decide (y = 1)) = true then 1 else 0)).2 → (constG ks 0).2 <+: (constG (constG gs (if (decide (x = 1)) = true then 1 else 0)).2 (if (decide (y = 1)) = true then 1 else 0)).2 → Ok ib nl ks → (constG ks 0).1 = no := by
          intro ks _ hp _
          have e0 : constG ks 0 = addG ks ⟨1, 0, 0⟩ := by unfold constG; rw [if_neg (by decide)]
          rw [e0] at hp ⊢
          obtain ⟨hm, hi⟩ := add_has ks ⟨1, 0, 0⟩
          have hp2 := hp.trans (const_up h2.ok 1).pre
          rw [hi, hcc.fi]
          obtain ⟨t, ht⟩ := hp2
          rw [← ht, idxOf_app_mem hm]
        have hk1 : ∀ (ks : GS), (constG ks 1).2 <+: (constG (constG gs (if (decide (x = 1)) = true then 1 else 0)).2 (if (decide (y = 1)) = true then 1 else 0)).2 → Ok ib nl ks → (constG ks 1).1 = (constG (constG (constG gs (if (decide (x = 1)) = true then 1 else 0)).2 (if (decide (y = 1)) = true then 1 else 0)).2 1).1 := by
          intro ks hp hok
          obtain ⟨no2, hc2⟩ := C.of_const ks ⟨ib, nl, hok⟩
          have := (hc2.pre hp).const1
          rw [this]
        rcases hxy with ⟨rfl, rfl⟩ | ⟨rfl, rfl⟩
        · left
          exact ⟨hk0 gs (h1.pre.trans h2.pre) h2.pre h, hk1 _ List.prefix_rfl h1.ok⟩
        · right
          exact ⟨hk1 gs h2.pre h, hk0 _ h2.pre List.prefix_rfl h1.ok⟩
      · exact (const_gr h _).mono (by omega)
  | n + 2, v :: vs, gs, cells, hn, h, hv, hlen, hc => by
    have hv0 := hv 0 (by simp)
    simp only [List.getD_cons_zero] at hv0
    have hvs : ∀ j, j < vs.length → 0 ≤ vs.getD j 0 ∧ vs.getD j 0 < gs.length := fun j hj => by simpa using hv (j + 1) (by simpa using hj)
    have hvl : vs.length = n + 1 := by simpa using hn
    have hp : 0 < 2 ^ (n + 1) := Nat.two_pow_pos _
    have hq : cells.length / 2 = 2 ^ (n + 1) := by rw [hlen, show n + 2 = (n + 1) + 1 from rfl, Nat.pow_succ]; omega
    have hcl : cells.length = 2 * 2 ^ (n + 1) := by rw [hlen, show n + 2 = (n + 1) + 1 from rfl, Nat.pow_succ]; omega
    unfold buildG
    split
    · dsimp only
      rw [blk, hq]
      have hz := build_up vs gs (cells.take (2 ^ (n + 1))) h hvs
      have hlz := hz.len
      have hvs2 : ∀ j, j < vs.length → 0 ≤ vs.getD j 0 ∧ vs.getD j 0 < (buildG gs (cells.take (2 ^ (n + 1))) vs).2.length := fun j hj => ⟨(hvs j hj).1, by have := (hvs j hj).2; omega⟩
      have ho := build_up vs (buildG gs (cells.take (2 ^ (n + 1))) vs).2 (cells.drop (2 ^ (n + 1))) hz.ok hvs2
      have hlo := ho.len
      have h1 := hz.lo
      have h2 := hz.hi
      have h3 := ho.lo
      have h4 := ho.hi
      have gz := build_gr (n + 1) vs gs (cells.take (2 ^ (n + 1))) hvl h hvs (by rw [List.length_take]; omega) (fun j hj => by
        rw [List.length_take] at hj
        rw [getD_take _ _ (by omega)]; exact hc j (by omega))
      have go := build_gr (n + 1) vs _ (cells.drop (2 ^ (n + 1))) hvl hz.ok hvs2 (by rw [List.length_drop]; omega) (fun j hj => by
        rw [List.length_drop] at hj
        have := hc (2 ^ (n + 1) + j) (by omega)
        simpa [List.getD] using this)
      split
      · rename_i he
        exact (gz.trans go).mono (by rw [blk_empty _ _ he]; omega)
      split
      · rename_i he
        exact (gz.trans go).mono (by rw [blk_empty (n + 1) (cells.drop (2 ^ (n + 1))) he]; omega)
      · rename_i he1 he2
        have p1 := blk_pos (n + 1) _ (by simpa using he1)
        have p2 := blk_pos (n + 1) _ (by simpa using he2)
        have gc := (choose_gr ho.ok hv0.1 (a := v) (by omega) h1 (by omega) h3 h4).1
        exact ((gz.trans go).trans gc).mono (by omega)
    · exact (const_gr h _).mono (by omega)
end Go.Proofs.Ytfabdpnjjondaaa
