/-
  Uniting with a row for each class: a state of the class whose move is there, for each input; plain.
  The loose controller's data in memory.
  Merging: the rows that have been joined so far lie over those of the loose controller; the walk of row.
-/
import Derived.Test.YtcmhginhfhiolaaZ14
import Derived.Test.YtcmhginhfhiolaaZ11
import Derived.Test.YtcmhginhfhiolaaZ01
import Derived.Test.YtcmhginhfhiolaaZ15
import Derived.Test.YtcmhginhfhiolaaZ03
import Derived.Test.YtcmhginhfhiolaaZ17
set_option linter.unusedVariables false
set_option linter.unusedSimpArgs false
namespace Go.Proofs.Ytcmhginhfhiolaa

def rowE (er : List (List Int)) (a x : Nat) : Int := (er.getD a []).getD x 0
/-- The rows of the first states of the classes. -/
structure RowsOk (L : Mac) (f : Nat → Nat) (er : List (List Int)) : Prop where
  len : er.length = L.size
  rlen : ∀ a, a < L.size → (er.getD a []).length = L.ins
  ent : ∀ a x, a < L.size → x < L.ins → rowE er a x = -1 ∨ ∃ j z, j < L.size ∧ rowE er a x = (j : Nat) ∧ L.mv j x = some z
  none : ∀ a x i, a < L.size → f a = a → x < L.ins → rowE er a x = -1 → i < L.size → f i = a → L.mv i x = none
  rep : ∀ a x (j : Nat), a < L.size → f a = a → x < L.ins → rowE er a x = (j : Int) → f j = a
def tgM (L : Mac) (y : Int) (x : Nat) : Nat := ((L.mv y.toNat x).map fun z => z.2).getD 0
/-- The joined row after the first k inputs; what is put on the list. -/
def joinR (ra rb : List Int) (n k : Nat) : List Int := (List.range n).map fun j => if j < k ∧ ra.getD j 0 < 0 then rb.getD j 0 else ra.getD j 0
def newM (L : Mac) (ra rb : List Int) : Nat → List (Nat × Nat)
  | 0 => []
  | k + 1 => newM L ra rb k ++ (if ra.getD k 0 < 0 ∨ rb.getD k 0 < 0 then [] else [(tgM L (ra.getD k 0) k, tgM L (rb.getD k 0) k)])
theorem joinR_len (ra rb : List Int) (n k : Nat) : (joinR ra rb n k).length = n := by simp [joinR]
theorem joinR_get (ra rb : List Int) {n k j : Nat} (h : j < n) : (joinR ra rb n k).getD j 0 = if j < k ∧ ra.getD j 0 < 0 then rb.getD j 0 else ra.getD j 0 := by
  unfold joinR
  rw [List.getD_eq_getElem?_getD, List.getElem?_map, List.getElem?_range h]; rfl
theorem joinR_zero {ra rb : List Int} {n : Nat} (h : ra.length = n) : joinR ra rb n 0 = ra := by
  subst h
  apply List.ext_getElem
  · simp [joinR]
  · intro i h1 h2
    simp [joinR, List.getD, h2]
theorem joinR_set {ra rb : List Int} {n k : Nat} (h : k < n) (hr : ra.getD k 0 < 0) : (joinR ra rb n k).set k (rb.getD k 0) = joinR ra rb n (k + 1) := by
  unfold joinR
  apply List.ext_getElem
  · simp
  · intro i h1 h2
    simp at h1 h2
    rw [List.getElem_set]
    simp only [List.getElem_map, List.getElem_range]
    split
    · rename_i e; subst e
      rw [if_pos ⟨by omega, hr⟩]
    · rename_i e
      by_cases hi : i < k
      · have e1 : (i < k + 1 ∧ ra.getD i 0 < 0) ↔ (i < k ∧ ra.getD i 0 < 0) := by constructor <;> rintro ⟨_, h⟩ <;> exact ⟨by omega, h⟩
        simp only [e1]
      · rw [if_neg (by omega), if_neg (by omega)]
theorem joinR_skip {ra rb : List Int} {n k : Nat} (hr : ¬ ra.getD k 0 < 0) : joinR ra rb n (k + 1) = joinR ra rb n k := by
  unfold joinR
  apply List.map_congr_left
  intro i _
  have e1 : (i < k + 1 ∧ ra.getD i 0 < 0) ↔ (i < k ∧ ra.getD i 0 < 0) := by
    constructor
    · rintro ⟨h1, h2⟩
      refine ⟨?_, h2⟩
      rcases Nat.lt_succ_iff_lt_or_eq.1 h1 with h | rfl
      · exact h
      · exact absurd h2 hr
    · rintro ⟨h1, h2⟩; exact ⟨by omega, h2⟩
  simp only [e1]
theorem newM_mem (L : Mac) (ra rb : List Int) : ∀ (k : Nat) (p : Nat × Nat), p ∈ newM L ra rb k ↔ ∃ x, x < k ∧ ¬ (ra.getD x 0 < 0 ∨ rb.getD x 0 < 0) ∧ p = (tgM L (ra.getD x 0) x, tgM L (rb.getD x 0) x)
  | 0, p => by
    constructor
    · intro h; cases h
    · rintro ⟨x, h, _⟩; omega
  | k + 1, p => by
    rw [newM, List.mem_append, newM_mem L ra rb k p]
    constructor
    · rintro (⟨x, h1, h2, h3⟩ | h)
      · exact ⟨x, by omega, h2, h3⟩
      · by_cases hc : ra.getD k 0 < 0 ∨ rb.getD k 0 < 0
        · rw [if_pos hc] at h; cases h
        · rw [if_neg hc, List.mem_singleton] at h
          exact ⟨k, by omega, hc, h⟩
    · rintro ⟨x, h1, h2, h3⟩
      rcases Nat.lt_succ_iff_lt_or_eq.1 h1 with h | rfl
      · exact .inl ⟨x, h, h2, h3⟩
      · rw [if_neg h2, List.mem_singleton]
        exact .inr h3
theorem newM_len (L : Mac) (ra rb : List Int) : ∀ k, (newM L ra rb k).length ≤ k
  | 0 => Nat.le_refl _
  | k + 1 => by
    rw [newM, List.length_append]
    have := newM_len L ra rb k
    split <;> simp <;> omega
section
variable {L : Mac} {E0 : Rel} {n k : Nat} {f : Nat → Nat} {er : List (List Int)} {a b : Nat}
theorem RowsOk.ne (h : RowsOk L f er) {x : Nat} (ha : a < L.size) (hx : x < L.ins) (hy : ¬ rowE er a x < 0) : ∃ j z, j < L.size ∧ rowE er a x = (j : Nat) ∧ L.mv j x = some z := by
  rcases h.ent a x ha hx with h1 | h1
  · omega
  · exact h1
/-- The moves of both rows put out the same. -/
def OutsEq (L : Mac) (ra rb : List Int) : Prop := ∀ x, x < L.ins → ¬ (ra.getD x 0 < 0 ∨ rb.getD x 0 < 0) → mvO L (ra.getD x 0).toNat x = mvO L (rb.getD x 0).toNat x
theorem RowsOk.succs (h : RowsOk L f er) (ha : a < L.size) (hb : b < L.size) (haa : f a = a) (hbb : f b = b) (ho : OutsEq L (er.getD a []) (er.getD b [])) : Succs L f a b (newM L (er.getD a []) (er.getD b []) L.ins) := by
  refine ⟨fun i j x o t o' t' hi hj hia hjb hx h1 h2 => ?_, fun p hp => ?_⟩
  · have na : ¬ rowE er a x < 0 := fun hlt => by
      rcases h.ent a x ha hx with h3 | ⟨_, _, _, h3, _⟩
      · rw [h.none a x i ha haa hx h3 hi hia] at h1; cases h1
      · omega
    have nb : ¬ rowE er b x < 0 := fun hlt => by
      rcases h.ent b x hb hx with h3 | ⟨_, _, _, h3, _⟩
      · rw [h.none b x j hb hbb hx h3 hj hjb] at h2; cases h2
      · omega
    obtain ⟨i0, ⟨o0, t0⟩, hi0, e0, m0⟩ := h.ne ha hx na
    obtain ⟨j0, ⟨o1, t1⟩, hj0, e1, m1⟩ := h.ne hb hx nb
    have hoe := ho x hx (fun hc => by rcases hc with hc | hc; exact na hc; exact nb hc)
    have ea : (er.getD a []).getD x 0 = (i0 : Int) := e0
    have eb : (er.getD b []).getD x 0 = (j0 : Int) := e1
    rw [ea, eb, Int.toNat_natCast, Int.toNat_natCast, (mvT_yes m0).1, (mvT_yes m1).1] at hoe
    subst hoe
    refine ⟨i0, j0, o0, t0, t1, hi0, hj0, h.rep a x i0 ha haa hx e0, h.rep b x j0 hb hbb hx e1, m0, m1, (newM_mem _ _ _ _ _).2 ⟨x, hx, fun hc => by rcases hc with hc | hc; exact na hc; exact nb hc, ?_⟩⟩
    unfold tgM
    rw [ea, eb, Int.toNat_natCast, Int.toNat_natCast, m0, m1]; rfl
  · obtain ⟨x, hx, hc, rfl⟩ := (newM_mem _ _ _ _ _).1 hp
    obtain ⟨i0, ⟨o0, t0⟩, hi0, e0, m0⟩ := h.ne ha hx (fun h => hc (.inl h))
    obtain ⟨j0, ⟨o1, t1⟩, hj0, e1, m1⟩ := h.ne hb hx (fun h => hc (.inr h))
    have ea : (er.getD a []).getD x 0 = (i0 : Int) := e0
    have eb : (er.getD b []).getD x 0 = (j0 : Int) := e1
    refine ⟨i0, j0, x, o0, o1, hi0, hj0, h.rep a x i0 ha haa hx e0, h.rep b x j0 hb hbb hx e1, hx, ?_, ?_⟩
    · unfold tgM
      rw [ea, Int.toNat_natCast, m0]; rfl
    · unfold tgM
      rw [eb, Int.toNat_natCast, m1]; rfl
theorem getD_setL {er : List (List Int)} {a i : Nat} {r : List Int} (h : a < er.length) : (er.set a r).getD i [] = if i = a then r else er.getD i [] := by
  simp only [List.getD, List.getElem?_set]
  by_cases e : a = i
  · subst e; simp [h]
  · rw [if_neg e, if_neg (fun e2 => e e2.symm)]
theorem RowsOk.join (h : RowsOk L f er) (ha : a < L.size) (hb : b < L.size) (haa : f a = a) (hbb : f b = b) (hne : a ≠ b) : RowsOk L (joinF f a b) (er.set a (joinR (er.getD a []) (er.getD b []) L.ins L.ins)) := by
  have hl : a < er.length := by rw [h.len]; exact ha
  have hrow : ∀ i x, x < L.ins → rowE (er.set a (joinR (er.getD a []) (er.getD b []) L.ins L.ins)) i x = if i = a then (if rowE er a x < 0 then rowE er b x else rowE er a x) else rowE er i x := fun i x hx => by
    unfold rowE
    rw [getD_setL hl]
    split
    · rw [joinR_get _ _ hx]
      by_cases hlt : (er.getD a []).getD x 0 < 0
      · rw [if_pos ⟨hx, hlt⟩, if_pos hlt]
      · rw [if_neg (fun h => hlt h.2), if_neg hlt]
    · rfl
  have hjr : ∀ i, joinF f a b i = i → i < L.size → f i = i ∧ i ≠ b := fun i hi his => by
    unfold joinF at hi
    split at hi
    · rename_i h1
      subst hi
      rw [haa] at h1
      exact absurd h1 hne
    · rename_i h1
      exact ⟨hi, fun e => h1 (by rw [hi, e])⟩
  refine ⟨by rw [List.length_set]; exact h.len, fun i hi => ?_, fun i x hi hx => ?_, fun i x j hi hfi hx hr hj hfj => ?_, fun i x j hi hfi hx hr => ?_⟩
  · rw [getD_setL hl]
    split
    · rw [joinR_len]
    · exact h.rlen i hi
  · rw [hrow i x hx]
    split
    · split
      · exact h.ent b x hb hx
      · exact h.ent a x ha hx
    · exact h.ent i x hi hx
  · have hf := hjr i hfi hi
    rw [hrow i x hx] at hr
    by_cases e : i = a
    · subst e
      rw [if_pos rfl] at hr
      split at hr
      · rename_i hlt
        have hra : rowE er i x = -1 := by
          rcases h.ent i x ha hx with h1 | ⟨_, _, _, h1, _⟩
          · exact h1
          · omega
        unfold joinF at hfj
        split at hfj
        · rename_i h1; exact h.none b x j hb hbb hx hr hj h1
        · exact h.none i x j ha haa hx hra hj hfj
      · rename_i hlt; omega
    · rw [if_neg e] at hr
      refine h.none i x j hi hf.1 hx hr hj ?_
      unfold joinF at hfj
      split at hfj
      · exact absurd hfj.symm e
      · exact hfj
  · have hf := hjr i hfi hi
    rw [hrow i x hx] at hr
    by_cases e : i = a
    · subst e
      rw [if_pos rfl] at hr
      unfold joinF
      split at hr
      · rw [h.rep b x j hb hbb hx hr, if_pos rfl]
      · rw [h.rep i x j ha haa hx hr, if_neg hne]
    · rw [if_neg e] at hr
      unfold joinF
      rw [h.rep i x j hi hf.1 hx hr, if_neg hf.2]
end

/-- The classes before state n is tried; while it is tried, and has not been united. -/
def RepF (L : Mac) (E : Rel) (f : Nat → Nat) : Prop := ∀ i j, i < L.size → j < L.size → (f i = f j ↔ E i j)
def FrI (L : Mac) (n : Nat) (f : Nat → Nat) : Prop := RepF L (mergeTo L n) f
structure FrT (L : Mac) (n k : Nat) (f : Nat → Nat) : Prop where
  rel : FrI L n f
  off : ¬ (tryTo L (mergeTo L n) n k).2
section
variable {L : Mac} {n k : Nat} {f f' : Nat → Nat}
theorem FrI.zero : FrI L 0 id := fun i j _ _ => Iff.rfl
theorem FrI.start (h : FrI L n f) : FrT L n 0 f := ⟨h, fun x => x⟩
theorem FrT.same (h : FrT L n k f) : (tryTo L (mergeTo L n) n k).1 = mergeTo L n := try_none k h.off
theorem FrT.stay (h : FrT L n k f) (hs : mergeTo L n n k ∨ ¬ CanJoin L (mergeTo L n) n k) : FrT L n (k + 1) f :=
  ⟨h.rel, fun x => h.off ((try_flag (.inr (by rw [h.same]; exact hs))).1 x)⟩
theorem FrT.skip (h : FrT L n k f) (hn : n < L.size) (hk : k < L.size) (he : f n = f k) : FrT L n (k + 1) f := h.stay (.inl ((h.rel n k hn hk).1 he))
theorem FrT.none (h : FrT L n n f) : FrI L (n + 1) f := fun i j hi hj => by
  show f i = f j ↔ (tryTo L (mergeTo L n) n n).1 i j
  rw [h.same]; exact h.rel i j hi hj
theorem FrT.yes (h : FrT L n k f) (hn : n < L.size) (hk : k < n) (hne : f n ≠ f k) (hc : CanJoin L (mergeTo L n) n k) (hf : ∀ i j, i < L.size → j < L.size → (JoinRel L (mergeTo L n) n k i j ↔ f' i = f' j)) : FrI L (n + 1) f' := fun i j hi hj => by
  have hs := h.same
  have h2 := try_yes (L := L) (E := mergeTo L n) (n := n) (k := k) h.off (by rw [hs]; exact fun x => hne ((h.rel n k hn (by omega)).2 x)) (by rw [hs]; exact hc)
  have h3 := try_all h2.2 n (by omega)
  show f' i = f' j ↔ (tryTo L (mergeTo L n) n n).1 i j
  rw [h3.1, h2.1, hs]
  exact (hf i j hi hj).symm
/-- Whether state n can be united with one hangs on its class alone. -/
theorem canJoin_class {E : Rel} {j j' : Nat} (hj : j < L.size) (hj' : j' < L.size) (he : E j j') (h : CanJoin L E n j) : CanJoin L E n j' := by
  obtain ⟨G, hG, hs, hn⟩ := h
  exact ⟨G, hG, hs, hG.trans _ _ _ hn (hs j j' hj hj' he)⟩
theorem FrT.failed (h : FrT L n k f) {b j : Nat} (hj : j < L.size) (hk : k < L.size) (hfk : f k = f j) (hc : ¬ CanJoin L (mergeTo L n) n j) : FrT L n (k + 1) f :=
  h.stay (.inr fun hc' => hc (canJoin_class hk hj ((h.rel k j hk hj).1 hfk) hc'))
/-- Pairs of states that can be in no class. -/
def ClashOk (L : Mac) (cl : List (List Bool)) : Prop := ∀ p q, p < L.size → q < L.size → (cl.getD p []).getD q false = true → ∀ G, Good L G → ¬ G p q
theorem ClashOk.can {cl : List (List Bool)} (h : ClashOk L cl) {E : Rel} (hn : n < L.size) (hk : k < L.size) (hc : (cl.getD n []).getD k false = true) : ¬ CanJoin L E n k := fun ⟨G, hG, _, hnk⟩ => h n k hn hk hc G hG hnk
/-- The machine of classes that rows tell. -/
def looseM (L : Mac) (f : Nat → Nat) (er : List (List Int)) : Mac := ⟨L.size, f L.start, L.ins, L.outs, fun c x => if rowE er c x < 0 then none else some (mvO L (rowE er c x).toNat x, f (tgM L (rowE er c x) x))⟩
theorem loose_quo {er : List (List Int)} (hL : L.Ok) (h : RowsOk L f er) (hid : ∀ k, f (f k) = f k) (hfr : ∀ i, i < L.size → f i < L.size) (hrep : RepF L (final L) f) : IsQuo L (final L) (build (looseM L f er)) := by
  have hg : ∀ i j x o t o' t', i < L.size → j < L.size → f i = f j → x < L.ins → L.mv i x = some (o, t) → L.mv j x = some (o', t') → o = o' ∧ f t = f t' := fun i j x o t o' t' hi hj e hx h1 h2 => by
    have := final_good.cong i j x o t o' t' hi hj ((hrep i j hi hj).1 e) hx h1 h2
    exact ⟨this.1, (hrep t t' (hL.tgt i x o t hi hx h1) (hL.tgt j x o' t' hj hx h2)).2 this.2⟩
  refine ⟨f, looseM L f er, ⟨rfl, rfl, rfl, fun i x o t hi hx hm => ?_, fun i x hi hx hn => ?_⟩, ⟨hfr _ hL.st, fun q x o t hq hx e => ?_⟩, hrep, rfl⟩
  · show (if rowE er (f i) x < 0 then none else some (mvO L (rowE er (f i) x).toNat x, f (tgM L (rowE er (f i) x) x))) = _
    have hlt : ¬ rowE er (f i) x < 0 := fun hlt => by
      rcases h.ent (f i) x (hfr i hi) hx with h3 | ⟨_, _, _, h3, _⟩
      · rw [h.none (f i) x i (hfr i hi) (hid i) hx h3 hi rfl] at hm; cases hm
      · omega
    rw [if_neg hlt]
    obtain ⟨j0, ⟨o1, t1⟩, hj0, e1, m1⟩ := h.ne (hfr i hi) hx hlt
    have hc := hg j0 i x o1 t1 o t hj0 hi (h.rep (f i) x j0 (hfr i hi) (hid i) hx e1) hx m1 hm
    rw [e1, Int.toNat_natCast, (mvT_yes m1).1]
    unfold tgM
    rw [Int.toNat_natCast, m1]
    show some (o1, f t1) = some (o, f t)
    rw [hc.1, hc.2]
  · show (if rowE er (f i) x < 0 then none else some (mvO L (rowE er (f i) x).toNat x, f (tgM L (rowE er (f i) x) x))) = _
    by_cases hlt : rowE er (f i) x < 0
    · rw [if_pos hlt]
    · obtain ⟨j0, z, hj0, e1, m1⟩ := h.ne (hfr i hi) hx hlt
      rw [hn j0 hj0 (h.rep (f i) x j0 (hfr i hi) (hid i) hx e1)] at m1; cases m1
  · have e' : (if rowE er q x < 0 then none else some (mvO L (rowE er q x).toNat x, f (tgM L (rowE er q x) x))) = some (o, t) := e
    split at e'
    · cases e'
    · rename_i hlt
      obtain ⟨j0, ⟨o1, t1⟩, hj0, e1, m1⟩ := h.ne hq hx hlt
      injection e' with e'
      injection e' with _ e'
      rw [← e', e1]
      unfold tgM
      rw [Int.toNat_natCast, m1]
      exact hfr _ (hL.tgt j0 x o1 t1 hj0 hx m1)
end
end Go.Proofs.Ytcmhginhfhiolaa
set_option linter.unusedVariables false
set_option linter.unusedSimpArgs false
namespace Go.Proofs.Ytcmhginhfhiolaa
open Go.RowKit
attribute [local go_sem] cell_alloc_old

def Off (mb rb : Nat) : Dom := fun b => b ≠ mb ∧ b ≠ rb
def outsL (L : Mac) : List (List Int) := (List.range L.size).map fun i => (List.range L.ins).map (mvO L i)
def nextsL (L : Mac) : List (List Int) := (List.range L.size).map fun i => (List.range L.ins).map (mvT L i)
theorem outsL_len (L : Mac) : (outsL L).length = L.size := by simp [outsL]
theorem nextsL_len (L : Mac) : (nextsL L).length = L.size := by simp [nextsL]
theorem outsL_row (L : Mac) {i : Nat} (h : i < L.size) : (outsL L).getD i [] = (List.range L.ins).map (mvO L i) := by simp [outsL, List.getD, h]
theorem nextsL_row (L : Mac) {i : Nat} (h : i < L.size) : (nextsL L).getD i [] = (List.range L.ins).map (mvT L i) := by simp [nextsL, List.getD, h]
theorem rowf_len (f : Nat → Int) (n : Nat) : ((List.range n).map f).length = n := by simp
theorem rowf_get (f : Nat → Int) {n x : Nat} (h : x < n) : ((List.range n).map f).getD x 0 = f x := by simp [List.getD, h]
/-- Where the parts lie. -/
structure TLA where
  ao : Option Addr
  co : Nat
  an : Option Addr
  cn : Nat
  ac : Option Addr
  cc : Nat
  cr : Nat
/-- The rows of the classes: an array of slices in block rb. -/
def RowsAt (w : World) (mb rb n cr : Nat) (er : List (List Int)) : Prop :=
  ∃ cur : Array Value, w.heap[rb]? = some (.cells cur 34 (0, 0)) ∧ n ≤ cr ∧ cr ≤ 9223372036854775807 ∧ cur.size = cr ∧ er.length = n ∧ ∀ i, i < n → ∃ A c, cur[i]? = some (.slice A (er.getD i []).length c) ∧ RdI w (Off mb rb) A c (er.getD i [])
structure TL (L : Mac) (w : World) (tb cb mb rb : Nat) (Q : TLA) (clash : List (List Bool)) (er : List (List Int)) (f : Nat → Nat) : Prop where
  box : w.heap[tb]? = some (.cells #[.slice Q.ao L.size Q.co, .slice Q.an L.size Q.cn, .slice Q.ac L.size Q.cc, .pointer (some ⟨cb, 0, none⟩), .slice (some ⟨rb, 0, none⟩) L.size Q.cr] 70 (0, 0))
  out : RdII w (Off mb rb) Q.ao Q.co (outsL L)
  next : RdII w (Off mb rb) Q.an Q.cn (nextsL L)
  clh : RdBB w (Off mb rb) Q.ac Q.cc clash
  clen : clash.length = L.size ∧ ∀ i, i < L.size → (clash.getD i []).length = L.size
  rows : RowsAt w mb rb L.size Q.cr er
  cls : Cls encI 99 w cb mb [] f
section
variable {L : Mac} {w w' : World} {tb cb mb rb : Nat} {Q : TLA} {clash : List (List Bool)} {er : List (List Int)} {f f' : Nat → Nat}
theorem RowsAt.keep {n cr : Nat} (h : RowsAt w mb rb n cr er) (hb : w'.heap[rb]? = w.heap[rb]?) (hk : Keeps (Off mb rb) w w') : RowsAt w' mb rb n cr er := by
  obtain ⟨cur, h1, h2, h3, h4, h5, h6⟩ := h
  exact ⟨cur, hb.trans h1, h2, h3, h4, h5, fun i hi => by
    obtain ⟨A, c, e, hr⟩ := h6 i hi
    exact ⟨A, c, e, hr.keep hk⟩⟩
theorem TL.ne (h : TL L w tb cb mb rb Q clash er f) : tb ≠ mb ∧ tb ≠ rb ∧ rb ≠ mb ∧ cb ≠ rb ∧ cb ≠ mb ∧ tb ≠ cb := by
  obtain ⟨lv, hm⟩ := h.cls.map0
  obtain ⟨c', hc⟩ := h.cls.cell0
  obtain ⟨cur, hr, _⟩ := h.rows
  refine ⟨map_ne_cells hm h.box, fun e => ?_, map_ne_cells hm hr, fun e => ?_, map_ne_cells hm hc, fun e => ?_⟩
  · have := h.box
    rw [e, hr] at this
    injection this with this
    injection this with _ this
    exact absurd this (by decide)
  · rw [e, hr] at hc
    injection hc with hc
    injection hc with _ hc
    exact absurd hc (by decide)
  · have := h.box
    rw [e, hc] at this
    injection this with this
    injection this with _ this
    exact absurd this (by decide)
theorem TL.lt (h : TL L w tb cb mb rb Q clash er f) : tb < w.heap.size ∧ cb < w.heap.size ∧ mb < w.heap.size ∧ rb < w.heap.size := by
  obtain ⟨cur, hr, _⟩ := h.rows
  exact ⟨lt_of_block h.box, h.cls.lt.1, h.cls.lt.2, lt_of_block hr⟩
theorem TL.chg (h : TL L w tb cb mb rb Q clash er f) (hc : Chg (fun b => b = mb) w w') (hcls : Cls encI 99 w' cb mb [] f') : TL L w' tb cb mb rb Q clash er f' := by
  have hn := h.ne
  have hl := h.lt
  have hk : Keeps (Off mb rb) w w' := hc.keeps fun b _ hd e => hd.1 e
  exact ⟨hc.box h.box hn.1, h.out.keep hk, h.next.keep hk, h.clh.keep hk, h.clen, h.rows.keep (hc.block rb hl.2.2.2 hn.2.2.1) hk, hcls⟩
theorem TL.below (h : TL L w tb cb mb rb Q clash er f) (hb : Below w.heap.size w w') : TL L w' tb cb mb rb Q clash er f := h.chg (Chg.of_new hb) (h.cls.below hb)
end
end Go.Proofs.Ytcmhginhfhiolaa
set_option linter.unusedVariables false
set_option linter.unusedSimpArgs false
namespace Go.Proofs.Ytcmhginhfhiolaa
open Go.RowKit
attribute [local go_sem] cell_alloc_old

/-- The map in block mr holds the rows that have been joined: er2, over er. -/
structure OvI (X : Dom) (B : Nat) (w : World) (mr n : Nat) (lv : List (Nat × Value)) (er er2 : List (List Int)) : Prop where
  map : MapIs encI w mr lv
  nd : (lv.map (·.1)).Nodup
  kl : ∀ p ∈ lv, p.1 < n
  len : er2.length = n
  yes : ∀ i v, lookB lv i = some v → ∃ A c, v = .slice A (er2.getD i []).length c ∧ RdI w (IBX X w B) A c (er2.getD i [])
  no : ∀ i, i < n → lookB lv i = none → er2.getD i [] = er.getD i []
section
variable {X X' : Dom} {B : Nat} {w w' : World} {mr n : Nat} {lv : List (Nat × Value)} {er er2 : List (List Int)}
theorem OvI.keep (h : OvI X B w mr n lv er er2) (hm : w'.heap[mr]? = w.heap[mr]?) (hk : Keeps (IBX X w B) w w') (hX : ∀ b, b < w.heap.size → X' b → X b) : OvI X' B w' mr n lv er er2 :=
  ⟨h.map.of_block hm, h.nd, h.kl, h.len, fun i v hv => by
    obtain ⟨A, c, e, hr⟩ := h.yes i v hv
    refine ⟨A, c, e, (hr.keep hk).mono fun b hb _ => ?_⟩
    obtain ⟨h1, h2, cs, fr, h3⟩ := hb
    exact ⟨h1, fun hx => h2 (hX b (lt_of_block h3) hx), cs, fr, (hk.block b ⟨h1, h2, cs, fr, h3⟩ (lt_of_block h3)).trans h3⟩, h.no⟩
theorem OvI.below (h : OvI X B w mr n lv er er2) (hb : Below w.heap.size w w') : OvI X B w' mr n lv er er2 := h.keep (hb.block mr h.map.lt) ⟨hb.size, fun b _ hl => hb.block b hl⟩ (fun _ _ h => h)
end
theorem OvI.put {X : Dom} {B : Nat} {w w' : World} {mr n a c : Nat} {A : Option Addr} {r : List Int} {lv : List (Nat × Value)} {er er2 : List (List Int)} (h : OvI X B w mr n lv er er2) (hg : w.grownBy w' (some mr)) (hm : MapIs encI w' mr (updB lv a (.slice A r.length c))) (ha : a < n)
    (hr : RdI w' (IBX (fun _ => False) w' B) A c r) : OvI (fun _ => False) B w' mr n (updB lv a (.slice A r.length c)) er (er2.set a r) := by
  have hl : a < er2.length := by rw [h.len]; exact ha
  refine ⟨hm, updB_nodup h.nd _ _, fun p hp => ?_, by rw [List.length_set]; exact h.len, fun i v hv => ?_, fun i hi hv => ?_⟩
  · have h1 : p.1 ∈ (updB lv a (.slice A r.length c)).map (·.1) := List.mem_map_of_mem hp
    rw [updB_keys] at h1
    have h2 : p.1 ∈ lv.map (·.1) → p.1 < n := fun h2 => by
      obtain ⟨q, hq, e⟩ := List.mem_map.1 h2
      rw [← e]; exact h.kl q hq
    split at h1
    · exact h2 h1
    · rw [List.mem_append, List.mem_singleton] at h1
      rcases h1 with h1 | h1
      · exact h2 h1
      · rw [h1]; exact ha
  · rw [lookB_upd] at hv
    rw [getD_setL hl]
    split at hv
    · rename_i e
      injection hv with hv
      rw [if_pos e]
      exact ⟨A, c, hv.symm, hr⟩
    · rename_i e
      rw [if_neg e]
      obtain ⟨A', c', e', hr'⟩ := h.yes i v hv
      have hk : Keeps (IBX X w B) w w' := ⟨hg.size, fun b hb hl => hg.block b hl (fun e => by
        injection e with e
        obtain ⟨_, _, cs, fr, hh⟩ := hb
        exact map_ne_cells h.map hh e)⟩
      refine ⟨A', c', e', (hr'.keep hk).mono fun b hb _ => ?_⟩
      obtain ⟨h1, h2, cs, fr, h3⟩ := hb
      exact ⟨h1, fun x => x, cs, fr, (hk.block b ⟨h1, h2, cs, fr, h3⟩ (lt_of_block h3)).trans h3⟩
  · rw [lookB_upd] at hv
    split at hv
    · cases hv
    · rename_i e
      rw [getD_setL hl, if_neg e]
      exact h.no i hi hv
theorem look_rows {l : List (Nat × Value)} {k : Nat} {w : World} {mb : Nat} (h : MapIs encI w mb l) :
    (Instr.lookup 105 (.map (some mb)) (.int .i64 (k : Int)) true).run Try.prog w = .ok (.tuple #[(lookB l k).getD (.slice none 0 0), .bool (lookB l k).isSome]) w :=
  run_lookup_b int_key (T := 105) (E := 34) (by kernel_rfl) (by kernel_rfl) h k true

/-- Blocks of w0: older than block B, or rows of ints. -/
def DRw (w0 : World) (B : Nat) : Dom := fun b => b < w0.heap.size ∧ (b < B ∨ ∃ cs fr, w0.heap[b]? = some (.cells cs 3 fr))
def RowSays (D : Dom) (r : List Int) (w : World) (e : Ending) (w' : World) : Prop := ∃ A c, e = .returned (.slice A r.length c) ∧ w' = w ∧ RdI w D A c r

set_option maxHeartbeats 4000000 in
theorem mrow_any (L : Mac) (X : Dom) (B : Nat) (vb pb tb cb mb rb mr a : Nat) (Q : TLA) (clash : List (List Bool)) (er er2 : List (List Int)) (lv : List (Nat × Value)) (f : Nat → Nat) (ws w0 w : World) (T1 T2 : TypeId) (hbs : Below ws.heap.size ws w0) (hb : Below w0.heap.size w0 w)
    (hv : w0.heap[vb]? = some (.cells #[.map (some mr)] T1 (0, 0))) (hp : w0.heap[pb]? = some (.cells #[.pointer (some ⟨tb, 0, none⟩)] T2 (0, 0))) (ht : TL L ws tb cb mb rb Q clash er f) (ho : OvI X B w0 mr L.size lv er er2) (ha : a < L.size) (hs : L.size ≤ 3000) :
    Calls Try.prog 69 #[.int .i64 (a : Int), .pointer (some ⟨vb, 0, none⟩), .pointer (some ⟨pb, 0, none⟩)] w fun e w' => RowSays (DRw w0 ws.heap.size) (er2.getD a []) w e w' := by
  have g0 := block_cell ((hb.block _ (lt_of_block hv)).trans hv) (i := 0) rfl
  have g1 := block_cell ((hb.block _ (lt_of_block hp)).trans hp) (i := 0) rfl
  have hlk := look_rows (k := a) (ho.map.of_block (hb.block _ ho.map.lt))
  have hkp : Keeps (DRw w0 ws.heap.size) w0 w := Keeps.of_below hb fun _ h => h.1
  have hks : Keeps (fun b => b < ws.heap.size) ws w0 := Keeps.of_below hbs fun _ h => h
  have hw2 : ∀ b o, ws.heap[b]? = some o → w.heap[b]? = some o := fun b o h => (hb.block _ (Nat.lt_of_lt_of_le (lt_of_block h) hbs.size)).trans ((hbs.block _ (lt_of_block h)).trans h)
  rcases hl : lookB lv a with _ | v
  · have he := ho.no a ha hl
    rw [hl] at hlk
    simp only [Option.getD_none, Option.isSome_none] at hlk
    obtain ⟨cur, h1, h2, h3, h4, h5, h6⟩ := ht.rows
    obtain ⟨A, c, hc, hr⟩ := h6 a ha
    have x4 := block_cell (hw2 _ _ ht.box) (i := 4) rfl
    have hc1 : w.cell? ⟨rb, a, none⟩ = some (.slice A (er.getD a []).length c) := block_cell (hw2 _ _ h1) hc
    have hai : (a : Int) < L.size := by omega
    have hl1 := hr.len.1
    rw [he]
    have HR := hid (((hr.old.keep hks).mono (E := DRw w0 ws.heap.size) fun b h1 h2 => ⟨h2, .inl h1⟩).keep hkp)
    clear hv hp ht ho hl he h1 h2 h3 h4 h5 h6 hc hr hb hkp hks hw2 hbs
    go_enter Try.func69, Try.ntmps69
    go_wp2_with fail
    go_ret
    exact ⟨A, c, rfl, rfl, HR.out⟩
  · obtain ⟨A, c, e, hr⟩ := ho.yes a v hl
    rw [hl, e] at hlk
    simp only [Option.getD_some, Option.isSome_some] at hlk
    have HR := hid ((hr.mono (E := DRw w0 ws.heap.size) fun b h1 h2 => ⟨h2, .inr h1.2.2⟩).keep hkp)
    clear hv hp ht ho hl e hr hb hkp hks hw2 hbs
    go_enter Try.func69, Try.ntmps69
    go_wp2_with fail
    go_ret
    exact ⟨A, c, rfl, rfl, HR.out⟩
end Go.Proofs.Ytcmhginhfhiolaa
