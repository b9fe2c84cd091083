/-
  Classes as lists of numbers: uniting two, and all that follows.
  Numbers as ints.
  What the walk of the reference's closed needs: numbers as ints, the moves of posM (careM m care) as cells, one pass over all pairs.
-/
import Derived.Test.YtcmhginhfhiolaaZ03
import Derived.Test.YtcmhginhfhiolaaZ00
import Derived.Test.YtcmhginhfhiolaaZ07
import Derived.Test.YtcmhginhfhiolaaZ05
set_option linter.unusedVariables false
set_option linter.unusedSimpArgs false
namespace Go.Proofs.Ytcmhginhfhiolaa

def RelC (cl : List Nat) : Rel := fun i j => cl.getD i 0 = cl.getD j 0
def unitedN (cl : List Nat) (a b : Nat) : List Nat := cl.map fun x => if x = b then a else x
/-- The number of classes. -/
def classes (n : Nat) (cl : List Nat) : Nat := ((List.range n).filter fun v => decide (v ∈ cl)).length
theorem unitedN_len (cl : List Nat) (a b : Nat) : (unitedN cl a b).length = cl.length := by simp [unitedN]
theorem unitedN_get (cl : List Nat) (a b : Nat) {i : Nat} (h : i < cl.length) : (unitedN cl a b).getD i 0 = if cl.getD i 0 = b then a else cl.getD i 0 := by simp [unitedN, List.getD, h]
theorem filter_less {α : Type} (p q : α → Bool) : ∀ (l : List α), (∀ x ∈ l, q x = true → p x = true) → (∃ x ∈ l, p x = true ∧ q x = false) → (l.filter q).length < (l.filter p).length
  | [], _, ⟨x, hx, _⟩ => by cases hx
  | a :: l, h, ⟨x, hx, h1, h2⟩ => by
    have hle : ∀ (l : List α), (∀ x ∈ l, q x = true → p x = true) → (l.filter q).length ≤ (l.filter p).length := fun l => by
      induction l with
      | nil => exact fun _ => Nat.le_refl _
      | cons b l ih =>
        intro hb
        have := ih fun x hx => hb x (List.mem_cons_of_mem _ hx)
        rw [List.filter_cons, List.filter_cons]
        cases hq : q b
        · cases hp : p b <;> simp <;> omega
        · rw [hb b (by simp) hq]; simp; omega
    have hl := hle l fun x hx => h x (List.mem_cons_of_mem _ hx)
    rw [List.filter_cons, List.filter_cons]
    rcases List.mem_cons.1 hx with rfl | hx
    · rw [h1, h2]; simp; omega
    · have := filter_less p q l (fun x hx => h x (List.mem_cons_of_mem _ hx)) ⟨x, hx, h1, h2⟩
      cases hq : q a
      · cases hp : p a <;> simp <;> omega
      · rw [h a (by simp) hq]; simp; omega
/-- Uniting two classes lessens their number. -/
theorem classes_less {n : Nat} {cl : List Nat} {a b : Nat} (ha : a ∈ cl) (hb : b ∈ cl) (hbn : b < n) (hne : a ≠ b) : classes n (unitedN cl a b) < classes n cl := by
  unfold classes
  refine filter_less _ _ _ (fun v _ hv => ?_) ⟨b, List.mem_range.2 hbn, by simpa using hb, ?_⟩
  · simp only [decide_eq_true_eq] at hv ⊢
    obtain ⟨x, hx, e⟩ := List.mem_map.1 hv
    split at e
    · rw [← e]; exact ha
    · rw [← e]; exact hx
  · simp only [decide_eq_false_iff_not]
    intro hv
    obtain ⟨x, hx, e⟩ := List.mem_map.1 hv
    split at e
    · exact hne e
    · rename_i h; exact h e
theorem classes_le (n : Nat) (cl : List Nat) : classes n cl ≤ n := by
  unfold classes
  have := List.length_filter_le (fun v => decide (v ∈ cl)) (List.range n)
  simpa using this

/-- cl comes from cl0 by unions that have to be. -/
structure ClI (L : Mac) (cl0 cl : List Nat) : Prop where
  len : cl.length = L.size
  lt : ∀ i, i < L.size → cl.getD i 0 < L.size
  up : Sub L (RelC cl0) (RelC cl)
  low : ∀ G, Good L G → Sub L (RelC cl0) G → Sub L (RelC cl) G
/-- What has been seen of i, k and x. -/
def StepC (L : Mac) (cl : List Nat) (i k x : Nat) : Prop := RelC cl i k → ∀ o t o' t', L.mv i x = some (o, t) → L.mv k x = some (o', t') → o = o' ∧ RelC cl t t'
section
variable {L : Mac} {cl0 cl : List Nat}
theorem ClI.init (hl : cl0.length = L.size) (hlt : ∀ i, i < L.size → cl0.getD i 0 < L.size) : ClI L cl0 cl0 := ⟨hl, hlt, fun _ _ _ _ h => h, fun _ _ h => h⟩
theorem ClI.unite (h : ClI L cl0 cl) (hL : L.Ok) {i k x : Nat} (hi : i < L.size) (hk : k < L.size) (hx : x < L.ins) (hik : RelC cl i k) {o o' : Int} {t t' a b : Nat} (h1 : L.mv i x = some (o, t)) (h2 : L.mv k x = some (o', t'))
    (hab : (a = cl.getD t 0 ∧ b = cl.getD t' 0) ∨ (a = cl.getD t' 0 ∧ b = cl.getD t 0)) : ClI L cl0 (unitedN cl a b) := by
  have ht := hL.tgt i x o t hi hx h1
  have ht' := hL.tgt k x o' t' hk hx h2
  have hall : ∀ j, j < L.size → (unitedN cl a b).getD j 0 = if cl.getD j 0 = b then a else cl.getD j 0 := fun j hj => unitedN_get cl a b (by rw [h.len]; exact hj)
  refine ⟨by rw [unitedN_len]; exact h.len, fun j hj => ?_, fun j l hj hl e => ?_, fun G hG hs j l hj hl e => ?_⟩
  · rw [hall j hj]
    split
    · rcases hab with ⟨e, _⟩ | ⟨e, _⟩
      · rw [e]; exact h.lt t ht
      · rw [e]; exact h.lt t' ht'
    · exact h.lt j hj
  · have := h.up j l hj hl e
    unfold RelC at this ⊢
    rw [hall j hj, hall l hl, this]
  · have hGc := h.low G hG hs
    have htt : G t t' := (hG.cong i k x o t o' t' hi hk (hGc i k hi hk hik) hx h1 h2).2
    unfold RelC at e
    rw [hall j hj, hall l hl] at e
    have inT : ∀ m, m < L.size → cl.getD m 0 = cl.getD t 0 → G m t := fun m hm e => hGc m t hm ht e
    have inT' : ∀ m, m < L.size → cl.getD m 0 = cl.getD t' 0 → G m t' := fun m hm e => hGc m t' hm ht' e
    have key : ∀ m, m < L.size → cl.getD m 0 = a ∨ cl.getD m 0 = b → G m t := fun m hm hmab => by
      rcases hab with ⟨ea, eb⟩ | ⟨ea, eb⟩
      · rcases hmab with hm1 | hm1
        · exact inT m hm (hm1.trans ea)
        · exact hG.trans _ _ _ (inT' m hm (hm1.trans eb)) (hG.symm _ _ htt)
      · rcases hmab with hm1 | hm1
        · exact hG.trans _ _ _ (inT' m hm (hm1.trans ea)) (hG.symm _ _ htt)
        · exact inT m hm (hm1.trans eb)
    by_cases hj2 : cl.getD j 0 = b
    · rw [if_pos hj2] at e
      by_cases hl2 : cl.getD l 0 = b
      · exact hG.trans _ _ _ (key j hj (.inr hj2)) (hG.symm _ _ (key l hl (.inr hl2)))
      · rw [if_neg hl2] at e
        exact hG.trans _ _ _ (key j hj (.inr hj2)) (hG.symm _ _ (key l hl (.inl e.symm)))
    · rw [if_neg hj2] at e
      by_cases hl2 : cl.getD l 0 = b
      · rw [if_pos hl2] at e
        exact hG.trans _ _ _ (key j hj (.inl e)) (hG.symm _ _ (key l hl (.inr hl2)))
      · rw [if_neg hl2] at e
        exact hGc j l hj hl e
/-- Other outputs: there are no such classes. -/
theorem ClI.no (h : ClI L cl0 cl) {i k x : Nat} (hi : i < L.size) (hk : k < L.size) (hx : x < L.ins) (hik : RelC cl i k) {o o' : Int} {t t' : Nat} (h1 : L.mv i x = some (o, t)) (h2 : L.mv k x = some (o', t')) (hne : o ≠ o') :
    ¬ ∃ G, Good L G ∧ Sub L (RelC cl0) G := fun ⟨G, hG, hs⟩ => hne (hG.cong i k x o t o' t' hi hk (h.low G hG hs i k hi hk hik) hx h1 h2).1
/-- A pass without a change. -/
theorem ClI.good (h : ∀ i k x, i < L.size → k < i → x < L.ins → StepC L cl i k x) : Good L (RelC cl) :=
  ⟨fun _ _ => rfl, fun _ _ h => h.symm, fun _ _ _ h k => h.trans k, fun i j x o t o' t' hi hj hij hx e e' => by
    rcases Nat.lt_trichotomy j i with hji | hji | hji
    · exact h i j x hi hji hx hij o t o' t' e e'
    · subst hji
      rw [e] at e'
      injection e' with e'
      injection e' with e1 e2
      exact ⟨e1, by rw [e2]; rfl⟩
    · have := h j i x hj hji hx hij.symm o' t' o t e' e
      exact ⟨this.1.symm, this.2.symm⟩⟩
end
/-- What closed returns. -/
def Closed (L : Mac) (cl0 cl : List Nat) (ok : Bool) : Prop := (ok = true → ClI L cl0 cl ∧ Good L (RelC cl)) ∧ (ok = false → ¬ ∃ G, Good L G ∧ Sub L (RelC cl0) G)
section
variable {L : Mac} {cl cl' : List Nat} {n k a b : Nat}
/-- The classes of n and k are united. -/
theorem united_sub (hl : cl.length = L.size) (hn : n < L.size) (hk : k < L.size) (hab : (a = cl.getD n 0 ∧ b = cl.getD k 0) ∨ (a = cl.getD k 0 ∧ b = cl.getD n 0)) {G : Rel} (hG : Good L G) : Sub L (RelC (unitedN cl a b)) G ↔ Sub L (RelC cl) G ∧ G n k := by
  have hall : ∀ j, j < L.size → (unitedN cl a b).getD j 0 = if cl.getD j 0 = b then a else cl.getD j 0 := fun j hj => unitedN_get cl a b (by rw [hl]; exact hj)
  constructor
  · intro h
    refine ⟨fun i j hi hj e => h i j hi hj ?_, h n k hn hk ?_⟩
    · unfold RelC at e ⊢
      rw [hall i hi, hall j hj, e]
    · unfold RelC
      rw [hall n hn, hall k hk]
      rcases hab with ⟨ea, eb⟩ | ⟨ea, eb⟩
      · rw [if_pos eb.symm]
        by_cases e : cl.getD n 0 = b
        · rw [if_pos e]
        · rw [if_neg e, ea]
      · rw [if_pos eb.symm]
        by_cases e : cl.getD k 0 = b
        · rw [if_pos e]
        · rw [if_neg e, ea]
  · rintro ⟨hs, hnk⟩ i j hi hj e
    unfold RelC at e
    rw [hall i hi, hall j hj] at e
    have key : ∀ m, m < L.size → cl.getD m 0 = a ∨ cl.getD m 0 = b → G m n := fun m hm hmab => by
      rcases hab with ⟨ea, eb⟩ | ⟨ea, eb⟩
      · rcases hmab with hm1 | hm1
        · exact hs m n hm hn (hm1.trans ea)
        · exact hG.trans _ _ _ (hs m k hm hk (hm1.trans eb)) (hG.symm _ _ hnk)
      · rcases hmab with hm1 | hm1
        · exact hG.trans _ _ _ (hs m k hm hk (hm1.trans ea)) (hG.symm _ _ hnk)
        · exact hs m n hm hn (hm1.trans eb)
    by_cases hi2 : cl.getD i 0 = b
    · rw [if_pos hi2] at e
      by_cases hj2 : cl.getD j 0 = b
      · exact hG.trans _ _ _ (key i hi (.inr hi2)) (hG.symm _ _ (key j hj (.inr hj2)))
      · rw [if_neg hj2] at e
        exact hG.trans _ _ _ (key i hi (.inr hi2)) (hG.symm _ _ (key j hj (.inl e.symm)))
    · rw [if_neg hi2] at e
      by_cases hj2 : cl.getD j 0 = b
      · rw [if_pos hj2] at e
        exact hG.trans _ _ _ (key i hi (.inl e)) (hG.symm _ _ (key j hj (.inr hj2)))
      · rw [if_neg hj2] at e
        exact hs i j hi hj e
end
end Go.Proofs.Ytcmhginhfhiolaa
namespace Go.Proofs.Ytcmhginhfhiolaa

def natZ (l : List Nat) : List Int := l.map fun q : Nat => (q : Int)
theorem natZ_len (l : List Nat) : (natZ l).length = l.length := by simp [natZ]
theorem natZ_get (l : List Nat) {k : Nat} (h : k < l.length) : (natZ l).getD k 0 = (l.getD k 0 : Int) := by simp [natZ, List.getD, h]
end Go.Proofs.Ytcmhginhfhiolaa
set_option linter.unusedVariables false
set_option linter.unusedSimpArgs false
namespace Go.Proofs.Ytcmhginhfhiolaa

theorem unitedZ_nat (l : List Nat) (a b : Nat) : unitedZ (natZ l) a b = natZ (unitedN l a b) := by
  unfold unitedZ natZ unitedN
  rw [List.map_map, List.map_map]
  refine List.map_congr_left fun x _ => ?_
  by_cases h : x = b <;> simp [h]
  intro h'
  exact absurd (by omega) h

theorem ordZ_nat (M : Mac) : ordZ M = natZ (ord M) := rfl

section
variable {m : Mly} {care : List (List Bool)}
theorem pos_mv (i x : Nat) : (posM (careM m care)).mv i x =
    if (care.getD ((ord (careM m care)).getD i 0) []).getD x false = true then some ((m.out.getD ((ord (careM m care)).getD i 0) []).getD x 0, (ord (careM m care)).idxOf ((m.next.getD ((ord (careM m care)).getD i 0) []).getD x 0).toNat) else none := by
  show ((careM m care).mv ((ord (careM m care)).getD i 0) x).map _ = _
  show (if (care.getD ((ord (careM m care)).getD i 0) []).getD x false = true then some ((m.out.getD ((ord (careM m care)).getD i 0) []).getD x 0, ((m.next.getD ((ord (careM m care)).getD i 0) []).getD x 0).toNat) else none).map _ = _
  split <;> rfl
theorem pos_size : (posM (careM m care)).size = (ord (careM m care)).length := rfl
theorem pos_ins : (posM (careM m care)).ins = m.ins.toNat := rfl
/-- The index of the state after a move, as the reference finds it. -/
theorem pos_idx (h : Sized m) {i x : Nat} (hi : i < (ord (careM m care)).length) (hx : x < m.ins.toNat) (hc : (care.getD ((ord (careM m care)).getD i 0) []).getD x false = true) :
    idxZ (natZ (ord (careM m care))) ((m.next.getD ((ord (careM m care)).getD i 0) []).getD x 0) = ((ord (careM m care)).idxOf ((m.next.getD ((ord (careM m care)).getD i 0) []).getD x 0).toNat : Int) ∧
    (ord (careM m care)).idxOf ((m.next.getD ((ord (careM m care)).getD i 0) []).getD x 0).toNat < (ord (careM m care)).length := by
  have hok := care_ok h care
  have hq := ord_lt hok _ (getD_mem _ 0 hi)
  have i1 := h.i1
  have hr := h.nextr ((ord (careM m care)).getD i 0) x hq (by omega)
  have hmv : (careM m care).mv ((ord (careM m care)).getD i 0) x = some ((m.out.getD ((ord (careM m care)).getD i 0) []).getD x 0, ((m.next.getD ((ord (careM m care)).getD i 0) []).getD x 0).toNat) := by
    show (if _ then _ else _) = _
    rw [if_pos hc]
  have hin := ord_to hok (getD_mem _ 0 hi) hx hmv
  obtain ⟨t, ht⟩ : ∃ t : Nat, (m.next.getD ((ord (careM m care)).getD i 0) []).getD x 0 = (t : Int) := ⟨((m.next.getD ((ord (careM m care)).getD i 0) []).getD x 0).toNat, by omega⟩
  rw [ht] at hin ⊢
  rw [Int.toNat_natCast] at hin ⊢
  refine ⟨?_, List.idxOf_lt_length_of_mem hin⟩
  unfold natZ
  rw [idxZ_cast, if_pos hin]
end

/-- What one pass has seen before i, k and x. -/
def SeenC (L : Mac) (cl : List Nat) (i k x : Nat) : Prop := ∀ i' k' x', i' < L.size → k' < i' → x' < L.ins → (i' < i ∨ i' = i ∧ (k' < k ∨ k' = k ∧ x' < x)) → StepC L cl i' k' x'
section
variable {L : Mac} {cl cl0 : List Nat} {i k x : Nat}
theorem SeenC.zero : SeenC L cl 0 0 0 := fun i' k' x' _ _ _ h => by omega
theorem SeenC.step (h : SeenC L cl i k x) (hs : StepC L cl i k x) : SeenC L cl i k (x + 1) := fun i' k' x' hi hk hx hb => by
  by_cases he : i' = i ∧ k' = k ∧ x' = x
  · obtain ⟨rfl, rfl, rfl⟩ := he
    exact hs
  · exact h i' k' x' hi hk hx (by omega)
/-- No move of one of the two. -/
theorem StepC.none (h : L.mv i x = none ∨ L.mv k x = none) : StepC L cl i k x := fun _ o t o' t' e e' => by
  rcases h with h | h
  · rw [h] at e; cases e
  · rw [h] at e'; cases e'
theorem StepC.same {o : Int} {t t' : Nat} (h1 : L.mv i x = some (o, t)) (h2 : L.mv k x = some (o, t')) (h : cl.getD t 0 = cl.getD t' 0) : StepC L cl i k x := fun _ u s u' s' e e' => by
  rw [h1] at e
  rw [h2] at e'
  injection e with e
  injection e with e1 e2
  injection e' with e'
  injection e' with e3 e4
  exact ⟨e1.symm.trans e3, by rw [← e2, ← e4]; exact h⟩
theorem SeenC.row (h : SeenC L cl i k L.ins) : SeenC L cl i (k + 1) 0 := fun i' k' x' hi hk hx hb => h i' k' x' hi hk hx (by omega)
theorem SeenC.skip (h : SeenC L cl i k 0) (hn : ¬ RelC cl i k) : SeenC L cl i (k + 1) 0 := fun i' k' x' hi hk hx hb => by
  by_cases he : i' = i ∧ k' = k
  · obtain ⟨rfl, rfl⟩ := he
    exact fun hr => absurd hr hn
  · exact h i' k' x' hi hk hx (by omega)
theorem SeenC.next (h : SeenC L cl i i 0) : SeenC L cl (i + 1) 0 0 := fun i' k' x' hi hk hx hb => h i' k' x' hi hk hx (by omega)
theorem SeenC.good (h : SeenC L cl L.size 0 0) : Good L (RelC cl) := ClI.good fun i k x hi hk hx => h i k x hi hk hx (.inl hi)
/-- The measure of the walk: the number of classes, and one more while the pass has changed nothing. -/
theorem classes_unite (hl : cl.length = L.size) (hlt : ∀ i, i < L.size → cl.getD i 0 < L.size) {t t' a b : Nat} (ht : t < L.size) (ht' : t' < L.size) (hne : cl.getD t 0 ≠ cl.getD t' 0) (hab : (a = cl.getD t 0 ∧ b = cl.getD t' 0) ∨ (a = cl.getD t' 0 ∧ b = cl.getD t 0)) :
    classes L.size (unitedN cl a b) < classes L.size cl := by
  have m1 := getD_mem cl 0 (i := t) (by omega)
  have m2 := getD_mem cl 0 (i := t') (by omega)
  rcases hab with ⟨ea, eb⟩ | ⟨ea, eb⟩
  · subst ea; subst eb
    exact classes_less m1 m2 (hlt t' ht') hne
  · subst ea; subst eb
    exact classes_less m2 m1 (hlt t ht) fun e => hne e.symm
end
end Go.Proofs.Ytcmhginhfhiolaa
