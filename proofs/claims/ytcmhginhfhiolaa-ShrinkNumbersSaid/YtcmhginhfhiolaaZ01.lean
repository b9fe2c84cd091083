/-
  Machines, the order of a search along their moves, and the controller that is built in this order; with no program in sight.
  Classes of a machine's states that can be united, one after another; quotients; machines with the same outputs.
  What a call may change (Chg), and what is asked of a function value that tells the moves of a machine.
  A controller while it is made row by row: what each append leaves.
-/
import Derived.Test.YtcmhginhfhiolaaZ00
set_option linter.unusedVariables false
set_option linter.unusedSimpArgs false
namespace Go.Proofs.Ytcmhginhfhiolaa

theorem nodup_le {α : Type} [DecidableEq α] : ∀ (l m : List α), l.Nodup → (∀ x ∈ l, x ∈ m) → l.length ≤ m.length
  | [], _, _, _ => Nat.zero_le _
  | x :: l, m, hd, hs => by
    have hx := hs x (by simp)
    rw [List.nodup_cons] at hd
    have := nodup_le l (m.erase x) hd.2 (fun y hy => (List.mem_erase_of_ne (fun e => hd.1 (by rw [← e]; exact hy))).2 (hs y (by simp [hy])))
    rw [List.length_erase_of_mem hx] at this
    have hm := List.length_pos_of_mem hx
    simp only [List.length_cons]
    omega
theorem nodup_lt {l : List Nat} {n : Nat} (h : l.Nodup) (hl : ∀ q ∈ l, q < n) : l.length ≤ n := by
  have := nodup_le l (List.range n) h (fun q hq => List.mem_range.2 (hl q hq))
  simpa using this
theorem getD_mem {α : Type} (l : List α) (d : α) {i : Nat} (h : i < l.length) : l.getD i d ∈ l := by
  simp [List.getD, h]
theorem getD_eq {l : List Nat} {i : Nat} (hi : i < l.length) : l.getD i 0 = l[i] := by simp [List.getD, hi]
theorem getD_inj {l : List Nat} (h : l.Nodup) {i j : Nat} (hi : i < l.length) (hj : j < l.length) (e : l.getD i 0 = l.getD j 0) : i = j := by
  rw [getD_eq hi, getD_eq hj] at e
  have hp := List.pairwise_iff_getElem.1 h
  rcases Nat.lt_trichotomy i j with h' | h' | h'
  · exact absurd e (hp _ _ hi hj h')
  · exact h'
  · exact absurd e.symm (hp _ _ hj hi h')
theorem getD_idxOf {l : List Nat} {q : Nat} (h : q ∈ l) : l.getD (l.idxOf q) 0 = q := by
  have h1 : l.idxOf q < l.length := List.idxOf_lt_length_of_mem h
  have h2 : l[l.idxOf q] = q := List.getElem_idxOf h1
  rw [List.getD_eq_getElem?_getD, List.getElem?_eq_getElem h1, h2]; rfl
theorem idxOf_getD {l : List Nat} (h : l.Nodup) {i : Nat} (hi : i < l.length) : l.idxOf (l.getD i 0) = i :=
  getD_inj h (List.idxOf_lt_length_of_mem (getD_mem l 0 hi)) hi (getD_idxOf (getD_mem l 0 hi))
theorem pre_getD {α : Type} {l m : List α} (h : l <+: m) (d : α) {i : Nat} (hi : i < l.length) : m.getD i d = l.getD i d := by
  obtain ⟨t, rfl⟩ := h
  simp [List.getD, List.getElem?_append, hi]

/-- What a move puts out and where it leads; none where there is no move. -/
structure Mac where
  size : Nat
  start : Nat
  ins : Nat
  outs : Int
  mv : Nat → Nat → Option (Int × Nat)
structure Mac.Ok (M : Mac) : Prop where
  st : M.start < M.size
  tgt : ∀ q x o t, q < M.size → x < M.ins → M.mv q x = some (o, t) → t < M.size

def pushM (l : List Nat) : Option (Int × Nat) → List Nat
  | none => l
  | some (_, t) => if t ∈ l then l else l ++ [t]
/-- The list after the moves from q by the first k inputs. -/
def rowTo (M : Mac) (q : Nat) (l : List Nat) : Nat → List Nat
  | 0 => l
  | k + 1 => pushM (rowTo M q l k) (M.mv q k)
/-- The list after the moves from its first k states. -/
def ordAt (M : Mac) : Nat → List Nat
  | 0 => [M.start]
  | k + 1 => if k < (ordAt M k).length then rowTo M ((ordAt M k).getD k 0) (ordAt M k) M.ins else ordAt M k
def ord (M : Mac) : List Nat := ordAt M M.size

theorem pushM_pre (l : List Nat) (o : Option (Int × Nat)) : l <+: pushM l o := by
  rcases o with _ | ⟨o, t⟩
  · exact List.prefix_rfl
  · unfold pushM; dsimp only; split
    · exact List.prefix_rfl
    · exact ⟨[t], rfl⟩
theorem pushM_mem (l : List Nat) (o : Int) (t : Nat) : t ∈ pushM l (some (o, t)) := by
  unfold pushM; dsimp only; split <;> simp_all
theorem pushM_nodup {l : List Nat} (h : l.Nodup) (o : Option (Int × Nat)) : (pushM l o).Nodup := by
  rcases o with _ | ⟨o, t⟩
  · exact h
  · unfold pushM; dsimp only; split
    · exact h
    · rename_i hn
      rw [List.nodup_append]
      exact ⟨h, by simp, fun a ha b hb e => by simp at hb; subst hb; subst e; exact hn ha⟩
theorem pushM_all {P : Nat → Prop} {l : List Nat} (h : ∀ q ∈ l, P q) (o : Option (Int × Nat)) (ho : ∀ z t, o = some (z, t) → P t) : ∀ q ∈ pushM l o, P q := by
  rcases o with _ | ⟨o, t⟩
  · exact h
  · unfold pushM; dsimp only; split
    · exact h
    · intro q hq
      rw [List.mem_append, List.mem_singleton] at hq
      rcases hq with hq | rfl
      · exact h q hq
      · exact ho o q rfl
section
variable {M : Mac}
theorem rowTo_pre (q : Nat) (l : List Nat) : ∀ k, l <+: rowTo M q l k
  | 0 => List.prefix_rfl
  | k + 1 => (rowTo_pre q l k).trans (pushM_pre _ _)
theorem rowTo_mono (q : Nat) (l : List Nat) {j k : Nat} (h : j ≤ k) : rowTo M q l j <+: rowTo M q l k := by
  induction k with
  | zero => obtain rfl : j = 0 := by omega
            exact List.prefix_rfl
  | succ k ih =>
    by_cases e : j = k + 1
    · subst e; exact List.prefix_rfl
    · exact (ih (by omega)).trans (pushM_pre _ _)
theorem rowTo_mem (q : Nat) (l : List Nat) {x k : Nat} {o : Int} {t : Nat} (hx : x < k) (h : M.mv q x = some (o, t)) : t ∈ rowTo M q l k := by
  have h1 : t ∈ rowTo M q l (x + 1) := by rw [rowTo, h]; exact pushM_mem _ _ _
  exact (rowTo_mono q l (show x + 1 ≤ k by omega)).subset h1
theorem rowTo_nodup (q : Nat) {l : List Nat} (h : l.Nodup) : ∀ k, (rowTo M q l k).Nodup
  | 0 => h
  | k + 1 => pushM_nodup (rowTo_nodup q h k) _
theorem rowTo_all {P : Nat → Prop} (q : Nat) {l : List Nat} (h : ∀ p ∈ l, P p) : ∀ k, (∀ x o t, x < k → M.mv q x = some (o, t) → P t) → ∀ p ∈ rowTo M q l k, P p
  | 0, _ => h
  | k + 1, hk => pushM_all (rowTo_all q h k (fun x o t hx => hk x o t (by omega))) _ (fun z t e => hk k z t (by omega) e)
theorem ordAt_step (k : Nat) : ordAt M k <+: ordAt M (k + 1) := by
  rw [ordAt]
  split
  · exact rowTo_pre _ _ _
  · exact List.prefix_rfl
theorem ordAt_pre {j k : Nat} (h : j ≤ k) : ordAt M j <+: ordAt M k := by
  induction k with
  | zero => obtain rfl : j = 0 := by omega
            exact List.prefix_rfl
  | succ k ih =>
    by_cases e : j = k + 1
    · subst e; exact List.prefix_rfl
    · exact (ih (by omega)).trans (ordAt_step k)
theorem ordAt_pos (k : Nat) : 0 < (ordAt M k).length := by
  have := (ordAt_pre (M := M) (Nat.zero_le k)).length_le
  simp only [ordAt, List.length_singleton] at this
  omega
theorem ordAt_nodup : ∀ k, (ordAt M k).Nodup
  | 0 => by simp [ordAt]
  | k + 1 => by
    rw [ordAt]
    split
    · exact rowTo_nodup _ (ordAt_nodup k) _
    · exact ordAt_nodup k
/-- What holds of the start, and is kept by moves, holds of all states of the search. -/
theorem ordAt_ind {P : Nat → Prop} (h0 : P M.start) (hs : ∀ q x o t, P q → x < M.ins → M.mv q x = some (o, t) → P t) : ∀ k, ∀ q ∈ ordAt M k, P q
  | 0 => by simp [ordAt]; exact h0
  | k + 1 => by
    rw [ordAt]
    split
    · rename_i hk
      exact rowTo_all _ (ordAt_ind h0 hs k) _ (fun x o t hx e => hs _ x o t (ordAt_ind h0 hs k _ (getD_mem _ 0 hk)) hx e)
    · exact ordAt_ind h0 hs k
theorem ordAt_lt (h : M.Ok) (k : Nat) : ∀ q ∈ ordAt M k, q < M.size := ordAt_ind h.st (fun q x o t hq hx e => h.tgt q x o t hq hx e) k
theorem ordAt_len (h : M.Ok) (k : Nat) : (ordAt M k).length ≤ M.size := nodup_lt (ordAt_nodup k) (ordAt_lt h k)
theorem ordAt_stay {k : Nat} (h : (ordAt M k).length ≤ k) : ∀ j, k ≤ j → ordAt M j = ordAt M k
  | 0, hj => by obtain rfl : k = 0 := by omega
                rfl
  | j + 1, hj => by
    by_cases e : k = j + 1
    · subst e; rfl
    · have ih := ordAt_stay h j (by omega)
      rw [ordAt, if_neg (by rw [ih]; omega), ih]
theorem ord_done (h : M.Ok) {k : Nat} (hk : (ordAt M k).length ≤ k) : ordAt M k = ord M := by
  unfold ord
  by_cases e : k ≤ M.size
  · exact (ordAt_stay hk _ e).symm
  · exact ordAt_stay (ordAt_len h _) _ (by omega)
theorem ordAt_sub (h : M.Ok) (k : Nat) : ordAt M k <+: ord M := by
  by_cases e : k ≤ M.size
  · exact ordAt_pre e
  · rw [ord_done h (by have := ordAt_len h k; omega)]; exact List.prefix_rfl
theorem ord_nodup : (ord M).Nodup := ordAt_nodup _
theorem ord_lt (h : M.Ok) : ∀ q ∈ ord M, q < M.size := ordAt_lt h _
theorem ord_len (h : M.Ok) : (ord M).length ≤ M.size := ordAt_len h _
theorem ord_pos : 0 < (ord M).length := ordAt_pos _
theorem ord_zero : (ord M).getD 0 0 = M.start := by
  have := pre_getD (ordAt_pre (M := M) (Nat.zero_le M.size)) 0 (i := 0) (by simp [ordAt])
  unfold ord
  rw [this]; rfl
theorem ord_start : M.start ∈ ord M := by rw [← ord_zero (M := M)]; exact getD_mem _ _ ord_pos
theorem ordAt_to {k i x : Nat} {o : Int} {t : Nat} (hi : i < k) (hl : i < (ordAt M k).length) (hx : x < M.ins) (e : M.mv ((ordAt M k).getD i 0) x = some (o, t)) : t ∈ ordAt M k := by
  induction k with
  | zero => omega
  | succ k ih =>
    by_cases hk : i < (ordAt M k).length
    · rw [pre_getD (ordAt_step k) 0 hk] at e
      by_cases hik : i < k
      · exact (ordAt_step k).subset (ih hik hk e)
      · obtain rfl : i = k := by omega
        rw [ordAt, if_pos hk]
        exact rowTo_mem _ _ hx e
    · rw [ordAt] at hl
      split at hl <;> omega
theorem ord_to (h : M.Ok) {q x : Nat} {o : Int} {t : Nat} (hq : q ∈ ord M) (hx : x < M.ins) (e : M.mv q x = some (o, t)) : t ∈ ord M := by
  have h1 : (ord M).idxOf q < (ord M).length := List.idxOf_lt_length_of_mem hq
  exact ordAt_to (i := (ord M).idxOf q) (by have := ord_len h; omega) h1 hx (by show M.mv ((ord M).getD _ 0) x = _; rw [getD_idxOf hq]; exact e)
theorem ord_ind (h : M.Ok) {P : Nat → Prop} (h0 : P M.start) (hs : ∀ q x o t, q ∈ ord M → P q → x < M.ins → M.mv q x = some (o, t) → P t) : ∀ q ∈ ord M, P q := by
  intro q hq
  exact (ordAt_ind (M := M) (P := fun q => q ∈ ord M ∧ P q) ⟨ord_start, h0⟩ (fun q x o t hq hx e => ⟨ord_to h hq.1 hx e, hs q x o t hq.1 hq.2 hx e⟩) _ q hq).2
end

/-- The rows of state q, which has number n in the list l. -/
def bOut (M : Mac) (q : Nat) : List Int := (List.range M.ins).map fun x => match M.mv q x with | some (o, _) => o | none => 0
def bNext (M : Mac) (l : List Nat) (n q : Nat) : List Int := (List.range M.ins).map fun x => match M.mv q x with | some (_, t) => (l.idxOf t : Int) | none => (n : Int)
def bOuts (M : Mac) (k : Nat) : List (List Int) := (List.range k).map fun n => bOut M ((ord M).getD n 0)
def bNexts (M : Mac) (k : Nat) : List (List Int) := (List.range k).map fun n => bNext M (ord M) n ((ord M).getD n 0)
def build (M : Mac) : Mly := ⟨M.ins, M.outs, 0, bOuts M (ord M).length, bNexts M (ord M).length⟩
theorem bOuts_succ (M : Mac) (k : Nat) : bOuts M (k + 1) = bOuts M k ++ [bOut M ((ord M).getD k 0)] := by unfold bOuts; rw [List.range_succ, List.map_append]; rfl
theorem bNexts_succ (M : Mac) (k : Nat) : bNexts M (k + 1) = bNexts M k ++ [bNext M (ord M) k ((ord M).getD k 0)] := by unfold bNexts; rw [List.range_succ, List.map_append]; rfl
theorem bOuts_len (M : Mac) (k : Nat) : (bOuts M k).length = k := by simp [bOuts]
theorem bNexts_len (M : Mac) (k : Nat) : (bNexts M k).length = k := by simp [bNexts]
theorem bOuts_get (M : Mac) {k n : Nat} (h : n < k) : (bOuts M k).getD n [] = bOut M ((ord M).getD n 0) := by simp [bOuts, List.getD, h]
theorem bNexts_get (M : Mac) {k n : Nat} (h : n < k) : (bNexts M k).getD n [] = bNext M (ord M) n ((ord M).getD n 0) := by simp [bNexts, List.getD, h]
theorem bOut_get (M : Mac) (q : Nat) {x : Nat} (h : x < M.ins) : (bOut M q).getD x 0 = match M.mv q x with | some (o, _) => o | none => 0 := by simp [bOut, List.getD, h]
theorem bNext_get (M : Mac) (l : List Nat) (n q : Nat) {x : Nat} (h : x < M.ins) : (bNext M l n q).getD x 0 = match M.mv q x with | some (_, t) => (l.idxOf t : Int) | none => (n : Int) := by simp [bNext, List.getD, h]

/-- M' is M under other names. -/
structure Iso (M M' : Mac) (f : Nat → Nat) : Prop where
  ins : M'.ins = M.ins
  outs : M'.outs = M.outs
  st : M'.start = f M.start
  inj : ∀ p q, p ∈ ord M → q ∈ ord M → f p = f q → p = q
  mv : ∀ q x, q ∈ ord M → x < M.ins → M'.mv (f q) x = (M.mv q x).map fun z => (z.1, f z.2)
section
variable {M M' : Mac} {f : Nat → Nat}
theorem iso_row (h : Iso M M' f) (hM : M.Ok) {q : Nat} (hq : q ∈ ord M) {l : List Nat} (hl : ∀ p ∈ l, p ∈ ord M) : ∀ k, k ≤ M.ins → rowTo M' (f q) (l.map f) k = (rowTo M q l k).map f
  | 0, _ => rfl
  | k + 1, hk => by
    rw [rowTo, rowTo, iso_row h hM hq hl k (by omega), h.mv q k hq (by omega)]
    rcases hmv : M.mv q k with _ | ⟨o, t⟩
    · rfl
    · have ht := ord_to hM hq (by omega) hmv
      have hall : ∀ p ∈ rowTo M q l k, p ∈ ord M := rowTo_all q hl k (fun x o t hx e => ord_to hM hq (by omega) e)
      simp only [Option.map_some, pushM]
      have e : (f t ∈ (rowTo M q l k).map f) ↔ t ∈ rowTo M q l k := by
        constructor
        · intro hm
          obtain ⟨p, hp, e⟩ := List.mem_map.1 hm
          have := h.inj p t (hall p hp) ht e
          rw [← this]; exact hp
        · exact fun hm => List.mem_map_of_mem hm
      by_cases hm : t ∈ rowTo M q l k
      · rw [if_pos hm, if_pos (e.2 hm)]
      · rw [if_neg hm, if_neg (fun x => hm (e.1 x)), List.map_append]; rfl
theorem iso_at (h : Iso M M' f) (hM : M.Ok) : ∀ k, ordAt M' k = (ordAt M k).map f
  | 0 => by simp [ordAt, h.st]
  | k + 1 => by
    have ih := iso_at h hM k
    rw [ordAt, ordAt, ih, List.length_map]
    split
    · rename_i hk
      have hin : (ordAt M k).getD k 0 ∈ ord M := (ordAt_sub hM k).subset (getD_mem _ _ hk)
      have e : ((ordAt M k).map f).getD k 0 = f ((ordAt M k).getD k 0) := by simp [List.getD, hk]
      rw [e, h.ins, iso_row h hM hin (fun p hp => (ordAt_sub hM k).subset hp) M.ins (Nat.le_refl _)]
    · rfl
theorem iso_ord (h : Iso M M' f) (hM : M.Ok) (hM' : M'.Ok) : ord M' = (ord M).map f := by
  have h1 := iso_at h hM (M.size + M'.size)
  rw [ord_done hM' (by have := ordAt_len hM' (M.size + M'.size); omega), ord_done hM (by have := ordAt_len hM (M.size + M'.size); omega)] at h1
  exact h1
theorem idxOf_map_inj {f : Nat → Nat} {t : Nat} : ∀ (l : List Nat), (∀ p ∈ l, f p = f t → p = t) → (l.map f).idxOf (f t) = l.idxOf t
  | [], _ => rfl
  | a :: l, h => by
    rw [List.map_cons, List.idxOf_cons, List.idxOf_cons, idxOf_map_inj l (fun p hp => h p (by simp [hp]))]
    have : (f a == f t) = (a == t) := by
      rw [Bool.eq_iff_iff, beq_iff_eq, beq_iff_eq]
      exact ⟨h a (by simp), fun e => by rw [e]⟩
    rw [this]
theorem build_iso (h : Iso M M' f) (hM : M.Ok) (hM' : M'.Ok) : build M' = build M := by
  have ho := iso_ord h hM hM'
  have hl : (ord M').length = (ord M).length := by rw [ho, List.length_map]
  have hg : ∀ n, n < (ord M).length → (ord M').getD n 0 = f ((ord M).getD n 0) := fun n hn => by rw [ho]; simp [List.getD, hn]
  unfold build
  rw [hl, h.ins, h.outs]
  have e1 : bOuts M' (ord M).length = bOuts M (ord M).length := by
    unfold bOuts
    apply List.map_congr_left
    intro n hn
    rw [List.mem_range] at hn
    rw [hg n hn]
    unfold bOut
    rw [h.ins]
    apply List.map_congr_left
    intro x hx
    rw [List.mem_range] at hx
    rw [h.mv _ x (getD_mem _ _ hn) hx]
    rcases M.mv ((ord M).getD n 0) x with _ | ⟨o, t⟩ <;> rfl
  have e2 : bNexts M' (ord M).length = bNexts M (ord M).length := by
    unfold bNexts
    apply List.map_congr_left
    intro n hn
    rw [List.mem_range] at hn
    rw [hg n hn]
    unfold bNext
    rw [h.ins]
    apply List.map_congr_left
    intro x hx
    rw [List.mem_range] at hx
    rw [h.mv _ x (getD_mem _ _ hn) hx]
    rcases hmv : M.mv ((ord M).getD n 0) x with _ | ⟨o, t⟩
    · rfl
    · simp only [Option.map_some]
      rw [ho, idxOf_map_inj (ord M) (fun p hp e => h.inj p t hp (ord_to hM (getD_mem _ _ hn) hx hmv) e)]
  rw [e1, e2]
end
end Go.Proofs.Ytcmhginhfhiolaa
set_option linter.unusedVariables false
set_option linter.unusedSimpArgs false
namespace Go.Proofs.Ytcmhginhfhiolaa

abbrev Rel := Nat → Nat → Prop
/-- Classes in which moves have the same outputs and lead to the same class. -/
structure Good (L : Mac) (G : Rel) : Prop where
  refl : ∀ i, i < L.size → G i i
  symm : ∀ i j, G i j → G j i
  trans : ∀ i j k, G i j → G j k → G i k
  cong : ∀ i j x o t o' t', i < L.size → j < L.size → G i j → x < L.ins → L.mv i x = some (o, t) → L.mv j x = some (o', t') → o = o' ∧ G t t'
def Sub (L : Mac) (E G : Rel) : Prop := ∀ i j, i < L.size → j < L.size → E i j → G i j
def CanJoin (L : Mac) (E : Rel) (n k : Nat) : Prop := ∃ G, Good L G ∧ Sub L E G ∧ G n k
def JoinRel (L : Mac) (E : Rel) (n k : Nat) : Rel := fun i j => ∀ G, Good L G → Sub L E G → G n k → G i j
section
variable {L : Mac} {E : Rel} {n k : Nat}
theorem join_good (h : CanJoin L E n k) : Good L (JoinRel L E n k) := by
  refine ⟨fun i hi G hG _ _ => hG.refl i hi, fun i j h G hG hs hn => hG.symm i j (h G hG hs hn), fun i j k h1 h2 G hG hs hn => hG.trans i j k (h1 G hG hs hn) (h2 G hG hs hn), fun i j x o t o' t' hi hj hij hx e e' => ⟨?_, fun G hG hs hn => (hG.cong i j x o t o' t' hi hj (hij G hG hs hn) hx e e').2⟩⟩
  obtain ⟨G, hG, hs, hn⟩ := h
  exact (hG.cong i j x o t o' t' hi hj (hij G hG hs hn) hx e e').1
theorem join_sub : Sub L E (JoinRel L E n k) := fun i j hi hj h G _ hs _ => hs i j hi hj h
theorem join_has : JoinRel L E n k n k := fun _ _ _ hn => hn
theorem eq_good : Good L (fun i j => i = j) := ⟨fun _ _ => rfl, fun _ _ h => h.symm, fun _ _ _ h k => h.trans k, fun i j x o t o' t' _ _ e _ h h' => by
  subst e
  rw [h] at h'
  injection h' with h'
  injection h' with h1 h2
  exact ⟨h1, h2⟩⟩
end

/-- The classes after state n was tried with the states below k, and whether it has been united. -/
def tryTo (L : Mac) (E : Rel) (n : Nat) : Nat → Rel × Prop
  | 0 => (E, False)
  | k + 1 => (fun i j => (((tryTo L E n k).2 ∨ (tryTo L E n k).1 n k ∨ ¬ CanJoin L (tryTo L E n k).1 n k) ∧ (tryTo L E n k).1 i j) ∨
      (¬ (tryTo L E n k).2 ∧ ¬ (tryTo L E n k).1 n k ∧ CanJoin L (tryTo L E n k).1 n k ∧ JoinRel L (tryTo L E n k).1 n k i j),
    (tryTo L E n k).2 ∨ (¬ (tryTo L E n k).1 n k ∧ CanJoin L (tryTo L E n k).1 n k))
def mergeTo (L : Mac) : Nat → Rel
  | 0 => fun i j => i = j
  | n + 1 => (tryTo L (mergeTo L n) n n).1
def final (L : Mac) : Rel := mergeTo L L.size
section
variable {L : Mac} {E : Rel} {n : Nat}
theorem try_same {k : Nat} (h : (tryTo L E n k).2 ∨ (tryTo L E n k).1 n k ∨ ¬ CanJoin L (tryTo L E n k).1 n k) : (tryTo L E n (k + 1)).1 = (tryTo L E n k).1 := by
  funext i j
  apply propext
  rw [tryTo]
  dsimp only
  constructor
  · rintro (⟨_, h1⟩ | ⟨h1, h2, h3, _⟩)
    · exact h1
    · rcases h with h | h | h
      · exact absurd h h1
      · exact absurd h h2
      · exact absurd h3 h
  · exact fun h1 => .inl ⟨h, h1⟩
theorem try_flag {k : Nat} (h : (tryTo L E n k).2 ∨ (tryTo L E n k).1 n k ∨ ¬ CanJoin L (tryTo L E n k).1 n k) : (tryTo L E n (k + 1)).2 ↔ (tryTo L E n k).2 := by
  rw [tryTo]
  dsimp only
  constructor
  · rintro (h1 | ⟨h1, h2⟩)
    · exact h1
    · rcases h with h | h | h
      · exact h
      · exact absurd h h1
      · exact absurd h2 h
  · exact fun h1 => .inl h1
theorem try_yes {k : Nat} (h : ¬ (tryTo L E n k).2) (he : ¬ (tryTo L E n k).1 n k) (hc : CanJoin L (tryTo L E n k).1 n k) : (tryTo L E n (k + 1)).1 = JoinRel L (tryTo L E n k).1 n k ∧ (tryTo L E n (k + 1)).2 := by
  constructor
  · funext i j
    apply propext
    rw [tryTo]
    dsimp only
    constructor
    · rintro (⟨h1 | h1 | h1, _⟩ | ⟨_, _, _, h1⟩)
      · exact absurd h1 h
      · exact absurd h1 he
      · exact absurd hc h1
      · exact h1
    · exact fun h1 => .inr ⟨h, he, hc, h1⟩
  · rw [tryTo]; exact .inr ⟨he, hc⟩
theorem try_split (k : Nat) : ((tryTo L E n k).2 ∨ (tryTo L E n k).1 n k ∨ ¬ CanJoin L (tryTo L E n k).1 n k) ∨ (¬ (tryTo L E n k).2 ∧ ¬ (tryTo L E n k).1 n k ∧ CanJoin L (tryTo L E n k).1 n k) := by
  by_cases h1 : (tryTo L E n k).2
  · exact .inl (.inl h1)
  · by_cases h2 : (tryTo L E n k).1 n k
    · exact .inl (.inr (.inl h2))
    · by_cases h3 : CanJoin L (tryTo L E n k).1 n k
      · exact .inr ⟨h1, h2, h3⟩
      · exact .inl (.inr (.inr h3))
theorem try_all {k : Nat} (h : (tryTo L E n k).2) : ∀ j, k ≤ j → (tryTo L E n j).1 = (tryTo L E n k).1 ∧ (tryTo L E n j).2
  | 0, hj => by obtain rfl : k = 0 := by omega
                exact ⟨rfl, h⟩
  | j + 1, hj => by
    by_cases e : k = j + 1
    · subst e; exact ⟨rfl, h⟩
    · have ih := try_all h j (by omega)
      exact ⟨(try_same (.inl ih.2)).trans ih.1, (try_flag (.inl ih.2)).2 ih.2⟩
theorem try_none : ∀ k, ¬ (tryTo L E n k).2 → (tryTo L E n k).1 = E
  | 0, _ => rfl
  | k + 1, h => by
    rcases try_split (L := L) (E := E) (n := n) k with h1 | ⟨h1, h2, h3⟩
    · rw [try_same h1]; exact try_none k (fun x => h ((try_flag h1).2 x))
    · exact absurd (try_yes h1 h2 h3).2 h
theorem try_good (hE : Good L E) : ∀ k, Good L (tryTo L E n k).1 ∧ Sub L E (tryTo L E n k).1
  | 0 => ⟨hE, fun _ _ _ _ h => h⟩
  | k + 1 => by
    have ih := try_good hE k
    rcases try_split (L := L) (E := E) (n := n) k with h1 | ⟨h1, h2, h3⟩
    · rw [try_same h1]; exact ih
    · rw [(try_yes h1 h2 h3).1]
      exact ⟨join_good h3, fun i j hi hj h => join_sub i j hi hj (ih.2 i j hi hj h)⟩
theorem merge_good : ∀ n, Good L (mergeTo L n)
  | 0 => eq_good
  | n + 1 => (try_good (merge_good n) n).1
theorem final_good : Good L (final L) := merge_good _
end

/-- The numbers p say which states are in one class. -/
def Rep (L : Mac) (E : Rel) (p : Nat → Nat) : Prop := ∀ i j, i < L.size → j < L.size → (p i = p j ↔ E i j)
/-- M is L with one state for each class. -/
structure Quo (L : Mac) (p : Nat → Nat) (M : Mac) : Prop where
  ins : M.ins = L.ins
  outs : M.outs = L.outs
  st : M.start = p L.start
  yes : ∀ i x o t, i < L.size → x < L.ins → L.mv i x = some (o, t) → M.mv (p i) x = some (o, p t)
  no : ∀ i x, i < L.size → x < L.ins → (∀ j, j < L.size → p j = p i → L.mv j x = none) → M.mv (p i) x = none
section
variable {L M M' : Mac} {p p' : Nat → Nat} {E : Rel}
theorem Quo.cases (h : Quo L p M) {i x : Nat} (hi : i < L.size) (hx : x < L.ins) :
    (∃ j o t, j < L.size ∧ p j = p i ∧ L.mv j x = some (o, t) ∧ M.mv (p i) x = some (o, p t)) ∨ ((∀ j, j < L.size → p j = p i → L.mv j x = none) ∧ M.mv (p i) x = none) := by
  by_cases h0 : ∀ j, j < L.size → p j = p i → L.mv j x = none
  · exact .inr ⟨h0, h.no i x hi hx h0⟩
  · left
    simp only [Classical.not_forall] at h0
    obtain ⟨j, hj, e, hn⟩ := h0
    rcases hm : L.mv j x with _ | ⟨o, t⟩
    · exact absurd hm hn
    · exact ⟨j, o, t, hj, e, hm, by rw [← e]; exact h.yes j x o t hj hx hm⟩
theorem Quo.image (h : Quo L p M) (hL : L.Ok) (hM : M.Ok) : ∀ q ∈ ord M, ∃ i, i < L.size ∧ p i = q :=
  ord_ind hM ⟨L.start, hL.st, h.st.symm⟩ fun q x o t hq ⟨i, hi, e⟩ hx em => by
    subst e
    rw [h.ins] at hx
    rcases h.cases hi hx with ⟨j, o', t', hj, _, ej, em'⟩ | ⟨_, em'⟩
    · rw [em'] at em
      injection em with em
      injection em with _ e2
      exact ⟨t', hL.tgt j x o' t' hj hx ej, e2⟩
    · rw [em'] at em; cases em
theorem quo_iso (h : Quo L p M) (h' : Quo L p' M') (hL : L.Ok) (hM : M.Ok) (hM' : M'.Ok) (hr : Rep L E p) (hr' : Rep L E p') : build M' = build M := by
  have hf : ∀ i, i < L.size → ∃ j, (List.range L.size).find? (fun j => p j == p i) = some j ∧ j < L.size ∧ p j = p i := fun i hi => by
    rcases hfi : (List.range L.size).find? (fun j => p j == p i) with _ | j
    · rw [List.find?_eq_none] at hfi
      exact absurd (by simp) (hfi i (List.mem_range.2 hi))
    · have h1 := List.find?_some hfi
      have h2 := List.mem_of_find?_eq_some hfi
      exact ⟨j, rfl, List.mem_range.1 h2, by simpa using h1⟩
  let f : Nat → Nat := fun c => p' (((List.range L.size).find? (fun j => p j == c)).getD 0)
  have hfp : ∀ i, i < L.size → f (p i) = p' i := fun i hi => by
    obtain ⟨j, e, hj, ej⟩ := hf i hi
    show p' (((List.range L.size).find? (fun j => p j == p i)).getD 0) = p' i
    rw [e]
    exact (hr' j i hj hi).2 ((hr j i hj hi).1 ej)
  refine build_iso (f := f) ⟨by rw [h.ins, h'.ins], by rw [h.outs, h'.outs], by rw [h.st, h'.st, hfp _ hL.st], ?_, ?_⟩ hM hM'
  · intro a b ha hb e
    obtain ⟨i, hi, rfl⟩ := h.image hL hM a ha
    obtain ⟨j, hj, rfl⟩ := h.image hL hM b hb
    rw [hfp i hi, hfp j hj] at e
    exact (hr i j hi hj).2 ((hr' i j hi hj).1 e)
  · intro q x hq hx
    obtain ⟨i, hi, rfl⟩ := h.image hL hM q hq
    rw [h.ins] at hx
    rw [hfp i hi]
    rcases h.cases hi hx with ⟨j, o, t, hj, ej, em, e2⟩ | ⟨h0, e2⟩
    · have e3 := h'.yes j x o t hj hx em
      rw [(hr' j i hj hi).2 ((hr j i hj hi).1 ej)] at e3
      rw [e2, e3]
      simp only [Option.map_some]
      rw [hfp t (hL.tgt j x o t hj hx em)]
    · rw [e2, h'.no i x hi hx (fun j hj e => h0 j hj ((hr j i hj hi).2 ((hr' j i hj hi).1 e)))]
      rfl
end

/-- The states by their places in the order of the search. -/
def posM (A : Mac) : Mac := ⟨(ord A).length, 0, A.ins, A.outs, fun i x => (A.mv ((ord A).getD i 0) x).map fun z => (z.1, (ord A).idxOf z.2)⟩
section
variable {A : Mac}
theorem posM_ok (h : A.Ok) : (posM A).Ok := ⟨ord_pos, fun q x o t hq hx e => by
  simp only [posM] at e hq hx ⊢
  rcases hm : A.mv ((ord A).getD q 0) x with _ | ⟨o', t'⟩
  · rw [hm] at e; cases e
  · rw [hm] at e
    simp only [Option.map_some] at e
    injection e with e
    injection e with _ e
    rw [← e]
    exact List.idxOf_lt_length_of_mem (ord_to h (getD_mem _ _ hq) hx hm)⟩
theorem build_pos (h : A.Ok) : build A = build (posM A) := by
  have hp := posM_ok h
  have hlt := ord_lt hp
  refine build_iso (f := fun i => (ord A).getD i 0) ⟨rfl, rfl, ord_zero.symm, fun p q hp hq e => getD_inj ord_nodup (hlt p hp) (hlt q hq) e, fun q x hq hx => ?_⟩ hp h
  have hq2 := hlt q hq
  simp only [posM] at hq2 hx ⊢
  rcases hm : A.mv ((ord A).getD q 0) x with _ | ⟨o', t'⟩
  · rfl
  · simp only [Option.map_some]
    rw [getD_idxOf (ord_to h (getD_mem _ _ hq2) hx hm)]
end

/-! Machines with the same outputs. -/
def Total (M : Mac) : Prop := ∀ q x, q < M.size → x < M.ins → ∃ o t, M.mv q x = some (o, t)
def Bi (M M' : Mac) (R : Rel) : Prop := ∀ i j, R i j → ∀ x, x < M.ins → ∃ o t t', M.mv i x = some (o, t) ∧ M'.mv j x = some (o, t') ∧ R t t'
def Sim (M M' : Mac) : Rel := fun i j => ∃ R, Bi M M' R ∧ R i j
section
variable {M M' M'' L : Mac}
theorem sim_refl (h : M.Ok) (ht : Total M) {i : Nat} (hi : i < M.size) : Sim M M i i := by
  refine ⟨fun a b => a = b ∧ a < M.size, fun a b ⟨e, ha⟩ x hx => ?_, rfl, hi⟩
  subst e
  obtain ⟨o, t, e⟩ := ht a x ha hx
  exact ⟨o, t, t, e, e, rfl, h.tgt a x o t ha hx e⟩
theorem sim_symm (hi : M'.ins = M.ins) {i j : Nat} (h : Sim M M' i j) : Sim M' M j i := by
  obtain ⟨R, hR, hr⟩ := h
  refine ⟨fun a b => R b a, fun a b hab x hx => ?_, hr⟩
  obtain ⟨o, t, t', e, e', ht⟩ := hR b a hab x (by omega)
  exact ⟨o, t', t, e', e, ht⟩
theorem sim_trans (hi : M'.ins = M.ins) {i j k : Nat} (h : Sim M M' i j) (h' : Sim M' M'' j k) : Sim M M'' i k := by
  obtain ⟨R, hR, hr⟩ := h
  obtain ⟨S, hS, hs⟩ := h'
  refine ⟨fun a c => ∃ b, R a b ∧ S b c, fun a c ⟨b, hab, hbc⟩ x hx => ?_, j, hr, hs⟩
  obtain ⟨o, t, t', e, e', ht⟩ := hR a b hab x hx
  obtain ⟨o2, t2, t3, e2, e3, ht2⟩ := hS b c hbc x (by omega)
  rw [e'] at e2
  injection e2 with e2
  injection e2 with e4 e5
  subst e4 e5
  exact ⟨o, t, t3, e, e3, t', ht, ht2⟩
theorem sim_step {i j x : Nat} {o o' : Int} {t t' : Nat} (h : Sim M M' i j) (hx : x < M.ins) (e : M.mv i x = some (o, t)) (e' : M'.mv j x = some (o', t')) : o = o' ∧ Sim M M' t t' := by
  obtain ⟨R, hR, hr⟩ := h
  obtain ⟨o2, t2, t3, e2, e3, ht⟩ := hR i j hr x hx
  rw [e] at e2; rw [e'] at e3
  injection e2 with e2; injection e3 with e3
  injection e2 with a1 a2; injection e3 with b1 b2
  subst a1 a2 b1 b2
  exact ⟨rfl, R, hR, ht⟩
theorem sim_good (h : L.Ok) (ht : Total L) : Good L (Sim L L) :=
  ⟨fun i hi => sim_refl h ht hi, fun _ _ h => sim_symm rfl h, fun _ _ _ h k => sim_trans rfl h k, fun i j x o t o' t' _ _ hij hx e e' => sim_step hij hx e e'⟩
theorem good_sim (h : L.Ok) (ht : Total L) {G : Rel} (hG : Good L G) {i j : Nat} (hi : i < L.size) (hj : j < L.size) (hij : G i j) : Sim L L i j := by
  refine ⟨fun a b => a < L.size ∧ b < L.size ∧ G a b, fun a b ⟨ha, hb, hab⟩ x hx => ?_, hi, hj, hij⟩
  obtain ⟨o, t, e⟩ := ht a x ha hx
  obtain ⟨o', t', e'⟩ := ht b x hb hx
  have hc := hG.cong a b x o t o' t' ha hb hab hx e e'
  obtain ⟨c1, c2⟩ := hc
  subst c1
  exact ⟨o, t, t', e, e', h.tgt a x o t ha hx e, h.tgt b x o t' hb hx e', c2⟩
/-- Where all moves are there, the classes are those of states with the same outputs. -/
theorem try_sim (h : L.Ok) (ht : Total L) {E : Rel} (hE : Good L E) {n : Nat} (hn : n < L.size) : ∀ k, k ≤ n → ¬ (tryTo L E n k).2 → ∀ j, j < k → Sim L L n j → (tryTo L E n k).1 n j
  | 0, _, _, j, hj, _ => by omega
  | k + 1, hk, hd, j, hj, hs => by
    rcases try_split (L := L) (E := E) (n := n) k with h1 | ⟨h1, h2, h3⟩
    · rw [try_same h1]
      have hd' : ¬ (tryTo L E n k).2 := fun x => hd ((try_flag h1).2 x)
      by_cases hjk : j < k
      · exact try_sim h ht hE hn k (by omega) hd' j hjk hs
      · obtain rfl : j = k := by omega
        rcases h1 with h1 | h1 | h1
        · exact absurd h1 hd'
        · exact h1
        · refine absurd ⟨Sim L L, sim_good h ht, fun a b ha hb hab => good_sim h ht (try_good hE j).1 ha hb hab, hs⟩ h1
    · exact absurd (try_yes h1 h2 h3).2 hd
theorem try_some (h : L.Ok) (ht : Total L) {E : Rel} (hE : Good L E) {n : Nat} (hn : n < L.size) : ∀ k, k ≤ n → (tryTo L E n k).2 → ∃ j, j < k ∧ (tryTo L E n k).1 n j
  | 0, _, hd => absurd hd (fun x => x)
  | k + 1, hk, hd => by
    rcases try_split (L := L) (E := E) (n := n) k with h1 | ⟨h1, h2, h3⟩
    · rw [try_same h1]
      obtain ⟨j, hj, e⟩ := try_some h ht hE hn k (by omega) ((try_flag h1).1 hd)
      exact ⟨j, by omega, e⟩
    · rw [(try_yes h1 h2 h3).1]
      exact ⟨k, by omega, join_has⟩
theorem merge_sim (h : L.Ok) (ht : Total L) : ∀ n, n ≤ L.size → ∀ i j, i < n → j < n → Sim L L i j → mergeTo L n i j
  | 0, _, i, j, hi, _, _ => by omega
  | n + 1, hn, i, j, hi, hj, hs => by
    have hG := merge_good (L := L) n
    have hT := try_good (n := n) hG n
    have old : ∀ a b, a < n → b < n → Sim L L a b → mergeTo L (n + 1) a b := fun a b ha hb hab => hT.2 a b (by omega) (by omega) (merge_sim h ht n (by omega) a b ha hb hab)
    have new : ∀ b, b < n → Sim L L n b → mergeTo L (n + 1) n b := fun b hb hnb => by
      by_cases hd : (tryTo L (mergeTo L n) n n).2
      · obtain ⟨k, hk, e⟩ := try_some h ht hG (by omega) n (Nat.le_refl _) hd
        have hnk := good_sim h ht hT.1 (by omega) (by omega) e
        have hkb : Sim L L k b := sim_trans rfl (sim_symm rfl hnk) hnb
        exact hT.1.trans n k b e (old k b hk hb hkb)
      · exact try_sim h ht hG (by omega) n (Nat.le_refl _) hd b hb hnb
    by_cases h1 : i = n
    · subst h1
      by_cases h2 : j = i
      · subst h2; exact hT.1.refl _ (by omega)
      · exact new j (by omega) hs
    · by_cases h2 : j = n
      · subst h2; exact hT.1.symm _ _ (new i (by omega) (sim_symm rfl hs))
      · exact old i j (by omega) (by omega) hs
theorem final_sim (h : L.Ok) (ht : Total L) {i j : Nat} (hi : i < L.size) (hj : j < L.size) : final L i j ↔ Sim L L i j :=
  ⟨fun e => good_sim h ht final_good hi hj e, fun e => merge_sim h ht _ (Nat.le_refl _) i j hi hj e⟩
end

/-- The controllers that are built of the quotients of L by its united classes: there is one at most. -/
def IsQuo (L : Mac) (E : Rel) (X : Mly) : Prop := ∃ p M, Quo L p M ∧ M.Ok ∧ Rep L E p ∧ X = build M
theorem isQuo_one {L : Mac} {E : Rel} (hL : L.Ok) {X Y : Mly} (hX : IsQuo L E X) (hY : IsQuo L E Y) : X = Y := by
  obtain ⟨p, M, h1, h2, h3, rfl⟩ := hX
  obtain ⟨p', M', h1', h2', h3', rfl⟩ := hY
  exact quo_iso h1' h1 hL h2' h2 h3' h3
end Go.Proofs.Ytcmhginhfhiolaa
set_option linter.unusedVariables false
set_option linter.unusedSimpArgs false
namespace Go.Proofs.Ytcmhginhfhiolaa
open Go.RowKit

/-- Old blocks outside of V lie as they lay. -/
structure Chg (V : Dom) (w w' : World) : Prop where
  os : w'.os = w.os
  tape : w'.tape = w.tape
  output : w'.output = w.output
  size : w.heap.size ≤ w'.heap.size
  block : ∀ b, b < w.heap.size → ¬ V b → w'.heap[b]? = w.heap[b]?
section
variable {V U : Dom} {w w' w'' : World}
theorem Chg.refl (V : Dom) (w : World) : Chg V w w := ⟨rfl, rfl, rfl, Nat.le_refl _, fun _ _ _ => rfl⟩
theorem Chg.trans (h : Chg V w w') (k : Chg V w' w'') : Chg V w w'' :=
  ⟨k.os.trans h.os, k.tape.trans h.tape, k.output.trans h.output, Nat.le_trans h.size k.size, fun b hb hv => (k.block b (Nat.lt_of_lt_of_le hb h.size) hv).trans (h.block b hb hv)⟩
theorem Chg.mono (h : Chg V w w') (hu : ∀ b, b < w.heap.size → V b → U b) : Chg U w w' := ⟨h.os, h.tape, h.output, h.size, fun b hb hv => h.block b hb fun x => hv (hu b hb x)⟩
/-- The second step may also change what the first one made. -/
theorem Chg.trans' (h : Chg V w w') (k : Chg U w' w'') (hu : ∀ b, b < w.heap.size → U b → V b) : Chg V w w'' :=
  ⟨k.os.trans h.os, k.tape.trans h.tape, k.output.trans h.output, Nat.le_trans h.size k.size, fun b hb hv => (k.block b (Nat.lt_of_lt_of_le hb h.size) (fun x => hv (hu b hb x))).trans (h.block b hb hv)⟩
theorem Chg.of_below {B : Nat} (h : Below B w w') : Chg (fun b => B ≤ b) w w' := ⟨h.os, h.tape, h.output, h.size, fun b _ hv => h.block b (by omega)⟩
theorem Chg.of_new (h : Below w.heap.size w w') : Chg V w w' := ⟨h.os, h.tape, h.output, h.size, fun b hb _ => h.block b hb⟩
theorem Chg.below {B : Nat} (h : Chg V w w') (hV : ∀ b, b < B → ¬ V b) (hB : B ≤ w.heap.size) : Below B w w' := ⟨h.os, h.tape, h.output, h.size, fun b hb => h.block b (Nat.lt_of_lt_of_le hb hB) (hV b hb)⟩
theorem Chg.alloc (h : Chg V w w') (o : Obj) : Chg V w (w'.alloc o) := h.trans (Chg.of_new ((Below.refl _ _).alloc (Nat.le_refl _) o))
theorem Chg.drew (h : Chg V w w') : Chg V w w'.drew := ⟨h.os, h.tape, h.output, h.size, h.block⟩
theorem Chg.drewN (h : Chg V w w') (n : Nat) : Chg V w (w'.drewN n) := ⟨h.os, h.tape, h.output, h.size, h.block⟩
theorem Chg.drawn (h : Chg V w w') (k : Drawn w' w'') : Chg V w w'' := h.trans (Chg.of_new (k.below _))
theorem Chg.set (h : Chg V w w') (p : Addr) (u : Value) (hp : p.block < w.heap.size → V p.block) : Chg V w (w'.setCell p u) :=
  ⟨h.os, h.tape, h.output, by simpa using h.size, fun b hb hv => by
    have hne : b ≠ p.block := fun e => hv (e ▸ hp (e ▸ hb))
    rw [Below.heap_setCell _ _ _ _ hne]; exact h.block b hb hv⟩
theorem Chg.grown {row : Option Nat} (h : Chg V w w') (hg : w'.grownBy w'' row) (hr : ∀ k, row = some k → k < w.heap.size → V k) : Chg V w w'' :=
  h.trans' (U := fun b => row = some b) ⟨hg.os, hg.tape, hg.output, hg.size, fun b hb hv => hg.block b hb (fun e => hv e.symm)⟩ (fun b hb e => hr b e hb)
theorem Chg.keeps {D : Dom} (h : Chg V w w') (hd : ∀ b, b < w.heap.size → D b → ¬ V b) : Keeps D w w' := ⟨h.size, fun b hb hl => h.block b hl (hd b hl hb)⟩
theorem Chg.box {b : Nat} {o : Obj} (h : Chg V w w') (hb : w.heap[b]? = some o) (hv : ¬ V b) : w'.heap[b]? = some o := (h.block b (lt_of_block hb) hv).trans hb
end

/-- What a move puts out, where it leads: -1 where there is none. -/
def mvO (M : Mac) (q x : Nat) : Int := match M.mv q x with | some (o, _) => o | none => 0
def mvT (M : Mac) (q x : Nat) : Int := match M.mv q x with | some (_, t) => (t : Int) | none => -1
theorem mvT_yes {M : Mac} {q x : Nat} {o : Int} {t : Nat} (h : M.mv q x = some (o, t)) : mvO M q x = o ∧ mvT M q x = t := by unfold mvO mvT; rw [h]; exact ⟨rfl, rfl⟩
theorem mvT_no {M : Mac} {q x : Nat} (h : M.mv q x = none) : mvO M q x = 0 ∧ mvT M q x = -1 := by unfold mvO mvT; rw [h]; exact ⟨rfl, rfl⟩

/-- The function value (fn, caps) tells the moves of M in every world of I; it changes blocks of V alone. -/
structure MvF (fn : Nat) (caps : Array Value) (M : Mac) (I : World → Prop) (V : Dom) (B : Nat) : Prop where
  enter : ∀ (args : Array Value) (W : World), (callFunc fn args).run Try.prog W = .ok (.enter fn args) W
  priv : ∀ b, V b → b < B
  keep : ∀ W W', I W → B ≤ W.heap.size → Below B W W' → I W'
  call : ∀ W (q x : Nat), I W → B ≤ W.heap.size → q < M.size → x < M.ins → Calls Try.prog fn (#[.int .i64 (q : Int), .int .i64 (x : Int)] ++ caps) W fun e W' =>
    e = .returned (.tuple #[.int .i64 (mvO M q x), .int .i64 (mvT M q x)]) ∧ I W' ∧ Chg V W W'
end Go.Proofs.Ytcmhginhfhiolaa
set_option linter.unusedVariables false
set_option linter.unusedSimpArgs false
namespace Go.Proofs.Ytcmhginhfhiolaa
open Go.RowKit
attribute [local go_sem] cell_alloc_old

theorem own_agree {w W : World} {base n size : Nat} {e : TypeId} {v : Value} {xs : List Value} (h : w.ownsRow base e size v n xs) (hb : ∀ b, some b = v.ownBlock → W.heap[b]? = w.heap[b]?) : W.ownsRow base e size v n xs := by
  refine ⟨h.1, ?_⟩
  rcases h.2 with h0 | ⟨g, cap, cur, hv, h1, hh, h3⟩
  · exact .inl h0
  · refine .inr ⟨g, cap, cur, hv, h1, ?_, h3⟩
    rw [hb g (by rw [hv]; rfl)]
    exact hh
theorem own_apart {w : World} {base n size base' n' size' : Nat} {e e' : TypeId} {v v' : Value} {xs xs' : List Value} (h : w.ownsRow base e size v n xs) (k : w.ownsRow base' e' size' v' n' xs') (hne : e ≠ e') {b : Nat} (hb : some b = v.ownBlock) : some b ≠ v'.ownBlock := by
  rcases h.2 with ⟨rfl, _⟩ | ⟨g, cap, cur, rfl, _, hh, _⟩
  · cases hb
  · injection hb with hb
    subst hb
    exact fun e => own_ne k hh (fun e => hne e.symm) e.symm
/-- Rows of ints from block B on. -/
def IB (wr : World) (B : Nat) : Dom := fun b => B ≤ b ∧ ∃ cs fr, wr.heap[b]? = some (.cells cs 3 fr)
/-- The values vs are the rows. -/
def Rows (wr : World) (B : Nat) (rows : List (List Int)) (vs : List Value) : Prop :=
  ∀ i, i < rows.length → ∃ A c, vs[i]? = some (.slice A (rows.getD i []).length c) ∧ RdI wr (IB wr B) A c (rows.getD i [])
theorem Rows.nil (wr : World) (B : Nat) (vs : List Value) : Rows wr B [] vs := fun _ h => absurd h (Nat.not_lt_zero _)
section
variable {wr wr' : World} {B : Nat} {rows : List (List Int)} {vs : List Value}
theorem Rows.keep (h : Rows wr B rows vs) (hk : Keeps (IB wr B) wr wr') : Rows wr' B rows vs := fun i hi => by
  obtain ⟨A, c, h1, h2⟩ := h i hi
  refine ⟨A, c, h1, (h2.keep hk).mono fun b hb _ => ?_⟩
  obtain ⟨hB, cs, fr, hb⟩ := hb
  exact ⟨hB, cs, fr, (hk.block b ⟨hB, cs, fr, hb⟩ (lt_of_block hb)).trans hb⟩
theorem Rows.snoc (h : Rows wr B rows vs) (hl : vs.length = rows.length) {A : Option Addr} {c : Nat} {r : List Int} (hr : RdI wr (IB wr B) A c r) : Rows wr B (rows ++ [r]) (vs ++ [.slice A r.length c]) := fun i hi => by
  rw [List.length_append, List.length_singleton] at hi
  by_cases e : i < rows.length
  · obtain ⟨A', c', h1, h2⟩ := h i e
    have e1 : (rows ++ [r]).getD i [] = rows.getD i [] := by simp [List.getD, List.getElem?_append, e]
    rw [e1]
    refine ⟨A', c', ?_, h2⟩
    rw [List.getElem?_append, if_pos (by omega)]; exact h1
  · obtain rfl : i = rows.length := by omega
    have e1 : (rows ++ [r]).getD rows.length [] = r := by simp [List.getD, List.getElem?_append]
    rw [e1]
    refine ⟨A, c, ?_, hr⟩
    rw [List.getElem?_append, if_neg (by omega), hl, Nat.sub_self]; rfl
end

/-- The controller in block b. -/
structure Mk (B : Nat) (wr : World) (b : Nat) (i o s : Int) (orows : List (List Int)) (Ao : Option Addr) (co : Nat) (vo : List Value) (nrows : List (List Int)) (An : Option Addr) (cn : Nat) (vn : List Value) : Prop where
  mly : wr.heap[b]? = some (.cells #[.int .i64 i, .int .i64 o, .int .i64 s, .slice Ao orows.length co, .slice An nrows.length cn] 24 (0, 0))
  oo : wr.ownsRow B 34 1 (.slice Ao orows.length co) orows.length vo
  on : wr.ownsRow B 34 1 (.slice An nrows.length cn) nrows.length vn
  ro : Rows wr B orows vo
  rn : Rows wr B nrows vn
  dis : ∀ b, some b = (Value.slice Ao orows.length co).ownBlock → some b ≠ (Value.slice An nrows.length cn).ownBlock
section
variable {B : Nat} {wr w5 : World} {b : Nat} {i o s : Int} {orows nrows : List (List Int)} {Ao An A5 : Option Addr} {co cn c5 : Nat} {vo vn : List Value}
theorem Mk.after {wr' : World} (h : Mk B wr b i o s orows Ao co vo nrows An cn vn) (hb : Keeps (fun k => B ≤ k ∨ k = b) wr wr') : Mk B wr' b i o s orows Ao co vo nrows An cn vn := by
  have hk : Keeps (IB wr B) wr wr' := hb.mono fun b h => .inl h.1
  exact ⟨(hb.block _ (.inr rfl) (lt_of_block h.mly)).trans h.mly, own_agree h.oo (fun k e => hb.block k (.inl (h.oo.lt k e.symm).1) (h.oo.lt k e.symm).2), own_agree h.on (fun k e => hb.block k (.inl (h.on.lt k e.symm).1) (h.on.lt k e.symm).2), h.ro.keep hk, h.rn.keep hk, h.dis⟩
theorem Mk.later {wr' : World} (h : Mk B wr b i o s orows Ao co vo nrows An cn vn) (hb : Below wr.heap.size wr wr') : Mk B wr' b i o s orows Ao co vo nrows An cn vn := h.after ⟨hb.size, fun b _ hl => hb.block b hl⟩
theorem Mk.cells (h : Mk B wr b i o s orows Ao co vo nrows An cn vn) : wr.cell? ⟨b, 0, none⟩ = some (.int .i64 i) ∧ wr.cell? ⟨b, 1, none⟩ = some (.int .i64 o) ∧ wr.cell? ⟨b, 2, none⟩ = some (.int .i64 s) ∧
    wr.cell? ⟨b, 3, none⟩ = some (.slice Ao orows.length co) ∧ wr.cell? ⟨b, 4, none⟩ = some (.slice An nrows.length cn) ∧ b < wr.heap.size ∧
    wr.frozen? ⟨b, 3, none⟩ = false ∧ wr.frozen? ⟨b, 4, none⟩ = false :=
  ⟨block_cell h.mly rfl, block_cell h.mly rfl, block_cell h.mly rfl, block_cell h.mly rfl, block_cell h.mly rfl, lt_of_block h.mly, block_free h.mly, block_free h.mly⟩
/-- A row of rows grows, and a cell of the controller is set. -/
theorem Mk.grow {n : Nat} {v : Value} {xs : List Value} (h : Mk B wr b i o s orows Ao co vo nrows An cn vn) (ho : wr.ownsRow B 34 1 v n xs) (hg : wr.grownBy w5 v.ownBlock) (j : Nat) (u : Value) :
    (∀ k, k ≠ b → k < wr.heap.size → some k ≠ v.ownBlock → (w5.setCell ⟨b, j, none⟩ u).heap[k]? = wr.heap[k]?) ∧ Chg (fun k => B ≤ k ∨ k = b) wr (w5.setCell ⟨b, j, none⟩ u) ∧ Keeps (IB wr B) wr (w5.setCell ⟨b, j, none⟩ u) ∧
      w5.heap[b]? = some (.cells #[.int .i64 i, .int .i64 o, .int .i64 s, .slice Ao orows.length co, .slice An nrows.length cn] 24 (0, 0)) := by
  have hs := lt_of_block h.mly
  have key : ∀ k, k ≠ b → k < wr.heap.size → some k ≠ v.ownBlock → (w5.setCell ⟨b, j, none⟩ u).heap[k]? = wr.heap[k]? := fun k h1 h2 h3 => by
    rw [Below.heap_setCell _ _ _ _ h1]
    exact hg.block k h2 h3
  have hsz : wr.heap.size ≤ (w5.setCell ⟨b, j, none⟩ u).heap.size := by simpa using hg.size
  refine ⟨key, ((Chg.refl _ wr).grown hg (fun k e _ => .inl (ho.lt k e).1)).set _ _ (fun _ => .inr rfl), ⟨hsz, fun k hk hl => ?_⟩,
    (hg.block _ hs (fun e => own_ne ho h.mly (by decide) e.symm)).trans h.mly⟩
  obtain ⟨-, ds, fr, hk⟩ := hk
  refine key k (fun e => ?_) hl (fun e => own_ne ho hk (by decide) e.symm)
  subst e
  rw [h.mly] at hk
  injection hk with hk
  injection hk with _ hk
  exact absurd hk (by decide)
theorem IB.keep {wr' : World} (hk : Keeps (IB wr B) wr wr') {Ar : Option Addr} {cr : Nat} {r : List Int} (hr : RdI wr (IB wr B) Ar cr r) : RdI wr' (IB wr' B) Ar cr r := (hr.keep hk).mono fun b' hb' _ => by
  obtain ⟨h1, ds, fr, hb'⟩ := hb'
  exact ⟨h1, ds, fr, (hk.block b' ⟨h1, ds, fr, hb'⟩ (lt_of_block hb')).trans hb'⟩
theorem Mk.next (h : Mk B wr b i o s orows Ao co vo nrows An cn vn) {Ar : Option Addr} {cr : Nat} {r : List Int} (hr : RdI wr (IB wr B) Ar cr r) (hg : wr.grownBy w5 (Value.slice An nrows.length cn).ownBlock)
    (hown : w5.ownsRow B 34 1 (.slice A5 (nrows.length + 1) c5) (nrows.length + 1) (vn ++ [.slice Ar r.length cr]))
    (hat : (Value.slice A5 (nrows.length + 1) c5).ownBlock = (Value.slice An nrows.length cn).ownBlock ∨ (Value.slice A5 (nrows.length + 1) c5).ownBlock = some wr.heap.size) :
    Mk B (w5.setCell ⟨b, 4, none⟩ (.slice A5 (nrows.length + 1) c5)) b i o s orows Ao co vo (nrows ++ [r]) A5 c5 (vn ++ [.slice Ar r.length cr]) := by
  have hl : (nrows ++ [r]).length = nrows.length + 1 := by simp
  obtain ⟨key, hx, hk, hc⟩ := h.grow h.on hg 4 (.slice A5 (nrows.length + 1) c5)
  have hlen : vn.length = nrows.length := by have := h.on.1; simpa using this
  refine ⟨by rw [hl]; exact set_block hc _, own_agree h.oo fun k e => key k (fun x => own_ne h.oo h.mly (by decide) (by rw [← e, x])) (h.oo.lt k e.symm).2 (h.dis k e), ?_, h.ro.keep hk, (h.rn.keep hk).snoc hlen (IB.keep hk hr), fun k e => ?_⟩
  · rw [hl]
    exact ownsRow_setCell_other hown (own_ne hown hc (by decide)) _
  · rw [hl]
    rcases hat with h1 | h1
    · rw [h1]; exact h.dis k e
    · rw [h1]
      intro e2
      injection e2 with e2
      have := (h.oo.lt k e.symm).2
      omega
theorem Mk.outr (h : Mk B wr b i o s orows Ao co vo nrows An cn vn) {Ar : Option Addr} {cr : Nat} {r : List Int} (hr : RdI wr (IB wr B) Ar cr r) (hg : wr.grownBy w5 (Value.slice Ao orows.length co).ownBlock)
    (hown : w5.ownsRow B 34 1 (.slice A5 (orows.length + 1) c5) (orows.length + 1) (vo ++ [.slice Ar r.length cr]))
    (hat : (Value.slice A5 (orows.length + 1) c5).ownBlock = (Value.slice Ao orows.length co).ownBlock ∨ (Value.slice A5 (orows.length + 1) c5).ownBlock = some wr.heap.size) :
    Mk B (w5.setCell ⟨b, 3, none⟩ (.slice A5 (orows.length + 1) c5)) b i o s (orows ++ [r]) A5 c5 (vo ++ [.slice Ar r.length cr]) nrows An cn vn := by
  have hl : (orows ++ [r]).length = orows.length + 1 := by simp
  obtain ⟨key, hx, hk, hc⟩ := h.grow h.oo hg 3 (.slice A5 (orows.length + 1) c5)
  have hlen : vo.length = orows.length := by have := h.oo.1; simpa using this
  refine ⟨by rw [hl]; exact set_block hc _, ?_, own_agree h.on fun k e => key k (fun x => own_ne h.on h.mly (by decide) (by rw [← e, x])) (h.on.lt k e.symm).2 (fun e2 => h.dis k e2 e), (h.ro.keep hk).snoc hlen (IB.keep hk hr), h.rn.keep hk, fun k e => ?_⟩
  · rw [hl]
    exact ownsRow_setCell_other hown (own_ne hown hc (by decide)) _
  · rw [hl] at e
    rcases hat with h1 | h1
    · rw [h1] at e; exact h.dis k e
    · rw [h1] at e
      injection e with e
      intro e2
      have := (h.on.lt k e2.symm).2
      omega
/-- It reads as the controller. -/
theorem Mk.reads (h : Mk B wr b i o s orows Ao co vo nrows An cn vn) (h1 : orows.length ≤ 140737488355328) (h2 : nrows.length ≤ 140737488355328) : RdM wr (fun b => B ≤ b) (.agg #[.int .i64 i, .int .i64 o, .int .i64 s, .slice Ao orows.length co, .slice An nrows.length cn]) ⟨i, o, s, orows, nrows⟩ := by
  refine ⟨Ao, co, An, cn, rfl, ⟨vo, Rd.own h.oo h1 (fun _ h => h), fun i hi => ?_⟩, ⟨vn, Rd.own h.on h2 (fun _ h => h), fun i hi => ?_⟩⟩
  · obtain ⟨A, c, e, hr⟩ := h.ro i hi
    exact ⟨A, c, e, hr.mono fun _ h _ => h.1⟩
  · obtain ⟨A, c, e, hr⟩ := h.rn i hi
    exact ⟨A, c, e, hr.mono fun _ h _ => h.1⟩
/-- A row of ints of the call's own. -/
theorem IB.own {B' : Nat} {A : Option Addr} {n c : Nat} {xs : List Int} (h : B ≤ B') (ho : wr.ownsRow B' 3 1 (.slice A n c) n (xs.map (.int .i64))) (hn : n = xs.length) (hm : n ≤ 140737488355328) : RdI wr (IB wr B) A c xs := by
  subst hn
  have h1 := Rd.own (D := fun b => B' ≤ b) ho hm (fun _ h => h)
  refine ⟨h1.1, fun hp => ?_⟩
  obtain ⟨b, o, e, hb, hl, hc⟩ := h1.2 hp
  refine ⟨b, o, e, ⟨Nat.le_trans h hb, ?_⟩, hl, hc⟩
  rcases ho.2 with ⟨hv, h0⟩ | ⟨g, cap, cur, hv, _, hh, _⟩
  · subst e
    injection hv with hv
    cases hv
  · subst e
    injection hv with hv
    injection hv with hv
    injection hv with hv
    subst hv
    exact ⟨_, _, hh⟩
end
end Go.Proofs.Ytcmhginhfhiolaa
