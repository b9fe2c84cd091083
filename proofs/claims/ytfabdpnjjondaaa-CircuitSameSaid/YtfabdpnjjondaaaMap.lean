/-
  Maps that the call itself keeps: a block of entries as a list of keys and values, for keys of any kind whose equality is known.
-/
import Derived.Test.YtfabdpnjjondaaaOwn
import Derived.Laws.StructEq
set_option linter.unusedVariables false
set_option linter.unusedSimpArgs false
namespace Go.Proofs.Ytfabdpnjjondaaa
open Go.RowKit

set_option linter.unusedSectionVars false
theorem idxOf_cons_ne {κ : Type} [DecidableEq κ] {a k : κ} (l : List κ) (h : a ≠ k) : (a :: l).idxOf k = l.idxOf k + 1 := by
  rw [List.idxOf_cons, beq_eq_false_iff_ne.2 h]; rfl
/-- Keys of type K are the values of κ. -/
structure KeyT (P : Program) (K : TypeId) {κ : Type} [DecidableEq κ] (enc : κ → Value) : Prop where
  check : ∀ (e : Bool) (w : World) (k : κ), (Instr.checkKey e 10000 K (enc k)).run P w = .ok () w
  find : ∀ (w : World) (k : κ) (es : List MapEntry) (ks : List κ), es.map (·.key) = ks.map enc →
    (Instr.findKey K (enc k) es).run P w = .ok (if k ∈ ks then some (ks.idxOf k, (es.getD (ks.idxOf k) default).val) else none) w
  same : ∀ k : κ, Instr.sameBits 10000 (enc k) (enc k) = true

section
variable {P : Program} {K : TypeId} {κ : Type} [DecidableEq κ] {enc : κ → Value}

theorem find_asking (heq : ∀ (w : World) (a b : κ), (Op.equal K (enc a) (enc b)).run P w = .ok (decide (a = b)) w) (w : World) (k : κ) : ∀ (es : List MapEntry) (ks : List κ) (i : Nat), es.map (·.key) = ks.map enc →
    (Instr.findAsking K (enc k) es i).run P w = .ok (if k ∈ ks then some (i + ks.idxOf k, (es.getD (ks.idxOf k) default).val) else none) w
  | [], [], i, _ => by simp [Instr.findAsking]
  | [], _ :: _, _, h => by simp at h
  | _ :: _, [], _, h => by simp at h
  | e :: es, a :: ks, i, h => by
    simp only [List.map_cons, List.cons.injEq] at h
    simp only [Instr.findAsking, Sem.run_bind, h.1, heq w k a, Result.andThen_ok]
    by_cases hk : k = a
    · subst hk; simp
    · have := find_asking heq w k es ks (i + 1) h.2
      simp only [hk, decide_false, Bool.false_eq_true, if_false, this]
      have hi : (a :: ks).idxOf k = ks.idxOf k + 1 := idxOf_cons_ne ks fun e => hk e.symm
      simp only [List.mem_cons, hk, false_or, hi, List.getD_cons_succ]
      congr 1
      split
      · congr 2; omega
      · rfl

/-- Keys that are compared by asking (structs, arrays). -/
theorem KeyT.of_asking (check : ∀ (e : Bool) (w : World) (k : κ), (Instr.checkKey e 10000 K (enc k)).run P w = .ok () w) (heq : ∀ (w : World) (a b : κ), (Op.equal K (enc a) (enc b)).run P w = .ok (decide (a = b)) w)
    {d : TypeDesc} (hd : P.underlying K = some d) (hn : ∀ a b : κ, Instr.sameNow d (enc a) (enc b) = none) (same : ∀ k : κ, Instr.sameBits 10000 (enc k) (enc k) = true) : KeyT P K enc :=
  ⟨check, fun w k es ks h => by
    match es, ks, h with
    | [], [], _ => simp [Instr.findKey, run_underlying hd, Instr.findNow]
    | e :: es, a :: ks, h =>
      have h1 : e.key = enc a := by simp at h; exact h.1
      have h2 := find_asking heq w k (e :: es) (a :: ks) 0 h
      simp only [Nat.zero_add] at h2
      simp only [Instr.findKey, Sem.run_bind, run_underlying hd, Result.andThen_ok, Instr.findNow, h1, hn, h2], same⟩

/-- Keys that are compared at once (ints, strings, bools). -/
theorem KeyT.of_now {d : TypeDesc} (hd : P.underlying K = some d) (hc : ∀ (e : Bool) (w : World) (k : κ), (Instr.checkKey e 10000 K (enc k)).run P w = .ok () w) (hn : ∀ a b : κ, Instr.sameNow d (enc a) (enc b) = some (decide (a = b)))
    (same : ∀ k : κ, Instr.sameBits 10000 (enc k) (enc k) = true) : KeyT P K enc :=
  ⟨hc, fun w k es ks h => by
    have key : ∀ (es : List MapEntry) (ks : List κ) (i : Nat), es.map (·.key) = ks.map enc → Instr.findNow d (enc k) es i = some (if k ∈ ks then some (i + ks.idxOf k, (es.getD (ks.idxOf k) default).val) else none) := by
      intro es
      induction es with
      | nil => intro ks i h; match ks, h with
                             | [], _ => simp [Instr.findNow]
      | cons e es ih =>
        intro ks i h
        match ks, h with
        | a :: ks, h =>
          simp only [List.map_cons, List.cons.injEq] at h
          simp only [Instr.findNow, h.1, hn]
          by_cases hk : k = a
          · subst hk; simp
          · simp only [hk, decide_false, ih ks (i + 1) h.2]
            have hi : (a :: ks).idxOf k = ks.idxOf k + 1 := idxOf_cons_ne ks fun e => hk e.symm
            simp only [List.mem_cons, hk, false_or, hi, List.getD_cons_succ]
            congr 1
            split
            · congr 2; omega
            · rfl
    have h2 := key es ks 0 h
    simp only [Nat.zero_add] at h2
    simp only [Instr.findKey, Sem.run_bind, run_underlying hd, Result.andThen_ok, h2, Sem.run_pure], same⟩

/-- Block mb is the map of the list l, in the order in which the keys came. -/
def MapIs (enc : κ → Value) (w : World) (mb : Nat) (l : List (κ × Value)) : Prop :=
  ∃ es clock, w.heap[mb]? = some (.map es clock) ∧ es.toList.map (fun e => (e.key, e.val)) = l.map (fun p => (enc p.1, p.2)) ∧ es.toList.map (·.born) = List.range clock

theorem MapIs.keys {w : World} {l : List (κ × Value)} {es : Array MapEntry} (h : es.toList.map (fun e => (e.key, e.val)) = l.map (fun p => (enc p.1, p.2))) : es.toList.map (·.key) = (l.map (·.1)).map enc := by
  have := congrArg (List.map Prod.fst) h
  simpa [Function.comp_def] using this
theorem MapIs.vals {w : World} {l : List (κ × Value)} {es : Array MapEntry} (h : es.toList.map (fun e => (e.key, e.val)) = l.map (fun p => (enc p.1, p.2))) : es.toList.map (·.val) = l.map (·.2) := by
  have := congrArg (List.map Prod.snd) h
  simpa [Function.comp_def] using this
theorem MapIs.of_block {w w' : World} {mb : Nat} {l : List (κ × Value)} (h : MapIs enc w mb l) (hb : w'.heap[mb]? = w.heap[mb]?) : MapIs enc w' mb l := by
  obtain ⟨es, clock, h1, h2⟩ := h
  exact ⟨es, clock, hb.trans h1, h2⟩
theorem MapIs.lt {w : World} {mb : Nat} {l : List (κ × Value)} (h : MapIs enc w mb l) : mb < w.heap.size := by
  obtain ⟨es, clock, h1, _⟩ := h
  exact lt_of_block h1
theorem MapIs.new (w : World) : MapIs enc (w.alloc (.map #[] 0)) w.heap.size [] := ⟨#[], 0, heap_alloc_new w _, rfl, rfl⟩

/-- What the map holds at a key. -/
def lookL (l : List (κ × Value)) (k : κ) : Option Value := (l.find? fun p => decide (p.1 = k)).map (·.2)
theorem lookL_idx (l : List (κ × Value)) (k : κ) (h : k ∈ l.map (·.1)) : lookL l k = some ((l.map (·.2)).getD ((l.map (·.1)).idxOf k) default) := by
  induction l with
  | nil => simp at h
  | cons p l ih =>
    unfold lookL
    by_cases hp : p.1 = k
    · subst hp; simp
    · have h' : k ∈ l.map (·.1) := by
        simp only [List.map_cons, List.mem_cons] at h
        exact h.resolve_left (fun e => hp e.symm)
      have := ih h'
      unfold lookL at this
      rw [List.find?_cons, decide_eq_false hp]
      rw [this, List.map_cons, List.map_cons, idxOf_cons_ne _ hp, List.getD_cons_succ]
theorem lookL_none (l : List (κ × Value)) (k : κ) (h : k ∉ l.map (·.1)) : lookL l k = none := by
  unfold lookL
  rw [List.find?_eq_none.2]
  · rfl
  · intro p hp
    simp only [decide_eq_true_eq]
    intro e
    exact h (e ▸ List.mem_map_of_mem hp)

theorem run_lookup_is (HK : KeyT P K enc) {T E : TypeId} (hT : P.underlying T = some (.map K E)) {z : Value} {w : World} (hz : (zeroValue E).run P w = .ok z w) {mb : Nat} {l : List (κ × Value)} (h : MapIs enc w mb l) (k : κ) (ok : Bool) :
    (Instr.lookup T (.map (some mb)) (enc k) ok).run P w = .ok (if ok then .tuple #[(lookL l k).getD z, .bool (lookL l k).isSome] else (lookL l k).getD z) w := by
  obtain ⟨es, clock, h1, h2, h3⟩ := h
  have hf := HK.find w k es.toList (l.map (·.1)) (MapIs.keys (w := w) h2)
  have hv := MapIs.vals (w := w) h2
  have hg : ∀ es' : Array MapEntry, (getObj mb).run P w = .ok (.map es clock) w := fun _ => by simp [getObj, Sem.run, h1]
  simp only [Instr.lookup, Sem.run_bind, run_underlying hT, Result.andThen_ok, hg es, Sem.run_pure, HK.check, hf]
  by_cases hk : k ∈ l.map (·.1)
  · have hd : (es.toList.getD ((l.map (·.1)).idxOf k) default).val = (l.map (·.2)).getD ((l.map (·.1)).idxOf k) default := by
      rw [← hv]
      simp only [List.getD, List.getElem?_map]
      cases hh : es.toList[(l.map (·.1)).idxOf k]? with
      | none =>
        exfalso
        have hl : es.toList.length = l.length := by have := congrArg List.length h2; simpa using this
        rw [List.getElem?_eq_none_iff] at hh
        have := List.idxOf_lt_length_of_mem hk
        rw [List.length_map] at this
        omega
      | some e => rfl
    rw [lookL_idx l k hk]
    simp only [hk, if_true, hd]
    cases ok <;> simp
  · rw [lookL_none l k hk]
    simp only [hk, if_false, Sem.run_bind, hz, Result.andThen_ok]
    cases ok <;> simp

/-- The map with a key set. -/
def putL (l : List (κ × Value)) (k : κ) (v : Value) : List (κ × Value) := if k ∈ l.map (·.1) then l.map (fun p => if p.1 = k then (p.1, v) else p) else l ++ [(k, v)]
theorem run_update_new (HK : KeyT P K enc) {T E : TypeId} (hT : P.underlying T = some (.map K E)) {w : World} {mb : Nat} {l : List (κ × Value)} (h : MapIs enc w mb l) (k : κ) (v : Value) (hk : k ∉ l.map (·.1)) :
    ∃ w', (Instr.mapUpdate T (.map (some mb)) (enc k) v).run P w = .ok () w' ∧ MapIs enc w' mb (l ++ [(k, v)]) ∧ w.grownBy w' (some mb) ∧ w'.heap.size = w.heap.size := by
  obtain ⟨es, clock, h1, h2, h3⟩ := h
  have hf := HK.find w k es.toList (l.map (·.1)) (MapIs.keys (w := w) h2)
  have hg : (getObj mb).run P w = .ok (.map es clock) w := by simp [getObj, Sem.run, h1]
  have hl := lt_of_block h1
  refine ⟨{ w with heap := w.heap.setIfInBounds mb (.map (es.push { key := enc k, val := v, born := clock }) (clock + 1)) }, ?_, ⟨_, _, by simp [hl]; exact ⟨rfl, rfl⟩, ?_, ?_⟩, ⟨rfl, rfl, rfl, by simp, fun i _ hi => ?_⟩, by simp⟩
  · simp only [Instr.mapUpdate, Sem.run_bind, run_underlying hT, Result.andThen_ok, hg, HK.check, hf, hk, if_false]
    simp [setObj, Sem.run, h1]
  · rw [Array.toList_push, List.map_append, List.map_append, h2]; rfl
  · rw [Array.toList_push, List.map_append, h3, List.range_succ]; rfl
  · have : mb ≠ i := fun e => hi (by rw [e])
    simp [this]
end
end Go.Proofs.Ytfabdpnjjondaaa
