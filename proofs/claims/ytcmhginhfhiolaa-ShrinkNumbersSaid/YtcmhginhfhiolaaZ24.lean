/-
  Laying the first blocks: states with the same outputs; plain.
  A region that draws its order and whose last operation waits for all others: the last one is done last.
  Walk of divide: the first blocks.
  Divide's second part in memory: what leads to each state, read; a block is taken from those that wait.
-/
import Derived.Laws.BytesArg
import Derived.Test.YtcmhginhfhiolaaZ23
import Derived.OrdersHeld
import Derived.Test.YtcmhginhfhiolaaZ00
import Derived.Test.YtcmhginhfhiolaaZ13
import Derived.Test.YtcmhginhfhiolaaZ20
set_option linter.unusedVariables false
set_option linter.unusedSimpArgs false
namespace Go.Proofs.Ytcmhginhfhiolaa

/-- The outputs of a state as a string. -/
def keyS (M : Mac) (q : Nat) : ByteArray := strOfNums ((List.range M.ins).map (mvO M q))
theorem keyS_iff {M : Mac} {p q : Nat} (hp : ∀ x, x < M.ins → 0 ≤ mvO M p x ∧ mvO M p x < 256) (hq : ∀ x, x < M.ins → 0 ≤ mvO M q x ∧ mvO M q x < 256) : keyS M p = keyS M q ↔ ∀ x, x < M.ins → mvO M p x = mvO M q x := by
  constructor
  · intro h x hx
    have h1 : (keyS M p).data.toList = (keyS M q).data.toList := by rw [h]
    unfold keyS at h1
    rw [strOfNums_data, strOfNums_data, List.map_map, List.map_map] at h1
    have h2 := congrArg (fun l => l[x]?) h1
    simp only [List.getElem?_map, List.getElem?_range hx, Option.map_some, Option.some.injEq, Function.comp] at h2
    have h3 := congrArg UInt8.toNat h2
    have a1 := hp x hx
    have a2 := hq x hx
    simp only [UInt8.toNat_ofNat'] at h3
    omega
  · intro h
    unfold keyS
    congr 1
    exact List.map_congr_left fun x hx => h x (List.mem_range.1 hx)
/-- The first k states are laid. -/
structure Ph1 (M : Mac) (k nb : Nat) (bk : List Nat) (L : Nat → List Nat) : Prop where
  len : bk.length = M.size
  le : nb ≤ k
  rng : ∀ q, q < k → bF bk q < nb
  full : ∀ b, b < nb → ∃ q, q < k ∧ bF bk q = b
  same : ∀ p q, p < k → q < k → (bF bk p = bF bk q ↔ ∀ x, x < M.ins → mvO M p x = mvO M q x)
  memL : ∀ b, b < nb → L (2 * b + 1) = (List.range k).filter fun q => decide (bF bk q = b)
/-- Of state k the first x inputs are laid. -/
def Ph2 (M : Mac) (k x : Nat) (L : Nat → List Nat) : Prop := ∀ y t, y < M.ins → t < M.size → L (2 * (y * M.size + t)) = (List.range (if y < x then k + 1 else k)).filter fun q => decide (dl M q y = t)
theorem range_filter_snoc (p : Nat → Bool) (k : Nat) : (List.range (k + 1)).filter p = if p k = true then (List.range k).filter p ++ [k] else (List.range k).filter p := by
  rw [List.range_succ, List.filter_append, List.filter_cons]
  split <;> simp
section
variable {M : Mac} {k nb x : Nat} {bk : List Nat} {L : Nat → List Nat}
theorem Ph1.zero {bk : List Nat} (h : bk.length = M.size) : Ph1 M 0 0 bk L := ⟨h, Nat.le_refl _, fun _ h => absurd h (Nat.not_lt_zero _), fun _ h => absurd h (Nat.not_lt_zero _), fun _ _ h => absurd h (Nat.not_lt_zero _), fun _ h => absurd h (Nat.not_lt_zero _)⟩
theorem Ph2.zero (h : ∀ i, L i = []) : Ph2 M 0 0 L := fun y t _ _ => by rw [h]; simp
theorem Ph2.next (h : Ph2 M k x L) (hM : M.Ok) (hT : Total M) (hk : k < M.size) (hx : x < M.ins) : Ph2 M k (x + 1) (upF L (2 * (x * M.size + dl M k x)) (L (2 * (x * M.size + dl M k x)) ++ [k])) := fun y t hy ht => by
  have hd := dl_lt hM hT hk hx
  by_cases e : y = x
  · subst e
    rw [if_pos (by omega), range_filter_snoc]
    by_cases e2 : t = dl M k y
    · subst e2
      rw [upF_same, if_pos (decide_eq_true rfl), h y _ hy ht, if_neg (by omega)]
    · rw [upF_other _ _ (fun e3 => e2 (idx_inj ht hd (show y * M.size + t = y * M.size + dl M k y by omega)).2), if_neg (by rw [decide_eq_true_eq]; exact fun e3 => e2 e3.symm), h y t hy ht, if_neg (by omega)]
  · rw [upF_other _ _ (fun e3 => e (idx_inj ht hd (show y * M.size + t = x * M.size + dl M k x by omega)).1), h y t hy ht]
    by_cases e2 : y < x
    · rw [if_pos e2, if_pos (by omega)]
    · rw [if_neg e2, if_neg (by omega)]
theorem Ph2.row (h : Ph2 M k M.ins L) : Ph2 M (k + 1) 0 L := fun y t hy ht => by
  rw [h y t hy ht, if_pos hy, if_neg (by omega)]
theorem Ph2.mem (h : Ph2 M k x L) {b : Nat} {l : List Nat} : Ph2 M k x (upF L (2 * b + 1) l) := fun y t hy ht => by
  rw [upF_other _ _ (by omega)]; exact h y t hy ht
theorem Ph1.pred (h : Ph1 M k nb bk L) {i : Nat} {l : List Nat} : Ph1 M k nb bk (upF L (2 * i) l) :=
  ⟨h.len, h.le, h.rng, h.full, h.same, fun b hb => by rw [upF_other _ _ (by omega)]; exact h.memL b hb⟩
theorem bF_set {bk : List Nat} {q b : Nat} (hq : q < bk.length) (p : Nat) : bF (bk.set q b) p = if p = q then b else bF bk p := by
  unfold bF
  simp only [List.getD, List.getElem?_set]
  by_cases e : q = p
  · subst e; simp [hq]
  · rw [if_neg e, if_neg (fun e2 => e e2.symm)]
theorem filter_old (hk : k < bk.length) (b c : Nat) : ((List.range k).filter fun q => decide (bF (bk.set k c) q = b)) = (List.range k).filter fun q => decide (bF bk q = b) := by
  refine List.filter_congr fun q hq => ?_
  rw [bF_set hk, if_neg (by have := List.mem_range.1 hq; omega)]
/-- State k gets the block of a state with the same outputs. -/
theorem Ph1.old (h : Ph1 M k nb bk L) (hk : k < M.size) {p : Nat} (hp : p < k) (hs : ∀ x, x < M.ins → mvO M k x = mvO M p x) :
    Ph1 M (k + 1) nb (bk.set k (bF bk p)) (upF L (2 * bF bk p + 1) (L (2 * bF bk p + 1) ++ [k])) := by
  have hkl : k < bk.length := by rw [h.len]; exact hk
  have hg : ∀ q, bF (bk.set k (bF bk p)) q = if q = k then bF bk p else bF bk q := bF_set hkl
  have hb := h.rng p hp
  refine ⟨by rw [List.length_set]; exact h.len, by have := h.le; omega, fun q hq => ?_, fun b hb => ?_, fun q r hq hr => ?_, fun b hb' => ?_⟩
  · rw [hg]
    split
    · exact hb
    · exact h.rng q (by omega)
  · obtain ⟨q, h1, h2⟩ := h.full b hb
    exact ⟨q, by omega, by rw [hg, if_neg (by omega)]; exact h2⟩
  · rw [hg, hg]
    have key : ∀ s, s < k → (bF bk p = bF bk s ↔ ∀ x, x < M.ins → mvO M k x = mvO M s x) := fun s hs' => by
      rw [h.same p s hp hs']
      exact ⟨fun h1 x hx => (hs x hx).trans (h1 x hx), fun h1 x hx => (hs x hx).symm.trans (h1 x hx)⟩
    by_cases e1 : q = k <;> by_cases e2 : r = k
    · subst e1; subst e2; simp
    · subst e1; rw [if_pos rfl, if_neg e2]; exact key r (by omega)
    · subst e2; rw [if_neg e1, if_pos rfl]
      have := key q (by omega)
      constructor
      · intro h1 x hx; exact (this.1 h1.symm x hx).symm
      · intro h1; exact (this.2 fun x hx => (h1 x hx).symm).symm
    · rw [if_neg e1, if_neg e2]; exact h.same q r (by omega) (by omega)
  · rw [range_filter_snoc, filter_old hkl]
    have hkk : bF (bk.set k (bF bk p)) k = bF bk p := by rw [hg, if_pos rfl]
    by_cases e : b = bF bk p
    · subst e
      rw [upF_same, if_pos (decide_eq_true hkk), h.memL _ hb']
    · rw [upF_other _ _ (by omega), if_neg (by rw [decide_eq_true_eq, hkk]; exact fun e2 => e e2.symm), h.memL _ hb']
/-- State k gets a new block. -/
theorem Ph1.new (h : Ph1 M k nb bk L) (hk : k < M.size) (hno : ∀ p, p < k → ¬ ∀ x, x < M.ins → mvO M k x = mvO M p x) (hL : L (2 * nb + 1) = []) :
    Ph1 M (k + 1) (nb + 1) (bk.set k nb) (upF L (2 * nb + 1) (L (2 * nb + 1) ++ [k])) := by
  have hkl : k < bk.length := by rw [h.len]; exact hk
  have hg : ∀ q, bF (bk.set k nb) q = if q = k then nb else bF bk q := bF_set hkl
  refine ⟨by rw [List.length_set]; exact h.len, by have := h.le; omega, fun q hq => ?_, fun b hb => ?_, fun q r hq hr => ?_, fun b hb' => ?_⟩
  · rw [hg]
    split
    · omega
    · have := h.rng q (by omega); omega
  · by_cases e : b = nb
    · exact ⟨k, by omega, by rw [hg, if_pos rfl, e]⟩
    · obtain ⟨q, h1, h2⟩ := h.full b (by omega)
      exact ⟨q, by omega, by rw [hg, if_neg (by omega)]; exact h2⟩
  · rw [hg, hg]
    by_cases e1 : q = k <;> by_cases e2 : r = k
    · subst e1; subst e2; simp
    · subst e1; rw [if_pos rfl, if_neg e2]
      have h1 := h.rng r (by omega)
      exact ⟨fun h2 => by omega, fun h2 => absurd h2 (hno r (by omega))⟩
    · subst e2; rw [if_neg e1, if_pos rfl]
      have h1 := h.rng q (by omega)
      exact ⟨fun h2 => by omega, fun h2 => absurd (fun x hx => (h2 x hx).symm) (hno q (by omega))⟩
    · rw [if_neg e1, if_neg e2]; exact h.same q r (by omega) (by omega)
  · rw [range_filter_snoc, filter_old hkl]
    have hkk : bF (bk.set k nb) k = nb := by rw [hg, if_pos rfl]
    by_cases e : b = nb
    · subst e
      rw [upF_same, if_pos (decide_eq_true hkk), hL]
      have : (List.range k).filter (fun q => decide (bF bk q = b)) = [] := by
        rw [List.filter_eq_nil_iff]
        intro q hq
        have := h.rng q (List.mem_range.1 hq)
        rw [decide_eq_true_eq]
        omega
      rw [this]
    · rw [upF_other _ _ (by omega), if_neg (by rw [decide_eq_true_eq, hkk]; exact fun e2 => e e2.symm), h.memL _ (by omega)]
/-- All states are laid. -/
theorem Ph1.done (h : Ph1 M M.size nb bk L) (hT : Total M) {wts : List Bool} (hw : wts.length = nb) : PSt M bk ((List.range nb).map fun b => L (2 * b + 1)) (List.range nb) wts := by
  have hl : ((List.range nb).map fun b => L (2 * b + 1)).length = nb := by simp
  have hg : ∀ b, b < nb → ((List.range nb).map fun b => L (2 * b + 1)).getD b [] = L (2 * b + 1) := fun b hb => by
    rw [List.getD_eq_getElem?_getD, List.getElem?_map, List.getElem?_range hb]; rfl
  refine ⟨h.len, by rw [hl, hw], by rw [hl, List.length_range]; exact Nat.le_refl _, fun b hb => by rw [hl]; exact List.mem_range.1 hb, ?_, fun b hb => ?_, fun b q hb => ?_⟩
  · rw [hl]
    refine ⟨h.rng, h.full, fun p q hp hq hne hs => hne ((h.same p q hp hq).2 fun x hx => (sim_dl hT hp hq hx hs).1), fun p q x hp hq he hx => (h.same p q hp hq).1 he x hx⟩
  · rw [hl] at hb
    rw [hg b hb, h.memL b hb]
    exact List.nodup_range.filter _
  · rw [hl] at hb
    rw [hg b hb, h.memL b hb, List.mem_filter, List.mem_range, decide_eq_true_eq]
/-- What leads to each state by x. -/
def predL (M : Mac) (L : Nat → List Nat) (x : Nat) : List (List Nat) := (List.range M.size).map fun t => L (2 * (x * M.size + t))
theorem Ph2.done (h : Ph2 M M.size 0 L) (hx : x < M.ins) : PredOk M x (predL M L x) := by
  have hg : ∀ t, t < M.size → (predL M L x).getD t [] = L (2 * (x * M.size + t)) := fun t ht => by
    unfold predL
    rw [List.getD_eq_getElem?_getD, List.getElem?_map, List.getElem?_range ht]; rfl
  refine ⟨by unfold predL; simp, fun t ht => ?_, fun t q ht => ?_⟩
  · rw [hg t ht, h x t hx ht]
    exact List.nodup_range.filter _
  · rw [hg t ht, h x t hx ht, List.mem_filter, if_neg (by omega), List.mem_range, decide_eq_true_eq]
end
end Go.Proofs.Ytcmhginhfhiolaa
set_option linter.unusedVariables false
set_option linter.unusedSimpArgs false
namespace Go.Proofs.Ytcmhginhfhiolaa

/-- What is left to be shown behind all but the last operation. -/
def sinkQ (P : Program) (last : Oper) (Q : Exit → Act → World → Prop) : Exit → Act → World → Prop
  | .normal, a, w => Oper.wp P last a w (Q .normal) Q
  | e, a, w => Q e a w
/-- No operation is guarded, and each waits for earlier ones alone. -/
def backB (ops : Array Oper) : Bool := (List.range ops.size).all fun i => match ops[i]? with
  | some o => o.guard.isNone && o.after.all fun e => decide (e.on < i)
  | none => true
/-- It waits for all that stand before it. -/
def sinkB (md : Region.Mode) (n : Nat) (last : Oper) : Bool :=
  last.guard.isNone && (last.after.all fun e => decide (e.on < n)) && (List.range n).all fun i => last.after.any fun e => Region.binds md e && e.on == i
section
variable {P : Program} {ops : Array Oper} {last : Oper} {Q : Exit → Act → World → Prop} {md : Region.Mode}
theorem backB_spec (h : backB ops = true) {i : Nat} {o : Oper} (ho : ops[i]? = some o) : o.guard = none ∧ ∀ e ∈ o.after, e.on < i := by
  have hi : i < ops.size := (Array.getElem?_eq_some_iff.1 ho).1
  have h1 := List.all_eq_true.1 h i (List.mem_range.2 hi)
  simp only [ho, Bool.and_eq_true, Option.isNone_iff_eq_none, Array.all_eq_true'] at h1
  exact ⟨h1.1, fun e he => of_decide_eq_true (h1.2 e he)⟩
theorem sinkB_spec {n : Nat} (h : sinkB md n last = true) : last.guard = none ∧ (∀ e ∈ last.after, e.on < n) ∧ ∀ i, i < n → ∃ e ∈ last.after, Region.binds md e = true ∧ e.on = i := by
  unfold sinkB at h
  simp only [Bool.and_eq_true, Option.isNone_iff_eq_none, Array.all_eq_true'] at h
  refine ⟨h.1.1, fun e he => of_decide_eq_true (h.1.2 e he), fun i hi => ?_⟩
  have h1 := List.all_eq_true.1 h.2 i (List.mem_range.2 hi)
  obtain ⟨e, he, hb⟩ := Array.any_eq_true'.1 h1
  simp only [Bool.and_eq_true, beq_iff_eq] at hb
  exact ⟨e, he, hb.1, hb.2⟩
theorem wanted_free {o : Oper} (h : o.guard = none) (f : Nat → Option Bool) : Region.wanted o f = true := by simp [Region.wanted, h]
theorem getD_push {l : Array Bool} {j : Nat} (d : Bool) (h : j < l.size) : (l.push false).getD j d = l.getD j d := by
  simp [Array.getD, h, Nat.lt_succ_of_lt h, Array.getElem_push, show j ≤ l.size by omega]
theorem getD_push_f {l : Array Bool} (j : Nat) : (l.push false).getD j false = l.getD j false := by
  by_cases h : j < l.size
  · exact getD_push false h
  · rcases Nat.lt_or_ge j (l.size + 1) with h1 | h1
    · obtain rfl : j = l.size := by omega
      simp [Array.getD]
    · simp [Array.getD, h, show ¬ j < l.size + 1 by omega, show ¬ j ≤ l.size by omega]
/-- What may come up is the same, but for the last one. -/
theorem ready_push {listed : Array Bool} (hs : listed.size = ops.size) {i : Nat} (hi : i < ops.size) : i ∈ Region.ready md (ops.push last) (listed.push false) ↔ i ∈ Region.ready md ops listed := by
  rw [mem_ready, mem_ready, getD_push true (by omega), Array.getElem?_push_lt hi, Array.getElem?_eq_getElem hi]
  simp only [getD_push_f]
theorem ready_last {listed : Array Bool} (hs : listed.size = ops.size) (hl : sinkB md ops.size last = true) : ops.size ∈ Region.ready md (ops.push last) (listed.push false) ↔ ∀ i, i < ops.size → listed.getD i false = true := by
  obtain ⟨_, h2, h3⟩ := sinkB_spec hl
  rw [mem_ready]
  constructor
  · rintro ⟨_, o, ho, hall⟩ i hi
    have : o = last := by simpa using ho.symm
    subst this
    obtain ⟨e, he, hb, rfl⟩ := h3 i hi
    have := hall e he hb
    rwa [getD_push_f] at this
  · intro h
    refine ⟨by rw [← hs]; simp [Array.getD], last, by simp, fun e he hb => ?_⟩
    rw [getD_push_f]
    exact h _ (h2 e he)
/-- If nothing may come up, all have come up. -/
theorem all_listed {listed : Array Bool} (hs : listed.size = ops.size) (hb : backB ops = true) (hr : Region.ready md ops listed = []) : ∀ i, i < ops.size → listed.getD i false = true := by
  intro i
  induction i using Nat.strongRecOn with
  | _ i ih =>
    intro hi
    cases hg : listed.getD i false
    · exfalso
      have : i ∈ Region.ready md ops listed := by
        rw [mem_ready]
        refine ⟨?_, ops[i], Array.getElem?_eq_getElem hi, fun e he _ => ?_⟩
        · have h' : i < listed.size := by omega
          simp [Array.getD, h'] at hg ⊢; exact hg
        · have := (backB_spec hb (Array.getElem?_eq_getElem hi)).2 e he
          exact ih _ this (by omega)
      rw [hr] at this; cases this
    · rfl
theorem ready_lt {listed : Array Bool} {i : Nat} (h : i ∈ Region.ready md ops listed) : i < ops.size := by
  unfold Region.ready at h
  exact List.mem_range.1 (List.mem_filter.1 h).1
theorem wp_sinkQ {o : Oper} {a : Act} {w : World} {K K' : Act → World → Prop} (h : ∀ a w, K a w → K' a w) (hh : o.wp P a w K (sinkQ P last Q)) : o.wp P a w K' Q := by
  unfold Oper.wp at *
  generalize (execOp a.eval o).run P w = r at *
  cases r with
  | ok n w' =>
    cases n <;> simp only [Oper.upon] at hh ⊢ <;>
      first
        | exact h _ _ hh
        | exact Calls.mono hh (fun e w'' he => by
            cases e with
            | returned u => exact h _ _ he
            | panicked c => exact he
            | outgrown => exact he)
        | exact Rows.mono hh (fun _ _ he => h _ _ he)
  | halt x w' => cases x <;> simp only [Oper.upon] at hh ⊢ <;> exact hh
theorem wpAny_end {listed : Array Bool} {a : Act} {w : World} (hs : listed.size = ops.size) (hl : sinkB md ops.size last = true) (hall : ∀ i, i < ops.size → listed.getD i false = true) (h : sinkQ P last Q .normal a w) (fuel : Nat) : wpAny P md (ops.push last) Q (fuel + 1) (listed.push false) a w := by
  have h1 := (ready_last hs hl).2 hall
  have hon : ∀ i ∈ Region.ready md (ops.push last) (listed.push false), i = ops.size := fun i hi => by
    have h2 := ready_lt hi
    rw [Array.size_push] at h2
    by_cases e : i < ops.size
    · have h3 := (mem_ready.1 ((ready_push hs e).1 hi)).1
      have h4 := hall i e
      have h' : i < listed.size := by omega
      simp [Array.getD, h'] at h3 h4
      rw [h4] at h3; cases h3
    · omega
  have hend : Region.ready md (ops.push last) ((listed.push false).setIfInBounds ops.size true) = [] := by
    rcases hr : Region.ready md (ops.push last) ((listed.push false).setIfInBounds ops.size true) with _ | ⟨j, l⟩
    · rfl
    · exfalso
      have hj : j ∈ Region.ready md (ops.push last) ((listed.push false).setIfInBounds ops.size true) := by rw [hr]; exact List.mem_cons_self
      have h2 := ready_lt hj
      have h3 := (mem_ready.1 hj).1
      rw [Array.size_push] at h2
      by_cases e : j = ops.size
      · subst e
        rw [← hs] at h3
        simp [Array.getD] at h3
      · rw [getD_set_ne true (fun e2 => e e2.symm), getD_push true (by omega)] at h3
        have h4 := hall j (by omega)
        have h' : j < listed.size := by omega
        simp [Array.getD, h'] at h3 h4
        rw [h4] at h3; cases h3
  refine ⟨fun e => (by rw [e] at h1; cases h1), fun i hi => ?_⟩
  rw [hon i hi]
  unfold wpOp
  simp only [Array.getElem?_push_size]
  rw [if_pos (wanted_free (sinkB_spec hl).1 _)]
  refine .inl (Oper.wp_mono (fun a' w' hq => ?_) h)
  cases fuel with
  | zero => exact ⟨hend, hq⟩
  | succ f => exact ⟨fun _ => hq, by rw [hend]; intro j hj; cases hj⟩
theorem wpAny_sink (hb : backB ops = true) (hl : sinkB md ops.size last = true) : ∀ (fuel : Nat) (listed : Array Bool) (a : Act) (w : World), listed.size = ops.size → wpAny P md ops (sinkQ P last Q) fuel listed a w → wpAny P md (ops.push last) Q (fuel + 1) (listed.push false) a w
  | 0, listed, a, w, hs, h => wpAny_end hs hl (all_listed hs hb h.1) h.2 0
  | fuel + 1, listed, a, w, hs, h => by
    by_cases hr : Region.ready md ops listed = []
    · exact wpAny_end hs hl (all_listed hs hb hr) (h.1 hr) _
    · have hnl : ¬ ∀ i, i < ops.size → listed.getD i false = true := fun hall => hr (by
        rcases hr' : Region.ready md ops listed with _ | ⟨j, l⟩
        · rfl
        · have hj : j ∈ Region.ready md ops listed := by rw [hr']; exact List.mem_cons_self
          have h3 := (mem_ready.1 hj).1
          have h4 := hall j (ready_lt hj)
          have h' : j < listed.size := by have := ready_lt hj; omega
          simp [Array.getD, h'] at h3 h4
          rw [h4] at h3; cases h3)
      have hlt : ∀ i ∈ Region.ready md (ops.push last) (listed.push false), i < ops.size := fun i hi => by
        have h2 := ready_lt hi
        rw [Array.size_push] at h2
        by_cases e : i = ops.size
        · subst e; exact absurd ((ready_last hs hl).1 hi) hnl
        · omega
      refine ⟨fun e => ?_, fun i hi => ?_⟩
      · exfalso
        rcases hr' : Region.ready md ops listed with _ | ⟨j, l⟩
        · exact hr hr'
        · have hj : j ∈ Region.ready md ops listed := by rw [hr']; exact List.mem_cons_self
          have := (ready_push (last := last) hs (ready_lt hj)).2 hj
          rw [e] at this; cases this
      · have hi' := (ready_push hs (hlt i hi)).1 hi
        have h1 := h.2 i hi'
        have hilt := hlt i hi
        unfold wpOp at h1 ⊢
        rw [Array.getElem?_push_lt hilt]
        rw [Array.getElem?_eq_getElem hilt] at h1
        simp only at h1 ⊢
        have hg := (backB_spec hb (Array.getElem?_eq_getElem hilt)).1
        rw [if_pos (wanted_free hg _)] at h1 ⊢
        have hset : (listed.push false).setIfInBounds i true = (listed.setIfInBounds i true).push false := by
          apply Array.ext
          · simp
          · intro j h1 h2
            simp only [Array.size_setIfInBounds, Array.size_push] at h1 h2
            rw [Array.getElem_setIfInBounds (by simp; omega), Array.getElem_push, Array.getElem_push]
            by_cases hj : j < listed.size
            · rw [dif_pos hj, dif_pos (by simpa using hj), Array.getElem_setIfInBounds (by simpa using hj)]
            · rw [dif_neg hj, dif_neg (by simpa using hj), if_neg (by omega)]
        rcases h1 with h1 | ⟨h1, h2⟩
        · refine .inl (wp_sinkQ (fun a' w' hk => ?_) h1)
          rw [hset]
          exact wpAny_sink hb hl fuel _ a' w' (by rw [Array.size_setIfInBounds]; exact hs) hk
        · exact .inr ⟨h1, h2⟩
/-- All but the last operation are done in whatever order, S held behind each; then the last one. -/
theorem wp_region_sink {id : Nat} {a : Act} {w : World} {all : Array Oper} (S : World → Prop) (hm : P.follows .mixedOrders = true) (hall : all = ops.push last) (hb : backB ops = true) (hl : sinkB .any ops.size last = true) (hS : S w.drew)
    (h : S w.drew → wpAnyH P .any ops (sinkQ P last Q) S ops.size (Array.replicate ops.size false) a w.drew) : (Code.region id all true).wp P Q a w := by
  subst hall
  refine wp_region_any hm ?_
  have h1 := wpAny_sink hb hl ops.size (Array.replicate ops.size false) a w.drew (by simp) (wpAny_of_held _ _ _ _ (h hS))
  rw [Array.size_push]
  have e : Array.replicate (ops.size + 1) false = (Array.replicate ops.size false).push false := by rw [Array.replicate_succ]
  rw [e]
  exact h1
/-- The world under a name of its own. -/
theorem wpAnyH_gen {S : World → Prop} {fuel : Nat} {listed : Array Bool} {a : Act} {w : World} (h : ∀ W, W = w → S W → wpAnyH P md ops Q S fuel listed a W) (hS : S w) : wpAnyH P md ops Q S fuel listed a w := h w rfl hS
theorem wp_region_sink' {id : Nat} {a : Act} {w : World} {l : List Oper} {o : Oper} (S : World → Prop) (hm : P.follows .mixedOrders = true) (hb : backB (o :: l).dropLast.toArray = true) (hl : sinkB .any (o :: l).dropLast.toArray.size ((o :: l).getLast (List.cons_ne_nil _ _)) = true) (hS : S w.drew)
    (h : S w.drew → wpAnyH P .any (o :: l).dropLast.toArray (sinkQ P ((o :: l).getLast (List.cons_ne_nil _ _)) Q) S (o :: l).dropLast.toArray.size (Array.replicate (o :: l).dropLast.toArray.size false) a w.drew) : (Code.region id (o :: l).toArray true).wp P Q a w :=
  wp_region_sink S hm (by
    rw [List.push_toArray, List.dropLast_concat_getLast]) hb hl hS h
end
end Go.Proofs.Ytcmhginhfhiolaa
set_option linter.unusedVariables false
set_option linter.unusedSimpArgs false
namespace Go.Proofs.Ytcmhginhfhiolaa
open Go.RowKit
attribute [local go_sem] cell_alloc_old

theorem rows_info2 : (Try.prog.info? 22).map (fun i => (i.zero, i.size, i.bytes)) = some (some (.slice none 0 0), 1, 24) := by kernel_rfl
theorem byte_info2 : (Try.prog.info? 5).map (fun i => (i.zero, i.size, i.bytes)) = some (some (.int .u8 0), 1, 1) := by kernel_rfl
def encStr (s : ByteArray) : Value := .string s
theorem str_check (e : Bool) (w : World) (s : ByteArray) : (Instr.checkKey e 10000 9 (encStr s)).run Try.prog w = .ok () w := by kernel_rfl
theorem str_key : KeyT Try.prog 9 encStr :=
  .of_now Try.underlying9 str_check (fun a b => by
    unfold encStr
    show some (a == b) = _
    rw [show (a == b) = decide (a = b) from by rw [Bool.eq_iff_iff, Go.MapKept.bytes_beq, decide_eq_true_eq]]) (fun k => by
    show (k == k) = true
    rw [Go.MapKept.bytes_beq])
theorem lay3 (W : World) (a b c : Obj) : (((W.alloc a).alloc b).alloc c).drew.heap[W.heap.size]? = some a ∧ (((W.alloc a).alloc b).alloc c).drew.heap[W.heap.size + 1]? = some b ∧ (((W.alloc a).alloc b).alloc c).drew.heap[W.heap.size + 1 + 1]? = some c := by
  refine ⟨?_, ?_, ?_⟩ <;> show (((W.alloc a).alloc b).alloc c).heap[_]? = _
  · rw [at_old _ _ _ (by simp; omega), at_old _ _ _ (by simp), at_new _ _ _ rfl]
  · rw [at_old _ _ _ (by simp), at_new _ _ _ (by simp)]
  · rw [at_new _ _ _ (by simp)]
theorem lay3_below (W : World) (a b c : Obj) : Below W.heap.size W (((W.alloc a).alloc b).alloc c).drew :=
  ((((Below.refl _ W).alloc (Nat.le_refl _) a).alloc (by simp) b).alloc (by simp; omega) c).drew
/-- What leads to each state: the first k inputs have their rows. -/
structure Lay1 (B : Nat) (w : World) (pb : Nat) (Q : PTA) (n k fb : Nat) (ib : Nat → Nat) (ins : Nat) : Prop where
  p : PtB B w pb Q (natZ (List.replicate n 0)) [] [] []
  fbx : ∃ cur, w.heap[fb]? = some (.cells cur 22 (0, 0)) ∧ cur.size = ins ∧ ∀ x, x < k → cur[x]? = some (.slice (some ⟨ib x, 0, none⟩) n n)
  ibx : ∀ x, x < k → w.heap[ib x]? = some (zrow (.slice none 0 0) n 34)
  inj : ∀ x y, x < k → y < k → x ≠ y → ib x ≠ ib y
  bnd : B ≤ fb ∧ ∀ x, x < k → B ≤ ib x
  fq : Q.af = some ⟨fb, 0, none⟩ ∧ Q.nf = ins ∧ Q.cf = ins
section
variable {B : Nat} {w : World} {pb : Nat} {Q : PTA} {n k fb ab : Nat} {ib : Nat → Nat} {ins : Nat}
theorem Lay1.zero (hab : B ≤ ab) (hfb : B ≤ fb) (ha : w.heap[ab]? = some (zrow (.int .i64 0) n 3)) (hf : w.heap[fb]? = some (zrow (.slice none 0 0) ins 22))
    (hp : w.heap[pb]? = some (.cells #[.slice (some ⟨ab, 0, none⟩) n n, .slice none 0 0, .slice (some ⟨fb, 0, none⟩) ins ins, .slice none 0 0, .slice none 0 0] 65 (0, 0))) (hn : n ≤ 100000) (hi : ins ≤ 100000) :
    Lay1 B w pb ⟨some ⟨ab, 0, none⟩, n, none, 0, some ⟨fb, 0, none⟩, ins, ins, none, 0, none, 0⟩ n 0 fb ib ins := by
  have hl : (natZ (List.replicate n 0)).length = n := by rw [natZ_len, List.length_replicate]
  refine ⟨⟨by rw [hl]; exact hp, ?_, ⟨rfl, .inl ⟨rfl, rfl⟩⟩, ⟨rfl, .inl ⟨rfl, rfl⟩⟩, ⟨rfl, .inl ⟨rfl, rfl⟩⟩, fun k _ e => by cases e⟩, ⟨_, hf, by simp, fun x h => absurd h (Nat.not_lt_zero _)⟩, fun x h => absurd h (Nat.not_lt_zero _), fun x _ h => absurd h (Nat.not_lt_zero _), ⟨hfb, fun x h => absurd h (Nat.not_lt_zero _)⟩, rfl, rfl, rfl⟩
  rw [hl]
  refine ⟨by rw [List.length_map, hl, Nat.mul_one], .inr ⟨ab, n, _, rfl, hab, ha, Nat.le_refl _, maxLen_le (by omega), by simp, ?_⟩⟩
  simp [natZ]
theorem Lay1.cell2 (h : Lay1 B w pb Q n k fb ib ins) : w.cell? ⟨pb, 2, none⟩ = some (.slice (some ⟨fb, 0, none⟩) ins ins) := by
  have := h.p.cells.2.2.1
  rw [h.fq.1, h.fq.2.1, h.fq.2.2] at this
  exact this
theorem Lay1.at_fb {x : Nat} (h : Lay1 B w pb Q n k fb ib ins) (hx : x < ins) : ∃ u, w.cell? ⟨fb, x, none⟩ = some u ∧ w.frozen? ⟨fb, x, none⟩ = false ∧ fb < w.heap.size := by
  obtain ⟨cur, h1, h2, _⟩ := h.fbx
  exact ⟨_, block_cell h1 (Array.getElem?_eq_getElem (show x < cur.size by omega)), block_free h1, lt_of_block h1⟩
theorem Lay1.next (h : Lay1 B w pb Q n k fb ib ins) (hk : k < ins) (hB : B ≤ w.heap.size) :
    Lay1 B (((w.alloc (zrow (.slice none 0 0) n 34)).setCell ⟨fb, k, none⟩ (.slice (some ⟨w.heap.size, 0, none⟩) n n)).drew) pb Q n (k + 1) fb (upF ib k w.heap.size) ins ∧
    Below B w (((w.alloc (zrow (.slice none 0 0) n 34)).setCell ⟨fb, k, none⟩ (.slice (some ⟨w.heap.size, 0, none⟩) n n)).drew) := by
  obtain ⟨cur, h1, h2, h3⟩ := h.fbx
  have hfl := lt_of_block h1
  have key : ∀ j, j < w.heap.size → j ≠ fb → (((w.alloc (zrow (.slice none 0 0) n 34)).setCell ⟨fb, k, none⟩ (.slice (some ⟨w.heap.size, 0, none⟩) n n)).drew).heap[j]? = w.heap[j]? := fun j hj hne => by
    show ((w.alloc _).setCell _ _).heap[j]? = _
    rw [Below.heap_setCell _ _ _ _ hne]
    exact Below.heap_alloc _ _ _ hj
  have hsz : w.heap.size ≤ (((w.alloc (zrow (.slice none 0 0) n 34)).setCell ⟨fb, k, none⟩ (.slice (some ⟨w.heap.size, 0, none⟩) n n)).drew).heap.size := by simp
  have hVf : ¬ Q.V pb fb := h.p.notV h1 (fun e => absurd e (by decide)) (fun e => absurd e (by decide)) (by decide) (by decide)
  have hibl : ∀ x, x < k → ib x < w.heap.size := fun x hx => lt_of_block (h.ibx x hx)
  have hibf : ∀ x, x < k → ib x ≠ fb := fun x hx e => by
    have := h.ibx x hx
    rw [e] at this
    exact absurd (heap_ty this h1) (by decide)
  have hset : (((w.alloc (zrow (.slice none 0 0) n 34)).setCell ⟨fb, k, none⟩ (.slice (some ⟨w.heap.size, 0, none⟩) n n)).drew).heap[fb]? = some (.cells (cur.setIfInBounds k (.slice (some ⟨w.heap.size, 0, none⟩) n n)) 22 (0, 0)) :=
    set_block ((Below.heap_alloc _ _ _ hfl).trans h1) _
  refine ⟨⟨h.p.keep ⟨hsz, fun j hv hl => key j hl (fun e => hVf (e ▸ hv))⟩, ⟨_, hset, by rw [Array.size_setIfInBounds]; exact h2, fun x hx => ?_⟩, fun x hx => ?_, fun x y hx hy hxy => ?_, ⟨h.bnd.1, fun x hx => ?_⟩, h.fq⟩, ?_⟩
  · rw [Array.getElem?_setIfInBounds]
    by_cases e : k = x
    · subst e
      rw [if_pos rfl, if_pos (by omega), upF_same]
    · rw [if_neg e, upF_other _ _ (fun e2 => e e2.symm)]
      exact h3 x (by omega)
  · by_cases e : x = k
    · subst e
      rw [upF_same]
      show ((w.alloc _).setCell _ _).heap[w.heap.size]? = _
      rw [Below.heap_setCell _ _ _ _ (by show w.heap.size ≠ fb; omega)]
      exact at_new _ _ _ rfl
    · rw [upF_other _ _ e, key _ (hibl x (by omega)) (hibf x (by omega))]
      exact h.ibx x (by omega)
  · by_cases e1 : x = k
    · by_cases e2 : y = k
      · exact absurd (e1.trans e2.symm) hxy
      · have := hibl y (by omega)
        rw [e1, upF_same, upF_other _ _ e2]; omega
    · have := hibl x (by omega)
      by_cases e2 : y = k
      · rw [e2, upF_same, upF_other _ _ e1]; omega
      · rw [upF_other _ _ e1, upF_other _ _ e2]; exact h.inj x y (by omega) (by omega) hxy
  · by_cases e : x = k
    · rw [e, upF_same]; exact hB
    · rw [upF_other _ _ e]; exact h.bnd.2 x (by omega)
  · exact (((Below.refl _ w).alloc hB _).setCell (p := ⟨fb, k, none⟩) h.bnd.1 _).drew
theorem Lay1.ne (h : Lay1 B w pb Q n k fb ib ins) : fb ≠ pb := fun e => by
  obtain ⟨cur, h1, _⟩ := h.fbx
  rw [e] at h1
  exact absurd (heap_ty h1 h.p.box) (by decide)
theorem Lay1.done (h : Lay1 B w pb Q n ins fb ib ins) (ha : Q.am = none) : DvI B w pb Q (natZ (List.replicate n 0)) [] [] [] fb ib ins n (fun _ => .slice none 0 0) (fun _ => []) := by
  obtain ⟨cur, h1, h2, h3⟩ := h.fbx
  refine ⟨h.p, ⟨fun i => ⟨rfl, .inl ⟨rfl, rfl⟩⟩, (fun _ _ _ _ e => by cases e), (fun _ _ e => by cases e)⟩, fun b hb => absurd hb (Nat.not_lt_zero _), fun _ _ => rfl, ⟨cur, h1, h3⟩, fun x hx => ⟨_, h.ibx x hx, by simp, fun t ht => by simp [ht]⟩, h.inj, (fun x _ => by rw [ha]; exact fun e => by cases e), h.fq, h.bnd⟩
end
/-- The map of the outputs' blocks. -/
def MapP (M : Mac) (k : Nat) (bk : List Nat) (lv : List (ByteArray × Value)) : Prop :=
  (∀ q, q < k → lookB lv (keyS M q) = some (encI (bF bk q))) ∧ ∀ s v, lookB lv s = some v → ∃ q, q < k ∧ keyS M q = s
theorem MapP.zero (M : Mac) (bk : List Nat) : MapP M 0 bk [] := ⟨fun q h => absurd h (Nat.not_lt_zero _), fun s v h => by cases h⟩
theorem rowP_zero8 (f : Nat → Int) (n : Nat) : (rowP f 0 n).map (Value.int .u8) = List.replicate n (.int .u8 0) := by
  unfold rowP
  rw [List.map_map]
  apply List.ext_getElem
  · simp
  · intro i h1 h2; simp
theorem own_base {w : World} {base base' n size : Nat} {e : TypeId} {v : Value} {xs : List Value} (h : w.ownsRow base e size v n xs) (hb : base' ≤ base) : w.ownsRow base' e size v n xs := by
  refine ⟨h.1, ?_⟩
  rcases h.2 with h0 | ⟨g, cap, cur, hv, h1, h2⟩
  · exact .inl h0
  · exact .inr ⟨g, cap, cur, hv, Nat.le_trans hb h1, h2⟩
/-- A block of bytes is none of the partition's. -/
theorem DvI.other {B : Nat} {w w' : World} {pb : Nat} {Q : PTA} {bl : List Int} {vm : List Value} {wq : List Int} {wts : List Bool} {fb : Nat} {ib : Nat → Nat} {ins n : Nat} {F : Nat → Value} {L : Nat → List Nat} {c : Nat} {cs : Array Value} {fr : Nat × Nat} (h : DvI B w pb Q bl vm wq wts fb ib ins n F L)
    (hc : w.heap[c]? = some (.cells cs 5 fr)) (hs : w.heap.size ≤ w'.heap.size) (hk : ∀ k, k < w.heap.size → k ≠ c → w'.heap[k]? = w.heap[k]?) : DvI B w' pb Q bl vm wq wts fb ib ins n F L := by
  have hV : ¬ Q.V pb c := h.p.notV hc (fun e => absurd e (by decide)) (fun e => absurd e (by decide)) (by decide) (by decide)
  refine ⟨h.p.keep ⟨hs, fun k hv hl => hk k hl (fun e => hV (e ▸ hv))⟩, ⟨fun i => own_agree (h.fam.row i) fun k e => hk k ((h.fam.row i).lt k e.symm).2 fun e2 => ?_, h.fam.dis, h.fam.cold⟩, h.mem, h.memn, ?_, fun x hx => ?_, h.inj, h.off, h.fq, h.bnd⟩
  · obtain ⟨cs', h1⟩ := own_heap (h.fam.row i) e
    rw [e2] at h1
    exact absurd (heap_ty h1 hc) (by decide)
  · obtain ⟨cur, h1, h2⟩ := h.fbx
    refine ⟨cur, (hk fb (lt_of_block h1) fun e => ?_).trans h1, h2⟩
    rw [e] at h1
    exact absurd (heap_ty h1 hc) (by decide)
  · obtain ⟨cur, h1, h2⟩ := h.ibx x hx
    refine ⟨cur, (hk _ (lt_of_block h1) fun e => ?_).trans h1, h2⟩
    rw [e] at h1
    exact absurd (heap_ty h1 hc) (by decide)
theorem DvI.cellb {B : Nat} {w : World} {pb : Nat} {Q : PTA} {bl : List Int} {vm : List Value} {wq : List Int} {wts : List Bool} {fb : Nat} {ib : Nat → Nat} {ins n : Nat} {F : Nat → Value} {L : Nat → List Nat} (h : DvI B w pb Q bl vm wq wts fb ib ins n F L) :
    w.cell? ⟨pb, 2, none⟩ = some (.slice (some ⟨fb, 0, none⟩) ins ins) ∧ ∀ x, x < ins → w.cell? ⟨fb, x, none⟩ = some (.slice (some ⟨ib x, 0, none⟩) n n) ∧ fb < w.heap.size ∧ ∀ t, t < n → w.cell? ⟨ib x, t, none⟩ = some (F (2 * (x * n + t))) ∧ w.frozen? ⟨ib x, t, none⟩ = false ∧ ib x < w.heap.size := by
  have h2 := h.p.cells.2.2.1
  rw [h.fq.1, h.fq.2.1, h.fq.2.2] at h2
  obtain ⟨cur, h3, h4⟩ := h.fbx
  refine ⟨h2, fun x hx => ⟨block_cell h3 (h4 x hx), lt_of_block h3, fun t ht => ?_⟩⟩
  obtain ⟨cx, h5, _, h6⟩ := h.ibx x hx
  exact ⟨block_cell h5 (h6 t ht), block_free h5, lt_of_block h5⟩
/-- A row as a slice. -/
theorem own_as {w : World} {base n : Nat} {e : TypeId} {v : Value} {xs : List Value} (h : w.ownsRow base e 1 v n xs) : ∃ A c, v = .slice A n c := by
  rcases h.2 with ⟨rfl, rfl⟩ | ⟨g, cap, cur, rfl, _⟩
  · exact ⟨none, 0, rfl⟩
  · exact ⟨_, _, rfl⟩
theorem rowP_set8 (f : Nat → Int) {x n : Nat} (h : x < n) : ((rowP f x n).map (Value.int .u8)).set x (.int .u8 (f x)) = (rowP f (x + 1) n).map (.int .u8) := by
  rw [← List.map_set, rowP_set f h]
theorem below_da1 (w : World) (o : Obj) : Below w.heap.size w (w.drew.alloc o) := ((Drawn.n w 1).below _).alloc (Nat.le_refl _) o
theorem below_ad1 (w : World) (o : Obj) : Below w.heap.size w ((w.alloc o).drew) := ((Below.refl _ w).alloc (Nat.le_refl _) o).trans ((Drawn.n _ 1).below _)
theorem MapP.old {M : Mac} {k q : Nat} {bk : List Nat} {lv : List (ByteArray × Value)} (h : MapP M k bk lv) (hk : k < bk.length) (hq : q < k) (he : keyS M q = keyS M k) : MapP M (k + 1) (bk.set k (bF bk q)) lv := by
  refine ⟨fun p hp => ?_, fun s v hv => ?_⟩
  · rw [bF_set hk]
    by_cases e : p = k
    · rw [if_pos e, e, ← he]; exact h.1 q hq
    · rw [if_neg e]; exact h.1 p (by omega)
  · obtain ⟨p, h1, h2⟩ := h.2 s v hv
    exact ⟨p, by omega, h2⟩
theorem MapP.new {M : Mac} {k b : Nat} {bk : List Nat} {lv : List (ByteArray × Value)} (h : MapP M k bk lv) (hk : k < bk.length) (hno : ∀ q, q < k → keyS M q ≠ keyS M k) : MapP M (k + 1) (bk.set k b) (updB lv (keyS M k) (encI b)) := by
  refine ⟨fun p hp => ?_, fun s v hv => ?_⟩
  · rw [bF_set hk, lookB_upd]
    by_cases e : p = k
    · rw [if_pos e, e, if_pos rfl]
    · rw [if_neg e, if_neg (hno p (by omega))]; exact h.1 p (by omega)
  · rw [lookB_upd] at hv
    split at hv
    · rename_i e; exact ⟨k, by omega, e.symm⟩
    · obtain ⟨p, h1, h2⟩ := h.2 s v hv
      exact ⟨p, by omega, h2⟩
theorem natZ_range (n : Nat) : natZ (List.range n) ++ [(n : Int)] = natZ (List.range (n + 1)) := by rw [List.range_succ, natZ_snoc]
theorem rep_snoc (n : Nat) : List.replicate n true ++ [true] = List.replicate (n + 1) true := by rw [List.replicate_succ']
set_option maxRecDepth 100000 in
theorem conv_key {w : World} {B kb n : Nat} {f : Nat → Int} (h : w.ownsRow B 5 1 (.slice (some ⟨kb, 0, none⟩) n n) n ((rowP f n n).map (.int .u8))) (hn : 0 < n) :
    (convert 33 9 (.slice (some ⟨kb, 0, none⟩) n n)).run Try.prog w = .ok (.string (strOfNums ((List.range n).map f))) w := by
  obtain ⟨kg, hkg, -, hkgl, hkc, -⟩ := own_ptr h hn
  injection hkg with hkg
  injection hkg with hkg
  subst hkg
  rw [← rowP_full]
  exact run_convert_bytes_arg (P := Try.prog) w 33 5 Try.underlying33 Try.underlying5 kb 0 n n (rowP f n n) (rowP_len _ _ _) (fun i hi => by
    rw [Nat.zero_add]
    refine (hkc i _ ?_).1
    rw [List.getElem?_map, List.getElem?_eq_getElem (by rw [rowP_len]; exact hi)]
    simp [List.getD, rowP_len, hi]) 9 Try.underlying9
/-- A map's block is none of the partition's. -/
theorem DvI.mapset {B : Nat} {w w' : World} {pb : Nat} {Q : PTA} {bl : List Int} {vm : List Value} {wq : List Int} {wts : List Bool} {fb : Nat} {ib : Nat → Nat} {ins n : Nat} {F : Nat → Value} {L : Nat → List Nat} {c : Nat} {lv : List (ByteArray × Value)} (h : DvI B w pb Q bl vm wq wts fb ib ins n F L)
    (hm : MapIs encStr w c lv) (hg : w.grownBy w' (some c)) : DvI B w' pb Q bl vm wq wts fb ib ins n F L := by
  have hx : ∀ (k : Nat) (cs : Array Value) (t : TypeId) (fr : Nat × Nat), w.heap[k]? = some (.cells cs t fr) → w'.heap[k]? = w.heap[k]? := fun k cs t fr h2 => hg.block k (lt_of_block h2) fun e => by
    injection e with e
    obtain ⟨es, ck, h1, _⟩ := hm
    rw [e, h1] at h2
    cases h2
  refine ⟨h.p.keep ⟨hg.size, fun k hv hl => ?_⟩, ⟨fun i => own_agree (h.fam.row i) fun k e => ?_, h.fam.dis, h.fam.cold⟩, h.mem, h.memn, ?_, fun x hx' => ?_, h.inj, h.off, h.fq, h.bnd⟩
  · rcases hv with e | e | e | e | e
    · exact hx _ _ _ _ (by rw [e]; exact h.p.box)
    · obtain ⟨cs, h2⟩ := own_heap h.p.bo (by rw [own_slice]; exact e)
      exact hx _ _ _ _ h2
    · obtain ⟨cs, h2⟩ := own_heap h.p.mo (by rw [own_slice]; exact e)
      exact hx _ _ _ _ h2
    · obtain ⟨cs, h2⟩ := own_heap h.p.wo (by rw [own_slice]; exact e)
      exact hx _ _ _ _ h2
    · obtain ⟨cs, h2⟩ := own_heap h.p.two (by rw [own_slice]; exact e)
      exact hx _ _ _ _ h2
  · obtain ⟨cs, h2⟩ := own_heap (h.fam.row i) e
    exact hx _ _ _ _ h2
  · obtain ⟨cur, h1, h2⟩ := h.fbx
    exact ⟨cur, (hx _ _ _ _ h1).trans h1, h2⟩
  · obtain ⟨cur, h1, h2⟩ := h.ibx x hx'
    exact ⟨cur, (hx _ _ _ _ h1).trans h1, h2⟩
def DivSays (M : Mac) (w : World) (e : Ending) (w' : World) : Prop :=
  ∃ B pb Q bk mem vm wq wts, e = .returned (.pointer (some ⟨pb, 0, none⟩)) ∧ w.heap.size ≤ B ∧ PtB B w' pb Q (natZ bk) vm (natZ wq) wts ∧ vm.length = mem.length ∧ RowsX Q.hot w' B (natR mem) vm ∧ PSt M bk mem wq wts ∧
    (∀ p q, p < M.size → q < M.size → (bF bk p = bF bk q ↔ Sim M M p q)) ∧ Below w.heap.size w w' ∧ B ≤ pb
end Go.Proofs.Ytcmhginhfhiolaa
set_option linter.unusedVariables false
set_option linter.unusedSimpArgs false
namespace Go.Proofs.Ytcmhginhfhiolaa
open Go.RowKit
attribute [local go_sem] cell_alloc_old

structure BfI (w : World) (pb : Nat) (Q : PTA) (fb : Nat) (ib : Nat → Nat) (ins n : Nat) (bfs : Nat → List (List Nat)) : Prop where
  fq : Q.af = some ⟨fb, 0, none⟩ ∧ Q.nf = ins ∧ Q.cf = ins
  row : ∀ x, x < ins → w.cell? ⟨fb, x, none⟩ = some (.slice (some ⟨ib x, 0, none⟩) n n) ∧ RdII w (fun k => ¬ Q.V pb k) (some ⟨ib x, 0, none⟩) n (natR (bfs x)) ∧ (bfs x).length = n
  fbv : ¬ Q.V pb fb
section
variable {B : Nat} {w w' : World} {pb : Nat} {Q Q' : PTA} {bl : List Int} {vm : List Value} {wq : List Int} {wts : List Bool} {fb : Nat} {ib : Nat → Nat} {ins n : Nat} {F : Nat → Value} {L : Nat → List Nat} {bfs : Nat → List (List Nat)}
theorem BfI.step (h : BfI w pb Q fb ib ins n bfs) (hs : PtS pb Q Q' w w') (hi : 0 < ins) : BfI w' pb Q' fb ib ins n bfs := by
  have hk : Keeps (fun k => ¬ Q.V pb k) w w' := hs.chg.keeps fun b _ hd => hd
  refine ⟨by rw [hs.fr.1, hs.fr.2.1, hs.fr.2.2]; exact h.fq, fun x hx => ?_, fun hv => h.fbv (hs.v fb (World.block_lt_of_cell? w ⟨fb, 0, none⟩ (h.row 0 hi).1) hv)⟩
  obtain ⟨h1, h2, h3⟩ := h.row x hx
  exact ⟨hk.cell h.fbv h1, ((h2.mono (E := fun k => ¬ Q.V pb k ∧ k < w.heap.size) fun b hb hl => ⟨hb, hl⟩).keep (hk.mono fun b hb => hb.1)).mono fun b hb _ hv => hb.1 (hs.v b hb.2 hv), h3⟩
theorem BfI.cell2 (h : BfI w pb Q fb ib ins n bfs) (hp : PtB B w pb Q bl vm wq wts) : w.cell? ⟨pb, 2, none⟩ = some (.slice (some ⟨fb, 0, none⟩) ins ins) := by
  have := hp.cells.2.2.1
  rw [h.fq.1, h.fq.2.1, h.fq.2.2] at this
  exact this
/-- The rows of a list of rows. -/
theorem natR_map (f : Nat → List Nat) (n : Nat) {i : Nat} (h : i < n) : (natR ((List.range n).map f)).getD i [] = natZ (f i) := by
  rw [natR_get]
  congr 1
  rw [List.getD_eq_getElem?_getD, List.getElem?_map, List.getElem?_range h]; rfl
theorem DvI.rd (h : DvI B w pb Q bl vm wq wts fb ib ins n F L) {i : Nat} (hl : (L i).length ≤ 140737488355328) : ∃ A c, F i = .slice A (L i).length c ∧ RdI w (IBX Q.hot w B) A c (natZ (L i)) := by
  have hr := h.fam.row i
  obtain ⟨A, c, e⟩ := own_as hr
  rw [e] at hr
  exact ⟨A, c, e, IBX.own (B' := B) (n := (L i).length) (Nat.le_refl _) (fun k e2 => h.fam.cold i k (by rw [e]; exact e2)) hr (natZ_len _).symm hl⟩
theorem DvI.rows (h : DvI B w pb Q bl vm wq wts fb ib ins n F L) (hl : ∀ b, b < vm.length → (L (2 * b + 1)).length ≤ 140737488355328) : RowsX Q.hot w B (natR ((List.range vm.length).map fun b => L (2 * b + 1))) vm := fun i hi => by
  rw [natR_len, List.length_map, List.length_range] at hi
  obtain ⟨A, c, e, hr⟩ := h.rd (hl i hi)
  rw [natR_map _ _ hi, natZ_len]
  exact ⟨A, c, by rw [h.mem i hi, e], hr⟩
theorem DvI.before (h : DvI B w pb Q bl vm wq wts fb ib ins n F L) (hn : n ≤ 100000) (hl : ∀ x t, x < ins → t < n → (L (2 * (x * n + t))).length ≤ 140737488355328) : BfI w pb Q fb ib ins n (fun x => (List.range n).map fun t => L (2 * (x * n + t))) := by
  obtain ⟨h2, hc⟩ := h.cellb
  refine ⟨h.fq, fun x hx => ⟨(hc x hx).1, ?_, by simp⟩, h.fbV⟩
  obtain ⟨cur, hb1, hb2, hb3⟩ := h.ibx x hx
  refine ⟨cur.toList, ⟨⟨by simp [natR, hb2], by simp [natR]; omega, by simp [natR], by omega⟩, fun _ => ⟨ib x, 0, rfl, h.ibV hx, lt_of_block hb1, fun j u hu => ?_⟩⟩, fun t ht => ?_⟩
  · rw [Nat.zero_add]
    exact block_cell hb1 (by simpa using hu)
  · rw [natR_len, List.length_map, List.length_range] at ht
    obtain ⟨A, c, e, hr⟩ := h.rd (hl x t hx ht)
    rw [natR_map _ _ ht, natZ_len]
    refine ⟨A, c, ?_, hr.mono fun b hb _ => h.p.ibx hb⟩
    rw [Array.getElem?_toList, hb3 t ht, e]
theorem PtB.vge {b : Nat} (h : PtB B w pb Q bl vm wq wts) (hb : B ≤ pb) (hv : Q.V pb b) : B ≤ b := by
  rcases hv with e | e | e | e | e
  · omega
  · exact (h.bo.lt b (by rw [own_slice]; exact e.symm)).1
  · exact (h.mo.lt b (by rw [own_slice]; exact e.symm)).1
  · exact (h.wo.lt b (by rw [own_slice]; exact e.symm)).1
  · exact (h.two.lt b (by rw [own_slice]; exact e.symm)).1
theorem PtB.base {B' : Nat} (h : PtB B w pb Q bl vm wq wts) (hb : B' ≤ B) : PtB B' w pb Q bl vm wq wts := ⟨h.box, own_base h.bo hb, own_base h.mo hb, own_base h.wo hb, own_base h.two hb, h.dis⟩
/-- A row without its last element. -/
theorem own_init {base n c : Nat} {e : TypeId} {A : Option Addr} {xs : List Value} {x : Value} (h : w.ownsRow base e 1 (.slice A (n + 1) c) (n + 1) (xs ++ [x])) : w.ownsRow base e 1 (.slice A n c) n xs := by
  have hl := h.1
  rw [List.length_append, List.length_singleton] at hl
  refine ⟨by omega, ?_⟩
  rcases h.2 with ⟨_, h0⟩ | ⟨g, cap, cur, hv, hb, hh, h1, h2, hsz, htk⟩
  · omega
  · injection hv with hA _ hc
    subst hA
    subst hc
    refine .inr ⟨g, _, cur, rfl, hb, hh, by omega, h2, hsz, ?_⟩
    have h3 := congrArg (List.take n) htk
    rw [List.take_take, List.take_left' (by omega)] at h3
    rw [Nat.mul_one]
    rw [← h3]
    congr 1
    omega
theorem PtB.popW {z : Int} (h : PtB B w pb Q bl vm (wq ++ [z]) wts) : PtB B (w.setCell ⟨pb, 3, none⟩ (.slice Q.aw wq.length Q.cw)) pb Q bl vm wq wts ∧ PtS pb Q Q w (w.setCell ⟨pb, 3, none⟩ (.slice Q.aw wq.length Q.cw)) := by
  have key : ∀ k, k ≠ pb → (w.setCell ⟨pb, 3, none⟩ (.slice Q.aw wq.length Q.cw)).heap[k]? = w.heap[k]? := fun k hk => Below.heap_setCell _ _ _ _ hk
  have hwo := h.wo
  rw [List.length_append, List.length_singleton, List.map_append] at hwo
  have hwo' := own_init hwo
  refine ⟨⟨?_, own_agree h.bo fun k e => key k fun x => ?_, own_agree h.mo fun k e => key k fun x => ?_, own_agree hwo' fun k e => key k fun x => ?_, own_agree h.two fun k e => key k fun x => ?_, h.dis⟩, (Chg.refl _ w).set _ _ (fun _ => .inl rfl), fun _ _ h => h, fun _ _ h => h, rfl, rfl, rfl⟩
  · have := set_block (i := 3) h.box (.slice Q.aw wq.length Q.cw)
    rw [this]; rfl
  · rw [own_slice, x] at e; exact h.nb e.symm
  · rw [own_slice, x] at e; exact h.nm e.symm
  · rw [own_slice, x] at e; exact h.nw e.symm
  · rw [own_slice, x] at e; exact h.nk e.symm
end
section
variable {M : Mac} {bk wq' : List Nat} {mem : List (List Nat)} {wts : List Bool} {b : Nat}
/-- A block is taken. -/
theorem PSt.pop (h : PSt M bk mem (wq' ++ [b]) wts) : PSt M bk mem wq' (wts.set b false) ∧ b < mem.length :=
  ⟨⟨h.len, by rw [List.length_set]; exact h.wl, by have := h.wle; simp at this; omega, fun c hc => h.wlt c (List.mem_append_left _ hc), h.part, h.nd, h.me⟩, h.wlt b (List.mem_append_right _ (List.mem_singleton.2 rfl))⟩
theorem Hop.popl {T : Nat → Prop} (hM : M.Ok) (hT : Total M) (hH : Hop M (bF bk) (fun c => c ∈ wq' ++ [b]) T M.ins) (hP : PSt M bk mem (wq' ++ [b]) wts) : Hop M (bF bk) (fun c => c ∈ wq') (fun q => q ∈ mem.getD b []) 0 := by
  have hb := hP.pop.2
  have h1 := hH.pop hP.part (b := b) (wt' := fun c => c ∈ wq') fun c hc hm => by
    rcases List.mem_append.1 hm with h | h
    · exact h
    · exact absurd (List.mem_singleton.1 h) hc
  refine ⟨fun p q x hp hq he hx => ?_, fun p q hp hq hpm hqm => ?_⟩
  · rcases h1.h p q x hp hq he hx with h | h | h | ⟨h, h2⟩
    · exact .inl h
    · exact .inr (.inl h)
    · exact .inr (.inr (.inl h))
    · refine .inr (.inr (.inr ⟨h, ?_⟩))
      rw [hP.me b _ hb, hP.me b _ hb]
      constructor
      · rintro ⟨_, a1⟩ ⟨_, a2⟩; exact h2.1 a1 a2
      · intro a1; exact ⟨dl_lt hM hT hp hx, h2.2 fun a2 => a1 ⟨dl_lt hM hT hq hx, a2⟩⟩
  · exact h1.t p q hp hq ((hP.me b p hb).1 hpm).2 fun e => hqm ((hP.me b q hb).2 ⟨hq, e⟩)
end
end Go.Proofs.Ytcmhginhfhiolaa
