/-
  Keeping nodes twice is keeping them once; the nodes below good ones, plain.
  What flash leaves, plain.
  The reference's step is the program's, plain.
  Walk of the reference: Start.
  Walk of the law TreeMatchesReference.
  States that are reached with a good move on the way, plain.
  What the law TreeRuns remembers, plain.
-/
import Derived.Test.YthhknonaebnooaaZ17
import Derived.Test.YthhknonaebnooaaZ13
import Derived.Test.YthhknonaebnooaaZ18
import Derived.Test.YthhknonaebnooaaZ16
import Derived.Test.YthhknonaebnooaaZ15
import Derived.Test.YthhknonaebnooaaZ14
set_option linter.unusedVariables false
set_option linter.unusedSimpArgs false
namespace Go.Proofs.Ythhknonaebnooaa

/-- Marks of marks. -/
def mm (m m' : Nat → Bool) (k : Nat) : Bool := m k && m' (mks m k).length
theorem mks_mm (m m' : Nat → Bool) : ∀ n, mks (mm m m') n = (mks m' (mks m n).length).map fun k => (mks m n).getD k 0
  | 0 => rfl
  | n + 1 => by
    have ih := mks_mm m m' n
    rw [mks_succ (mm m m'), mks_succ m]
    by_cases h : m n = true
    · rw [if_pos h, List.length_append, List.length_singleton, mks_succ m']
      have hpre : ((mks m' (mks m n).length).map fun k => (mks m n ++ [n]).getD k 0) = mks (mm m m') n := by
        rw [ih]
        refine List.map_congr_left fun k hk => ?_
        have := (mks_lt _ hk).1
        simp [List.getD, List.getElem?_append, this]
      have hmm : mm m m' n = m' (mks m n).length := by unfold mm; rw [h]; rfl
      rw [hmm]
      by_cases h2 : m' (mks m n).length = true
      · rw [if_pos h2, if_pos h2, List.map_append, hpre]
        simp [List.getD, List.getElem?_append]
      · rw [if_neg h2, if_neg h2, hpre]
    · have hmm : mm m m' n = false := by unfold mm; simp [h]
      rw [if_neg (by rw [hmm]; decide), if_neg h]
      exact ih
theorem mks_mm_len (m m' : Nat → Bool) (n : Nat) : (mks (mm m m') n).length = (mks m' (mks m n).length).length := by rw [mks_mm, List.length_map]
theorem keep_keep {L : List Nd} {m m' : Nat → Bool} (hu : Up L) (hm : Closed L m) (hm' : Closed (keepZ L m) m') (hc : Closed L (mm m m')) : keepZ (keepZ L m) m' = keepZ L (mm m m') := by
  rw [keepZ_eq (keep_up hu hm) hm', keepZ_eq hu hc, keep_len hu hm, mks_mm, List.map_map]
  refine List.map_congr_left fun k hk => ?_
  obtain ⟨hk1, hk2⟩ := mks_lt _ hk
  show kp (keepZ L m) m' k = kp L (mm m m') ((mks m L.length).getD k 0)
  unfold kp
  rw [keep_nd hu hm hk1]
  obtain ⟨r1, r2, r3⟩ := mks_rank hk1
  have hp := hu _ r1
  unfold kp
  by_cases h0 : 0 ≤ (nd L ((mks m L.length).getD k 0)).parent
  · simp only [if_pos h0]
    rw [if_pos (by omega), Int.toNat_natCast, mks_mm_len]
  · simp only [if_neg h0]
theorem keepZ_congr {L : List Nd} {m m' : Nat → Bool} (h : ∀ i, i < L.length → m i = m' i) : keepZ L m = keepZ L m' := by
  unfold keepZ
  rw [keepTo_congr L L.length h]

/-! The list of a step, its good nodes. -/
def ne0 (L : List Nd) (k : Nat) : Bool := decide (0 < (nd L k).set.length)
/-- The nodes that stay when the good ones below s have been looked at. -/
def MS (L : List Nd) (s k : Nat) : Bool := ne0 L k && (List.range s).all fun j => !(goodL L j && belowZ L k j)
theorem MS_succ (L : List Nd) (s k : Nat) : MS L (s + 1) k = (MS L s k && !(goodL L s && belowZ L k s)) := by
  unfold MS
  rw [List.range_succ, List.all_append, ← Bool.and_assoc]
  simp
theorem MS_zero (L : List Nd) (k : Nat) : MS L 0 k = ne0 L k := by unfold MS; simp
theorem below_lt {L : List Nd} (hu : Up L) : ∀ {k j : Nat}, k < L.length → belowZ L k j = true → j < k := by
  intro k
  induction k using Nat.strongRecOn with
  | ind k ih =>
    intro j hk h
    rw [below_par hu hk] at h
    simp only [Bool.and_eq_true, Bool.or_eq_true, decide_eq_true_eq] at h
    obtain ⟨h0, h1⟩ := h
    have hp := (hu k hk).2
    rcases h1 with e | e
    · omega
    · have := ih (nd L k).parent.toNat (by omega) (by omega) e
      omega
theorem MS_iff {L : List Nd} {s k : Nat} : MS L s k = true ↔ ne0 L k = true ∧ ∀ j, j < s → goodL L j = true → belowZ L k j = false := by
  unfold MS
  rw [Bool.and_eq_true, List.all_eq_true]
  refine and_congr Iff.rfl ⟨fun h j hj hg => ?_, fun h j hj => ?_⟩
  · have := h j (List.mem_range.2 hj)
    rw [hg] at this
    simpa using this
  · rw [Bool.not_eq_true', Bool.and_eq_false_iff]
    cases hg : goodL L j
    · exact .inl rfl
    · exact .inr (h j (List.mem_range.1 hj) hg)
/-- What the list of a step is like. -/
structure LOk (L : List Nd) : Prop where
  up : Up L
  lam : LamL L
theorem ne0_par {L : List Nd} (h : LOk L) {k : Nat} (hk : k < L.length) (hn : ne0 L k = true) (h0 : 0 ≤ (nd L k).parent) : ne0 L (nd L k).parent.toNat = true := by
  unfold ne0 at hn ⊢
  simp only [decide_eq_true_eq] at hn ⊢
  have hk0 : 0 < k := by
    rcases Nat.eq_zero_or_pos k with e | e
    · subst e; have := h.lam.root (by omega); omega
    · exact e
  obtain ⟨x, hx⟩ := List.exists_mem_of_length_pos hn
  exact List.length_pos_of_mem (h.lam.lam.sub k hk hk0 x hx)
theorem MS_closed {L : List Nd} (h : LOk L) (s : Nat) : Closed L (MS L s) := fun k hk hm h0 => by
  obtain ⟨h1, h2⟩ := MS_iff.1 hm
  refine MS_iff.2 ⟨ne0_par h hk h1 h0, fun j hj hg => ?_⟩
  have h3 := h2 j hj hg
  rw [below_par h.up hk, decide_eq_true h0, Bool.true_and, Bool.or_eq_false_iff] at h3
  exact h3.2
/-- Good nodes further on take nothing above them. -/
theorem MS_more {L : List Nd} (h : LOk L) {s k : Nat} (hk : k < L.length) (hks : k ≤ s) (n : Nat) : MS L (s + n) k = MS L s k := by
  induction n with
  | zero => rfl
  | succ n ih =>
    rw [← Nat.add_assoc, MS_succ, ih]
    cases hb : belowZ L k (s + n)
    · simp
    · have := below_lt h.up hk hb
      omega
theorem stay_MS {L : List Nd} (h : LOk L) : ∀ k, k < L.length → (!goneL L k) = MS L k k := by
  intro k
  induction k using Nat.strongRecOn with
  | ind k ih =>
    intro hk
    have h1 := (flg_eq h.up hk).1
    have he : (nd L k).set.isEmpty = !ne0 L k := by
      unfold ne0
      cases hh : (nd L k).set with
      | nil => rfl
      | cons x l => simp
    rw [h1, he, Bool.not_or, Bool.not_not]
    unfold upB
    by_cases h0 : 0 ≤ (nd L k).parent
    · rw [decide_eq_true h0, Bool.true_and]
      have hpk := (h.up k hk).2
      obtain ⟨p, hp⟩ : ∃ p : Nat, (nd L k).parent = (p : Int) := ⟨(nd L k).parent.toNat, by omega⟩
      have hpp : (nd L k).parent.toNat = p := by omega
      have hps := ih p (by omega) (by omega)
      rw [hpp, Bool.not_or]
      rw [hps]
      rw [Bool.eq_iff_iff]
      constructor
      · intro hh
        simp only [Bool.and_eq_true, Bool.not_eq_true'] at hh
        obtain ⟨a1, a2, a3⟩ := hh
        refine MS_iff.2 ⟨a1, fun j hj hg => ?_⟩
        rw [below_par h.up hk, decide_eq_true h0, Bool.true_and, hpp]
        have e1 : decide ((nd L k).parent = (j : Int)) = false := decide_eq_false (fun e => by
          have : j = p := by omega
          subst this
          rw [a2] at hg; cases hg)
        rw [e1, Bool.false_or]
        by_cases hjp : j < p
        · exact (MS_iff.1 a3).2 j hjp hg
        · exact Bool.eq_false_iff.2 fun hb => hjp (below_lt h.up (by omega) hb)
      · intro hm
        obtain ⟨b1, b2⟩ := MS_iff.1 hm
        simp only [Bool.and_eq_true, Bool.not_eq_true']
        have hb : ∀ j, j < k → goodL L j = true → decide ((nd L k).parent = (j : Int)) = false ∧ belowZ L p j = false := fun j hj hg => by
          have := b2 j hj hg
          rw [below_par h.up hk, decide_eq_true h0, Bool.true_and, hpp, Bool.or_eq_false_iff] at this
          exact this
        refine ⟨b1, ?_, MS_iff.2 ⟨by have := ne0_par h hk b1 h0; rw [hpp] at this; exact this, fun j hj hg => (hb j (by omega) hg).2⟩⟩
        refine Bool.eq_false_iff.2 fun hg => ?_
        have := (hb p (by omega) hg).1
        rw [hp] at this
        simp at this
    · have hnb : ∀ j, belowZ L k j = false := fun j => by rw [below_par h.up hk, decide_eq_false h0]; rfl
      rw [decide_eq_false h0]
      have : MS L k k = ne0 L k := by
        rw [Bool.eq_iff_iff, MS_iff]
        exact ⟨fun h => h.1, fun h => ⟨h, fun j _ _ => hnb j⟩⟩
      rw [this]; simp
theorem good_iff {L : List Nd} (h : LOk L) {s : Nat} (hs : s < L.length) : goodL L s = (MS L s s && decide ((nd L s).set.length ≤ (unionZ L (s : Int)).length)) := by
  have h1 := (flg_eq h.up hs).2
  rw [stay_MS h s hs] at h1
  rw [h1]
  have hle := lam_union_le h.lam s
  congr 1
  by_cases e : (unionZ L (s : Int)).length = (nd L s).set.length
  · rw [decide_eq_true e, decide_eq_true (by omega)]
  · rw [decide_eq_false e, decide_eq_false (by omega)]
end Go.Proofs.Ythhknonaebnooaa
set_option linter.unusedVariables false
set_option linter.unusedSimpArgs false
namespace Go.Proofs.Ythhknonaebnooaa

/-- The states of all children, by places. -/
theorem union_range (L : List Nd) (i : Int) : unionZ L i = (List.range L.length).flatMap fun k => if (nd L k).parent = i then (nd L k).set else [] := by
  have e : L = (List.range L.length).map (nd L) := by
    apply List.ext_getElem
    · simp
    · intro j h1 h2
      simp [nd, List.getD, h1]
  conv => lhs; rw [e]
  unfold unionZ
  rw [List.flatMap_map]
theorem flatMap_filter {α β : Type} (p : α → Bool) (f : α → List β) (h : ∀ x, p x = false → f x = []) : ∀ l : List α, (l.filter p).flatMap f = l.flatMap f
  | [] => rfl
  | x :: l => by
    have ih := flatMap_filter p f h l
    rw [List.filter_cons]
    cases hp : p x
    · simp [ih, h x hp]
    · simp [ih]
theorem flatMap_filter_on {α β : Type} (p : α → Bool) (f : α → List β) : ∀ l : List α, (∀ x ∈ l, p x = false → f x = []) → (l.filter p).flatMap f = l.flatMap f
  | [], _ => rfl
  | x :: l, h => by
    have ih := flatMap_filter_on p f l fun y hy => h y (by simp [hy])
    rw [List.filter_cons]
    cases hp : p x
    · simp [ih, h x (by simp) hp]
    · simp [ih]
theorem flatMap_congr' {α β : Type} (f g : α → List β) : ∀ l : List α, (∀ x ∈ l, f x = g x) → l.flatMap f = l.flatMap g
  | [], _ => rfl
  | x :: l, h => by
    rw [List.flatMap_cons, List.flatMap_cons, h x (by simp), flatMap_congr' f g l fun y hy => h y (by simp [hy])]
theorem filter_congr_range {n : Nat} {p q : Nat → Bool} (h : ∀ k, k < n → p k = q k) : (List.range n).filter p = (List.range n).filter q := List.filter_congr fun k hk => h k (List.mem_range.1 hk)
theorem mks_congr {m m' : Nat → Bool} {n : Nat} (h : ∀ i, i < n → m i = m' i) : mks m n = mks m' n := filter_congr_range h
/-- The children of a node that stays are all there. -/
theorem union_keep {L : List Nd} (h : LOk L) {s : Nat} (hs : s < L.length) (hm : MS L s s = true) : unionZ (keepZ L (MS L s)) ((mks (MS L s) s).length : Int) = unionZ L (s : Int) := by
  have hcl := MS_closed h s
  have e1 : keepZ L (MS L s) = (mks (MS L s) L.length).map (kp L (MS L s)) := keepZ_eq h.up hcl
  have e2 : unionZ (keepZ L (MS L s)) ((mks (MS L s) s).length : Int) = (mks (MS L s) L.length).flatMap fun k => if (nd L k).parent = (s : Int) then (nd L k).set else [] := by
    rw [e1]
    unfold unionZ
    rw [List.flatMap_map]
    refine flatMap_congr' _ _ _ fun k hk => ?_
    obtain ⟨hk1, hk2⟩ := mks_lt _ hk
    unfold kp
    show (if (if 0 ≤ (nd L k).parent then ((mks (MS L s) (nd L k).parent.toNat).length : Int) else (nd L k).parent) = ((mks (MS L s) s).length : Int) then (nd L k).set else []) = _
    by_cases h0 : 0 ≤ (nd L k).parent
    · rw [if_pos h0]
      by_cases e : (nd L k).parent = (s : Int)
      · rw [if_pos e, e, Int.toNat_natCast, if_pos rfl]
      · rw [if_neg e, if_neg]
        intro he
        have hpm := hcl k hk1 hk2 h0
        have hne : (nd L k).parent.toNat ≠ s := by omega
        rcases Nat.lt_or_gt_of_ne hne with hlt | hlt
        · have := (mks_at hlt hpm).1; omega
        · have := (mks_at hlt hm).1; omega
    · rw [if_neg h0, if_neg (by omega), if_neg (by omega)]
  rw [e2, union_range L (s : Int)]
  unfold mks
  refine flatMap_filter_on _ _ _ fun k hk hp => ?_
  have hk := List.mem_range.1 hk
  by_cases e : (nd L k).parent = (s : Int)
  · rw [if_pos e]
    have hn : ne0 L k = false := by
      refine Bool.eq_false_iff.2 fun hn => ?_
      have : MS L s k = true := MS_iff.2 ⟨hn, fun j hj hg => by
        rw [below_par h.up hk, e, decide_eq_true (by omega), Bool.true_and, Int.toNat_natCast, (MS_iff.1 hm).2 j hj hg, Bool.or_false]
        exact decide_eq_false (by omega)⟩
      rw [this] at hp; cases hp
    unfold ne0 at hn
    exact List.eq_nil_of_length_eq_zero (by simpa using hn)
  · rw [if_neg e]
/-- Places below a node that stays, before and after. -/
theorem below_keep {L : List Nd} (h : LOk L) {m : Nat → Bool} (hcl : Closed L m) {s : Nat} (hs : s < L.length) (hm : m s = true) : ∀ k, k < L.length → m k = true → belowZ (keepZ L m) (mks m k).length (mks m s).length = belowZ L k s := by
  intro k
  induction k using Nat.strongRecOn with
  | ind k ih =>
    intro hk hmk
    obtain ⟨r1, r2⟩ := mks_at hk hmk
    have hup := keep_up h.up hcl
    rw [below_par hup (by rw [keep_len h.up hcl]; exact r1), below_par h.up hk, keep_nd h.up hcl r1, r2]
    unfold kp
    show (decide (0 ≤ (if 0 ≤ (nd L k).parent then ((mks m (nd L k).parent.toNat).length : Int) else (nd L k).parent)) && (decide ((if 0 ≤ (nd L k).parent then ((mks m (nd L k).parent.toNat).length : Int) else (nd L k).parent) = ((mks m s).length : Int)) || belowZ (keepZ L m) (if 0 ≤ (nd L k).parent then ((mks m (nd L k).parent.toNat).length : Int) else (nd L k).parent).toNat (mks m s).length)) = _
    by_cases h0 : 0 ≤ (nd L k).parent
    · have hpk := (h.up k hk).2
      have hpm := hcl k hk hmk h0
      rw [if_pos h0, decide_eq_true h0, decide_eq_true (by omega : (0 : Int) ≤ ((mks m (nd L k).parent.toNat).length : Int)), Int.toNat_natCast, ih _ (by omega) (by omega) hpm]
      congr 2
      have e : ((mks m (nd L k).parent.toNat).length : Int) = ((mks m s).length : Int) ↔ (nd L k).parent = (s : Int) := by
        constructor
        · intro he
          rcases Nat.lt_trichotomy (nd L k).parent.toNat s with hlt | hlt | hlt
          · have := (mks_at hlt hpm).1; omega
          · omega
          · have := (mks_at hlt hm).1; omega
        · intro he; rw [he, Int.toNat_natCast]
      by_cases e2 : (nd L k).parent = (s : Int)
      · rw [decide_eq_true e2, decide_eq_true (e.2 e2)]
      · rw [decide_eq_false e2, decide_eq_false (fun hh => e2 (e.1 hh))]
    · rw [if_neg h0, decide_eq_false h0]; rfl
/-- The good names below place s. -/
def gn (L : List Nd) (s : Nat) : List Int := ((List.range s).filter (goodL L)).map fun i => (nd L i).name
theorem gn_succ (L : List Nd) (s : Nat) : gn L (s + 1) = if goodL L s then gn L s ++ [(nd L s).name] else gn L s := by
  unfold gn
  rw [List.range_succ, List.filter_append, List.map_append]
  cases h : goodL L s <;> simp [h]
theorem flash_step {L : List Nd} (h : LOk L) : ∀ s, s ≤ L.length → flashTo (keepZ L (MS L 0)) (mks (MS L s) s).length = (keepZ L (MS L s), gn L s)
  | 0, _ => rfl
  | s + 1, hs => by
    have ih := flash_step h s (by omega)
    have hsl : s < L.length := by omega
    have hpre : mks (MS L (s + 1)) s = mks (MS L s) s := mks_congr fun k hk => by
      rw [MS_succ]
      cases hb : belowZ L k s
      · simp
      · have := below_lt h.up (by omega) hb; omega
    have hself : MS L (s + 1) s = MS L s s := by
      rw [MS_succ]
      cases hb : belowZ L s s
      · simp
      · have := below_lt h.up hsl hb; omega
    by_cases hm : MS L s s = true
    · have hl : (mks (MS L (s + 1)) (s + 1)).length = (mks (MS L s) s).length + 1 := by
        rw [mks_succ, if_pos (by rw [hself]; exact hm), List.length_append, hpre]; rfl
      rw [hl]
      show flashAt (flashTo (keepZ L (MS L 0)) (mks (MS L s) s).length) (mks (MS L s) s).length = _
      rw [ih]
      have hcl := MS_closed h s
      obtain ⟨r1, r2⟩ := mks_at hsl hm
      have hnd : nd (keepZ L (MS L s)) (mks (MS L s) s).length = kp L (MS L s) s := by rw [keep_nd h.up hcl r1, r2]
      have hset : (nd (keepZ L (MS L s)) (mks (MS L s) s).length).set = (nd L s).set := by rw [hnd]; rfl
      have hname : (nd (keepZ L (MS L s)) (mks (MS L s) s).length).name = (nd L s).name := by rw [hnd]; rfl
      have hg := good_iff h hsl
      rw [hm, Bool.true_and] at hg
      unfold flashAt
      rw [gn_succ]
      by_cases hfull : (nd L s).set.length ≤ (unionZ L (s : Int)).length
      · rw [decide_eq_true hfull] at hg
        rw [if_pos ⟨by rw [keep_len h.up hcl]; exact r1, by rw [hset, union_keep h hsl hm]; exact hfull⟩, hg, if_pos rfl, hname]
        congr 1
        have hmmeq : ∀ k, k < L.length → mm (MS L s) (offU (keepZ L (MS L s)) (mks (MS L s) s).length) k = MS L (s + 1) k := fun k hk => by
          rw [MS_succ, hg, Bool.true_and]
          unfold mm
          cases hmk : MS L s k
          · rfl
          · rw [Bool.true_and, Bool.true_and]
            unfold offU
            rw [below_keep h hcl hsl hm k hk hmk]
        have hcl2 : Closed L (mm (MS L s) (offU (keepZ L (MS L s)) (mks (MS L s) s).length)) := fun k hk hh h0 => by
          rw [hmmeq k hk] at hh
          have hpk := (h.up k hk).2
          rw [hmmeq _ (by omega)]
          exact MS_closed h (s + 1) k hk hh h0
        exact (keep_keep h.up hcl (offU_closed (keep_up h.up hcl) _) hcl2).trans (keepZ_congr hmmeq)
      · rw [decide_eq_false hfull] at hg
        rw [if_neg (fun hh => hfull (by have := hh.2; rw [hset, union_keep h hsl hm] at this; exact this)), hg, if_neg (by decide)]
        congr 1
        exact keepZ_congr fun k hk => by rw [MS_succ, hg]; simp
    · have hm : MS L s s = false := by simpa using hm
      have hg := good_iff h hsl
      rw [hm, Bool.false_and] at hg
      rw [mks_succ, if_neg (by rw [hself, hm]; decide), hpre, ih, gn_succ, hg, if_neg (by decide)]
      congr 1
      exact keepZ_congr fun k hk => by rw [MS_succ, hg]; simp
theorem flash_all {L : List Nd} (h : LOk L) : flashZ (keepZ L (ne0 L)) = (keepZ L (fun i => !goneL L i), gn L L.length) := by
  have h0 : keepZ L (MS L 0) = keepZ L (ne0 L) := keepZ_congr fun k _ => MS_zero L k
  have h1 := flash_step h L.length (Nat.le_refl _)
  have hcl := MS_closed h L.length
  have hle : (mks (MS L L.length) L.length).length ≤ (keepZ L (MS L 0)).length := by
    rw [keep_len h.up (MS_closed h 0)]
    exact mks_mono (fun i hi => MS_iff.2 ⟨(MS_iff.1 hi).1, fun j hj _ => by omega⟩) _
  have h2 := flashTo_done (t := keepZ L (MS L 0)) (i := (mks (MS L L.length) L.length).length) (by rw [h1]; show (keepZ L (MS L L.length)).length ≤ _; rw [keep_len h.up hcl]; exact Nat.le_refl _) ((keepZ L (MS L 0)).length - (mks (MS L L.length) L.length).length)
  rw [show (mks (MS L L.length) L.length).length + ((keepZ L (MS L 0)).length - (mks (MS L L.length) L.length).length) = (keepZ L (MS L 0)).length by omega, h1] at h2
  rw [← h0]
  unfold flashZ
  rw [h2]
  congr 1
  refine keepZ_congr fun k hk => ?_
  rw [stay_MS h k hk]
  have := MS_more h hk (Nat.le_refl k) (L.length - k)
  rw [show k + (L.length - k) = L.length by omega] at this
  exact this
end Go.Proofs.Ythhknonaebnooaa
set_option linter.unusedVariables false
set_option linter.unusedSimpArgs false
namespace Go.Proofs.Ythhknonaebnooaa

theorem listL_ok {b : Bu} {t : List Nd} {a : Int} (h : treeB b t = true) : LOk (listL b t a) := ⟨listL_Up h, listL_lamL h⟩
theorem listL_name {b : Bu} {t : List Nd} {a : Int} {i : Nat} (hi : i < 2 * t.length) : (nd (listL b t a) i).name = if i < t.length then (nd t i).name else 0 := by
  rw [(listL_same b t a i).2, grownP_get b t a hi]
  unfold grownP
  split
  · rfl
  · rfl
theorem nameTo_new {used : List Int} {t : List Nd} {k : Nat} (h : ¬ 0 < (nd t k).name) : nameTo used t (k + 1) = ((nameTo used t k).1.set k { nd (nameTo used t k).1 k with name := freeN used used.length (nameTo used t k).2 }, freeN used used.length (nameTo used t k).2 + 1) := by
  conv => lhs; unfold nameTo
  rw [if_neg h]
theorem nmL_yes {used : List Int} {L : List Nd} {sk : Nat → Bool} {k : Nat} (h : sk k = true) : nmL used L sk (k + 1) = nmL used L sk k := by
  conv => lhs; unfold nmL
  rw [if_pos h]
theorem nmL_new {used : List Int} {L : List Nd} {sk : Nat → Bool} {k : Nat} (h : sk k = false) : nmL used L sk (k + 1) = ((nmL used L sk k).1.set k { nd L k with name := freeN used used.length (nmL used L sk k).2 }, freeN used used.length (nmL used L sk k).2 + 1) := by
  conv => lhs; unfold nmL
  rw [if_neg (by rw [h]; decide)]
theorem name_steps {b : Bu} {t : List Nd} {a : Int} (h : treeB b t = true) : ∀ s, s ≤ 2 * t.length →
    nameTo (namesZ t) (keepZ (listL b t a) (stay b t a)) (mks (stay b t a) s).length = ((stays b t a).map (kp (nmL (namesZ t) (listL b t a) (skS b t a) s).1 (stay b t a)), (nmL (namesZ t) (listL b t a) (skS b t a) s).2) := by
  have hok := listL_ok (a := a) h
  have hll := listL_len b t a
  have hcl : Closed (listL b t a) (stay b t a) := fun i hi hs h0 => by
    have h1 := (stay_iff h (by omega)).1 hs
    have hi0 : 0 < i := by
      rcases Nat.eq_zero_or_pos i with e | e
      · subst e; have := hok.lam.root (by omega); omega
      · exact e
    exact (h1.2 hi0).1
  obtain ⟨-, -, ht⟩ := treeB_all h
  intro s
  induction s with
  | zero =>
    intro _
    show (keepZ (listL b t a) (stay b t a), (1 : Int)) = _
    rw [keepZ_eq hok.up hcl, hll]
    rfl
  | succ s ih =>
    intro hs
    have ih := ih (by omega)
    have hsl : s < (listL b t a).length := by omega
    rw [mks_succ]
    by_cases hm : stay b t a s = true
    · rw [if_pos hm, List.length_append, List.length_singleton]
      obtain ⟨r1, r2⟩ := mks_at hsl hm
      have hndr : (nd (keepZ (listL b t a) (stay b t a)) (mks (stay b t a) s).length).name = (nd (listL b t a) s).name := by rw [keep_nd hok.up hcl r1, r2]; rfl
      have hgs : goneL (listL b t a) s = false := by unfold stay at hm; simpa using hm
      by_cases hst : s < t.length
      · have hsk : skS b t a s = true := by unfold skS skipL; rw [decide_eq_true hst, Bool.true_or]
        rw [nameTo_old (by rw [hndr, listL_name (by omega), if_pos hst]; have := (tree_up ht hst).1; omega), nmL_yes hsk, ih]
      · have hsk : skS b t a s = false := by unfold skS skipL; rw [decide_eq_false hst, hgs]; rfl
        rw [nameTo_new (by rw [hndr, listL_name (by omega), if_neg hst]; decide), nmL_new hsk, ih]
        obtain ⟨P, hP⟩ : ∃ P, P = nmL (namesZ t) (listL b t a) (skS b t a) s := ⟨_, rfl⟩
        have hsame := nmL_same (namesZ t) (listL b t a) (skS b t a) s s
        have hPl := nmL_len (namesZ t) (listL b t a) (skS b t a) s
        rw [← hP] at hsame hPl ⊢
        refine Prod.ext ?_ rfl
        show ((stays b t a).map (kp P.1 (stay b t a))).set (mks (stay b t a) s).length _ = (stays b t a).map (kp (P.1.set s _) (stay b t a))
        have hrl : (mks (stay b t a) s).length < (stays b t a).length := by unfold stays; rw [← hll]; exact r1
        have hrs : (stays b t a)[(mks (stay b t a) s).length] = s := by
          have : (stays b t a).getD (mks (stay b t a) s).length 0 = s := by unfold stays; rw [← hll]; exact r2
          simpa [List.getD, hrl] using this
        apply List.ext_getElem
        · simp
        · intro k k1 k2
          simp only [List.length_map] at k2
          rw [List.getElem_set, List.getElem_map, List.getElem_map]
          by_cases e : (mks (stay b t a) s).length = k
          · subst e
            rw [if_pos rfl, hrs]
            have e1 : nd ((stays b t a).map (kp P.1 (stay b t a))) (mks (stay b t a) s).length = kp P.1 (stay b t a) s := by unfold nd; simp [List.getD, hrl, hrs]
            have e2 : nd (P.1.set s { nd (listL b t a) s with name := freeN (namesZ t) (namesZ t).length P.2 }) s = { nd (listL b t a) s with name := freeN (namesZ t) (namesZ t).length P.2 } := by unfold nd; simp [List.getD, show s < P.1.length by omega]
            rw [e1]
            unfold kp
            rw [e2]
            simp only [hsame.1, hsame.2.1]
          · rw [if_neg e]
            have hne : (stays b t a)[k] ≠ s := fun hh => by
              rcases Nat.lt_or_gt_of_ne e with hlt | hlt
              · have := stays_inc hlt k2
                simp [List.getD, hrl, k2] at this
                omega
              · have := stays_inc hlt hrl
                simp [List.getD, hrl, k2] at this
                omega
            unfold kp
            have e3 : nd (P.1.set s { nd (listL b t a) s with name := freeN (namesZ t) (namesZ t).length P.2 }) (stays b t a)[k] = nd P.1 (stays b t a)[k] := by unfold nd; simp [List.getD, Ne.symm hne]
            rw [e3]
    · have hm : stay b t a s = false := by simpa using hm
      have hgs : goneL (listL b t a) s = true := by unfold stay at hm; simpa using hm
      have hsk : skS b t a s = true := by unfold skS skipL; rw [hgs, Bool.or_true]
      rw [if_neg (by rw [hm]; decide), nmL_yes hsk, ih]
/-- The reference's step is the program's. -/
theorem step_same (b : Bu) (t : List Nd) (a : Int) : stepR b t a = stepF b t a := by
  unfold stepR
  by_cases hy : treeB b t = true ∧ 0 ≤ a ∧ a < b.letters
  · obtain ⟨h, a0, a1⟩ := hy
    rw [if_pos ⟨h, a0, a1⟩]
    have hok := listL_ok (a := a) h
    have hll := listL_len b t a
    obtain ⟨-, -, ht⟩ := treeB_all h
    have hfl := flash_all hok
    have hst : (fun i => !goneL (listL b t a) i) = stay b t a := rfl
    rw [hst] at hfl
    have hcl : Closed (listL b t a) (stay b t a) := fun i hi hs h0 => by
      have h1 := (stay_iff h (by omega)).1 hs
      have hi0 : 0 < i := by
        rcases Nat.eq_zero_or_pos i with e | e
        · subst e; have := hok.lam.root (by omega); omega
        · exact e
      exact (h1.2 hi0).1
    have hZ : stepZ b t a = ⟨(nameTo (namesZ t) (keepZ (listL b t a) (stay b t a)) (keepZ (listL b t a) (stay b t a)).length).1, sortZ (gn (listL b t a) (listL b t a).length), sortZ ((namesZ t).filter fun n => !inB (namesZ (keepZ (listL b t a) (stay b t a))) n)⟩ := by
      have e : stepZ b t a = ⟨(nameTo (namesZ t) (flashZ (keepZ (listL b t a) (ne0 (listL b t a)))).1 (flashZ (keepZ (listL b t a) (ne0 (listL b t a)))).1.length).1, sortZ (flashZ (keepZ (listL b t a) (ne0 (listL b t a)))).2, sortZ ((namesZ t).filter fun n => !inB (namesZ (flashZ (keepZ (listL b t a) (ne0 (listL b t a)))).1) n)⟩ := rfl
      rw [e, hfl]
    rw [hZ]
    have h1 := step_tree h a0 a1
    have hF : stepF b t a = ⟨(stepF b t a).tree, sortM (((List.range (2 * t.length)).filter (goodL (listL b t a))).map fun i => (nd (lastL b t a) i).name), sortM (((List.range t.length).filter (goneL (listL b t a))).map fun i => (nd t i).name)⟩ := by
      unfold stepF
      rw [if_pos ⟨h, a0, a1⟩]
    rw [hF, h1]
    congr 1
    · have h2 := name_steps (a := a) h (2 * t.length) (Nat.le_refl _)
      rw [keep_len hok.up hcl, hll]
      rw [h2]; rfl
    · rw [sortZ_M, hll]
      unfold gn
      congr 1
      refine List.map_congr_left fun i hi => ?_
      obtain ⟨g1, g2⟩ := List.mem_filter.1 hi
      have g3 := (good_old h (List.mem_range.1 g1) g2).1
      exact ((nmL_same (namesZ t) (listL b t a) (skS b t a) (2 * t.length) i).2.2 (.inr (by unfold skS skipL; rw [decide_eq_true g3, Bool.true_or]))).symm
    · rw [sortZ_M]
      congr 1
      have hn : namesZ t = (List.range t.length).map fun i => (nd t i).name := by
        unfold namesZ
        apply List.ext_getElem
        · simp
        · intro j j1 j2
          simp only [List.length_map] at j1
          simp [nd, List.getD, j1]
      rw [hn, List.filter_map]
      congr 1
      refine filter_congr_range fun i hi => ?_
      show (!inB (namesZ (keepZ (listL b t a) (stay b t a))) (nd t i).name) = goneL (listL b t a) i
      have hmem : inB (namesZ (keepZ (listL b t a) (stay b t a))) (nd t i).name = stay b t a i := by
        rw [Bool.eq_iff_iff, inB_iff]
        unfold namesZ
        rw [keepZ_eq hok.up hcl, hll, List.map_map, List.mem_map]
        constructor
        · rintro ⟨j, hj, he⟩
          obtain ⟨j1, j2⟩ := mks_lt _ hj
          have he : (nd (listL b t a) j).name = (nd t i).name := he
          rw [listL_name j1] at he
          split at he
          · rename_i hjt
            rw [← names_inj ht hjt hi he]; exact j2
          · have := (tree_up ht hi).1; omega
        · intro hs
          refine ⟨i, List.mem_filter.2 ⟨List.mem_range.2 (by omega), hs⟩, ?_⟩
          show (nd (listL b t a) i).name = _
          rw [listL_name (by omega), if_pos hi]
      rw [hmem]
      unfold stay
      simp
  · rw [if_neg hy]
    unfold stepF
    rw [if_neg hy]
end Go.Proofs.Ythhknonaebnooaa
set_option linter.unusedVariables false
set_option linter.unusedSimpArgs false
namespace Go.Proofs.Ythhknonaebnooaa
open Go.RowKit
attribute [local go_sem] cell_alloc_old

set_option maxHeartbeats 2000000 in
theorem rstart_any {D : Dom} (v : Value) (b : Bu) (w : World) (h : RdBu w D v b) :
    Calls Try.prog 18 #[v] w fun e w' => ∃ A c, e = .returned (.slice A (startT b).length c) ∧ Below w.heap.size w w' ∧ RdN w' Any A c (startT b) := by
  have HV := hid h.old
  obtain ⟨As, cs, An, cn, rfl, ho, hn⟩ := h
  have hnl := hn.len.1
  have hsl := ho.len.1
  have HO := hid ho.old
  clear ho hn
  have hbs := build_st
  obtain ⟨W, hW⟩ : ∃ W, W = w.alloc (.cells #[.int .i64 b.letters, .slice As b.start.length cs, .slice An b.next.length cn] 25) := ⟨_, rfl⟩
  have hbox : HasB W w.heap.size #[.int .i64 b.letters, .slice As b.start.length cs, .slice An b.next.length cn] b := by rw [hW]; exact HasB.new HV.out
  have hcall := rbvalid_any (.agg #[.int .i64 b.letters, .slice As b.start.length cs, .slice An b.next.length cn]) b W hbox.rd
  have hb1 : Below w.heap.size w W := by rw [hW]; go_grown
  have HBOX := hid hbox
  have HB1 := hid hb1
  have hsz : w.heap.size < W.heap.size := by rw [hW]; simp
  obtain ⟨bv, hbv⟩ : ∃ bv, buchiB b = bv := ⟨_, rfl⟩
  rw [hbv] at hcall
  rw [hW] at hcall
  have HCALL := hid hcall
  have HW := hid hW
  have HBV := hid hbv
  clear hW hbox hcall hb1 hbv
  cases bv
  · have hst : startT b = [] := by unfold startT; rw [HBV.out]; rfl
    rw [hst]
    clear hst
    go_enter Try.func18, Try.ntmps18
    go_wp2_with ((refine HCALL.out.mono ?_); rintro e w1 ⟨rfl, hb2⟩; rw [← HW.out] at hb2; have HB2 := hid hb2; clear hb2)
    go_ret
    exact ⟨none, 0, rfl, HB1.out.trans (HB2.out.mono (by omega)), RdN.nil _ _ _ (by omega)⟩
  · have hs3 := Nat.le_trans (start_len HBV.out) (buchi_len HBV.out)
    obtain ⟨ln, hln⟩ : ∃ ln, b.start.length = ln := ⟨_, rfl⟩
    by_cases h0 : ln = 0
    · have hst : startT b = [] := by unfold startT; rw [HBV.out, if_pos rfl, if_pos (by omega)]
      rw [hst]
      have hed : ((ln : Int) == 0) = true := by simp [h0]
      rw [hln] at HCALL HBOX HW
      rw [hln]
      clear hst h0 hln hs3 hsl
      go_enter Try.func18, Try.ntmps18
      go_wp2_with ((refine HCALL.out.mono ?_); rintro e w1 ⟨rfl, hb2⟩; rw [← HW.out] at hb2; have HB2 := hid hb2; have hm := (HBOX.out.below (hb2.mono (Nat.le_refl _))).cells; obtain ⟨x0, x1, x2, xl⟩ := hm; clear hb2)
      go_ret
      exact ⟨none, 0, rfl, HB1.out.trans (HB2.out.mono (by omega)), RdN.nil _ _ _ (by omega)⟩
    · have hst : startT b = [⟨1, -1, b.start⟩] := by unfold startT; rw [HBV.out, if_pos rfl, if_neg (by omega)]
      rw [hst]
      have hed : ((ln : Int) == 0) = false := beq_eq_false_iff_ne.2 (by omega)
      have HLN := hid hln
      rw [hln] at HCALL HBOX HW
      rw [hln]
      clear hst h0 hln hs3 hsl
      go_enter Try.func18, Try.ntmps18
      go_wp2_with ((refine HCALL.out.mono ?_); rintro e w1 ⟨rfl, hb2⟩; rw [← HW.out] at hb2; have HB2 := hid (HB1.out.trans (hb2.mono (Nat.le_of_lt hsz))); have hs1 := hb2.size; have hm := (HBOX.out.below (hb2.mono (Nat.le_refl _))).cells; obtain ⟨x0, x1, x2, xl⟩ := hm; clear hb2)
      refine bodyPost_gen fun W9 hW9 => ?_
      have hb9 : Below w1.heap.size w1 W9 := by rw [hW9]; go_grown
      have z0 : W9.cell? ⟨w1.heap.size, 0, none⟩ = some (.int .i64 1) := by rw [hW9]; exact cell_new w1 _ _ _ 0 _ rfl rfl
      have z1 : W9.cell? ⟨w1.heap.size, 1, none⟩ = some (.int .i64 (-1)) := by rw [hW9]; exact cell_new w1 _ _ _ 1 _ rfl rfl
      have z2 : W9.cell? ⟨w1.heap.size, 2, none⟩ = some (.slice As ln cs) := by rw [hW9]; exact cell_new w1 _ _ _ 2 _ rfl rfl
      have HB9 := hid hb9
      have HZ0 := hid z0
      have HZ1 := hid z1
      have HZ2 := hid z2
      have hsw := HB2.out.size
      clear hW9 hb9 z0 z1 z2
      go_ret
      refine ⟨_, _, rfl, HB2.out.trans (HB9.out.mono hsw), RdN.one (A := As) (c := cs) HZ0.out HZ1.out ?_ ?_ trivial⟩
      · show W9.cell? _ = some (.slice As b.start.length cs)
        rw [HLN.out]; exact HZ2.out
      · exact (HO.out.any (HB2.out.trans (HB9.out.mono hsw)))
end Go.Proofs.Ythhknonaebnooaa
set_option linter.unusedVariables false
set_option linter.unusedSimpArgs false
namespace Go.Proofs.Ythhknonaebnooaa
open Go.RowKit
attribute [local go_sem] cell_alloc_old

set_option maxRecDepth 100000 in
set_option maxHeartbeats 4000000 in
theorem matches_any {D E : Dom} (v : Value) (b : Bu) (A : Option Addr) (c : Nat) (t : List Nd) (a : Int) (w : World) (h : RdBu w D v b) (ht : RdN w E A c t) :
    Calls Try.prog 3 #[v, .slice A t.length c, .int .i64 a] w fun e w' => e = .returned (.bool true) ∧ Below w.heap.size w w' := by
  have HV := hid h.old
  have HT := hid ht.old
  have htl := ht.len.1
  obtain ⟨As, cs, An, cn, rfl, hs, hn⟩ := h
  clear hs hn ht
  go_enter Try.func3, Try.ntmps3
  go_upto_region 1 with (fail)
  refine wp_gen fun W hW => ?_
  have hB : HasB W w.heap.size #[.int .i64 b.letters, .slice As b.start.length cs, .slice An b.next.length cn] b := by rw [hW]; exact HasB.new HV.out
  have hb : Below w.heap.size w W := by rw [hW]; go_grown
  have HB := hid hB
  have HBW := hid hb
  have HT := hid (HT.out.keep (Keeps.of_below (hb.mono (Nat.le_refl _)) fun _ h => h))
  clear hB hb hW
  go_wp2_with fail
  refine (head_any W).mono ?_
  rintro e W1 ⟨rfl, hb⟩
  have HB := hid (HB.out.below hb)
  have HT := hid (HT.out.old.keep (Keeps.of_below hb fun _ h => h))
  have HBW := hid (HBW.out.trans (hb.mono HBW.out.size))
  clear hb
  obtain ⟨o0, o1, o2, ol⟩ := HB.out.cells
  go_wp2_with fail
  refine (few_any _ b W1 HB.out.rd).mono ?_
  rintro e W2 ⟨rfl, hb⟩
  have HB := hid (HB.out.below hb)
  have HT := hid (HT.out.old.keep (Keeps.of_below hb fun _ h => h))
  have HBW := hid (HBW.out.trans (hb.mono HBW.out.size))
  clear hb
  clear o0 o1 o2 ol
  obtain ⟨o0, o1, o2, ol⟩ := HB.out.cells
  by_cases hf : fewB b = true
  rotate_left
  · have hf : fewB b = false := by simpa using hf
    go_wp2_with fail
    exact bodyPost_ret (v := .bool true) (by simp [results, Try.results3, go_sem]) rfl ⟨rfl, HBW.out⟩
  have HF := hid hf
  go_wp2_with fail
  refine (smallt_any A c t W2 HT.out).mono ?_
  rintro e W3 ⟨rfl, rfl⟩
  by_cases hm : smallTB t = true
  rotate_left
  · have hm : smallTB t = false := by simpa using hm
    go_wp2_with fail
    exact bodyPost_ret (v := .bool true) (by simp [results, Try.results3, go_sem]) rfl ⟨rfl, HBW.out⟩
  have HSM := hid hm
  have HSZ := hid (small_sizes hm)
  go_wp2_with fail
  refine (pstepf_any _ b A c t a W3 HB.out.rd HT.out HF.out).mono ?_
  have hss := step_same b t a
  obtain ⟨S, hS⟩ : ∃ S, S = stepF b t a := ⟨_, rfl⟩
  rw [← hS] at hss ⊢
  have HSS := hid hss
  clear hS hss
  rintro e W5 ⟨A1, AG, AB, c1, cG, cB, rfl, hb, h1, h2, h3⟩
  have HB := hid (HB.out.below hb)
  have HT := hid (HT.out.any hb)
  have HBW := hid (HBW.out.trans (hb.mono HBW.out.size))
  have H1 := hid h1
  have H2 := hid h2
  have H3 := hid h3
  clear hb h1 h2 h3 o0 o1 o2 ol hf hm
  go_upto_region 5 with (fail)
  refine wp_gen fun W6 hW6 => ?_
  have hb6 : Below W5.heap.size W5 W6 := by rw [hW6]; go_grown
  obtain ⟨ea, hea⟩ : ∃ ea, ea = W5.heap.size := ⟨_, rfl⟩
  have hev : W6.heap[ea]? = some (.cells #[.slice AG S.good.length cG, .slice AB S.bad.length cB] 31 (0, 0)) := by rw [hW6, hea]; exact heap_alloc_new W5 _
  have HEV := hid hev
  have HB := hid (HB.out.below hb6)
  have HT := hid (HT.out.any hb6)
  have H1 := hid (H1.out.any hb6)
  have H2 := hid (H2.out.any hb6)
  have H3 := hid (H3.out.any hb6)
  have HBW := hid (HBW.out.trans (hb6.mono HBW.out.size))
  rw [← hea]
  clear hW6 hb6 hea hev
  obtain ⟨o0, o1, o2, ol⟩ := HB.out.cells
  go_wp2_with fail
  refine (rstep_any _ b A c t a W6 HB.out.rd HT.out HF.out HSM.out).mono ?_
  rw [HSS.out]
  rintro e W7 ⟨A2, BG, BB, d1, dG, dB, rfl, hb, h1, h2, h3⟩
  have HEV := hid ((hb.block _ (lt_of_block HEV.out)).trans HEV.out)
  have HB := hid (HB.out.below hb)
  have HT := hid (HT.out.any hb)
  have H1 := hid (H1.out.any hb)
  have H2 := hid (H2.out.any hb)
  have H3 := hid (H3.out.any hb)
  have HBW := hid (HBW.out.trans (hb.mono HBW.out.size))
  have G1 := hid h1
  have G2 := hid h2
  have G3 := hid h3
  clear hb h1 h2 h3 o0 o1 o2 ol
  go_upto_region 6 with (fail)
  refine wp_gen fun W8 hW8 => ?_
  have hb8 : Below W7.heap.size W7 W8 := by rw [hW8]; go_grown
  obtain ⟨eb, heb⟩ : ∃ eb, eb = W7.heap.size := ⟨_, rfl⟩
  have hev2 : W8.heap[eb]? = some (.cells #[.slice BG S.good.length dG, .slice BB S.bad.length dB] 31 (0, 0)) := by rw [hW8, heb]; exact heap_alloc_new W7 _
  have HEV2 := hid hev2
  have HEV := hid ((hb8.block _ (lt_of_block HEV.out)).trans HEV.out)
  have HB := hid (HB.out.below hb8)
  have HT := hid (HT.out.any hb8)
  have H1 := hid (H1.out.any hb8)
  have H2 := hid (H2.out.any hb8)
  have H3 := hid (H3.out.any hb8)
  have G1 := hid (G1.out.any hb8)
  have G2 := hid (G2.out.any hb8)
  have G3 := hid (G3.out.any hb8)
  have HBW := hid (HBW.out.trans (hb8.mono HBW.out.size))
  rw [← heb]
  clear hW8 hb8 heb hev2
  have HCELL : Hid (∀ W' : World, Below W8.heap.size W8 W' → W'.cell? ⟨w.heap.size, 0, none⟩ = some (.int .i64 b.letters) ∧ W'.cell? ⟨w.heap.size, 1, none⟩ = some (.slice As b.start.length cs) ∧ W'.cell? ⟨w.heap.size, 2, none⟩ = some (.slice An b.next.length cn) ∧ W'.cell? ⟨ea, 0, none⟩ = some (.slice AG S.good.length cG) ∧ W'.cell? ⟨ea, 1, none⟩ = some (.slice AB S.bad.length cB) ∧ W'.cell? ⟨eb, 0, none⟩ = some (.slice BG S.good.length dG) ∧ W'.cell? ⟨eb, 1, none⟩ = some (.slice BB S.bad.length dB)) := hid fun W' hb => by
    obtain ⟨o0, o1, o2, _⟩ := (HB.out.below hb).cells
    have x1 := (hb.block _ (lt_of_block HEV.out)).trans HEV.out
    have x2 := (hb.block _ (lt_of_block HEV2.out)).trans HEV2.out
    exact ⟨o0, o1, o2, block_cell x1 (i := 0) rfl, block_cell x1 (i := 1) rfl, block_cell x2 (i := 0) rfl, block_cell x2 (i := 1) rfl⟩
  have HI1 := hid (show Below W8.heap.size W8 W8.drew from (Below.refl _ _).drew)
  have HI2 := hid (show ∀ i, Below W8.heap.size W8 (W8.drewN i) from fun i => (Drawn.n W8 i).below _)
  obtain ⟨nn, hnn⟩ : ∃ nn, nn = namesN b := ⟨_, rfl⟩
  obtain ⟨T0, hT0⟩ : ∃ T0, T0 = startT b := ⟨_, rfl⟩
  obtain ⟨tv, htv⟩ : ∃ tv, tv = treeB b t := ⟨_, rfl⟩
  have C1 : Hid (∀ W', Below W8.heap.size W8 W' → Calls Try.prog 14 #[.agg #[.int .i64 b.letters, .slice As b.start.length cs, .slice An b.next.length cn]] W' fun e w' => e = .returned (.int .i64 nn) ∧ Below W8.heap.size W8 w') := hid fun W' hb => by
    refine (tnames_any _ b W' (HB.out.below hb).rd).mono ?_
    rintro e w' ⟨rfl, hb'⟩
    exact ⟨by rw [hnn], hb.trans (hb'.mono hb.size)⟩
  have C2 : Hid (∀ W', Below W8.heap.size W8 W' → Calls Try.prog 15 #[.agg #[.int .i64 b.letters, .slice As b.start.length cs, .slice An b.next.length cn]] W' fun e w' => e = .returned (.int .i64 nn) ∧ Below W8.heap.size W8 w') := hid fun W' hb => by
    refine (rnames_any _ b W' (HB.out.below hb).rd).mono ?_
    rintro e w' ⟨rfl, hb'⟩
    exact ⟨by rw [hnn], hb.trans (hb'.mono hb.size)⟩
  have C3 : Hid (∀ W', Below W8.heap.size W8 W' → Calls Try.prog 17 #[.agg #[.int .i64 b.letters, .slice As b.start.length cs, .slice An b.next.length cn]] W' fun e w' => ∃ A4 c4, e = .returned (.slice A4 T0.length c4) ∧ Below W8.heap.size W8 w' ∧ RdN w' Any A4 c4 T0) := hid fun W' hb => by
    refine (start_any _ b W' (HB.out.below hb).rd).mono ?_
    rintro e w' ⟨A4, c4, rfl, hb', hr⟩
    exact ⟨A4, c4, by rw [hT0], hb.trans (hb'.mono hb.size), by rw [hT0]; exact hr.mono fun _ _ _ => trivial⟩
  have C4 : Hid (∀ W' A4 c4, Below W8.heap.size W8 W' → RdN W' Any A4 c4 T0 → Calls Try.prog 18 #[.agg #[.int .i64 b.letters, .slice As b.start.length cs, .slice An b.next.length cn]] W' fun e w' => ∃ A5 c5, e = .returned (.slice A5 T0.length c5) ∧ Below W8.heap.size W8 w' ∧ RdN w' Any A4 c4 T0 ∧ RdN w' Any A5 c5 T0) := hid fun W' A4 c4 hb hr => by
    refine (rstart_any _ b W' (HB.out.below hb).rd).mono ?_
    rintro e w' ⟨A5, c5, rfl, hb', hr'⟩
    exact ⟨A5, c5, by rw [hT0], hb.trans (hb'.mono hb.size), hr.any hb', by rw [hT0]; exact hr'⟩
  have C5 : Hid (∀ W' A4 c4 A5 c5, Below W8.heap.size W8 W' → RdN W' Any A4 c4 T0 → RdN W' Any A5 c5 T0 → Calls Try.prog 16 #[.slice A4 T0.length c4, .slice A5 T0.length c5] W' fun e w' => e = .returned (.bool true) ∧ Below W8.heap.size W8 w') := hid fun W' A4 c4 A5 c5 hb h4 h5 => by
    refine (samet_any A4 A5 c4 c5 T0 T0 W' h4 h5).mono ?_
    rintro e w' ⟨rfl, hd⟩
    exact ⟨by rw [decide_eq_true rfl], hb.trans (hd.below _)⟩
  have C6 : Hid (∀ W', Below W8.heap.size W8 W' → Calls Try.prog 19 #[.agg #[.int .i64 b.letters, .slice As b.start.length cs, .slice An b.next.length cn], .slice A t.length c] W' fun e w' => e = .returned (.bool tv) ∧ Below W8.heap.size W8 w') := hid fun W' hb => by
    refine (tvalid_any _ b A c t W' (HB.out.below hb).rd (HT.out.any hb)).mono ?_
    rintro e w' ⟨rfl, hb'⟩
    exact ⟨by rw [htv], hb.trans (hb'.mono hb.size)⟩
  have C7 : Hid (∀ W', Below W8.heap.size W8 W' → Calls Try.prog 20 #[.agg #[.int .i64 b.letters, .slice As b.start.length cs, .slice An b.next.length cn], .slice A t.length c] W' fun e w' => e = .returned (.bool tv) ∧ Below W8.heap.size W8 w') := hid fun W' hb => by
    refine (rtvalid_any _ b A c t W' (HB.out.below hb).rd (HT.out.any hb) (by have := HSZ.out.1; omega) (fun k hk => by have := HSZ.out.2 k hk; omega)).mono ?_
    rintro e w' ⟨rfl, hb'⟩
    exact ⟨by rw [htv], hb.trans (hb'.mono hb.size)⟩
  have C8 : Hid (∀ W', Below W8.heap.size W8 W' → Calls Try.prog 16 #[.slice A1 S.tree.length c1, .slice A2 S.tree.length d1] W' fun e w' => e = .returned (.bool true) ∧ Below W8.heap.size W8 w') := hid fun W' hb => by
    refine (samet_any A1 A2 c1 d1 S.tree S.tree W' (H1.out.any hb) (G1.out.any hb)).mono ?_
    rintro e w' ⟨rfl, hd⟩
    exact ⟨by rw [decide_eq_true rfl], hb.trans (hd.below _)⟩
  have C9 : Hid (∀ W', Below W8.heap.size W8 W' → Calls Try.prog 21 #[.agg #[.slice AG S.good.length cG, .slice AB S.bad.length cB], .agg #[.slice BG S.good.length dG, .slice BB S.bad.length dB]] W' fun e w' => e = .returned (.bool true) ∧ Below W8.heap.size W8 w') := hid fun W' hb => by
    refine (sameev_any AG AB BG BB cG cB dG dB S.good S.bad S.good S.bad W' (H2.out.any hb) (H3.out.any hb) (G2.out.any hb) (G3.out.any hb)).mono ?_
    rintro e w' ⟨rfl, hb'⟩
    exact ⟨by rw [decide_eq_true rfl, decide_eq_true rfl]; rfl, hb.trans (hb'.mono hb.size)⟩
  obtain ⟨o0, o1, o2, x0, x1, y0, y1⟩ := HCELL.out W8 (Below.refl _ _)
  clear hnn hT0 htv
  go_region_held3 (fun W' : World => W'.cell? ⟨w.heap.size, 0, none⟩ = some (.int .i64 b.letters) ∧ W'.cell? ⟨w.heap.size, 1, none⟩ = some (.slice As b.start.length cs) ∧ W'.cell? ⟨w.heap.size, 2, none⟩ = some (.slice An b.next.length cn) ∧ W'.cell? ⟨ea, 0, none⟩ = some (.slice AG S.good.length cG) ∧ W'.cell? ⟨ea, 1, none⟩ = some (.slice AB S.bad.length cB) ∧ W'.cell? ⟨eb, 0, none⟩ = some (.slice BG S.good.length dG) ∧ W'.cell? ⟨eb, 1, none⟩ = some (.slice BB S.bad.length dB))
    (first | (with_reducible exact HCELL.out _ hI) | (go_keep; done))
    (first
      | (go_at_call 14; refine (C1.out _ (by first | exact hI | exact hI.trans ((Drawn.n _ _).below _) | exact HI1.out | exact HI2.out _)).mono ?_; rintro e WX ⟨rfl, hI⟩)
      | (go_at_call 15; refine (C2.out _ (by first | exact hI | exact hI.trans ((Drawn.n _ _).below _) | exact HI1.out | exact HI2.out _)).mono ?_; rintro e WX ⟨rfl, hI⟩)
      | (go_at_call 17; refine (C3.out _ (by first | exact hI | exact hI.trans ((Drawn.n _ _).below _) | exact HI1.out | exact HI2.out _)).mono ?_; rintro e WX ⟨A4, c4, rfl, hI, hr4⟩)
      | (go_at_call 18; refine (C4.out _ A4 c4 (by first | exact hI | exact hI.trans ((Drawn.n _ _).below _) | exact HI1.out | exact HI2.out _) (by first | exact hr4 | exact hr4.keep (Drawn.n _ _).keeps)).mono ?_; rintro e WX ⟨A5, c5, rfl, hI, hr4, hr5⟩)
      | (go_at_call 16; with_reducible refine (C5.out _ A4 c4 A5 c5 (by first | exact hI | exact hI.trans ((Drawn.n _ _).below _) | exact HI1.out | exact HI2.out _) (by first | exact hr4 | exact hr4.keep (Drawn.n _ _).keeps) (by first | exact hr5 | exact hr5.keep (Drawn.n _ _).keeps)).mono ?_; rintro e WX ⟨rfl, hI⟩)
      | (go_at_call 19; refine (C6.out _ (by first | exact hI | exact hI.trans ((Drawn.n _ _).below _) | exact HI1.out | exact HI2.out _)).mono ?_; rintro e WX ⟨rfl, hI⟩)
      | (go_at_call 20; refine (C7.out _ (by first | exact hI | exact hI.trans ((Drawn.n _ _).below _) | exact HI1.out | exact HI2.out _)).mono ?_; rintro e WX ⟨rfl, hI⟩)
      | (go_at_call 16; with_reducible refine (C8.out _ (by first | exact hI | exact hI.trans ((Drawn.n _ _).below _) | exact HI1.out | exact HI2.out _)).mono ?_; rintro e WX ⟨rfl, hI⟩)
      | (go_at_call 21; refine (C9.out _ (by first | exact hI | exact hI.trans ((Drawn.n _ _).below _) | exact HI1.out | exact HI2.out _)).mono ?_; rintro e WX ⟨rfl, hI⟩))
  all_goals
    have HBF := hid (HBW.out.trans (hI.mono HBW.out.size))
    clear o0 o1 o2 x0 x1 y0 y1 hI
    go_wp2_with fail
    exact bodyPost_ret (v := .bool true) (by simp [results, Try.results3, go_sem]) rfl ⟨rfl, HBF.out⟩
end Go.Proofs.Ythhknonaebnooaa
set_option linter.unusedVariables false
set_option linter.unusedSimpArgs false
namespace Go.Proofs.Ythhknonaebnooaa

/-- The first k numbers of more are added to good, unless they are there. -/
def addTo (good more : List Int) : Nat → List Int
  | 0 => good
  | k + 1 => if inB (addTo good more k) (more.getD k 0) then addTo good more k else addTo good more k ++ [more.getD k 0]
def addZ (good more : List Int) : List Int := addTo good more more.length
theorem addTo_mem (good more : List Int) (x : Int) : ∀ k, k ≤ more.length → (x ∈ addTo good more k ↔ x ∈ good ∨ x ∈ more.take k)
  | 0, _ => by simp [addTo]
  | k + 1, hk => by
    have ih := addTo_mem good more x k (by omega)
    rw [take_succ_getD more 0 (by omega), List.mem_append, List.mem_singleton]
    unfold addTo
    split
    · rename_i hin
      have hin := inB_iff.1 hin
      rw [ih]
      constructor
      · rintro (h | h)
        · exact .inl h
        · exact .inr (.inl h)
      · rintro (h | h | h)
        · exact .inl h
        · exact .inr h
        · rw [h]
          exact (addTo_mem good more _ k (by omega)).1 hin
    · rw [List.mem_append, List.mem_singleton, ih]
      exact or_assoc
theorem addZ_mem {good more : List Int} {x : Int} : x ∈ addZ good more ↔ x ∈ good ∨ x ∈ more := by
  unfold addZ
  rw [addTo_mem good more x _ (Nat.le_refl _), List.take_length]
theorem addTo_len (good more : List Int) : ∀ k, (addTo good more k).length ≤ good.length + k
  | 0 => Nat.le_refl _
  | k + 1 => by
    have := addTo_len good more k
    unfold addTo
    split
    · omega
    · rw [List.length_append, List.length_singleton]; omega
def movStep (b : Bu) (st : List Int × List Int) (a : Int) : List Int × List Int := (reachZ b st.1 a false, addZ (reachZ b st.2 a false) (reachZ b st.1 a true))
def movedZ (b : Bu) (set : List Int) (ls : List Int) : List Int × List Int := ls.foldl (movStep b) (set, [])
theorem movedZ_snoc (b : Bu) (set ls : List Int) (a : Int) : movedZ b set (ls ++ [a]) = movStep b (movedZ b set ls) a := by unfold movedZ; rw [List.foldl_append]; rfl
theorem reach_mem {b : Bu} {S : List Int} {a : Int} {w : Bool} {x : Int} : x ∈ reachZ b S a w ↔ 0 ≤ x ∧ x < (b.next.length : Int) ∧ ∃ q ∈ S, ((mvs b q a).any fun m => decide (m.dst = x) && (m.good || !w)) = true := by
  unfold reachZ hitB
  rw [List.mem_filter, List.mem_map, List.any_eq_true]
  constructor
  · rintro ⟨⟨i, hi, rfl⟩, q, hq, h⟩
    have := List.mem_range.1 hi
    exact ⟨by omega, by omega, q, hq, h⟩
  · rintro ⟨h0, h1, q, hq, h⟩
    exact ⟨⟨x.toNat, List.mem_range.2 (by omega), by omega⟩, q, hq, h⟩
theorem reach_mono {b : Bu} {S S' : List Int} {a : Int} {w : Bool} (h : ∀ x ∈ S, x ∈ S') : ∀ x ∈ reachZ b S a w, x ∈ reachZ b S' a w := fun x hx => by
  obtain ⟨h0, h1, q, hq, h2⟩ := reach_mem.1 hx
  exact reach_mem.2 ⟨h0, h1, q, h q hq, h2⟩
/-- A child in the list of a step: an old child's states go on, or the states come by a good move. -/
theorem child_states {b : Bu} {t : List Nd} {a : Int} (h : treeB b t = true) {p : Nat} (hp : p < t.length) {x : Int} (hx : x ∈ unionZ (listL b t a) (p : Int)) : x ∈ reachZ b (unionZ t (p : Int)) a false ∨ x ∈ reachZ b (nd t p).set a true := by
  obtain ⟨c, hc, hpar, hxc⟩ := mem_union.1 hx
  rw [listL_len] at hc
  have hsub := (trimTo_sub (grownZ b t a) (2 * t.length) (by rw [grown_len]; omega) c).1.subset hxc
  rw [(listL_same b t a c).1, grown_par hc] at hpar
  rw [grownP_get b t a hc] at hsub
  unfold grownP at hsub
  by_cases e : c < t.length
  · rw [if_pos e] at hpar hsub
    refine .inl (reach_mono (fun y hy => ?_) x hsub)
    exact mem_union.2 ⟨c, e, hpar, hy⟩
  · rw [if_neg e] at hpar hsub
    have : c - t.length = p := by omega
    rw [this] at hsub
    exact .inr hsub
theorem node_states {b : Bu} {t : List Nd} {a : Int} {p : Nat} (hp : p < t.length) {x : Int} (hx : x ∈ (nd (listL b t a) p).set) : x ∈ reachZ b (nd t p).set a false := by
  have hsub := (trimTo_sub (grownZ b t a) (2 * t.length) (by rw [grown_len]; omega) p).1.subset hx
  rw [grownP_get b t a (show p < 2 * t.length by omega)] at hsub
  unfold grownP at hsub
  rw [if_pos hp] at hsub
  exact hsub
/-- The place in the new tree of an old node that stays. -/
theorem newT_place {b : Bu} {t : List Nd} {a : Int} {p : Nat} (hp : p < t.length) (hs : stay b t a p = true) : cnt b t a p < (stays b t a).length ∧ (stays b t a).getD (cnt b t a p) 0 = p := mks_at (m := stay b t a) (show p < 2 * t.length by omega) hs
theorem new_children {b : Bu} {t : List Nd} {a : Int} (h : treeB b t = true) {p : Nat} (hp : p < t.length) (hs : stay b t a p = true) {x : Int} (hx : x ∈ unionZ (newT b t a) (cnt b t a p : Int)) : goodL (listL b t a) p = false ∧ x ∈ unionZ (listL b t a) (p : Int) := by
  obtain ⟨c, hc, hpar, hxc⟩ := mem_union.1 hx
  rw [newT_len] at hc
  obtain ⟨q1, q2⟩ := newT_place hp hs
  have hc0 : 0 < c := by
    rcases Nat.eq_zero_or_pos c with e | e
    · subst e
      have := (newT_par h hc).1 rfl
      omega
    · exact e
  obtain ⟨r, r1, r2, r3, r4⟩ := (newT_par h hc).2 hc0
  have hr : r = cnt b t a p := by omega
  subst hr
  rw [q2] at r3 r4
  refine ⟨r4, mem_union.2 ⟨(stays b t a).getD c 0, by rw [listL_len]; exact (stays_at hc).1, r3, ?_⟩⟩
  rw [← newT_set hc]; exact hxc
theorem full_mem {T : List Nd} (h : LamL T) {i : Nat} (hi : i < T.length) (hl : (unionZ T (i : Int)).length = (nd T i).set.length) {x : Int} (hx : x ∈ (nd T i).set) : x ∈ unionZ T (i : Int) := by
  apply Classical.byContradiction
  intro hn
  have : (unionZ T (i : Int)).length < (nd T i).set.length := (union_own h hi).2 ⟨x, hx, fun c c0 hc hp hxc => hn (mem_union.2 ⟨c, hc, hp, hxc⟩)⟩
  omega
/-- One step of a node that stays. -/
theorem run_step {b : Bu} {t : List Nd} {a : Int} (h : treeB b t = true) {p : Nat} (hp : p < t.length) (hs : stay b t a p = true) {st : List Int × List Int} (h1 : ∀ x ∈ (nd t p).set, x ∈ st.1) (h2 : ∀ x ∈ unionZ t (p : Int), x ∈ st.2) :
    (∀ x ∈ (nd (newT b t a) (cnt b t a p)).set, x ∈ (movStep b st a).1) ∧ (∀ x ∈ unionZ (newT b t a) (cnt b t a p : Int), x ∈ (movStep b st a).2) ∧
    (goodL (listL b t a) p = true → (∀ x ∈ (nd (newT b t a) (cnt b t a p)).set, x ∈ (movStep b st a).2) ∧ unionZ (newT b t a) (cnt b t a p : Int) = []) := by
  obtain ⟨q1, q2⟩ := newT_place hp hs
  have hset : (nd (newT b t a) (cnt b t a p)).set = (nd (listL b t a) p).set := by rw [newT_set q1, q2]
  have hch : ∀ x ∈ unionZ (listL b t a) (p : Int), x ∈ (movStep b st a).2 := fun x hx => by
    refine addZ_mem.2 ?_
    rcases child_states h hp hx with e | e
    · exact .inl (reach_mono h2 x e)
    · exact .inr (reach_mono h1 x e)
  refine ⟨fun x hx => ?_, fun x hx => hch x (new_children h hp hs hx).2, fun hg => ⟨fun x hx => ?_, ?_⟩⟩
  · rw [hset] at hx
    exact reach_mono h1 x (node_states hp hx)
  · rw [hset] at hx
    refine hch x (full_mem (listL_lamL h) (by rw [listL_len]; omega) ?_ hx)
    have h3 := (flg_eq (listL_Up (a := a) h) (i := p) (by rw [listL_len]; omega)).2
    rw [hg] at h3
    have h3 := h3.symm
    simp only [Bool.and_eq_true, decide_eq_true_eq] at h3
    exact h3.2
  · rw [List.eq_nil_iff_forall_not_mem]
    intro x hx
    have := (new_children h hp hs hx).1
    rw [hg] at this; cases this
end Go.Proofs.Ythhknonaebnooaa
set_option linter.unusedVariables false
set_option linter.unusedSimpArgs false
namespace Go.Proofs.Ythhknonaebnooaa

/-- The letters from time s on, before time i. -/
def seg (l : List Int) (s i : Nat) : List Int := (l.take i).drop s
theorem seg_snoc (l : List Int) {s i : Nat} (hs : s ≤ i) (hi : i < l.length) : seg l s (i + 1) = seg l s i ++ [l.getD i 0] := by
  unfold seg
  rw [take_succ_getD l 0 hi, List.drop_append_of_le_length (by simp; omega)]
theorem seg_self (l : List Int) (i : Nat) : seg l i i = [] := by unfold seg; exact List.drop_eq_nil_of_le (by simp; omega)
/-- The states of the node with a name. -/
def nset (X : List Nd) (v : Int) : List Int := (nd X (placeZ X v).toNat).set
/-- What is remembered of a name at time i. -/
structure RunV (b : Bu) (l : List Int) (i : Nat) (T : List Nd) (A : List Int) (s : Nat) (v : Int) : Prop where
  le : s ≤ i
  rng : ∀ x ∈ A, 0 ≤ x ∧ x < (b.next.length : Int)
  node : ∃ p, p < T.length ∧ (nd T p).name = v ∧ (∀ x ∈ (nd T p).set, x ∈ (movedZ b A (seg l s i)).1) ∧ ∀ x ∈ unionZ T (p : Int), x ∈ (movedZ b A (seg l s i)).2
def RunOk (b : Bu) (l : List Int) (i : Nat) (T : List Nd) (thn : Int → List Int) (snc : Int → Nat) : Prop := ∀ v, thn v ≠ [] → RunV b l i T (thn v) (snc v) v
def thB (B : List Int) (thn : Int → List Int) (v : Int) : List Int := if inB B v then [] else thn v
def thG (X : List Nd) (G : List Int) (k : Nat) (thn : Int → List Int) (v : Int) : List Int := if inB (G.take k) v then nset X v else thn v
def snG (G : List Int) (i k : Nat) (snc : Int → Nat) (v : Int) : Nat := if inB (G.take k) v then i + 1 else snc v
/-- Good and bad names belong to nodes. -/
structure Nds (b : Bu) (t : List Nd) (a : Int) (X : List Nd) (G B : List Int) : Prop where
  good : ∀ g ∈ G, ∃ p, p < t.length ∧ stay b t a p = true ∧ (nd t p).name = g ∧ goodL (listL b t a) p = true
  bad : ∀ g ∈ B, ∃ p, p < t.length ∧ stay b t a p = false ∧ (nd t p).name = g
  tree : X = newT b t a
theorem step_nds {b : Bu} {t : List Nd} {a : Int} (h : treeB b t = true) (a0 : 0 ≤ a) (a1 : a < b.letters) : Nds b t a (stepF b t a).tree (stepF b t a).good (stepF b t a).bad := by
  refine ⟨fun g hg => ?_, fun g hg => ?_, step_tree h a0 a1⟩
  · unfold stepF at hg
    rw [if_pos ⟨h, a0, a1⟩] at hg
    have hg := sortM_mem.1 hg
    obtain ⟨p, hp, e⟩ := List.mem_map.1 hg
    obtain ⟨h1, h2⟩ := List.mem_filter.1 hp
    have h3 := good_old h (List.mem_range.1 h1) h2
    refine ⟨p, h3.1, h3.2, ?_, h2⟩
    rw [← e]
    have h4 := (nmL_same (namesZ t) (listL b t a) (skS b t a) (2 * t.length) p).2.2 (.inr (by unfold skS skipL; rw [decide_eq_true h3.1, Bool.true_or]))
    show _ = (nd (nmL (namesZ t) (listL b t a) (skS b t a) (2 * t.length)).1 _).name
    rw [h4, (listL_same b t a _).2, grownP_get b t a (List.mem_range.1 h1)]
    unfold grownP
    rw [if_pos h3.1]
  · unfold stepF at hg
    rw [if_pos ⟨h, a0, a1⟩] at hg
    have hg := sortM_mem.1 hg
    obtain ⟨p, hp, e⟩ := List.mem_map.1 hg
    obtain ⟨h1, h2⟩ := List.mem_filter.1 hp
    exact ⟨p, List.mem_range.1 h1, by unfold stay; rw [h2]; rfl, e⟩
theorem node_name {b : Bu} {t : List Nd} {a : Int} {p : Nat} (hp : p < t.length) (hs : stay b t a p = true) : (nd (newT b t a) (cnt b t a p)).name = (nd t p).name := by
  obtain ⟨q1, q2⟩ := newT_place hp hs
  have := (newT_name (a := a) q1).1 (by rw [q2]; exact hp)
  rw [q2] at this; exact this
/-- The check of a good name. -/
theorem run_good {b : Bu} {l : List Int} {i : Nat} {t : List Nd} {thn : Int → List Int} {snc : Int → Nat} (h : treeB b t = true) (hi : i < l.length) (a0 : 0 ≤ l.getD i 0) (a1 : l.getD i 0 < b.letters) (hr : RunOk b l i t thn snc) {g : Int} (hg : g ∈ (stepF b t (l.getD i 0)).good) (hne : thn g ≠ []) :
    ∀ x ∈ nset (stepF b t (l.getD i 0)).tree g, x ∈ (movedZ b (thn g) (seg l (snc g) (i + 1))).2 := by
  have hn := step_nds h a0 a1
  obtain ⟨p, hp, hs, hpn, hgd⟩ := hn.good g hg
  obtain ⟨h1, h2, p', hp', hpn', h3, h4⟩ := hr g hne
  obtain ⟨hb, hl, ht⟩ := treeB_all h
  obtain rfl : p' = p := names_inj ht hp' hp (hpn'.trans hpn.symm)
  have hpl := (names_ok h a0 a1).old p' hp
  rw [if_pos hs, hpn] at hpl
  unfold nset
  rw [hpl, Int.toNat_natCast, seg_snoc l h1 hi, movedZ_snoc, hn.tree]
  exact ((run_step h hp hs h3 h4).2.2 hgd).1
theorem tree_rng {b : Bu} {t : List Nd} (h : treeB b t = true) {p : Nat} (hp : p < t.length) : ∀ x ∈ (nd t p).set, 0 ≤ x ∧ x < (b.next.length : Int) := fun x hx => by
  obtain ⟨hb, hl, ht⟩ := treeB_all h
  obtain ⟨k, hk, rfl⟩ := List.getElem_of_mem hx
  have := tree_small ht hp k hk
  simpa [List.getD, hk] using this
/-- What is remembered after the step. -/
theorem run_next {b : Bu} {l : List Int} {i : Nat} {t : List Nd} {thn : Int → List Int} {snc : Int → Nat} (h : treeB b t = true) (hi : i < l.length) (a0 : 0 ≤ l.getD i 0) (a1 : l.getD i 0 < b.letters) (hr : RunOk b l i t thn snc) :
    RunOk b l (i + 1) (stepF b t (l.getD i 0)).tree (thG (stepF b t (l.getD i 0)).tree (stepF b t (l.getD i 0)).good (stepF b t (l.getD i 0)).good.length (thB (stepF b t (l.getD i 0)).bad thn)) (snG (stepF b t (l.getD i 0)).good i (stepF b t (l.getD i 0)).good.length snc) := by
  intro v hv
  have hn := step_nds h a0 a1
  have hno := names_ok h a0 a1
  obtain ⟨hb, hl, ht⟩ := treeB_all h
  unfold thG snG at *
  rw [List.take_length] at *
  by_cases hg : inB (stepF b t (l.getD i 0)).good v = true
  · rw [if_pos hg] at hv ⊢
    rw [if_pos hg]
    obtain ⟨p, hp, hs, hpn, hgd⟩ := hn.good v (inB_iff.1 hg)
    have hpl := hno.old p hp
    rw [if_pos hs, hpn] at hpl
    obtain ⟨q1, q2⟩ := newT_place hp hs
    have hXt : treeB b (stepF b t (l.getD i 0)).tree = true := by rw [hn.tree]; exact newT_tree h
    have hq : cnt b t (l.getD i 0) p < (stepF b t (l.getD i 0)).tree.length := by rw [hn.tree, newT_len]; exact q1
    have hns : nset (stepF b t (l.getD i 0)).tree v = (nd (stepF b t (l.getD i 0)).tree (cnt b t (l.getD i 0) p)).set := by unfold nset; rw [hpl, Int.toNat_natCast]
    rw [hns]
    refine ⟨Nat.le_refl _, tree_rng hXt hq, cnt b t (l.getD i 0) p, hq, ?_, fun x hx => ?_, fun x hx => ?_⟩
    · rw [hn.tree, node_name hp hs, hpn]
    · rw [seg_self]; exact hx
    · rw [hn.tree] at hx
      have := (run_step (a := l.getD i 0) h hp hs (st := ((nd t p).set, unionZ t (p : Int))) (fun _ h => h) (fun _ h => h)).2.2 hgd
      rw [this.2] at hx; cases hx
  · rw [if_neg hg] at hv ⊢
    rw [if_neg hg]
    unfold thB at hv ⊢
    by_cases hbd : inB (stepF b t (l.getD i 0)).bad v = true
    · rw [if_pos hbd] at hv; exact absurd rfl hv
    · rw [if_neg hbd] at hv ⊢
      obtain ⟨h1, h2, p, hp, hpn, h3, h4⟩ := hr v hv
      have hs : stay b t (l.getD i 0) p = true := by
        have := hno.bad p hp
        rw [hpn] at this
        cases e : stay b t (l.getD i 0) p
        · rw [e] at this; exact absurd this hbd
        · rfl
      obtain ⟨q1, q2⟩ := newT_place hp hs
      have h5 := run_step (a := l.getD i 0) h hp hs h3 h4
      refine ⟨by omega, h2, cnt b t (l.getD i 0) p, by rw [hn.tree, newT_len]; exact q1, by rw [hn.tree, node_name hp hs, hpn], ?_, ?_⟩
      · rw [seg_snoc l h1 hi, movedZ_snoc, hn.tree]; exact h5.1
      · rw [seg_snoc l h1 hi, movedZ_snoc, hn.tree]; exact h5.2.1
end Go.Proofs.Ythhknonaebnooaa
