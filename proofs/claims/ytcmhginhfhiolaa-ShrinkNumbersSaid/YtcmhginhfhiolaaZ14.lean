/-
  Walk of the reference's Least.
  Classes as trees (root functions), and the uniting of all that has to be united, by a list of pairs that are still to be done; plain.
  Same by uniting: the list of pairs that are still to be united; plain.
  Maps that the call itself keeps: an entry set again; the walk over all entries, in any order.
  Divisions into classes in memory: chains of maps; the walk of above, find, unite, newClasses, copy and accept for numbers.
-/
import Derived.Test.YtcmhginhfhiolaaZ13
import Derived.Test.YtcmhginhfhiolaaZ09
import Derived.Test.YtcmhginhfhiolaaZ07
import Derived.Maps.RangeRun
import Derived.Test.YtcmhginhfhiolaaZ00
import Derived.Laws.EntriesVeiled
import Derived.Test.YtcmhginhfhiolaaZ01
set_option linter.unusedVariables false
set_option linter.unusedSimpArgs false
namespace Go.Proofs.Ytcmhginhfhiolaa
open Go.RowKit Go.Shelf
attribute [local go_sem] cell_alloc_old

theorem cells5b {w w' : World} {b1 : Nat} {x0 x1 x2 x3 x4 : Value} {B : Nat} (h : w.cell? ⟨b1, 0, none⟩ = some x0 ∧ w.cell? ⟨b1, 1, none⟩ = some x1 ∧ w.cell? ⟨b1, 2, none⟩ = some x2 ∧ w.cell? ⟨b1, 3, none⟩ = some x3 ∧ w.cell? ⟨b1, 4, none⟩ = some x4)
    (hb : Below B w w') (h1 : b1 < B) : w'.cell? ⟨b1, 0, none⟩ = some x0 ∧ w'.cell? ⟨b1, 1, none⟩ = some x1 ∧ w'.cell? ⟨b1, 2, none⟩ = some x2 ∧ w'.cell? ⟨b1, 3, none⟩ = some x3 ∧ w'.cell? ⟨b1, 4, none⟩ = some x4 :=
  ⟨(hb.cell (p := ⟨b1, 0, none⟩) h1).trans h.1, (hb.cell (p := ⟨b1, 1, none⟩) h1).trans h.2.1, (hb.cell (p := ⟨b1, 2, none⟩) h1).trans h.2.2.1, (hb.cell (p := ⟨b1, 3, none⟩) h1).trans h.2.2.2.1, (hb.cell (p := ⟨b1, 4, none⟩) h1).trans h.2.2.2.2⟩

set_option maxRecDepth 100000 in
set_option maxHeartbeats 8000000 in
theorem rleast_any {D : Dom} (v : Value) (m : Mly) (w : World) (h : RdM w D v m) (hsm : m.out.length ≤ 10000) (hsi : m.ins ≤ 10000) :
    Calls Try.prog 19 #[v] w fun e w' => Gives (LooseIs m (everyZ m true m.out.length) (mealyB m)) w e w' := by
  have HV := hid h.old
  obtain ⟨Ao, co, An, cn, rfl, ho, hn⟩ := h
  have hol := ho.len
  have hnl := hn.len
  clear ho hn
  have hokb : (mealyB m && caresB m (everyZ m true m.out.length)) = mealyB m := by
    cases hm : mealyB m
    · rfl
    · rw [every_care (sized_of hm) true]; rfl
  have HOKB := hid hokb
  clear hokb
  go_enter Try.func19, Try.ntmps19
  go_upto_region 1 with (fail)
  refine wp_gen fun W1 hW1 => ?_
  have hb1 : Below w.heap.size w W1 := by rw [hW1]; go_grown
  have hx1 : W1.heap[w.heap.size]? = some (.cells #[.int .i64 m.ins, .int .i64 m.outs, .int .i64 m.start, .slice Ao m.out.length co, .slice An m.next.length cn] 24 (0, 0)) := by
    rw [hW1]; (repeat (first | (refine at_new _ _ _ ?_; (simp only [World.size_alloc]; done)) | (refine (at_old _ _ _ ?_).trans ?_; (simp only [World.size_alloc]; omega))))
  have hr1 : W1.heap[w.heap.size + 1]? = some (.cells #[.int .i64 0, .int .i64 0, .int .i64 0, .slice none 0 0, .slice none 0 0] 24 (0, 0)) := by
    rw [hW1]; (repeat (first | (refine at_new _ _ _ ?_; (simp only [World.size_alloc]; done)) | (refine (at_old _ _ _ ?_).trans ?_; (simp only [World.size_alloc]; omega))))
  have HB1 := hid hb1
  have HR1 := hid hr1
  have HX1 := hid hx1
  have x0 := block_cell hx1 (i := 0) rfl
  have x1 := block_cell hx1 (i := 1) rfl
  have x2 := block_cell hx1 (i := 2) rfl
  have x3 := block_cell hx1 (i := 3) rfl
  have x4 := block_cell hx1 (i := 4) rfl
  have HS5 := hid (show W1.cell? ⟨w.heap.size, 0, none⟩ = some (.int .i64 m.ins) ∧ W1.cell? ⟨w.heap.size, 1, none⟩ = some (.int .i64 m.outs) ∧ W1.cell? ⟨w.heap.size, 2, none⟩ = some (.int .i64 m.start) ∧ W1.cell? ⟨w.heap.size, 3, none⟩ = some (.slice Ao m.out.length co) ∧ W1.cell? ⟨w.heap.size, 4, none⟩ = some (.slice An m.next.length cn) from ⟨x0, x1, x2, x3, x4⟩)
  have hs1 : w.heap.size + 1 < W1.heap.size := lt_of_block hr1
  have hs0 : w.heap.size < W1.heap.size := lt_of_block hx1
  have HEV : Hid (∀ W', Below W1.heap.size W1 W' → Calls Try.prog 28 #[.agg #[.int .i64 m.ins, .int .i64 m.outs, .int .i64 m.start, .slice Ao m.out.length co, .slice An m.next.length cn], .bool true] W' fun e w' => ∃ A c, e = .returned (.slice A (everyZ m true m.out.length).length c) ∧ Below W'.heap.size W' w' ∧ RdBB w' (fun k => W'.heap.size ≤ k) A c (everyZ m true m.out.length)) := hid fun W' hW' =>
    every_any _ m true W' (HV.out.keep (Keeps.of_below (HB1.out.trans (hW'.mono HB1.out.size)) fun _ h => h)) hsm hsi
  have HLO : Hid (∀ W' A c, Below W1.heap.size W1 W' → RdBB W' (fun _ => True) A c (everyZ m true m.out.length) → Calls Try.prog 21 #[.agg #[.int .i64 m.ins, .int .i64 m.outs, .int .i64 m.start, .slice Ao m.out.length co, .slice An m.next.length cn], .slice A (everyZ m true m.out.length).length c] W' fun e w' => Gives (LooseIs m (everyZ m true m.out.length) (mealyB m)) W' e w') := hid fun W' A c hW' hr => by
    have := rloose_any _ m A c (everyZ m true m.out.length) W' (HV.out.keep (Keeps.of_below (HB1.out.trans (hW'.mono HB1.out.size)) fun _ h => h)) hr hsm
    rw [HOKB.out] at this
    exact this
  clear hW1 hb1 hx1 hr1
  go_cut [] (fun wc => ∃ X B b C c, Below w.heap.size w wc ∧ LooseIs m (everyZ m true m.out.length) (mealyB m) X ∧ RdM wc (fun b => w.heap.size ≤ b) (.agg #[.int .i64 X.ins, .int .i64 X.outs, .int .i64 X.start, .slice B X.out.length b, .slice C X.next.length c]) X ∧
    wc.heap[w.heap.size + 1]? = some (.cells #[.int .i64 X.ins, .int .i64 X.outs, .int .i64 X.start, .slice B X.out.length b, .slice C X.next.length c] 24 (0, 0)))
  case first =>
    go_region_held3 (fun w' => w'.cell? ⟨w.heap.size, 0, none⟩ = some (.int .i64 m.ins) ∧ w'.cell? ⟨w.heap.size, 1, none⟩ = some (.int .i64 m.outs) ∧ w'.cell? ⟨w.heap.size, 2, none⟩ = some (.int .i64 m.start) ∧ w'.cell? ⟨w.heap.size, 3, none⟩ = some (.slice Ao m.out.length co) ∧
        w'.cell? ⟨w.heap.size, 4, none⟩ = some (.slice An m.next.length cn))
      (first
        | go_keep
        | exact cells5b HS5.out hb6 hs0
        | exact cells5b HS5.out hb5 hs0
        | exact cells5b HS5.out hb7 hs0)
      (first
        | (go_at_call 28
           refine (HEV.out _ ((Drawn.n W1 _).below W1.heap.size)).mono ?_
           rintro e w5 ⟨A5, c5, rfl, hb5', hr5⟩
           have hb5 : Below W1.heap.size W1 w5 := ((Drawn.n W1 _).below W1.heap.size).trans hb5')
        | (go_at_call 21
           refine (HLO.out _ A5 c5 hb5 (hr5.mono fun _ _ _ => trivial)).mono ?_
           rintro e w6 ⟨u, X, rfl, hb6', hr6, hX⟩
           have hb6 : Below W1.heap.size W1 w6 := hb5.trans (hb6'.mono hb5.size)
           have hrr6 := (hb6.block _ (lt_of_block HR1.out)).trans HR1.out
           obtain ⟨Bo, bo, Bn, bn, rfl, ho, hn⟩ := hr6
           have hq0 := block_cell hrr6 (i := 0) rfl
           have hq1 := block_cell hrr6 (i := 1) rfl
           have hq2 := block_cell hrr6 (i := 2) rfl
           have hq3 := block_cell hrr6 (i := 3) rfl
           have hq4 := block_cell hrr6 (i := 4) rfl
           have hz0 := block_free hrr6 (i := 0)
           have hz1 := block_free hrr6 (i := 1)
           have hz2 := block_free hrr6 (i := 2)
           have hz3 := block_free hrr6 (i := 3)
           have hz4 := block_free hrr6 (i := 4)))
    all_goals
      have hbw6 := HB1.out.trans (hb6.mono HB1.out.size)
      have hw5 := hb5.size
      have hRM : RdM w6 (fun b => w5.heap.size ≤ b) (.agg #[.int .i64 X.ins, .int .i64 X.outs, .int .i64 X.start, .slice Bo X.out.length bo, .slice Bn X.next.length bn]) X := ⟨Bo, bo, Bn, bn, rfl, ho, hn⟩
      have hfin := set5_rd (m := X) (B := w5.heap.size) hrr6 (w := w) (Chg.of_new hbw6) (by omega) (by omega) (by omega) hRM rfl
      have h5 := (set5 hrr6 (.int .i64 X.ins) (.int .i64 X.outs) (.int .i64 X.start) (.slice Bo X.out.length bo) (.slice Bn X.next.length bn)).1
      have HF := hid hfin.2
      have H5 := hid h5
      have HX := hid hX
      clear hfin h5 hRM ho hn hrr6 hb5' hb6'
      go_wp2_with fail
      go_meet
      exact ⟨X, Bo, bo, Bn, bn, HF.out.1, HX.out, HF.out.2, H5.out⟩
  case rest =>
    obtain ⟨X, Bo, bo, Bn, bn, hbw, hX, hr, hh⟩ := hcut
    have p0 := block_cell hh (i := 0) rfl
    have p1 := block_cell hh (i := 1) rfl
    have p2 := block_cell hh (i := 2) rfl
    have p3 := block_cell hh (i := 3) rfl
    have p4 := block_cell hh (i := 4) rfl
    have HG := hid (show Gives (LooseIs m (everyZ m true m.out.length) (mealyB m)) w (.returned (.agg #[.int .i64 X.ins, .int .i64 X.outs, .int .i64 X.start, .slice Bo X.out.length bo, .slice Bn X.next.length bn])) wc from ⟨_, X, rfl, hbw, hr, hX⟩)
    clear hbw hX hr hh x0 x1 x2 x3 x4
    go_wp2_with fail
    exact bodyPost_ret (v := .agg #[.int .i64 X.ins, .int .i64 X.outs, .int .i64 X.start, .slice Bo X.out.length bo, .slice Bn X.next.length bn]) (by simp [results, Try.results19, go_sem, p0, p1, p2, p3, p4]) rfl HG.out
end Go.Proofs.Ytcmhginhfhiolaa
set_option linter.unusedVariables false
set_option linter.unusedSimpArgs false
namespace Go.Proofs.Ytcmhginhfhiolaa

/-- f tells where the way up by par ends; ht lessens on the way. -/
structure Root (par : Nat → Option Nat) (f ht : Nat → Nat) : Prop where
  top : ∀ k, par k = none → f k = k
  up : ∀ k k', par k = some k' → f k' = f k ∧ ht k' < ht k
section
variable {par : Nat → Option Nat} {f ht : Nat → Nat}
theorem Root.le (h : Root par f ht) : ∀ (n k : Nat), ht k ≤ n → par (f k) = none ∧ ht (f k) ≤ ht k
  | n, k, hk => by
    rcases hp : par k with _ | k'
    · rw [h.top k hp]; exact ⟨hp, Nat.le_refl _⟩
    · have h1 := h.up k k' hp
      match n, hk with
      | 0, hk => omega
      | n + 1, hk =>
        have ih := Root.le h n k' (by omega)
        rw [h1.1] at ih
        exact ⟨ih.1, by omega⟩
theorem Root.end (h : Root par f ht) (k : Nat) : par (f k) = none := (h.le _ k (Nat.le_refl _)).1
theorem Root.low (h : Root par f ht) (k : Nat) : ht (f k) ≤ ht k := (h.le _ k (Nat.le_refl _)).2
theorem Root.idem (h : Root par f ht) (k : Nat) : f (f k) = f k := h.top _ (h.end k)
theorem Root.self (h : Root par f ht) {k : Nat} (hk : f k = k) : par k = none := by have := h.end k; rwa [hk] at this
theorem Root.lt (h : Root par f ht) {k : Nat} (hk : f k ≠ k) : ht (f k) < ht k := by
  rcases hp : par k with _ | k'
  · exact absurd (h.top k hp) hk
  · have h1 := h.up k k' hp
    have h2 := h.low k'
    rw [h1.1] at h2
    omega
theorem Root.press (h : Root par f ht) {k : Nat} (hk : f k ≠ k) {par' : Nat → Option Nat} (h1 : par' k = some (f k)) (h2 : ∀ j, j ≠ k → par' j = par j) : Root par' f ht := by
  refine ⟨fun j hj => ?_, fun j j' hj => ?_⟩
  · by_cases e : j = k
    · subst e; rw [h1] at hj; cases hj
    · exact h.top j (by rw [← h2 j e]; exact hj)
  · by_cases e : j = k
    · subst e
      rw [h1] at hj
      injection hj with hj
      subst hj
      exact ⟨h.idem j, h.lt hk⟩
    · exact h.up j j' (by rw [← h2 j e]; exact hj)
/-- The root function after b was hung under a. -/
def joinF (f : Nat → Nat) (a b : Nat) : Nat → Nat := fun k => if f k = b then a else f k
theorem Root.unite (h : Root par f ht) {a b : Nat} (ha : f a = a) (hb : f b = b) (hne : a ≠ b) {par' : Nat → Option Nat} (h1 : par' b = some a) (h2 : ∀ j, j ≠ b → par' j = par j) :
    Root par' (joinF f a b) (fun k => if f k = b then ht k + ht a + 1 else ht k) := by
  refine ⟨fun j hj => ?_, fun j j' hj => ?_⟩
  · by_cases e : j = b
    · subst e; rw [h1] at hj; cases hj
    · have h3 := h.top j (by rw [← h2 j e]; exact hj)
      unfold joinF
      rw [h3, if_neg e]
  · by_cases e : j = b
    · subst e
      rw [h1] at hj
      injection hj with hj
      subst hj
      unfold joinF
      try dsimp only
      rw [ha, hb, if_neg hne, if_pos rfl, if_neg hne, if_pos rfl]
      exact ⟨rfl, by omega⟩
    · have h3 := h.up j j' (by rw [← h2 j e]; exact hj)
      unfold joinF
      try dsimp only
      rw [h3.1]
      refine ⟨rfl, ?_⟩
      split <;> omega
theorem joinF_eq {a b : Nat} (ha : f a = a) (i j : Nat) : joinF f a b i = joinF f a b j ↔ f i = f j ∨ ((f i = a ∨ f i = b) ∧ (f j = a ∨ f j = b)) := by
  unfold joinF
  by_cases h1 : f i = b <;> by_cases h2 : f j = b
  · rw [if_pos h1, if_pos h2]; simp [h1, h2]
  · rw [if_pos h1, if_neg h2]
    constructor
    · exact fun e => .inr ⟨.inr h1, .inl e.symm⟩
    · rintro (e | ⟨_, e | e⟩)
      · exact absurd (e.symm.trans h1) h2
      · exact e.symm
      · exact absurd e h2
  · rw [if_neg h1, if_pos h2]
    constructor
    · exact fun e => .inr ⟨.inl e, .inr h2⟩
    · rintro (e | ⟨e | e, _⟩)
      · exact absurd (e.trans h2) h1
      · exact e
      · exact absurd e h1
  · rw [if_neg h1, if_neg h2]
    constructor
    · exact fun e => .inl e
    · rintro (e | ⟨e1 | e1, e2 | e2⟩)
      · exact e
      · exact e1.trans e2.symm
      · exact absurd e2 h2
      · exact absurd e1 h1
      · exact absurd e1 h1
end
/-- The number of classes. -/
def roots (n : Nat) (f : Nat → Nat) : Nat := ((List.range n).filter fun i => decide (f i = i)).length
theorem roots_le (n : Nat) (f : Nat → Nat) : roots n f ≤ n := by
  unfold roots
  have := List.length_filter_le (fun i => decide (f i = i)) (List.range n)
  simpa using this
theorem roots_less {n : Nat} {f : Nat → Nat} {a b : Nat} (ha : f a = a) (hb : f b = b) (hne : a ≠ b) (hbn : b < n) : roots n (joinF f a b) < roots n f := by
  unfold roots
  refine filter_less _ _ _ (fun v _ hv => ?_) ⟨b, List.mem_range.2 hbn, by simpa using hb, ?_⟩
  · simp only [decide_eq_true_eq] at hv ⊢
    unfold joinF at hv
    split at hv
    · rename_i h; subst hv; exact ha
    · exact hv
  · simp only [decide_eq_false_iff_not]
    unfold joinF
    rw [if_pos hb]
    exact hne

structure EqvR (G : Rel) : Prop where
  refl : ∀ i, G i i
  symm : ∀ i j, G i j → G j i
  trans : ∀ i j k, G i j → G j k → G i k
/-- i and j are in one class, when all that is still to be done is done. -/
def UpR (f : Nat → Nat) (todo : List (Nat × Nat)) : Rel := fun a b => ∀ G, EqvR G → (∀ i j, f i = f j → G i j) → (∀ p ∈ todo, G p.1 p.2) → G a b
section
variable {f : Nat → Nat} {todo todo' : List (Nat × Nat)}
theorem upR_of {a b : Nat} (h : f a = f b) : UpR f todo a b := fun _ _ h1 _ => h1 a b h
theorem upR_mem {p : Nat × Nat} (h : p ∈ todo) : UpR f todo p.1 p.2 := fun _ _ _ h2 => h2 p h
theorem upR_trans {a b c : Nat} (h : UpR f todo a b) (k : UpR f todo b c) : UpR f todo a c := fun G hG h1 h2 => hG.trans _ _ _ (h G hG h1 h2) (k G hG h1 h2)
theorem upR_symm {a b : Nat} (h : UpR f todo a b) : UpR f todo b a := fun G hG h1 h2 => hG.symm _ _ (h G hG h1 h2)
theorem upR_nil {a b : Nat} : UpR f [] a b ↔ f a = f b :=
  ⟨fun h => h (fun i j => f i = f j) ⟨fun _ => rfl, fun _ _ h => h.symm, fun _ _ _ h k => h.trans k⟩ (fun _ _ h => h) (fun _ h => by cases h), upR_of⟩
theorem upR_mono {g : Nat → Nat} {a b : Nat} (h : UpR f todo a b) (hf : ∀ i j, f i = f j → UpR g todo' i j) (ht : ∀ p ∈ todo, UpR g todo' p.1 p.2) : UpR g todo' a b :=
  fun G hG h1 h2 => h G hG (fun i j e => hf i j e G hG h1 h2) (fun p hp => ht p hp G hG h1 h2)
end

/-- The state of the uniting: classes f, pairs that are still to be united. -/
structure Mrg (L : Mac) (E0 : Rel) (n k : Nat) (f : Nat → Nat) (todo : List (Nat × Nat)) : Prop where
  rng : ∀ p ∈ todo, p.1 < L.size ∧ p.2 < L.size
  fr : ∀ i, i < L.size → f i < L.size
  sub : ∀ i j, i < L.size → j < L.size → E0 i j → f i = f j
  low : ∀ G, Good L G → Sub L E0 G → G n k → (∀ i j, i < L.size → j < L.size → f i = f j → G i j) ∧ ∀ p ∈ todo, G p.1 p.2
  up : ∀ i j x o t o' t', i < L.size → j < L.size → f i = f j → x < L.ins → L.mv i x = some (o, t) → L.mv j x = some (o', t') → o = o' ∧ UpR f todo t t'
  has : UpR f todo n k
section
variable {L : Mac} {E0 : Rel} {n k : Nat} {f : Nat → Nat} {todo : List (Nat × Nat)}
theorem Mrg.init (hL : L.Ok) (hn : n < L.size) (hk : k < L.size) (hfr : ∀ i, i < L.size → f i < L.size) (hf : ∀ i j, i < L.size → j < L.size → (E0 i j ↔ f i = f j)) (hE : Good L E0) : Mrg L E0 n k f [(n, k)] := by
  refine ⟨fun p hp => ?_, hfr, fun i j hi hj h => (hf i j hi hj).1 h, fun G hG hs hnk => ⟨fun i j hi hj e => hs i j hi hj ((hf i j hi hj).2 e), fun p hp => ?_⟩, fun i j x o t o' t' hi hj e hx h1 h2 => ?_, upR_mem (p := (n, k)) (by simp)⟩
  · rw [List.mem_singleton] at hp; subst hp; exact ⟨hn, hk⟩
  · rw [List.mem_singleton] at hp; subst hp; exact hnk
  · have hc := hE.cong i j x o t o' t' hi hj ((hf i j hi hj).2 e) hx h1 h2
    exact ⟨hc.1, upR_of ((hf t t' (hL.tgt i x o t hi hx h1) (hL.tgt j x o' t' hj hx h2)).1 hc.2)⟩
/-- The pair is in one class already. -/
theorem Mrg.skip {p : Nat × Nat} (h : Mrg L E0 n k f (p :: todo)) (he : f p.1 = f p.2) : Mrg L E0 n k f todo := by
  have hm : ∀ a b, UpR f (p :: todo) a b → UpR f todo a b := fun a b hab => upR_mono hab (fun i j e => upR_of e) fun q hq => by
    rcases List.mem_cons.1 hq with rfl | hq
    · exact upR_of he
    · exact upR_mem hq
  exact ⟨fun q hq => h.rng q (List.mem_cons_of_mem _ hq), h.fr, h.sub, fun G hG hs hnk => ⟨(h.low G hG hs hnk).1, fun q hq => (h.low G hG hs hnk).2 q (List.mem_cons_of_mem _ hq)⟩,
    fun i j x o t o' t' hi hj e hx h1 h2 => ⟨(h.up i j x o t o' t' hi hj e hx h1 h2).1, hm _ _ (h.up i j x o t o' t' hi hj e hx h1 h2).2⟩, hm _ _ h.has⟩
/-- What is put on the list when the classes a and b are united: for each input by which both have moves, the targets of two of them. -/
structure Succs (L : Mac) (f : Nat → Nat) (a b : Nat) (new : List (Nat × Nat)) : Prop where
  all : ∀ i j x o t o' t', i < L.size → j < L.size → f i = a → f j = b → x < L.ins → L.mv i x = some (o, t) → L.mv j x = some (o', t') →
    ∃ i0 j0 o0 t0 t0', i0 < L.size ∧ j0 < L.size ∧ f i0 = a ∧ f j0 = b ∧ L.mv i0 x = some (o0, t0) ∧ L.mv j0 x = some (o0, t0') ∧ (t0, t0') ∈ new
  only : ∀ p ∈ new, ∃ i0 j0 x o0 o1, i0 < L.size ∧ j0 < L.size ∧ f i0 = a ∧ f j0 = b ∧ x < L.ins ∧ L.mv i0 x = some (o0, p.1) ∧ L.mv j0 x = some (o1, p.2)
theorem Mrg.unite {p q a b : Nat} (h : Mrg L E0 n k f ((p, q) :: todo)) (hL : L.Ok) (hpa : f p = a) (hqb : f q = b) (haa : f a = a) (hbb : f b = b) (hne : a ≠ b) {new : List (Nat × Nat)} (hS : Succs L f a b new) : Mrg L E0 n k (joinF f a b) (new ++ todo) := by
  have hpq := h.rng (p, q) (by simp)
  have hmono : ∀ i j, f i = f j → joinF f a b i = joinF f a b j := fun i j e => by unfold joinF; rw [e]
  have hjoin : ∀ i j, f i = a → f j = b → joinF f a b i = joinF f a b j := fun i j h1 h2 => (joinF_eq haa i j).2 (.inr ⟨.inl h1, .inr h2⟩)
  have hm : ∀ c d, UpR f ((p, q) :: todo) c d → UpR (joinF f a b) (new ++ todo) c d := fun c d hcd => upR_mono hcd (fun i j e => upR_of (hmono i j e)) fun r hr => by
    rcases List.mem_cons.1 hr with rfl | hr
    · exact upR_of (hjoin p q hpa hqb)
    · exact upR_mem (List.mem_append_right _ hr)
  -- a move of class a, a move of class b
  have key : ∀ i j x o t o' t', i < L.size → j < L.size → f i = a → f j = b → x < L.ins → L.mv i x = some (o, t) → L.mv j x = some (o', t') → o = o' ∧ UpR (joinF f a b) (new ++ todo) t t' := fun i j x o t o' t' hi hj hia hjb hx h1 h2 => by
    obtain ⟨i0, j0, o0, t0, t0', hi0, hj0, e1, e2, m1, m2, hin⟩ := hS.all i j x o t o' t' hi hj hia hjb hx h1 h2
    have u1 := h.up i i0 x o t o0 t0 hi hi0 (by rw [hia, e1]) hx h1 m1
    have u2 := h.up j0 j x o0 t0' o' t' hj0 hj (by rw [hjb, e2]) hx m2 h2
    exact ⟨u1.1.trans u2.1, upR_trans (hm _ _ u1.2) (upR_trans (upR_mem (p := (t0, t0')) (List.mem_append_left _ hin)) (hm _ _ u2.2))⟩
  refine ⟨fun r hr => ?_, fun i hi => ?_, fun i j hi hj e => hmono i j (h.sub i j hi hj e), fun G hG hs hnk => ?_, fun i j x o t o' t' hi hj e hx h1 h2 => ?_, hm _ _ h.has⟩
  · rcases List.mem_append.1 hr with hr | hr
    · obtain ⟨i0, j0, x, o0, o1, hi0, hj0, _, _, hx, m1, m2⟩ := hS.only r hr
      exact ⟨hL.tgt i0 x o0 _ hi0 hx m1, hL.tgt j0 x o1 _ hj0 hx m2⟩
    · exact h.rng r (List.mem_cons_of_mem _ hr)
  · unfold joinF
    split
    · rw [← hpa]; exact h.fr p hpq.1
    · exact h.fr i hi
  · have hl := h.low G hG hs hnk
    have hpqG : G p q := hl.2 (p, q) (by simp)
    have hab : ∀ i j, i < L.size → j < L.size → f i = a → f j = b → G i j := fun i j hi hj h1 h2 =>
      hG.trans _ _ _ (hl.1 i p hi hpq.1 (by rw [h1, hpa])) (hG.trans _ _ _ hpqG (hl.1 q j hpq.2 hj (by rw [h2, hqb])))
    refine ⟨fun i j hi hj e => ?_, fun r hr => ?_⟩
    · rcases (joinF_eq haa i j).1 e with e | ⟨e1 | e1, e2 | e2⟩
      · exact hl.1 i j hi hj e
      · exact hl.1 i j hi hj (e1.trans e2.symm)
      · exact hab i j hi hj e1 e2
      · exact hG.symm _ _ (hab j i hj hi e2 e1)
      · exact hl.1 i j hi hj (e1.trans e2.symm)
    · rcases List.mem_append.1 hr with hr | hr
      · obtain ⟨i0, j0, x, o0, o1, hi0, hj0, e1, e2, hx, m1, m2⟩ := hS.only r hr
        exact (hG.cong i0 j0 x o0 _ o1 _ hi0 hj0 (hab i0 j0 hi0 hj0 e1 e2) hx m1 m2).2
      · exact hl.2 r (List.mem_cons_of_mem _ hr)
  · rcases (joinF_eq haa i j).1 e with e | ⟨e1 | e1, e2 | e2⟩
    · have := h.up i j x o t o' t' hi hj e hx h1 h2
      exact ⟨this.1, hm _ _ this.2⟩
    · have := h.up i j x o t o' t' hi hj (e1.trans e2.symm) hx h1 h2
      exact ⟨this.1, hm _ _ this.2⟩
    · exact key i j x o t o' t' hi hj e1 e2 hx h1 h2
    · have := key j i x o' t' o t hj hi e2 e1 hx h2 h1
      exact ⟨this.1.symm, upR_symm this.2⟩
    · have := h.up i j x o t o' t' hi hj (e1.trans e2.symm) hx h1 h2
      exact ⟨this.1, hm _ _ this.2⟩
/-- Nothing is left to be done. -/
theorem Mrg.done (h : Mrg L E0 n k f []) : CanJoin L E0 n k ∧ ∀ i j, i < L.size → j < L.size → (JoinRel L E0 n k i j ↔ f i = f j) := by
  have hg : Good L (fun i j => f i = f j) := ⟨fun _ _ => rfl, fun _ _ h => h.symm, fun _ _ _ h k => h.trans k, fun i j x o t o' t' hi hj e hx h1 h2 => by
    have := h.up i j x o t o' t' hi hj e hx h1 h2
    exact ⟨this.1, upR_nil.1 this.2⟩⟩
  exact ⟨⟨_, hg, fun i j hi hj e => h.sub i j hi hj e, upR_nil.1 h.has⟩, fun i j hi hj => ⟨fun hj' => hj' _ hg (fun a b ha hb e => h.sub a b ha hb e) (upR_nil.1 h.has), fun e G hG hs hnk => (h.low G hG hs hnk).1 i j hi hj e⟩⟩
/-- Other outputs in the two classes. -/
theorem Mrg.no {p q : Nat} (h : Mrg L E0 n k f ((p, q) :: todo)) {i j x : Nat} {o o' : Int} {t t' : Nat} (hi : i < L.size) (hj : j < L.size) (hip : f i = f p) (hjq : f j = f q) (hx : x < L.ins) (h1 : L.mv i x = some (o, t)) (h2 : L.mv j x = some (o', t')) (hne : o ≠ o') : ¬ CanJoin L E0 n k := fun ⟨G, hG, hs, hnk⟩ => by
  have hl := h.low G hG hs hnk
  have hpq := h.rng (p, q) (by simp)
  exact hne (hG.cong i j x o t o' t' hi hj (hG.trans _ _ _ (hl.1 i p hi hpq.1 hip) (hG.trans _ _ _ (hl.2 (p, q) (by simp)) (hl.1 q j hpq.2 hj hjq.symm))) hx h1 h2).1
theorem Mrg.clash {p q : Nat} (h : Mrg L E0 n k f ((p, q) :: todo)) (hc : ∀ G, Good L G → ¬ G p q) : ¬ CanJoin L E0 n k := fun ⟨G, hG, hs, hnk⟩ => hc G hG ((h.low G hG hs hnk).2 (p, q) (by simp))
end

/-! Two machines as one. -/
/-- State q of A has the number 2 q, of B 2 q + 1. -/
def sumM (A B : Mac) : Mac := ⟨2 * (A.size + B.size), 0, A.ins, A.outs, fun n x => if n % 2 = 0 then (if n / 2 < A.size then (A.mv (n / 2) x).map fun z => (z.1, 2 * z.2) else none) else (if n / 2 < B.size then (B.mv (n / 2) x).map fun z => (z.1, 2 * z.2 + 1) else none)⟩
section
variable {A B : Mac}
theorem sum_left {q : Nat} (h : q < A.size) (x : Nat) : (sumM A B).mv (2 * q) x = (A.mv q x).map fun z => (z.1, 2 * z.2) := by
  show (if 2 * q % 2 = 0 then _ else _) = _
  rw [if_pos (by omega), if_pos (by omega), Nat.mul_div_cancel_left q (by omega)]
theorem sum_right {q : Nat} (h : q < B.size) (x : Nat) : (sumM A B).mv (2 * q + 1) x = (B.mv q x).map fun z => (z.1, 2 * z.2 + 1) := by
  have e : (2 * q + 1) / 2 = q := by omega
  show (if (2 * q + 1) % 2 = 0 then _ else _) = _
  rw [if_neg (by omega), e, if_pos h]
theorem sum_ok (hA : A.Ok) (hB : B.Ok) (hi : B.ins = A.ins) : (sumM A B).Ok := by
  have h1 := hA.st
  refine ⟨by show 0 < 2 * (A.size + B.size); omega, fun n x o t hn hx e => ?_⟩
  show t < 2 * (A.size + B.size)
  have hx' : x < A.ins := hx
  simp only [sumM] at e
  split at e
  · split at e
    · rename_i h2
      rcases hm : A.mv (n / 2) x with _ | ⟨o', t'⟩
      · rw [hm] at e; cases e
      · rw [hm] at e
        simp only [Option.map_some] at e
        injection e with e
        injection e with _ e
        have := hA.tgt _ x o' t' h2 hx' hm
        omega
    · cases e
  · split at e
    · rename_i h2
      rcases hm : B.mv (n / 2) x with _ | ⟨o', t'⟩
      · rw [hm] at e; cases e
      · rw [hm] at e
        simp only [Option.map_some] at e
        injection e with e
        injection e with _ e
        have := hB.tgt _ x o' t' h2 (by omega) hm
        omega
    · cases e
theorem sum_join (hA : A.Ok) (hB : B.Ok) (hi : B.ins = A.ins) (tA : Total A) (tB : Total B) : CanJoin (sumM A B) (fun i j => i = j) (2 * A.start) (2 * B.start + 1) ↔ Sim A B A.start B.start := by
  constructor
  · rintro ⟨G, hG, _, hg⟩
    refine ⟨fun i j => i < A.size ∧ j < B.size ∧ G (2 * i) (2 * j + 1), fun i j ⟨h1, h2, h3⟩ x hx => ?_, hA.st, hB.st, hg⟩
    obtain ⟨o, t, e1⟩ := tA i x h1 hx
    obtain ⟨o', t', e2⟩ := tB j x h2 (by omega)
    have m1 := sum_left (B := B) h1 x
    have m2 := sum_right (A := A) h2 x
    rw [e1] at m1
    rw [e2] at m2
    have hc := hG.cong _ _ x o _ o' _ (by show 2 * i < 2 * (A.size + B.size); omega) (by show 2 * j + 1 < 2 * (A.size + B.size); omega) h3 hx m1 m2
    obtain ⟨hc1, hc2⟩ := hc
    subst hc1
    exact ⟨o, t, t', e1, e2, hA.tgt i x o t h1 hx e1, hB.tgt j x o t' h2 (by omega) e2, hc2⟩
  · rintro ⟨R, hR, hr⟩
    have hS : Sim (sumM A B) (sumM A B) (2 * A.start) (2 * B.start + 1) := by
      refine ⟨fun a b => ∃ i j, a = 2 * i ∧ b = 2 * j + 1 ∧ i < A.size ∧ j < B.size ∧ R i j, fun a b ⟨i, j, ea, eb, h1, h2, hij⟩ x hx => ?_, _, _, rfl, rfl, hA.st, hB.st, hr⟩
      subst ea; subst eb
      have hx' : x < A.ins := hx
      obtain ⟨o, t, t', e1, e2, htt⟩ := hR i j hij x hx'
      refine ⟨o, 2 * t, 2 * t' + 1, ?_, ?_, t, t', rfl, rfl, hA.tgt i x o t h1 hx' e1, hB.tgt j x o t' h2 (by omega) e2, htt⟩
      · rw [sum_left h1, e1]; rfl
      · rw [sum_right h2, e2]; rfl
    refine ⟨fun i j => i = j ∨ Sim (sumM A B) (sumM A B) i j, ⟨fun i _ => .inl rfl, fun i j h => ?_, fun i j k h1 h2 => ?_, fun i j x o t o' t' _ _ hij hx h1 h2 => ?_⟩, fun i j _ _ e => .inl e, .inr hS⟩
    · rcases h with h | h
      · exact .inl h.symm
      · exact .inr (sim_symm rfl h)
    · rcases h1 with h1 | h1
      · subst h1; exact h2
      · rcases h2 with h2 | h2
        · subst h2; exact .inr h1
        · exact .inr (sim_trans rfl h1 h2)
    · rcases hij with hij | hij
      · subst hij
        rw [h1] at h2
        injection h2 with h2
        injection h2 with e1 e2
        exact ⟨e1, .inl e2⟩
      · have := sim_step hij hx h1 h2
        exact ⟨this.1, .inr this.2⟩
end
end Go.Proofs.Ytcmhginhfhiolaa
set_option linter.unusedVariables false
set_option linter.unusedSimpArgs false
namespace Go.Proofs.Ytcmhginhfhiolaa

theorem Mrg.perm {L : Mac} {E0 : Rel} {n k : Nat} {f : Nat → Nat} {todo todo' : List (Nat × Nat)} (h : Mrg L E0 n k f todo) (he : ∀ p, p ∈ todo ↔ p ∈ todo') : Mrg L E0 n k f todo' := by
  have hm : ∀ a b, UpR f todo a b → UpR f todo' a b := fun a b hab => upR_mono hab (fun i j e => upR_of e) fun p hp => upR_mem ((he p).1 hp)
  exact ⟨fun p hp => h.rng p ((he p).2 hp), h.fr, h.sub, fun G hG hs hnk => ⟨(h.low G hG hs hnk).1, fun p hp => (h.low G hG hs hnk).2 p ((he p).2 hp)⟩,
    fun i j x o t o' t' hi hj e hx h1 h2 => ⟨(h.up i j x o t o' t' hi hj e hx h1 h2).1, hm _ _ (h.up i j x o t o' t' hi hj e hx h1 h2).2⟩, hm _ _ h.has⟩

def inS (ts : List (Nat × Nat)) : List (Nat × Nat) := ts.map fun p => (2 * p.1, 2 * p.2 + 1)
def toN (m : Mly) (q x : Nat) : Nat := ((m.next.getD q []).getD x 0).toNat
def newP (a b : Mly) (p q n : Nat) : List (Nat × Nat) := (List.range n).map fun x => (toN a p x, toN b q x)
theorem newP_succ (a b : Mly) (p q n : Nat) : newP a b p q (n + 1) = newP a b p q n ++ [(toN a p n, toN b q n)] := by unfold newP; rw [List.range_succ, List.map_append]; rfl
theorem newP_len (a b : Mly) (p q n : Nat) : (newP a b p q n).length = n := by simp [newP]
/-- The state of Same's loop. -/
structure SmI (a b : Mly) (f : Nat → Nat) (ts : List (Nat × Nat)) : Prop where
  mrg : Mrg (sumM (wholeM a) (wholeM b)) (fun i j => i = j) (2 * a.start.toNat) (2 * b.start.toNat + 1) f (inS ts)
  rng : ∀ p ∈ ts, p.1 < a.out.length ∧ p.2 < b.out.length
section
variable {a b : Mly} {f : Nat → Nat} {ts : List (Nat × Nat)} {p q : Nat}
theorem sum_sz (a b : Mly) : (sumM (wholeM a) (wholeM b)).size = 2 * (a.out.length + b.out.length) := rfl
theorem SmI.init (ha : Sized a) (hb : Sized b) (hi : b.ins = a.ins) : SmI a b id [(a.start.toNat, b.start.toNat)] := by
  have a0 := ha.s0
  have a1 := ha.s1
  have b0 := hb.s0
  have b1 := hb.s1
  refine ⟨Mrg.init (sum_ok (whole_ok ha) (whole_ok hb) (by show b.ins.toNat = a.ins.toNat; rw [hi])) ?_ ?_ (fun i hi => hi) (fun i j _ _ => Iff.rfl) eq_good, fun p hp => ?_⟩
  · rw [sum_sz]; omega
  · rw [sum_sz]; omega
  · rw [List.mem_singleton] at hp
    subst hp
    exact ⟨by show a.start.toNat < _; omega, by show b.start.toNat < _; omega⟩
theorem inS_snoc (ts : List (Nat × Nat)) (p q : Nat) (r : Nat × Nat) : r ∈ inS (ts ++ [(p, q)]) ↔ r ∈ (2 * p, 2 * q + 1) :: inS ts := by
  unfold inS
  rw [List.map_append, List.mem_append, List.mem_cons]
  simp [or_comm]
theorem SmI.skip (h : SmI a b f (ts ++ [(p, q)])) (he : f (2 * p) = f (2 * q + 1)) : SmI a b f ts :=
  ⟨(h.mrg.perm (inS_snoc ts p q)).skip he, fun r hr => h.rng r (by simp [hr])⟩
theorem sum_mvl (ha : Sized a) {x : Nat} (hp : p < a.out.length) : (sumM (wholeM a) (wholeM b)).mv (2 * p) x = some ((a.out.getD p []).getD x 0, 2 * toN a p x) := by
  rw [sum_left (A := wholeM a) (show p < (wholeM a).size from hp)]; rfl
theorem sum_mvr (hb : Sized b) {x : Nat} (hq : q < b.out.length) : (sumM (wholeM a) (wholeM b)).mv (2 * q + 1) x = some ((b.out.getD q []).getD x 0, 2 * toN b q x + 1) := by
  rw [sum_right (B := wholeM b) (show q < (wholeM b).size from hq)]; rfl
theorem SmI.unite (h : SmI a b f (ts ++ [(p, q)])) (ha : Sized a) (hb : Sized b) (hi : b.ins = a.ins) (hid : ∀ k, f (f k) = f k) (hne : f (2 * p) ≠ f (2 * q + 1)) (ho : a.out.getD p [] = b.out.getD q []) :
    SmI a b (joinF f (f (2 * p)) (f (2 * q + 1))) (ts ++ newP a b p q a.ins.toNat) := by
  have hpq := h.rng (p, q) (by simp)
  have hok := sum_ok (whole_ok ha) (whole_ok hb) (show (wholeM b).ins = (wholeM a).ins by show b.ins.toNat = a.ins.toNat; rw [hi])
  have i1 := ha.i1
  have hins : (sumM (wholeM a) (wholeM b)).ins = a.ins.toNat := rfl
  have hS : Succs (sumM (wholeM a) (wholeM b)) f (f (2 * p)) (f (2 * q + 1)) (inS (newP a b p q a.ins.toNat)) := by
    refine ⟨fun i j x o t o' t' hi hj e1 e2 hx h1 h2 => ⟨2 * p, 2 * q + 1, (a.out.getD p []).getD x 0, 2 * toN a p x, 2 * toN b q x + 1, by rw [sum_sz]; omega, by rw [sum_sz]; omega, rfl, rfl, sum_mvl ha hpq.1, ?_, ?_⟩, fun r hr => ?_⟩
    · rw [sum_mvr hb hpq.2, ho]
    · rw [hins] at hx
      unfold inS newP
      rw [List.map_map]
      exact List.mem_map.2 ⟨x, List.mem_range.2 hx, rfl⟩
    · unfold inS newP at hr
      rw [List.map_map] at hr
      obtain ⟨x, hx, rfl⟩ := List.mem_map.1 hr
      rw [List.mem_range] at hx
      exact ⟨2 * p, 2 * q + 1, x, (a.out.getD p []).getD x 0, (b.out.getD q []).getD x 0, by rw [sum_sz]; omega, by rw [sum_sz]; omega, rfl, rfl, by rw [hins]; exact hx, sum_mvl ha hpq.1, sum_mvr hb hpq.2⟩
  have hm := (h.mrg.perm (inS_snoc ts p q)).unite hok rfl rfl (hid _) (hid _) hne hS
  refine ⟨hm.perm fun r => ?_, fun r hr => ?_⟩
  · unfold inS
    rw [List.map_append, List.mem_append, List.mem_append]
    exact or_comm
  · rcases List.mem_append.1 hr with hr | hr
    · exact h.rng r (by simp [hr])
    · unfold newP at hr
      obtain ⟨x, hx, rfl⟩ := List.mem_map.1 hr
      rw [List.mem_range] at hx
      have n1 := ha.nextr p x hpq.1 (by omega)
      have n2 := hb.nextr q x hpq.2 (by omega)
      unfold toN
      exact ⟨by show _ < _; omega, by show _ < _; omega⟩
theorem SmI.done (h : SmI a b f []) (ha : Sized a) (hb : Sized b) (hi : b.ins = a.ins) : Sim (wholeM a) (wholeM b) a.start.toNat b.start.toNat :=
  (sum_join (whole_ok ha) (whole_ok hb) (show (wholeM b).ins = (wholeM a).ins by show b.ins.toNat = a.ins.toNat; rw [hi]) (whole_total a) (whole_total b)).1 h.mrg.done.1
theorem rows_ne {r s : List Int} {n : Nat} (h1 : r.length = n) (h2 : s.length = n) (hne : r ≠ s) : ∃ x, x < n ∧ r.getD x 0 ≠ s.getD x 0 := by
  refine Classical.byContradiction fun hc => hne ?_
  refine List.ext_getElem (h1.trans h2.symm) fun i hi hj => ?_
  refine Classical.byContradiction fun hd => hc ⟨i, by omega, ?_⟩
  simpa [List.getD, hi, hj] using hd
theorem SmI.no (h : SmI a b f (ts ++ [(p, q)])) (ha : Sized a) (hb : Sized b) (hi : b.ins = a.ins) (ho : a.out.getD p [] ≠ b.out.getD q []) : ¬ Sim (wholeM a) (wholeM b) a.start.toNat b.start.toNat := by
  have hpq := h.rng (p, q) (by simp)
  have i1 := ha.i1
  have l1 := ha.outr p 0 hpq.1 (by omega)
  have l2 := hb.outr q 0 hpq.2 (by omega)
  obtain ⟨x, hx, hne⟩ := rows_ne (n := a.ins.toNat) (by omega) (by omega) ho
  have := (h.mrg.perm (inS_snoc ts p q)).no (i := 2 * p) (j := 2 * q + 1) (x := x) (by rw [sum_sz]; omega) (by rw [sum_sz]; omega) rfl rfl (show x < a.ins.toNat from hx) (sum_mvl ha hpq.1) (sum_mvr hb hpq.2) hne
  exact fun hs => this ((sum_join (whole_ok ha) (whole_ok hb) (show (wholeM b).ins = (wholeM a).ins by show b.ins.toNat = a.ins.toNat; rw [hi]) (whole_total a) (whole_total b)).2 hs)
end
end Go.Proofs.Ytcmhginhfhiolaa
set_option linter.unusedVariables false
set_option linter.unusedSimpArgs false
namespace Go.Proofs.Ytcmhginhfhiolaa
open Go.RowKit
set_option linter.unusedSectionVars false

section
variable {κ β γ : Type} [DecidableEq κ]
/-- What a list of entries holds at a key; the list with a key set. -/
def lookB (l : List (κ × β)) (k : κ) : Option β := (l.find? fun p => decide (p.1 = k)).map (·.2)
def updB (l : List (κ × β)) (k : κ) (v : β) : List (κ × β) := if k ∈ l.map (·.1) then l.modify ((l.map (·.1)).idxOf k) (fun _ => (k, v)) else l ++ [(k, v)]
def valB (f : β → γ) (l : List (κ × β)) : List (κ × γ) := l.map fun p => (p.1, f p.2)
theorem valB_keys (f : β → γ) (l : List (κ × β)) : (valB f l).map (·.1) = l.map (·.1) := by unfold valB; rw [List.map_map]; rfl
theorem lookB_val (f : β → γ) (l : List (κ × β)) (k : κ) : lookB (valB f l) k = (lookB l k).map f := by
  unfold lookB valB
  rw [List.find?_map]
  show ((l.find? _).map _).map _ = _
  rw [Option.map_map, Option.map_map]; rfl
theorem updB_val (f : β → γ) (l : List (κ × β)) (k : κ) (v : β) : valB f (updB l k v) = updB (valB f l) k (f v) := by
  unfold updB
  rw [valB_keys]
  split
  · unfold valB
    apply List.ext_getElem?
    intro i
    rw [List.getElem?_map, List.getElem?_modify, List.getElem?_modify, List.getElem?_map]
    by_cases e : (l.map (·.1)).idxOf k = i
    · simp only [e, if_true]
      rcases l[i]? with _ | p <;> rfl
    · simp only [e, if_false]
      rcases l[i]? with _ | p <;> rfl
  · unfold valB; rw [List.map_append]; rfl
theorem lookB_none {l : List (κ × β)} {k : κ} (h : k ∉ l.map (·.1)) : lookB l k = none := by
  unfold lookB
  rw [List.find?_eq_none.2]
  · rfl
  · intro p hp
    simp only [decide_eq_true_eq]
    intro e
    exact h (e ▸ List.mem_map_of_mem hp)
theorem lookB_some {l : List (κ × β)} {k : κ} {v : β} (h : lookB l k = some v) : (k, v) ∈ l := by
  unfold lookB at h
  rcases hf : l.find? (fun p => decide (p.1 = k)) with _ | p
  · rw [hf] at h; cases h
  · rw [hf] at h
    have h1 := List.find?_some hf
    have h2 := List.mem_of_find?_eq_some hf
    simp only [Option.map_some, Option.some.injEq] at h
    rw [decide_eq_true_eq] at h1
    subst h1
    subst h
    exact h2
theorem lookB_cons (p : κ × β) (l : List (κ × β)) (k : κ) : lookB (p :: l) k = if p.1 = k then some p.2 else lookB l k := by
  unfold lookB
  rw [List.find?_cons]
  by_cases h : p.1 = k
  · rw [decide_eq_true h, if_pos h]; rfl
  · rw [decide_eq_false h, if_neg h]
theorem lookB_append (l m : List (κ × β)) (k : κ) : lookB (l ++ m) k = (lookB l k).or (lookB m k) := by
  unfold lookB
  rw [List.find?_append]
  generalize l.find? (fun p => decide (p.1 = k)) = a
  rcases a with _ | p <;> rfl
theorem lookB_upd (l : List (κ × β)) (k : κ) (v : β) (j : κ) : lookB (updB l k v) j = if j = k then some v else lookB l j := by
  unfold updB
  split
  · rename_i hk
    induction l with
    | nil => simp at hk
    | cons p l ih =>
      rw [List.map_cons]
      by_cases hp : p.1 = k
      · have e0 : (p.1 :: l.map (·.1)).idxOf k = 0 := by rw [List.idxOf_cons, hp]; simp
        rw [e0]
        show lookB ((k, v) :: l) j = _
        rw [lookB_cons, lookB_cons]
        dsimp only
        by_cases hj : j = k
        · rw [if_pos hj.symm, if_pos hj]
        · rw [if_neg (fun e => hj e.symm), if_neg hj, if_neg (by rw [hp]; exact fun e => hj e.symm)]
      · have e1 : (p.1 :: l.map (·.1)).idxOf k = (l.map (·.1)).idxOf k + 1 := idxOf_cons_ne _ hp
        have hk' : k ∈ l.map (·.1) := by
          rw [List.map_cons, List.mem_cons] at hk
          exact hk.resolve_left (fun e => hp e.symm)
        rw [e1]
        show lookB (p :: l.modify _ _) j = _
        rw [lookB_cons, lookB_cons, ih hk']
        by_cases hj : j = k
        · subst hj
          rw [if_neg hp, if_pos rfl, if_pos rfl]
        · rw [if_neg hj, if_neg hj]
  · rename_i hk
    rw [lookB_append, lookB_cons]
    by_cases hj : j = k
    · subst hj
      rw [lookB_none hk, if_pos rfl, if_pos rfl]; rfl
    · rw [if_neg (fun e => hj e.symm), if_neg hj]
      show (lookB l j).or none = _
      rw [Option.or_none]
theorem updB_keys (l : List (κ × β)) (k : κ) (v : β) : (updB l k v).map (·.1) = if k ∈ l.map (·.1) then l.map (·.1) else l.map (·.1) ++ [k] := by
  unfold updB
  split
  · rename_i hk
    apply List.ext_getElem?
    intro i
    rw [List.getElem?_map, List.getElem?_modify, List.getElem?_map]
    split
    · rename_i e
      rcases h : l[i]? with _ | p
      · rfl
      · show some k = some p.1
        have h1 : (l.map (·.1))[i]? = some p.1 := by rw [List.getElem?_map, h]; rfl
        have hlt := List.idxOf_lt_length_of_mem hk
        have h2 : (l.map (·.1))[(l.map (·.1)).idxOf k]? = some k := by rw [List.getElem?_eq_getElem hlt, List.getElem_idxOf hlt]
        rw [← e, h2] at h1
        exact h1
    · rcases l[i]? with _ | p <;> rfl
  · rw [List.map_append]; rfl
theorem updB_nodup {l : List (κ × β)} (h : (l.map (·.1)).Nodup) (k : κ) (v : β) : ((updB l k v).map (·.1)).Nodup := by
  rw [updB_keys]
  split
  · exact h
  · rename_i hk
    rw [List.nodup_append]
    exact ⟨h, by simp, fun a ha b hb e => by
      rw [List.mem_singleton] at hb
      subst hb
      subst e
      exact hk ha⟩
theorem lookB_get {l : List (κ × β)} (h : (l.map (·.1)).Nodup) {i : Nat} {p : κ × β} (hp : l[i]? = some p) : lookB l p.1 = some p.2 := by
  induction l generalizing i with
  | nil => simp at hp
  | cons q l ih =>
    rw [List.map_cons, List.nodup_cons] at h
    rw [lookB_cons]
    cases i with
    | zero =>
      simp at hp
      subst hp
      rw [if_pos rfl]
    | succ i =>
      have hp' : l[i]? = some p := by simpa using hp
      have hm : p.1 ∈ l.map (·.1) := List.mem_map_of_mem (List.mem_of_getElem? hp')
      rw [if_neg (fun e : q.1 = p.1 => h.1 (by rw [e]; exact hm))]
      exact ih h.2 hp'
end

section
variable {P : Program} {K : TypeId} {κ : Type} [DecidableEq κ] {enc : κ → Value}
theorem lookL_eq (l : List (κ × Value)) (k : κ) : lookL l k = lookB l k := rfl
theorem run_lookup_b (HK : KeyT P K enc) {T E : TypeId} (hT : P.underlying T = some (.map K E)) {z : Value} {w : World} (hz : (zeroValue E).run P w = .ok z w) {mb : Nat} {l : List (κ × Value)} (h : MapIs enc w mb l) (k : κ) (ok : Bool) :
    (Instr.lookup T (.map (some mb)) (enc k) ok).run P w = .ok (if ok then .tuple #[(lookB l k).getD z, .bool (lookB l k).isSome] else (lookB l k).getD z) w := run_lookup_is HK hT hz h k ok
theorem run_update_b (HK : KeyT P K enc) {T E : TypeId} (hT : P.underlying T = some (.map K E)) {w : World} {mb : Nat} {l : List (κ × Value)} (h : MapIs enc w mb l) (k : κ) (v : Value) :
    ∃ w', (Instr.mapUpdate T (.map (some mb)) (enc k) v).run P w = .ok () w' ∧ MapIs enc w' mb (updB l k v) ∧ w.grownBy w' (some mb) ∧ w'.heap.size = w.heap.size := by
  by_cases hk : k ∈ l.map (·.1)
  · obtain ⟨es, clock, h1, h2, h3⟩ := h
    have hf := HK.find w k es.toList (l.map (·.1)) (MapIs.keys (w := w) h2)
    have hg : (getObj mb).run P w = .ok (.map es clock) w := by simp [getObj, Sem.run, h1]
    have hl := lt_of_block h1
    have hkeys := MapIs.keys (w := w) h2
    have hix := List.idxOf_lt_length_of_mem hk
    have hat : es[(l.map (·.1)).idxOf k]?.map (·.key) = some (enc k) := by
      have e1 : (es.toList.map (·.key))[(l.map (·.1)).idxOf k]? = ((l.map (·.1)).map enc)[(l.map (·.1)).idxOf k]? := by rw [hkeys]
      rw [List.getElem?_map, List.getElem?_map, List.getElem?_eq_getElem hix, List.getElem_idxOf hix] at e1
      rw [← Array.getElem?_toList]
      simpa using e1
    have hkeep : (Instr.keyThatStays (((es[(l.map (·.1)).idxOf k]?).map (·.key)).getD (enc k)) (enc k)).run P w = .ok (enc k) w := by
      rw [hat]
      simp [Instr.keyThatStays, HK.same]
    refine ⟨{ w with heap := w.heap.setIfInBounds mb (.map (es.modify ((l.map (·.1)).idxOf k) fun e => { e with key := enc k, val := v }) clock) }, ?_, ⟨_, _, by simp [hl]; exact ⟨rfl, rfl⟩, ?_, ?_⟩, ⟨rfl, rfl, rfl, by simp, fun i _ hi => ?_⟩, by simp⟩
    · simp only [Instr.mapUpdate, Sem.run_bind, run_underlying hT, Result.andThen_ok, hg, HK.check, hf, hk, if_true, hkeep]
      simp [setObj, Sem.run, h1]
    · unfold updB
      rw [if_pos hk, Array.toList_modify]
      apply List.ext_getElem?
      intro i
      have e2 : (es.toList.map fun e => (e.key, e.val))[i]? = (l.map fun p => (enc p.1, p.2))[i]? := by rw [h2]
      rw [List.getElem?_map, List.getElem?_map] at e2
      rw [List.getElem?_map, List.getElem?_map, List.getElem?_modify, List.getElem?_modify]
      by_cases e : (l.map (·.1)).idxOf k = i
      · simp only [e, if_true]
        rcases hh : es.toList[i]? with _ | x <;> rcases hh2 : l[i]? with _ | p
        · rfl
        · rw [hh, hh2] at e2; cases e2
        · rw [hh, hh2] at e2; cases e2
        · rfl
      · simp only [e, if_false]
        simpa using e2
    · rw [Array.toList_modify]
      rw [← h3]
      apply List.ext_getElem?
      intro i
      rw [List.getElem?_map, List.getElem?_map, List.getElem?_modify]
      by_cases e : (l.map (·.1)).idxOf k = i
      · simp only [e, if_true]
        rcases es.toList[i]? with _ | x <;> rfl
      · simp only [e, if_false]
        rcases es.toList[i]? with _ | x <;> rfl
    · have : mb ≠ i := fun e => hi (by rw [e])
      simp [this]
  · have := run_update_new HK hT h k v hk
    unfold updB
    rw [if_neg hk]
    exact this

/-- The walk over the entries of the map: left i: entry number i is still to come. -/
def RngIs (enc : κ → Value) (w : World) (mb r : Nat) (l : List (κ × Value)) (left : Nat → Bool) : Prop :=
  ∃ es clock seen c0, w.heap[mb]? = some (.map es clock) ∧ es.toList.map (fun e => (e.key, e.val)) = l.map (fun p => (enc p.1, p.2)) ∧ es.toList.map (·.born) = List.range clock ∧
    w.heap[r]? = some (.mapIter (some mb) clock seen c0) ∧ clock ≤ c0 ∧ ∀ i, i < l.length → left i = !seen.contains i
theorem RngIs.map {w : World} {mb r : Nat} {l : List (κ × Value)} {left : Nat → Bool} (h : RngIs enc w mb r l left) : MapIs enc w mb l := by
  obtain ⟨es, clock, seen, c0, h1, h2, h3, _⟩ := h
  exact ⟨es, clock, h1, h2, h3⟩
theorem RngIs.lt {w : World} {mb r : Nat} {l : List (κ × Value)} {left : Nat → Bool} (h : RngIs enc w mb r l left) : r < w.heap.size := by
  obtain ⟨es, clock, seen, c0, h1, h2, h3, h4, _⟩ := h
  exact lt_of_block h4
theorem RngIs.ne {w : World} {mb r : Nat} {l : List (κ × Value)} {left : Nat → Bool} (h : RngIs enc w mb r l left) : r ≠ mb := by
  obtain ⟨es, clock, seen, c0, h1, h2, h3, h4, _⟩ := h
  intro e
  rw [e, h1] at h4; cases h4
theorem RngIs.of_block {w w' : World} {mb r : Nat} {l : List (κ × Value)} {left : Nat → Bool} (h : RngIs enc w mb r l left) (h1 : w'.heap[mb]? = w.heap[mb]?) (h2 : w'.heap[r]? = w.heap[r]?) : RngIs enc w' mb r l left := by
  obtain ⟨es, clock, seen, c0, a1, a2, a3, a4, a5⟩ := h
  exact ⟨es, clock, seen, c0, h1.trans a1, a2, a3, h2.trans a4, a5⟩
theorem map_len {es : Array MapEntry} {l : List (κ × Value)} (h : es.toList.map (fun e => (e.key, e.val)) = l.map (fun p => (enc p.1, p.2))) : es.toList.length = l.length := by
  have := congrArg List.length h
  simpa using this
theorem run_range_b {T E : TypeId} (hT : P.underlying T = some (.map K E)) {w : World} {mb : Nat} {l : List (κ × Value)} (h : MapIs enc w mb l) :
    ∃ w', (Instr.range T (.map (some mb))).run P w = .ok (.pointer (some ⟨w.heap.size, 0, none⟩)) w' ∧ RngIs enc w' mb w.heap.size l (fun _ => true) ∧ Below w.heap.size w w' ∧ w'.heap.size = w.heap.size + 1 := by
  have hlt := h.lt
  obtain ⟨es, clock, h1, h2, h3⟩ := h
  refine ⟨_, run_range_map w T K E mb es clock hT h1, ⟨es, clock, #[], clock, (Below.heap_alloc w _ mb hlt).trans h1, h2, h3, heap_alloc_new w _, Nat.le_refl _, fun i _ => by simp⟩, (Below.refl _ _).alloc (Nat.le_refl _) _, by simp⟩
theorem run_next_b {w : World} {mb r : Nat} {l : List (κ × Value)} {left : Nat → Bool} (h : RngIs enc w mb r l left) (ty : TypeId) :
    ((∀ i, i < l.length → left i = false) ∧ (Instr.next (.pointer (some ⟨r, 0, none⟩)) false ty).run P w = .ok (.tuple #[.bool false]) w) ∨
    ∃ i p w', i < l.length ∧ left i = true ∧ l[i]? = some p ∧ (Instr.next (.pointer (some ⟨r, 0, none⟩)) false ty).run P w = .ok (.tuple #[.bool true, enc p.1, p.2]) w' ∧ RngIs enc w' mb r l (fun j => left j && !decide (j = i)) ∧
      w.grownBy w' (some r) ∧ w'.heap.size = w.heap.size ∧ (Instr.entry (.pointer (some ⟨r, 0, none⟩))).run P w' = .ok (.tuple #[enc p.1, p.2]) w' := by
  have hne := h.ne
  obtain ⟨es, clock, seen, c0, hb, h2, h3, hr, hsc, hl⟩ := h
  have hlen := map_len h2
  have hclk : clock = l.length := by
    have := congrArg List.length h3
    rw [List.length_map, List.length_range, hlen] at this
    exact this.symm
  have hborn : ∀ (i : Nat) (x : MapEntry), es.toList[i]? = some x → x.born = i := fun i x hx => by
    have e1 : (es.toList.map (·.born))[i]? = (List.range clock)[i]? := by rw [h3]
    rw [List.getElem?_map, hx] at e1
    have hi : i < clock := by
      have := (List.getElem?_eq_some_iff.1 hx).1
      omega
    rw [List.getElem?_range hi] at e1
    simpa using e1
  have hold : ∀ x ∈ es.toList, x.born < clock := fun x hx => by
    obtain ⟨i, hi⟩ := List.getElem?_of_mem hx
    rw [hborn i x hi]
    have := (List.getElem?_eq_some_iff.1 hi).1
    omega
  rcases run_next_at (P := P) w ty r mb clock c0 seen es clock hr hb hold hsc with ⟨h0, hrun⟩ | ⟨e, he, w1, hal, hrun⟩
  · refine .inl ⟨fun i hi => ?_, hrun⟩
    rw [hl i hi]
    have hx : es.toList[i]? = some es.toList[i] := List.getElem?_eq_getElem (by omega)
    have := all_seen es seen h0 _ (List.getElem_mem (l := es.toList) (n := i) (by omega))
    rw [hborn i _ hx] at this
    rw [this]; rfl
  · obtain ⟨hem, hes⟩ := mem_left he
    obtain ⟨i, hi⟩ := List.getElem?_of_mem hem
    have hil : i < l.length := by have := (List.getElem?_eq_some_iff.1 hi).1; omega
    have hbi := hborn i e hi
    have hp : l[i]? = some l[i] := List.getElem?_eq_getElem hil
    have hkv : (e.key, e.val) = (enc l[i].1, l[i].2) := by
      have e1 : (es.toList.map fun e => (e.key, e.val))[i]? = (l.map fun p => (enc p.1, p.2))[i]? := by rw [h2]
      rw [List.getElem?_map, List.getElem?_map, hi, hp] at e1
      simpa using e1
    injection hkv with hk1 hk2
    have hr1 : w1.heap[r]? = some (.mapIter (some mb) clock seen c0) := by rcases hal with rfl | rfl <;> exact hr
    have hb1 : w1.heap[mb]? = some (.map es clock) := by rcases hal with rfl | rfl <;> exact hb
    have hset := Go.MapKept.heap_set (o' := .mapIter (some mb) clock (seen.push e.born) clock) hr1
    have hb' := (hset.2 mb (fun e1 => hne e1.symm)).trans hb1
    refine .inr ⟨i, l[i], _, hil, by rw [hl i hil, ← hbi, hes]; rfl, hp, by rw [← hk1, ← hk2]; exact hrun, ⟨es, clock, seen.push e.born, clock, hb', h2, h3, hset.1, Nat.le_refl _, fun j hj => ?_⟩, ?_, ?_, ?_⟩
    · show (left j && !decide (j = i)) = _
      rw [hl j hj, contains_push, hbi]
      cases seen.contains j
      · by_cases hji : j = i
        · subst hji; simp
        · simp [hji]
      · simp
    · rcases hal with rfl | rfl <;> exact ⟨rfl, rfl, rfl, by simp [ChangeMaps.setBlock], fun k _ hk => hset.2 k (fun e1 => hk (by rw [e1]))⟩
    · rcases hal with rfl | rfl <;> simp [ChangeMaps.setBlock]
    · rw [← hk1, ← hk2]
      refine run_entry_at _ r mb clock seen es clock e hset.1 hb' hem ?_
      rw [h3]
      exact List.nodup_range
/-- How many entries are still to come. -/
def cntLeft (n : Nat) (left : Nat → Bool) : Nat := ((List.range n).filter left).length
theorem cntLeft_less {n i : Nat} {left : Nat → Bool} (hi : i < n) (hl : left i = true) : cntLeft n (fun j => left j && !decide (j = i)) < cntLeft n left := by
  unfold cntLeft
  refine filter_less _ _ _ (fun x _ hx => ?_) ⟨i, List.mem_range.2 hi, hl, by simp⟩
  rw [Bool.and_eq_true] at hx
  exact hx.1
end
end Go.Proofs.Ytcmhginhfhiolaa
set_option linter.unusedVariables false
set_option linter.unusedSimpArgs false
namespace Go.Proofs.Ytcmhginhfhiolaa
open Go.RowKit
attribute [local go_sem] cell_alloc_old

abbrev Chn := List (Nat × Nat × List (Nat × Nat))
/-- c leads to a chain of divisions: of each the block, the block of its map, the map's entries. -/
def ChainC (enc : Nat → Value) (T : TypeId) (w : World) : Option Addr → Chn → Prop
  | c, [] => c = none
  | c, (cb, mb, l) :: rest => c = some ⟨cb, 0, none⟩ ∧ ∃ c', w.heap[cb]? = some (.cells #[.map (some mb), .pointer c'] T (0, 0)) ∧ MapIs enc w mb (valB enc l) ∧ (l.map (·.1)).Nodup ∧ (∀ p ∈ rest, p.2.1 ≠ mb) ∧ ChainC enc T w c' rest
def parC : Chn → Nat → Option Nat
  | [], _ => none
  | (_, _, l) :: rest, k => (lookB l k).or (parC rest k)
def InChain (ch : Chn) : Dom := fun b => ∃ p ∈ ch, b = p.1 ∨ b = p.2.1
theorem inChain1 (cb mb : Nat) (l : List (Nat × Nat)) (rest : Chn) : InChain ((cb, mb, l) :: rest) cb := ⟨(cb, mb, l), List.mem_cons_self, .inl rfl⟩
theorem inChain2 (cb mb : Nat) (l : List (Nat × Nat)) (rest : Chn) : InChain ((cb, mb, l) :: rest) mb := ⟨(cb, mb, l), List.mem_cons_self, .inr rfl⟩
theorem inChain3 {p : Nat × Nat × List (Nat × Nat)} {rest : Chn} {b : Nat} (h : InChain rest b) : InChain (p :: rest) b :=
  let ⟨q, hq, hb⟩ := h
  ⟨q, List.mem_cons_of_mem _ hq, hb⟩
section
variable {enc : Nat → Value} {T : TypeId} {w w' : World} {c : Option Addr} {ch rest : Chn} {cb mb : Nat} {l : List (Nat × Nat)}
theorem ChainC.keep : ∀ {ch : Chn} {c : Option Addr}, ChainC enc T w c ch → (∀ b, InChain ch b → b < w.heap.size → w'.heap[b]? = w.heap[b]?) → ChainC enc T w' c ch
  | [], _, h, _ => h
  | (cb, mb, l) :: rest, c, h, hk => by
    obtain ⟨e, c', h1, h2, h3, h4, h5⟩ := h
    refine ⟨e, c', (hk cb (inChain1 cb mb l rest) (lt_of_block h1)).trans h1, h2.of_block (hk mb (inChain2 cb mb l rest) h2.lt), h3, h4, h5.keep fun b hb hl => hk b (inChain3 hb) hl⟩
theorem ChainC.lt : ∀ {ch : Chn} {c : Option Addr}, ChainC enc T w c ch → ∀ b, InChain ch b → b < w.heap.size
  | [], _, _, b, ⟨p, hp, _⟩ => by cases hp
  | (cb, mb, l) :: rest, c, h, b, ⟨p, hp, hb⟩ => by
    obtain ⟨e, c', h1, h2, h3, h4, h5⟩ := h
    rcases List.mem_cons.1 hp with rfl | hp
    · rcases hb with rfl | rfl
      · exact lt_of_block h1
      · exact h2.lt
    · exact h5.lt b ⟨p, hp, hb⟩
theorem map_ne_cells {w : World} {mb cb : Nat} {lv : List (Nat × Value)} {cs : Array Value} {t : TypeId} {fr : Nat × Nat} (h : MapIs enc w mb lv) (hc : w.heap[cb]? = some (.cells cs t fr)) : cb ≠ mb := by
  rintro rfl
  obtain ⟨es, cl, h1, _⟩ := h
  rw [hc] at h1; cases h1
/-- The first map of the chain turns. -/
theorem ChainC.turn (h : ChainC enc T w c ((cb, mb, l) :: rest)) {l' : List (Nat × Nat)} (hg : w.grownBy w' (some mb)) (hm : MapIs enc w' mb (valB enc l')) (hn : (l'.map (·.1)).Nodup) : ChainC enc T w' c ((cb, mb, l') :: rest) := by
  obtain ⟨e, c', h1, h2, h3, h4, h5⟩ := h
  have hne := map_ne_cells h2 h1
  refine ⟨e, c', (hg.block cb (lt_of_block h1) (by simpa using hne)).trans h1, hm, hn, h4, ?_⟩
  have key : ∀ {ch : Chn} {c : Option Addr}, ChainC enc T w c ch → (∀ p ∈ ch, p.2.1 ≠ mb) → ∀ b, InChain ch b → b ≠ mb := by
    intro ch
    induction ch with
    | nil => rintro c _ _ b ⟨p, hp, _⟩; cases hp
    | cons p0 ch ih =>
      obtain ⟨cb0, mb0, l0⟩ := p0
      rintro c ⟨_, c1, g1, g2, _, _, g5⟩ hall b ⟨p, hp, hb⟩
      rcases List.mem_cons.1 hp with rfl | hp
      · rcases hb with rfl | rfl
        · exact map_ne_cells h2 g1
        · exact hall (cb0, b, l0) List.mem_cons_self
      · exact ih g5 (fun p hp => hall p (List.mem_cons_of_mem _ hp)) b ⟨p, hp, hb⟩
  exact h5.keep fun b hb hl => hg.block b hl (by simpa using key h5 h4 b hb)
theorem parC_upd (k v : Nat) : parC ((cb, mb, updB l k v) :: rest) k = some v ∧ ∀ j, j ≠ k → parC ((cb, mb, updB l k v) :: rest) j = parC ((cb, mb, l) :: rest) j := by
  constructor
  · show (lookB _ k).or _ = _
    rw [lookB_upd, if_pos rfl]; rfl
  · intro j hj
    show (lookB _ j).or _ = (lookB _ j).or _
    rw [lookB_upd, if_neg hj]
end
/-- Block cb is a division with root function f; its own map lies in block mb. -/
def Cls (enc : Nat → Value) (T : TypeId) (w : World) (cb mb : Nat) (rest : Chn) (f : Nat → Nat) : Prop :=
  ∃ l ht, ChainC enc T w (some ⟨cb, 0, none⟩) ((cb, mb, l) :: rest) ∧ Root (parC ((cb, mb, l) :: rest)) f ht
section
variable {enc : Nat → Value} {T : TypeId} {w w' : World} {rest : Chn} {cb mb : Nat} {f : Nat → Nat}
theorem Cls.keep (h : Cls enc T w cb mb rest f) (hk : ∀ b, b = cb ∨ b = mb ∨ InChain rest b → b < w.heap.size → w'.heap[b]? = w.heap[b]?) : Cls enc T w' cb mb rest f := by
  obtain ⟨l, ht, h1, h2⟩ := h
  refine ⟨l, ht, h1.keep fun b ⟨p, hp, hb⟩ hl => hk b ?_ hl, h2⟩
  rcases List.mem_cons.1 hp with rfl | hp
  · rcases hb with rfl | rfl
    · exact .inl rfl
    · exact .inr (.inl rfl)
  · exact .inr (.inr ⟨p, hp, hb⟩)
theorem Cls.below (h : Cls enc T w cb mb rest f) (hb : Below w.heap.size w w') : Cls enc T w' cb mb rest f := h.keep fun b _ hl => hb.block b hl
theorem Cls.lt (h : Cls enc T w cb mb rest f) : cb < w.heap.size ∧ mb < w.heap.size := by
  obtain ⟨l, ht, h1, h2⟩ := h
  exact ⟨h1.lt cb (inChain1 cb mb l rest), h1.lt mb (inChain2 cb mb l rest)⟩
theorem Cls.map0 (h : Cls enc T w cb mb rest f) : ∃ lv, MapIs enc w mb lv := by
  obtain ⟨l, ht, ⟨_, c', h1, h2, _⟩, _⟩ := h
  exact ⟨_, h2⟩
theorem Cls.cell0 (h : Cls enc T w cb mb rest f) : ∃ c', w.heap[cb]? = some (.cells #[.map (some mb), .pointer c'] T (0, 0)) := by
  obtain ⟨l, ht, ⟨_, c', h1, h2, _⟩, _⟩ := h
  exact ⟨_, h1⟩
theorem Cls.idem (h : Cls enc T w cb mb rest f) (k : Nat) : f (f k) = f k := by
  obtain ⟨l, ht, h1, h2⟩ := h
  exact h2.idem k
end

/-! Numbers. -/
def encI (q : Nat) : Value := .int .i64 (q : Int)
theorem int_check (e : Bool) (w : World) (q : Nat) : (Instr.checkKey e 10000 3 (encI q)).run Try.prog w = .ok () w := by kernel_rfl
theorem int_key : KeyT Try.prog 3 encI :=
  .of_now Try.underlying3 int_check (fun a b => by
    unfold encI
    simp [Instr.sameNow]
    rw [Bool.eq_iff_iff, beq_iff_eq, decide_eq_true_eq]; omega) (fun k => by simp [encI, Instr.sameBits])
end Go.Proofs.Ytcmhginhfhiolaa
