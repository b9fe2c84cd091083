/-
  TreeSets holds.
  Arguments opened: slices of ints, of moves; automata; what was read reads again behind a call that leaves old memory alone.
  Arguments opened: slices of nodes.
  A step depends on the automaton only through the states reached.
  Moves that a good one makes needless, left out, plain.
  The thinned automaton, plain.
  The thinned automaton is small too, plain.
  Good and gone nodes, plain: new nodes are never good.
  A thinned row step by step; memory that is read while rows of another type grow.
  The law TreeOrder's second automaton while it is made.
-/
import Derived.Test.YthhknonaebnooaaZ13
import Derived.ProofKit
import Derived.SizedLaws
import Derived.Deep.Slices
import Derived.Deep.SlicePairs
import Derived.Deep.Fields
import Derived.Lib.SmallJoins
import Derived.Test.YthhknonaebnooaaZ00
set_option linter.unusedVariables false
set_option linter.unusedSimpArgs false
namespace Go.Proofs.Ythhknonaebnooaa
open Go.RowKit

theorem step_newT {b : Bu} {t : List Nd} {a : Int} (h : treeB b t = true) (a0 : 0 ≤ a) (a1 : a < b.letters) : (stepF b t a).tree = newT b t a := step_tree h a0 a1
theorem step_sets {b : Bu} {t : List Nd} {s : List Int} {a : Int} (hok : SetsOk b t s) (a0 : 0 ≤ a) (a1 : a < b.letters) : SetsOk b (stepF b t a).tree (reachZ b s a false) := by
  obtain ⟨h, h0, hr⟩ := hok
  rw [step_newT h a0 a1]
  refine ⟨newT_tree h, ?_, fun hp => ?_⟩
  · rw [newT_len]
    rcases Nat.eq_zero_or_pos t.length with e | e
    · have hs : s = [] := by
        rw [decide_eq_true e] at h0
        exact List.eq_nil_of_length_eq_zero (of_decide_eq_true h0.symm)
      have e1 : (stays b t a).length = 0 := by unfold stays; rw [e]; rfl
      have e2 : (reachZ b s a false).length = 0 := by
        rw [hs]
        unfold reachZ
        rw [List.length_eq_zero_iff, List.filter_eq_nil_iff]
        intro x _
        simp [hitB]
      rw [decide_eq_true e1, decide_eq_true e2]
    · have hs := hr e
      have hroot := listL_root (a := a) h e
      rw [hs] at hroot
      have hst := stay_iff (a := a) h (i := 0) (by omega)
      rw [hroot] at hst
      by_cases hn : (reachZ b s a false).length = 0
      · have hnil := List.eq_nil_of_length_eq_zero hn
        have e1 : (stays b t a).length = 0 := by
          rcases Nat.eq_zero_or_pos (stays b t a).length with e1 | e1
          · exact e1
          · have := (stays_at e1).2
            rw [stays_zero h e1] at this
            exact absurd hnil (hst.1 this).1
        rw [decide_eq_true e1, decide_eq_true hn]
      · have hne : reachZ b s a false ≠ [] := fun e1 => hn (by rw [e1]; rfl)
        have hs0 : stay b t a 0 = true := hst.2 ⟨hne, fun h => absurd h (by omega)⟩
        have := (mks_at (m := stay b t a) (j := 0) (k := 2 * t.length) (by omega) hs0).1
        have e1 : ¬ (stays b t a).length = 0 := by unfold stays; omega
        rw [decide_eq_false e1, decide_eq_false hn]
  · rw [newT_len] at hp
    have h2 := (stays_at hp).1
    rw [newT_set hp, stays_zero h hp, listL_root h (by omega), hr (by omega)]
theorem start_ok {b : Bu} (h : buchiB b = true) : SetsOk b (startT b) b.start := by
  unfold startT
  rw [if_pos h]
  have hst : incB b.next.length b.start = true := by
    unfold buchiB at h
    simp only [Bool.and_eq_true] at h
    exact h.1.2
  by_cases e : b.start.length = 0
  · rw [if_pos e]
    refine ⟨?_, by rw [decide_eq_true e]; rfl, fun hp => absurd hp (by simp)⟩
    unfold treeB
    rw [h]
    simp [allN]
  · rw [if_neg e]
    have hl := start_len h
    refine ⟨?_, by rw [decide_eq_false e]; rfl, fun _ => rfl⟩
    unfold treeB
    rw [h, Bool.true_and, decide_eq_true (show [(⟨1, -1, b.start⟩ : Nd)].length ≤ b.next.length by simp; omega), Bool.true_and]
    refine allN_of fun k hk => ?_
    obtain rfl : k = 0 := by simpa using hk
    rw [nodeB_eq]
    unfold n1B
    simp only [Bool.and_eq_true]
    have e0 : nd [(⟨1, -1, b.start⟩ : Nd)] 0 = ⟨1, -1, b.start⟩ := rfl
    refine ⟨⟨⟨hdB_iff.2 ?_, allN_of fun j hj => stB_iff.2 ?_⟩, allN_of fun j hj => absurd hj (by omega)⟩, ?_⟩
    · rw [e0]
      exact ⟨Int.le_refl _, by show (1 : Int) ≤ 2 * _; omega, by show 0 < b.start.length; omega, fun _ => rfl, fun h => absurd h (by omega)⟩
    · rw [e0] at hj ⊢
      have hj : j < b.start.length := hj
      have h1 := allN_true.1 hst j hj
      unfold incAt at h1
      simp only [Bool.and_eq_true, Bool.or_eq_true, decide_eq_true_eq] at h1
      exact ⟨h1.1.1, h1.1.2, fun h0 => h1.2.resolve_left (by omega), fun h => absurd h (by omega)⟩
    · unfold n2B
      rw [e0]
      refine decide_eq_true ?_
      show (unionZ [(⟨1, -1, b.start⟩ : Nd)] 0).length < b.start.length
      simp [unionZ]
      omega
theorem sets_law {b : Bu} {l : List Int} (h : rightB b l = true) : ∀ i, i ≤ l.length → SetsOk b (treeAt b l i) (setAtI b l i)
  | 0, _ => start_ok (right_buchi h)
  | i + 1, hi => by
    have hl := right_let h (i := i) (by omega)
    exact step_sets (sets_law h i (by omega)) hl.1 hl.2
theorem sets_true {D E : Dom} (v : Value) (b : Bu) (A : Option Addr) (c : Nat) (l : List Int) (w : World) (h : RdBu w D v b) (hl : RdI w E A c l) :
    Calls Try.prog 4 #[v, .slice A l.length c] w fun e w' => e = .returned (.bool true) ∧ Below w.heap.size w w' := sets_any v b A c l w h hl sets_law
end Go.Proofs.Ythhknonaebnooaa
set_option linter.unusedVariables false
set_option linter.unusedSimpArgs false
namespace Go.Proofs.Ythhknonaebnooaa
open Go.ChangeShapes Go.WideShapes Go.RowKit Go.Deep Go.Joins

theorem Try.cells_int : Try.prog.cellsOf 3 = 1 := by kernel_rfl
theorem Try.bytes_int : Try.prog.bytesOf 3 = 8 := by kernel_rfl
theorem Try.cells_ints : Try.prog.cellsOf 22 = 1 := by kernel_rfl
theorem Try.bytes_ints : Try.prog.bytesOf 22 = 24 := by kernel_rfl

/-- The data's slices are within the reach. -/
def Light {H : Type} (P : Program) (t : TypeId) (d : DataW H) : Prop := (d.weights P t).all (· ≤ reachBytes) = true
theorem light_at {H : Type} {P : Program} {ts : List TypeId} {ds : List (DataW H)} (h : (DataW.weightsEach P ts ds).all (· ≤ reachBytes) = true) {j : Nat} {t : TypeId} {d : DataW H} (ht : ts[j]? = some t) (hd : ds[j]? = some d) : Light P t d := by
  unfold Light
  rw [List.all_eq_true] at h ⊢
  exact fun n hn => h n (DataW.weights_mem_each ht hd n hn)
theorem light_slice {H : Type} {P : Program} {t e : TypeId} {elems spare : List (DataW H)} (hu : P.underlying t = some (.slice e)) (h : Light P t (.slice elems spare)) :
    (elems.length + spare.length) * P.bytesOf e ≤ reachBytes ∧ ∀ d ∈ elems, Light P e d := by
  unfold Light at h
  simp only [DataW.weights, hu, List.all_cons, Bool.and_eq_true, decide_eq_true_eq, List.all_append] at h
  refine ⟨h.1, fun d hd => ?_⟩
  have key : ∀ (l : List (DataW H)), (DataW.weightsAll P e l).all (· ≤ reachBytes) = true → ∀ d ∈ l, Light P e d := by
    intro l
    induction l with
    | nil => intro _ d hd; cases hd
    | cons x l ih =>
      intro hl d hd
      simp only [DataW.weightsAll, List.all_append, Bool.and_eq_true] at hl
      rcases List.mem_cons.1 hd with rfl | hd
      · exact hl.1
      · exact ih hl.2 d hd
  exact key elems h.2.1 d hd

section
variable {H : Type} {enc : TypeId × Value → H} {w : World} {base : Nat} {held : Bool}
theorem plain_addr {a : Addr} {u : Value} (h : w.cell? (a.add 0) = some u) : a = ⟨a.block, a.off, none⟩ ∧ a.block < w.heap.size := by
  have h0 : a.add 0 = a := by unfold Addr.add; simp
  rw [h0] at h
  refine ⟨?_, World.block_lt_of_cell? w a h⟩
  obtain ⟨b, o, s⟩ := a
  cases s with
  | none => rfl
  | some s =>
    unfold World.cell? at h
    split at h <;> simp at h
theorem add_at (b o k : Nat) : (⟨b, o, none⟩ : Addr).add k = ⟨b, o + k, none⟩ := by
  unfold Addr.add
  by_cases h : k = 0 <;> simp [h]

/-- A slice of ints that came in. -/
theorem open_I {n : Nat} {v : Value} {y : DataW H × List MemPlace} (h : DataW.trod enc Try.prog w base (fun _ => true) held n 22 [v] = some y) (hl : Light Try.prog 22 y.1) :
    ∃ (A : Option Addr) (c : Nat) (xs : List Int), v = .slice A xs.length c ∧ RdI w (· < w.heap.size) A c xs := by
  rcases open_ints Try.underlying22 Try.underlying3 Try.cells_int h with ⟨hv, rfl⟩ | ⟨a, len, cap, zs, hv, hb, hlc, hcm, hz, rfl, hcell, _⟩
  · obtain rfl : v = .slice none 0 0 := by simpa using hv
    exact ⟨none, 0, [], rfl, RdI.nil _ _ _ (by omega)⟩
  · obtain rfl : v = .slice (some a) len cap := by simpa using hv
    simp only [if_true] at hz
    have h8 := (light_slice Try.underlying22 hl).1
    rw [Try.bytes_int] at h8
    simp only [lits, List.length_map, List.length_take, List.length_drop, reachBytes] at h8
    have hxl : (zs.take len).length = len := by rw [List.length_take]; omega
    refine ⟨some a, cap, zs.take len, by rw [hxl], ⟨⟨by simp, by rw [hxl]; omega, by rw [hxl]; exact hlc, hcm⟩, fun hn => ?_⟩⟩
    rw [hxl] at hn
    obtain ⟨ha, hlt⟩ := plain_addr (hcell 0 (by omega))
    refine ⟨a.block, a.off, by rw [← ha], hlt, hlt, fun j u hu => ?_⟩
    rw [List.getElem?_map] at hu
    have hj : j < len := by
      rcases Nat.lt_or_ge j len with h | h
      · exact h
      · rw [List.getElem?_eq_none (by rw [hxl]; exact h)] at hu; cases hu
    have := hcell j (by omega)
    rw [ha, add_at] at this
    rw [this]
    rw [List.getElem?_take, if_pos hj, List.getElem?_eq_getElem (by omega)] at hu
    simp only [Option.map_some, Option.some.injEq] at hu
    rw [← hu]
    simp [List.getD, show j < zs.length by omega]
theorem getD_snoc_o {α : Type} (l : List α) (x d : α) (j : Nat) : (l ++ [x]).getD j d = if j < l.length then l.getD j d else if j = l.length then x else d := by
  simp only [List.getD, List.getElem?_append]
  split
  · rfl
  · split
    · rename_i h h2; subst h2; simp
    · rename_i h h2
      rw [List.getElem?_eq_none (by simp; omega)]; rfl
theorem exists_list {α : Type} (d : α) {n : Nat} {P : Nat → α → Prop} (h : ∀ i, i < n → ∃ x, P i x) : ∃ l : List α, l.length = n ∧ ∀ i, i < n → P i (l.getD i d) := by
  induction n with
  | zero => exact ⟨[], rfl, fun i hi => absurd hi (Nat.not_lt_zero _)⟩
  | succ n ih =>
    obtain ⟨l, hl, hp⟩ := ih (fun i hi => h i (by omega))
    obtain ⟨x, hx⟩ := h n (by omega)
    refine ⟨l ++ [x], by simp [hl], fun i hi => ?_⟩
    rw [getD_snoc_o, hl]
    split
    · exact hp i ‹_›
    · rw [if_pos (by omega)]
      obtain rfl : i = n := by omega
      exact hx
theorem light_agg {P : Program} {t : TypeId} {fs : Array Field} {parts : List (DataW H)} (hu : P.underlying t = some (.struct fs)) (h : Light P t (.agg parts)) {j : Nat} {f : Field} {d : DataW H} (hf : fs[j]? = some f) (hd : parts[j]? = some d) : Light P f.type d := by
  unfold Light at h
  simp only [DataW.weights, hu] at h
  exact light_at h (j := j) (by simp [hf]) hd
/-- A slice of ints that came in as an argument. -/
theorem open_IT {v : Value} {d : DataW H} {p : List MemPlace} (hc : v.cells = #[v]) (h : DataW.Trod enc Try.prog w base (fun _ => true) held 22 v d p) (hl : Light Try.prog 22 d) :
    ∃ (A : Option Addr) (c : Nat) (xs : List Int), v = .slice A xs.length c ∧ RdI w (· < w.heap.size) A c xs := by
  obtain ⟨n, hn⟩ := h
  rw [hc] at hn
  exact open_I hn hl
end

theorem Try.cells_bool : Try.prog.cellsOf 4 = 1 := by kernel_rfl
theorem Try.bytes_bool : Try.prog.bytesOf 4 = 1 := by kernel_rfl
section
variable {H : Type} {enc : TypeId × Value → H} {w : World} {base : Nat} {held : Bool}
/-- A slice of one-cell elements that came in. -/
theorem open_one {t e : TypeId} {n : Nat} {v : Value} {y : DataW H × List MemPlace} (ht : Try.prog.underlying t = some (.slice e)) (hc : Try.prog.cellsOf e = 1) (hby : 1 ≤ Try.prog.bytesOf e) (h : DataW.trod enc Try.prog w base (fun _ => true) held n t [v] = some y) (hl : Light Try.prog t y.1) :
    ∃ (A : Option Addr) (c : Nat) (vs : List Value), v = .slice A vs.length c ∧ Rd w (· < w.heap.size) 1 A vs.length c vs ∧ ∀ (i : Nat) (u : Value), vs[i]? = some u → ∃ (k : Nat) (z : DataW H × List MemPlace), DataW.trod enc Try.prog w base (fun _ => true) held k e [u] = some z ∧ Light Try.prog e z.1 := by
  rcases open_slice1 ht hc h with ⟨hv, rfl⟩ | ⟨a, len, cap, m, k, V, D, Pl, hv, hb, hlc, hcm, hmm, rfl, hx⟩
  · obtain rfl : v = .slice none 0 0 := by simpa using hv
    exact ⟨none, 0, [], rfl, Rd.nil _ _ 1 _ (by omega), fun i u hu => by simp at hu⟩
  · obtain rfl : v = .slice (some a) len cap := by simpa using hv
    simp only [if_true] at hmm
    obtain rfl : cap = m := hmm.symm
    obtain ⟨h8, hin⟩ := light_slice ht hl
    simp only [List.length_map, List.length_range, reachBytes] at h8
    have h9 : len + (cap - len) ≤ (len + (cap - len)) * Try.prog.bytesOf e := Nat.le_mul_of_pos_right _ hby
    have hvl : ((List.range len).map V).length = len := by simp
    refine ⟨some a, cap, (List.range len).map V, by rw [hvl], ⟨⟨by simp, by rw [hvl]; omega, by rw [hvl]; exact hlc, hcm⟩, fun hn => ?_⟩, fun i u hu => ?_⟩
    · rw [hvl] at hn
      obtain ⟨ha, hlt⟩ := plain_addr (hx 0 (by omega)).1
      refine ⟨a.block, a.off, by rw [← ha], hlt, hlt, fun j u hu => ?_⟩
      have hj : j < len := by
        rcases Nat.lt_or_ge j len with h | h
        · exact h
        · rw [List.getElem?_eq_none (by rw [hvl]; exact h)] at hu; cases hu
      have := (hx j (by omega)).1
      rw [ha, add_at] at this
      rw [this]
      simpa [hj] using hu
    · have hj : i < len := by
        rcases Nat.lt_or_ge i len with h | h
        · exact h
        · rw [List.getElem?_eq_none (by rw [hvl]; exact h)] at hu; cases hu
      have hu2 : V i = u := by simpa [hj] using hu
      exact ⟨k, _, by rw [← hu2]; exact (hx i (by omega)).2, hin _ (List.mem_map.2 ⟨i, by simp [hj], rfl⟩)⟩
theorem flat_size {α : Type} (f : α → List Value) (s : Nat) (hf : ∀ x, (f x).length = s) (l : List α) : (l.flatMap f).length = l.length * s := by
  induction l with
  | nil => simp
  | cons x l ih => rw [List.flatMap_cons, List.length_append, hf, ih, List.length_cons, Nat.add_mul, Nat.one_mul]; omega
theorem Try.cells_move : Try.prog.cellsOf 54 = 2 := by kernel_rfl
theorem Try.bytes_move : Try.prog.bytesOf 54 = 16 := by kernel_rfl
theorem Try.cells_moves : Try.prog.cellsOf 52 = 1 := by kernel_rfl
theorem Try.bytes_moves : Try.prog.bytesOf 52 = 24 := by kernel_rfl
theorem Try.cells_mrows : Try.prog.cellsOf 51 = 1 := by kernel_rfl
theorem Try.bytes_mrows : Try.prog.bytesOf 51 = 24 := by kernel_rfl
theorem Try.cells_buchi : Try.prog.cellsOf 25 = 3 := by kernel_rfl
/-- A slice of moves that came in. -/
theorem open_V {n : Nat} {v : Value} {y : DataW H × List MemPlace} (h : DataW.trod enc Try.prog w base (fun _ => true) held n 52 [v] = some y) (hl : Light Try.prog 52 y.1) :
    ∃ (A : Option Addr) (c : Nat) (gs : List Mv), v = .slice A gs.length c ∧ RdV w (· < w.heap.size) A c gs := by
  rcases open_slice_pairs Try.underlying52 Try.underlying54 Try.cells_move rfl rfl Try.cells_int Try.cells_bool h with ⟨hv, rfl⟩ | ⟨a, len, cap, m, k, V0, V1, D0, D1, P0, P1, hv, hb, hlc, hcm, hmm, rfl, hx⟩
  · obtain rfl : v = .slice none 0 0 := by simpa using hv
    exact ⟨none, 0, [], rfl, Rd.nil _ _ 2 _ (by omega)⟩
  · obtain rfl : v = .slice (some a) len cap := by simpa using hv
    simp only [if_true] at hmm
    obtain rfl : cap = m := hmm.symm
    obtain ⟨h8, -⟩ := light_slice Try.underlying52 hl
    rw [Try.bytes_move] at h8
    simp only [List.length_map, List.length_range, reachBytes] at h8
    have each : ∀ i, i < len → ∃ g : Mv, w.cell? (a.add (i * 2)) = some (.int .i64 g.dst) ∧ w.cell? (a.add (i * 2 + 1)) = some (.bool g.good) := by
      intro i hi
      obtain ⟨h0, h1, t0, t1⟩ := hx i (by omega)
      obtain ⟨z, hz, _⟩ := DataW.trod_int Try.underlying3 t0
      obtain ⟨q, hq, _⟩ := DataW.trod_bool Try.underlying4 t1
      have hz : V0 i = .int .i64 z := by simpa using hz
      have hq : V1 i = .bool q := by simpa using hq
      exact ⟨⟨z, q⟩, by rw [h0, hz], by rw [h1, hq]⟩
    obtain ⟨gs, hgl, hg⟩ := exists_list default each
    have hfl : (gs.flatMap vcells).length = gs.length * 2 := flat_size vcells 2 (fun _ => rfl) gs
    refine ⟨some a, cap, gs, by rw [hgl], ⟨⟨hfl, by omega, by omega, hcm⟩, fun hn => ?_⟩⟩
    rw [hgl] at hn
    obtain ⟨ha, hlt⟩ := plain_addr (by simpa using (hg 0 hn).1)
    refine ⟨a.block, a.off, by rw [← ha], hlt, hlt, fun j u hu => ?_⟩
    have hjl : j < gs.length * 2 := by
      rcases Nat.lt_or_ge j (gs.length * 2) with h | h
      · exact h
      · rw [List.getElem?_eq_none (by rw [hfl]; exact h)] at hu; cases hu
    obtain ⟨q, r, rfl, hr⟩ : ∃ q r, j = q * 2 + r ∧ r < 2 := ⟨j / 2, j % 2, by omega, by omega⟩
    rw [flat_at default vcells 2 (fun _ => rfl) gs q r (by omega) hr] at hu
    obtain ⟨c0, c1⟩ := hg q (by omega)
    rw [ha, add_at] at c0 c1
    match r, hr with
    | 0, _ => simp [vcells] at hu; subst hu; exact c0
    | 1, _ => simp [vcells] at hu; subst hu; exact c1
/-- A slice of slices that came in. -/
theorem open_of {α : Type} {R : World → Dom → Option Addr → Nat → List α → Prop} {t e : TypeId} (ht : Try.prog.underlying t = some (.slice e)) (hc : Try.prog.cellsOf e = 1) (hby : 1 ≤ Try.prog.bytesOf e)
    (ho : ∀ (n : Nat) (v : Value) (y : DataW H × List MemPlace), DataW.trod enc Try.prog w base (fun _ => true) held n e [v] = some y → Light Try.prog e y.1 → ∃ (A : Option Addr) (c : Nat) (r : List α), v = .slice A r.length c ∧ R w (· < w.heap.size) A c r)
    {n : Nat} {v : Value} {y : DataW H × List MemPlace} (h : DataW.trod enc Try.prog w base (fun _ => true) held n t [v] = some y) (hl : Light Try.prog t y.1) :
    ∃ (A : Option Addr) (c : Nat) (rows : List (List α)), v = .slice A rows.length c ∧ RdOf R w (· < w.heap.size) A c rows := by
  obtain ⟨A, c, vs, rfl, hr, he⟩ := open_one ht hc hby h hl
  obtain ⟨rows, hrl, hz⟩ := exists_list ([] : List α) (n := vs.length) (P := fun i r => ∃ A' c', vs[i]? = some (.slice A' r.length c') ∧ R w (· < w.heap.size) A' c' r) fun i hi => by
    obtain ⟨k, z, ht, hlz⟩ := he i vs[i] (List.getElem?_eq_getElem hi)
    obtain ⟨A', c', r, e, hb⟩ := ho _ _ _ ht hlz
    exact ⟨r, A', c', by rw [List.getElem?_eq_getElem hi, e], hb⟩
  refine ⟨A, c, rows, by rw [hrl], vs, by rw [hrl]; exact hr, fun i hi => hz i (by omega)⟩
/-- A struct of three one-cell fields. -/
theorem open_three {r : Reach} {b0 : Nat} {P : Program} {spare : Nat → Bool} {t : TypeId} {f0 f1 f2 : Field} {v : Value} {d : DataW H} {p : List MemPlace} (hs : P.underlying t = some (.struct #[f0, f1, f2])) (hone : oneCellFields P #[f0, f1, f2] = true) (hC : P.cellsOf t = 3)
    (hv : Value.okWide P w r b0 t v) (h : DataW.Trod enc P w base spare held t v d p) :
    ∃ (v0 v1 v2 : Value) (y0 y1 y2 : DataW H × List MemPlace) (n : Nat), v = .agg #[v0, v1, v2] ∧ d = .agg [y0.1, y1.1, y2.1] ∧
      DataW.trod enc P w base spare held n f0.type [v0] = some y0 ∧ DataW.trod enc P w base spare held n f1.type [v1] = some y1 ∧ DataW.trod enc P w base spare held n f2.type [v2] = some y2 := by
  obtain ⟨cs, rfl, hsz⟩ := okWide_struct hs hv
  obtain ⟨l⟩ := cs
  match l, hsz.trans hC with
  | [c0, c1, c2], _ =>
    obtain ⟨fuel, hf⟩ := h
    obtain ⟨xs, n, _, hx, _, hlen, hg⟩ := DataW.trod_struct hs hf
    obtain ⟨o0, k0⟩ := hone_of hone 0 f0 rfl
    obtain ⟨o1, k1⟩ := hone_of hone 1 f1 rfl
    obtain ⟨o2, k2⟩ := hone_of hone 2 f2 rfl
    match xs, hlen with
    | [y0, y1, y2], _ =>
      simp only [Prod.mk.injEq] at hx
      exact ⟨c0, c1, c2, y0, y1, y2, n, rfl, by simpa using hx.1, by simpa [Value.cells, o0, k0] using hg 0 f0 rfl, by simpa [Value.cells, o1, k1] using hg 1 f1 rfl, by simpa [Value.cells, o2, k2] using hg 2 f2 rfl⟩
set_option maxRecDepth 100000 in
/-- An automaton that came in. -/
theorem open_U {r : Reach} {b0 : Nat} {v : Value} {d : DataW H} {p : List MemPlace} (hv : Value.okWide Try.prog w r b0 25 v) (h : DataW.Trod enc Try.prog w base (fun _ => true) held 25 v d p) (hl : Light Try.prog 25 d) :
    ∃ b : Bu, RdBu w (· < w.heap.size) v b := by
  obtain ⟨v0, v1, v2, y0, y1, y2, n, rfl, rfl, h0, h1, h2⟩ := open_three Try.underlying25 (by kernel_rfl) Try.cells_buchi hv h
  obtain ⟨z0, hz0, -⟩ := DataW.trod_int Try.underlying3 h0
  obtain rfl : v0 = .int .i64 z0 := by simpa using hz0
  obtain ⟨A1, c1, st, rfl, r1⟩ := open_I h1 (light_agg Try.underlying25 hl (j := 1) rfl rfl)
  obtain ⟨A2, c2, nx, rfl, r2⟩ := open_of (R := RdVV) Try.underlying23 Try.cells_mrows (by rw [Try.bytes_mrows]; omega)
    (fun _ _ _ ht hl => open_of (R := RdV) Try.underlying51 Try.cells_moves (by rw [Try.bytes_moves]; omega) (fun _ _ _ ht hl => open_V ht hl) ht hl) h2 (light_agg Try.underlying25 hl (j := 2) rfl rfl)
  exact ⟨⟨z0, st, nx⟩, A1, c1, A2, c2, rfl, r1, r2⟩
end
theorem Try.own : ownKnob Try.prog.godebug = none := by kernel_rfl
theorem Try.laidOut : laidOutB Try.prog = true := by kernel_rfl
/-- What was read reads again behind a call that leaves old memory alone. -/
theorem reads_again {H : Type} {enc : TypeId × Value → H} {W W' : World} {sp : Nat → Bool} {t : TypeId} {v : Value} {d : DataW H} {ps : List MemPlace} (hl : laidOutB Try.prog = true) (hr : Try.prog.readableRec t = true) (hrow : t < Try.prog.types.size)
    (h : DataW.Trod enc Try.prog W 0 (fun _ => true) true t v d ps) (hb : Below W.heap.size W W') (hlt : ∀ x ∈ ps, x.block < W.heap.size) (hsp : ∀ x ∈ ps, sp x.block = true) : DataW.Trod enc Try.prog W' 0 sp true t v d ps :=
  WideElems.Trod_stays hl hr hrow h (fun x hx => hb.same (hlt x hx)) hsp
theorem post_of_below {H : Type} {enc : TypeId × Value → H} {P : Program} {f : Func} {s : ChangeSpec} {apart fresh handsOn again : Bool} {W W' : World} {args : Array Value} {v : Value} {ds gs : List (DataW H)} {before pa pv : List MemPlace}
    (hW : DataW.Whole enc P f.params.toList s.vars apart W args.toList ds gs before)
    (hres : ∀ (b : Nat) (sp : Nat → Bool) (hd : Bool), DataW.TrodAll enc P W' b sp hd f.resultTypes.toList (v.resultList f.resultTypes.size) (s.fn H (ds ++ gs)).results [])
    (hargs : ∀ sp : Nat → Bool, (∀ p ∈ before, sp p.block = true) → DataW.TrodAll enc P W' 0 sp true f.params.toList args.toList (s.fn H (ds ++ gs)).args pa)
    (hvars : ∀ sp : Nat → Bool, (∀ p ∈ before, sp p.block = true) → DataW.TrodVars enc P W' sp s.vars (s.fn H (ds ++ gs)).vars pv)
    (hps : before = pa ++ pv) (hb : Below W.heap.size W W')
    (hok : ∀ (j : Nat) (t : TypeId) (r : Value), f.resultTypes[j]? = some t → (v.resultList f.resultTypes.size)[j]? = some r → Value.okWide P W' .any 0 t r) :
    s.post enc P f apart fresh handsOn again W args v W' := by
  have hlt : ∀ p ∈ before, p.block < W.heap.size := fun p hp => hW.lt p hp
  have hold : ∀ p ∈ before, (fun b => decide (b < W.heap.size)) p.block = true := fun p hp => by simpa using hlt p hp
  refine ⟨ds, gs, before, [], pa, pv, hW, hres _ _ _, hargs _ hold, hvars _ hold, World.keptBut_mono (fun p hp => ⟨hp, ?_⟩) (hb.frame (· ∈ before)), fun _ => ?_⟩
  · rw [hps, List.mem_append] at hp
    exact Or.inr hp
  · obtain ⟨_, _, _, _, _, hz, hn⟩ := hW
    refine ⟨hok, _, _, ([] ++ pa) ++ pv, ⟨[] ++ pa, pv, trodAll_append (hargs _ (fun _ _ => rfl)) (hres _ _ _), hvars _ (fun _ _ => rfl), rfl, ?_, ?_⟩, ?_⟩
    · intro b off hp
      have hin : MemPlace.cell b off ∈ before := by rw [hps]; simpa using hp
      rw [hb.frozen (hlt _ hin)]
      exact hz b off hin
    · intro ha
      have := hn ha
      rw [hps] at this
      simpa using this
    · intro p hp _
      rw [hps]
      simpa using hp
end Go.Proofs.Ythhknonaebnooaa
set_option linter.unusedVariables false
set_option linter.unusedSimpArgs false
namespace Go.Proofs.Ythhknonaebnooaa
open Go.ChangeShapes Go.WideShapes Go.RowKit Go.Deep Go.Joins

theorem Try.cells_node : Try.prog.cellsOf 43 = 3 := by kernel_rfl
theorem Try.bytes_node : Try.prog.bytesOf 43 = 40 := by kernel_rfl
section
variable {H : Type} {enc : TypeId × Value → H} {w : World} {base : Nat} {held : Bool}
theorem zip_parts {α β : Type} : ∀ l : List (α × β), (l.map Prod.fst).zip (l.map Prod.snd) = l
  | [] => rfl
  | x :: l => by simp [zip_parts l]
set_option maxRecDepth 100000 in
/-- A slice of nodes that came in. -/
theorem open_N {n : Nat} {v : Value} {y : DataW H × List MemPlace} (h : DataW.trod enc Try.prog w base (fun _ => true) held n 26 [v] = some y) (hl : Light Try.prog 26 y.1) :
    ∃ (A : Option Addr) (c : Nat) (t : List Nd), v = .slice A t.length c ∧ RdN w (· < w.heap.size) A c t := by
  rcases open_slice Try.underlying26 h with ⟨hv, rfl⟩ | ⟨a, len, cap, m, k, D, Pl, hv, hb, hlc, hcm, hmm, rfl, hx⟩
  · obtain rfl : v = .slice none 0 0 := by simpa using hv
    exact ⟨none, 0, [], rfl, RdN.nil _ _ _ (by omega)⟩
  · obtain rfl : v = .slice (some a) len cap := by simpa using hv
    simp only [if_true] at hmm
    obtain rfl : cap = m := hmm.symm
    obtain ⟨h8, hin⟩ := light_slice Try.underlying26 hl
    rw [Try.bytes_node] at h8
    simp only [List.length_map, List.length_range, reachBytes] at h8
    rw [Try.cells_node] at hx
    have each : ∀ i, i < len → ∃ q : Nd × (Option Addr × Nat), w.cell? (a.add (i * 3)) = some (.int .i64 q.1.name) ∧ w.cell? (a.add (i * 3 + 1)) = some (.int .i64 q.1.parent) ∧ w.cell? (a.add (i * 3 + 2)) = some (.slice q.2.1 q.1.set.length q.2.2) ∧ RdI w (· < w.heap.size) q.2.1 q.2.2 q.1.set := by
      intro i hi
      obtain ⟨cs', hc, ht'⟩ := hx i (by omega)
      obtain ⟨_, hcl, hat⟩ := World.cells?_some hc
      obtain ⟨xs, k', _, hxy, _, hyl, hf⟩ := DataW.trod_struct Try.underlying43 ht'
      match xs, hyl, cs', hcl with
      | [y0, y1, y2], _, [v0, v1, v2], _ =>
        have g0 : DataW.trod enc Try.prog w base (fun _ => true) held k' 3 [v0] = some y0 := by
          have := hf 0 _ rfl
          change DataW.trod enc Try.prog w base (fun _ => true) held k' 3 (([v0, v1, v2].drop 0).take (Try.prog.cellsOf 3)) = some y0 at this
          rw [Try.cells_int] at this
          simpa using this
        have g1 : DataW.trod enc Try.prog w base (fun _ => true) held k' 3 [v1] = some y1 := by
          have := hf 1 _ rfl
          change DataW.trod enc Try.prog w base (fun _ => true) held k' 3 (([v0, v1, v2].drop 1).take (Try.prog.cellsOf 3)) = some y1 at this
          rw [Try.cells_int] at this
          simpa using this
        have g2 : DataW.trod enc Try.prog w base (fun _ => true) held k' 22 [v2] = some y2 := by
          have := hf 2 _ rfl
          change DataW.trod enc Try.prog w base (fun _ => true) held k' 22 (([v0, v1, v2].drop 2).take (Try.prog.cellsOf 22)) = some y2 at this
          rw [Try.cells_ints] at this
          simpa using this
        simp only [Prod.mk.injEq] at hxy
        have hD : D i = .agg [y0.1, y1.1, y2.1] := by simpa using hxy.1
        have hli := hin (D i) (List.mem_map.2 ⟨i, by simp [hi], rfl⟩)
        rw [hD] at hli
        obtain ⟨z0, hz0, _⟩ := DataW.trod_int Try.underlying3 g0
        obtain ⟨z1, hz1, _⟩ := DataW.trod_int Try.underlying3 g1
        obtain ⟨A2, c2, s2, e2, r2⟩ := open_I g2 (light_agg Try.underlying43 hli (j := 2) rfl rfl)
        have e0 : v0 = .int .i64 z0 := by simpa using hz0
        have e1 : v1 = .int .i64 z1 := by simpa using hz1
        have c0 := hat 0 (by omega)
        have c1 := hat 1 (by omega)
        have c2' := hat 2 (by omega)
        rw [Go.Deep.add_add] at c0 c1 c2'
        exact ⟨(⟨z0, z1, s2⟩, (A2, c2)), by simpa [e0] using c0, by simpa [e1] using c1, by simpa [e2] using c2', r2⟩
    obtain ⟨qs, hgl, hg⟩ := exists_list (default, (none, 0)) each
    have hz : (qs.map Prod.fst).zip (qs.map Prod.snd) = qs := zip_parts qs
    have hfl : (qs.flatMap fun p => ncells p.1 p.2).length = qs.length * 3 := flat_size _ 3 (fun _ => rfl) qs
    refine ⟨some a, cap, qs.map Prod.fst, by rw [List.length_map, hgl], qs.map Prod.snd, by simp, ?_, fun i hi => ?_⟩
    · rw [hz, List.length_map]
      refine ⟨⟨hfl, by omega, by omega, hcm⟩, fun hn => ?_⟩
      rw [hgl] at hn
      obtain ⟨ha, hlt⟩ := plain_addr (by simpa using (hg 0 hn).1)
      refine ⟨a.block, a.off, by rw [← ha], hlt, hlt, fun j u hu => ?_⟩
      have hjl : j < qs.length * 3 := by
        rcases Nat.lt_or_ge j (qs.length * 3) with h | h
        · exact h
        · rw [List.getElem?_eq_none (by rw [hfl]; exact h)] at hu; cases hu
      obtain ⟨q, r, rfl, hr⟩ : ∃ q r, j = q * 3 + r ∧ r < 3 := ⟨j / 3, j % 3, by omega, by omega⟩
      rw [flat_at (default, (none, 0)) (fun p : Nd × (Option Addr × Nat) => ncells p.1 p.2) 3 (fun _ => rfl) qs q r (by omega) hr] at hu
      obtain ⟨c0, c1, c2, _⟩ := hg q (by omega)
      rw [ha, add_at] at c0 c1 c2
      match r, hr with
      | 0, _ => simp only [ncells] at hu; have hu := Option.some.inj hu; rw [← hu]; exact c0
      | 1, _ => simp only [ncells] at hu; have hu := Option.some.inj hu; rw [← hu]; exact c1
      | 2, _ => simp only [ncells] at hu; have hu := Option.some.inj hu; rw [← hu]; exact c2
    · rw [List.length_map] at hi
      have := (hg i (by omega)).2.2.2
      simpa [List.getD, hi] using this
theorem open_NT {v : Value} {d : DataW H} {p : List MemPlace} (hc : v.cells = #[v]) (h : DataW.Trod enc Try.prog w base (fun _ => true) held 26 v d p) (hl : Light Try.prog 26 d) :
    ∃ (A : Option Addr) (c : Nat) (t : List Nd), v = .slice A t.length c ∧ RdN w (· < w.heap.size) A c t := by
  obtain ⟨n, hn⟩ := h
  rw [hc] at hn
  exact open_N hn hl
end
end Go.Proofs.Ythhknonaebnooaa
set_option linter.unusedVariables false
set_option linter.unusedSimpArgs false
namespace Go.Proofs.Ythhknonaebnooaa

theorem stepF_congr {b c : Bu} {t : List Nd} {a : Int} (hb : buchiB b = true) (hc : buchiB c = true) (hl : b.letters = c.letters) (hn : b.next.length = c.next.length) (hr : ∀ set well, reachZ b set a well = reachZ c set a well) : stepF b t a = stepF c t a := by
  have ht : treeB b t = treeB c t := by unfold treeB; rw [hb, hc, hn]
  have hg : grownZ b t a = grownZ c t a := by unfold grownZ; simp only [hr]
  have hL : listL b t a = listL c t a := by unfold listL; rw [hg]
  have hlast : lastL b t a = lastL c t a := by unfold lastL; rw [hL]
  unfold stepF
  rw [ht, hl, hL, hlast]
/-- Reached states depend on which states the moves go to, and to which of them with a good move. -/
theorem reach_congr {b c : Bu} {a : Int} (hn : b.next.length = c.next.length) (hm : ∀ q s, ((mvs b q a).any fun m => decide (m.dst = s)) = ((mvs c q a).any fun m => decide (m.dst = s)) ∧ ((mvs b q a).any fun m => decide (m.dst = s) && m.good) = ((mvs c q a).any fun m => decide (m.dst = s) && m.good)) (set : List Int) (well : Bool) : reachZ b set a well = reachZ c set a well := by
  unfold reachZ
  rw [hn]
  refine congrArg (fun f => List.filter f _) (funext fun s => ?_)
  unfold hitB
  refine congrArg (fun f => List.any set f) (funext fun q => ?_)
  cases well
  · simpa using (hm q s).1
  · simpa using (hm q s).2
end Go.Proofs.Ythhknonaebnooaa
set_option linter.unusedVariables false
set_option linter.unusedSimpArgs false
namespace Go.Proofs.Ythhknonaebnooaa

/-- Each move but those that are followed by one to the same state. -/
def thin : List Mv → List Mv
  | [] => []
  | [m] => [m]
  | m :: n :: l => if n.dst = m.dst then thin (n :: l) else m :: thin (n :: l)
theorem thin_dst (s : Int) : ∀ l : List Mv, ((thin l).any fun m => decide (m.dst = s)) = (l.any fun m => decide (m.dst = s))
  | [] => rfl
  | [m] => rfl
  | m :: n :: l => by
    have ih := thin_dst s (n :: l)
    unfold thin
    split
    · rename_i e
      rw [ih]
      simp only [List.any_cons, e]
      cases decide (m.dst = s) <;> simp
    · rw [List.any_cons, ih]
      rfl
theorem thin_good (s : Int) : ∀ l : List Mv, (∀ k, k + 1 < l.length → beforeB (l.getD k default) (l.getD (k + 1) default) = true) → ((thin l).any fun m => decide (m.dst = s) && m.good) = (l.any fun m => decide (m.dst = s) && m.good)
  | [], _ => rfl
  | [m], _ => rfl
  | m :: n :: l, h => by
    have ih := thin_good s (n :: l) fun k hk => by
      have := h (k + 1) (by simpa using hk)
      simpa using this
    unfold thin
    split
    · rename_i e
      rw [ih]
      have h0 := h 0 (by simp)
      have hg : m.good = false := by
        simp only [beforeB, List.getD_cons_zero, List.getD_cons_succ, Bool.or_eq_true, Bool.and_eq_true, decide_eq_true_eq, Bool.not_eq_true'] at h0
        rcases h0 with h0 | h0
        · omega
        · exact h0.1.2
      show _ = (decide (m.dst = s) && m.good || (n :: l).any fun m => decide (m.dst = s) && m.good)
      rw [hg, Bool.and_false, Bool.false_or]
    · rw [List.any_cons, ih]
      rfl
end Go.Proofs.Ythhknonaebnooaa
set_option linter.unusedVariables false
set_option linter.unusedSimpArgs false
namespace Go.Proofs.Ythhknonaebnooaa

theorem thin_sub : ∀ l : List Mv, (thin l).Sublist l
  | [] => List.Sublist.refl _
  | [m] => List.Sublist.refl _
  | m :: n :: l => by
    have ih := thin_sub (n :: l)
    unfold thin
    split
    · exact ih.cons m
    · exact ih.cons_cons m
def thinB (b : Bu) : Bu := ⟨b.letters, b.start, b.next.map fun row => row.map thin⟩
theorem getD_map_nil {α β : Type} (f : List α → List β) (hf : f [] = []) (l : List (List α)) (i : Nat) : (l.map f).getD i [] = f (l.getD i []) := by
  simp only [List.getD, List.getElem?_map]
  cases l[i]? <;> simp [hf]
theorem thinB_mvs (b : Bu) (s a : Int) : mvs (thinB b) s a = thin (mvs b s a) := by
  unfold mvs thinB
  show ((b.next.map fun row => row.map thin).getD s.toNat []).getD a.toNat [] = _
  rw [getD_map_nil (fun row => row.map thin) rfl, getD_map_nil thin rfl]
theorem before_trans {x y z : Mv} (h1 : beforeB x y = true) (h2 : beforeB y z = true) : beforeB x z = true := by
  unfold beforeB at *
  cases hx : x.good <;> cases hy : y.good <;> cases hz : z.good <;> simp_all <;> omega
theorem moves_iff {n : Int} {l : List Mv} : movesB n l = true ↔ (∀ m ∈ l, 0 ≤ m.dst ∧ m.dst < n) ∧ l.Pairwise fun x y => beforeB x y = true := by
  unfold movesB
  constructor
  · intro h
    have hat : ∀ k, k < l.length → 0 ≤ (l.getD k default).dst ∧ (l.getD k default).dst < n ∧ (0 < k → beforeB (l.getD (k - 1) default) (l.getD k default) = true) := fun k hk => by
      have := allN_true.1 h k hk
      unfold movesAt at this
      simp only [Bool.and_eq_true, Bool.or_eq_true, decide_eq_true_eq] at this
      exact ⟨this.1.1, this.1.2, fun h0 => this.2.resolve_left (by omega)⟩
    refine ⟨fun m hm => ?_, ?_⟩
    · obtain ⟨k, hk, rfl⟩ := List.getElem_of_mem hm
      have := hat k hk
      have e : l.getD k default = l[k] := by simp [List.getD, hk]
      rw [e] at this
      exact ⟨this.1, this.2.1⟩
    · rw [List.pairwise_iff_getElem]
      have key : ∀ d i, i + 1 + d < l.length → beforeB (l.getD i default) (l.getD (i + 1 + d) default) = true := by
        intro d
        induction d with
        | zero => intro i hi; exact (hat (i + 1) hi).2.2 (by omega)
        | succ d ih => intro i hi; exact before_trans (ih i (by omega)) ((hat (i + 1 + (d + 1)) hi).2.2 (by omega))
      intro i j hi hj hij
      have := key (j - i - 1) i (by omega)
      rw [show i + 1 + (j - i - 1) = j by omega] at this
      simpa [List.getD, hi, hj] using this
  · rintro ⟨h1, h2⟩
    refine allN_of fun k hk => ?_
    unfold movesAt
    have e : l.getD k default = l[k] := by simp [List.getD, hk]
    have := h1 _ (List.getElem_mem hk)
    simp only [Bool.and_eq_true, Bool.or_eq_true, decide_eq_true_eq]
    rw [e]
    refine ⟨this, ?_⟩
    by_cases h0 : k = 0
    · exact .inl h0
    · refine .inr ?_
      have hk1 : k - 1 < l.length := by omega
      have e1 : l.getD (k - 1) default = l[k - 1] := by simp [List.getD, hk1]
      rw [e1]
      exact List.pairwise_iff_getElem.1 h2 (k - 1) k hk1 hk (by omega)
theorem thin_moves {n : Int} {l : List Mv} (h : movesB n l = true) : movesB n (thin l) = true := by
  obtain ⟨h1, h2⟩ := moves_iff.1 h
  exact moves_iff.2 ⟨fun m hm => h1 m ((thin_sub l).subset hm), h2.sublist (thin_sub l)⟩
theorem thinB_buchi {b : Bu} (h : buchiB b = true) : buchiB (thinB b) = true := by
  unfold buchiB at h ⊢
  simp only [Bool.and_eq_true] at h ⊢
  have hl : (thinB b).next.length = b.next.length := by simp [thinB]
  rw [hl]
  refine ⟨h.1, allN_of fun s hs => ?_⟩
  have h1 := allN_true.1 h.2 s hs
  have e : (thinB b).next.getD s [] = (b.next.getD s []).map thin := getD_map_nil (fun row => row.map thin) rfl b.next s
  rw [e]
  unfold rowOkB at h1 ⊢
  rw [List.length_map]
  simp only [Bool.and_eq_true] at h1 ⊢
  refine ⟨h1.1, allN_of fun a ha => ?_⟩
  rw [getD_map_nil thin rfl]
  exact thin_moves (allN_true.1 h1.2 a ha)
/-- Thinning changes no step. -/
theorem thinB_step {b : Bu} {t : List Nd} {a : Int} (h : buchiB b = true) : stepF (thinB b) t a = stepF b t a := by
  refine stepF_congr (thinB_buchi h) h rfl (by simp [thinB]) fun set well => reach_congr (by simp [thinB]) (fun q s => ?_) set well
  rw [thinB_mvs]
  refine ⟨thin_dst s _, thin_good s _ ?_⟩
  intro k hk
  have hm : movesB b.next.length (mvs b q a) = true := by
    unfold mvs
    by_cases hq : q.toNat < b.next.length
    · unfold buchiB at h
      simp only [Bool.and_eq_true] at h
      have h1 := allN_true.1 h.2 _ hq
      unfold rowOkB at h1
      simp only [Bool.and_eq_true] at h1
      by_cases ha : a.toNat < (b.next.getD q.toNat []).length
      · exact allN_true.1 h1.2 _ ha
      · have : (b.next.getD q.toNat []).getD a.toNat [] = [] := by simp only [List.getD] at ha ⊢; rw [List.getElem?_eq_none (by omega)]; rfl
        rw [this]; rfl
    · have : b.next.getD q.toNat [] = [] := by simp only [List.getD]; rw [List.getElem?_eq_none (by omega)]; rfl
      rw [this]; rfl
  have hp := (moves_iff.1 hm).2
  have := List.pairwise_iff_getElem.1 hp k (k + 1) (by omega) hk (by omega)
  simpa [List.getD, hk, show k < (mvs b q a).length by omega] using this
end Go.Proofs.Ythhknonaebnooaa
set_option linter.unusedVariables false
set_option linter.unusedSimpArgs false
namespace Go.Proofs.Ythhknonaebnooaa

theorem thinB_few {b : Bu} (h : fewB b = true) : fewB (thinB b) = true := by
  unfold fewB at h ⊢
  simp only [Bool.and_eq_true, decide_eq_true_eq] at h ⊢
  have hl : (thinB b).next.length = b.next.length := by simp [thinB]
  rw [hl]
  refine ⟨h.1, allN_of fun s hs => ?_⟩
  have h1 := allN_true.1 h.2 s hs
  have e : (thinB b).next.getD s [] = (b.next.getD s []).map thin := getD_map_nil (fun row => row.map thin) rfl b.next s
  rw [e, List.length_map]
  simp only [Bool.and_eq_true, decide_eq_true_eq] at h1 ⊢
  refine ⟨h1.1, allN_of fun a ha => ?_⟩
  rw [getD_map_nil thin rfl]
  have h2 := allN_true.1 h1.2 a ha
  simp only [decide_eq_true_eq] at h2 ⊢
  have := (thin_sub ((b.next.getD s []).getD a [])).length_le
  omega
end Go.Proofs.Ythhknonaebnooaa
set_option linter.unusedVariables false
set_option linter.unusedSimpArgs false
namespace Go.Proofs.Ythhknonaebnooaa

/-- All parents are old nodes. -/
theorem par_old {b : Bu} {t : List Nd} {a : Int} (h : treeB b t = true) {i : Nat} (hi : i < 2 * t.length) : (nd (listL b t a) i).parent < (t.length : Int) := by
  rw [(listL_same b t a i).1, grown_par hi]
  obtain ⟨-, -, ht⟩ := treeB_all h
  by_cases e : i < t.length
  · rw [if_pos e]
    have h1 := tree_up ht e
    by_cases h0 : i = 0
    · have := h1.2.2.2.1 h0; omega
    · have := h1.2.2.2.2 (by omega); omega
  · rw [if_neg e]; omega
theorem good_old {b : Bu} {t : List Nd} {a : Int} (h : treeB b t = true) {i : Nat} (hi : i < 2 * t.length) (hg : goodL (listL b t a) i = true) : i < t.length ∧ stay b t a i = true := by
  have h2 := (flg_eq (listL_Up (a := a) h) (i := i) (by rw [listL_len]; exact hi)).2
  rw [hg] at h2
  have h2 := h2.symm
  simp only [Bool.and_eq_true, decide_eq_true_eq] at h2
  have hs : stay b t a i = true := h2.1
  refine ⟨?_, hs⟩
  rcases Nat.lt_or_ge i t.length with e | e
  · exact e
  · have hne := ((stay_iff h hi).1 hs).1
    have hu : unionZ (listL b t a) (i : Int) = [] := by
      rw [List.eq_nil_iff_forall_not_mem]
      intro x hx
      obtain ⟨c, hc, hp, _⟩ := mem_union.1 hx
      rw [listL_len] at hc
      have := par_old (a := a) h hc
      omega
    rw [hu] at h2
    exact absurd (List.eq_nil_of_length_eq_zero h2.2.symm) hne
end Go.Proofs.Ythhknonaebnooaa
set_option linter.unusedVariables false
set_option linter.unusedSimpArgs false
namespace Go.Proofs.Ythhknonaebnooaa
open Go.RowKit

/-- Is the move at place j kept? -/
def keepJ (l : List Mv) (j : Nat) : Bool := !(decide (j + 1 < l.length) && decide ((l.getD (j + 1) default).dst = (l.getD j default).dst))
def thinTo (l : List Mv) (k : Nat) : List Mv := ((List.range k).filter (keepJ l)).map fun j => l.getD j default
theorem thinTo_snoc (l : List Mv) (k : Nat) : thinTo l (k + 1) = thinTo l k ++ (if keepJ l k then [l.getD k default] else []) := by
  unfold thinTo
  rw [List.range_succ, List.filter_append, List.map_append]
  cases h : keepJ l k <;> simp [h]
theorem thinTo_len (l : List Mv) (k : Nat) : (thinTo l k).length ≤ k := by
  unfold thinTo
  rw [List.length_map]
  exact Nat.le_trans (List.length_filter_le _ _) (by simp)
theorem thinTo_all : ∀ l : List Mv, thinTo l l.length = thin l
  | [] => rfl
  | [m] => by simp [thinTo, thin, keepJ, List.range_succ]
  | m :: n :: l => by
    have ih := thinTo_all (n :: l)
    have hs : ∀ j, keepJ (m :: n :: l) (j + 1) = keepJ (n :: l) j := fun j => by
      unfold keepJ
      simp only [List.length_cons, List.getD_cons_succ]
      have e : decide (j + 1 + 1 < l.length + 1 + 1) = decide (j + 1 < l.length + 1) := by
        by_cases h : j + 1 < l.length + 1
        · rw [decide_eq_true h, decide_eq_true (by omega)]
        · rw [decide_eq_false h, decide_eq_false (by omega)]
      rw [e]
    have hall : thinTo (m :: n :: l) (m :: n :: l).length = (if keepJ (m :: n :: l) 0 then [m] else []) ++ thinTo (n :: l) (n :: l).length := by
      unfold thinTo
      rw [show (m :: n :: l).length = (n :: l).length + 1 from rfl, List.range_succ_eq_map, List.filter_cons]
      have e1 : (List.map Nat.succ (List.range (n :: l).length)).filter (keepJ (m :: n :: l)) = ((List.range (n :: l).length).filter (keepJ (n :: l))).map Nat.succ := by
        rw [List.filter_map]
        congr 1
        exact List.filter_congr fun j _ => hs j
      rw [e1]
      cases h : keepJ (m :: n :: l) 0
      · simp [List.map_map, Function.comp_def]
      · simp [List.map_map, Function.comp_def]
    rw [hall, ih]
    have h0 : keepJ (m :: n :: l) 0 = !decide (n.dst = m.dst) := by simp [keepJ]
    rw [h0]
    show _ = thin (m :: n :: l)
    rw [thin]
    by_cases e : n.dst = m.dst
    · rw [if_pos e]; simp [e]
    · rw [if_neg e]; simp [e]

/-- Blocks from B on whose cells have a type of T. -/
def TyD (w : World) (B : Nat) (T : TypeId → Prop) : Dom := fun k => B ≤ k ∧ ∃ cs t fr, w.heap[k]? = some (.cells cs t fr) ∧ T t
section
variable {w w' : World} {B : Nat} {T : TypeId → Prop}
theorem TyD.stay (hk : Keeps (TyD w B T) w w') {b : Nat} (h : TyD w B T b) : TyD w' B T b := by
  obtain ⟨h1, cs, t, fr, h2, h3⟩ := h
  exact ⟨h1, cs, t, fr, (hk.block b ⟨h1, cs, t, fr, h2, h3⟩ (lt_of_block h2)).trans h2, h3⟩
theorem TyD.grown {base n size : Nat} {e : TypeId} {v : Value} {xs : List Value} (ho : w.ownsRow base e size v n xs) (hg : w.grownBy w' v.ownBlock) (hT : ¬ T e) : Keeps (TyD w B T) w w' :=
  (Keeps.refl _ w).grown hg fun k hk hd => by
    obtain ⟨_, cs, t, fr, h2, h3⟩ := hd
    by_cases he : e = t
    · exact hT (he ▸ h3)
    · exact own_ne ho h2 he hk
theorem TyD.below {C : Nat} (hb : Below C w w') (hC : w.heap.size ≤ C) : Keeps (TyD w B T) w w' := ⟨hb.size, fun b _ hl => hb.block b (Nat.lt_of_lt_of_le hl hC)⟩
theorem TyD.lo {b : Nat} (h : TyD w B T b) : B ≤ b := h.1
theorem TyD.of_own {B' n c size : Nat} {e : TypeId} {A : Option Addr} {xs : List Value} (h : B ≤ B') (ho : w.ownsRow B' e size (.slice A n c) n xs) (hT : T e) (hm : n ≤ 140737488355328) : Rd w (TyD w B T) size A n c xs := by
  have h1 := Rd.own (D := fun b => B' ≤ b) ho hm (fun _ h => h)
  refine ⟨h1.1, fun hp => ?_⟩
  obtain ⟨b, o, ea, hb, hl, hc⟩ := h1.2 hp
  refine ⟨b, o, ea, ⟨Nat.le_trans h hb, ?_⟩, hl, hc⟩
  rcases ho.2 with ⟨hv, h0⟩ | ⟨g, cap, cur, hv, _, hh, _⟩
  · subst ea
    injection hv with hv
    cases hv
  · subst ea
    injection hv with hv
    injection hv with hv
    injection hv with hv
    subst hv
    exact ⟨_, _, _, hh, hT⟩
end
/-- The values vs are slices of the rows. -/
def TR {α : Type} (P : World → Dom → Option Addr → Nat → List α → Prop) (w : World) (D : Dom) (rows : List (List α)) (vs : List Value) : Prop :=
  ∀ i, i < rows.length → ∃ A c, vs[i]? = some (.slice A (rows.getD i []).length c) ∧ P w D A c (rows.getD i [])
section
variable {α : Type} {P : World → Dom → Option Addr → Nat → List α → Prop} {w w' : World} {D D' : Dom} {rows : List (List α)} {vs : List Value}
theorem TR.nil (w : World) (D : Dom) (vs : List Value) : TR P w D [] vs := fun _ h => absurd h (Nat.not_lt_zero _)
theorem TR.turn (h : TR P w D rows vs) (hP : ∀ A c l, P w D A c l → P w' D' A c l) : TR P w' D' rows vs := fun i hi =>
  let ⟨A, c, h1, h2⟩ := h i hi
  ⟨A, c, h1, hP _ _ _ h2⟩
theorem TR.snoc (h : TR P w D rows vs) (hl : vs.length = rows.length) {A : Option Addr} {c : Nat} {r : List α} (hr : P w D A c r) : TR P w D (rows ++ [r]) (vs ++ [.slice A r.length c]) := fun i hi => by
  rw [List.length_append, List.length_singleton] at hi
  by_cases e : i < rows.length
  · obtain ⟨A', c', h1, h2⟩ := h i e
    have e1 : (rows ++ [r]).getD i [] = rows.getD i [] := by simp [List.getD, List.getElem?_append, e]
    rw [e1]
    refine ⟨A', c', ?_, h2⟩
    rw [List.getElem?_append, if_pos (by omega)]; exact h1
  · obtain rfl : i = rows.length := by omega
    have e1 : (rows ++ [r]).getD rows.length [] = r := by simp [List.getD, List.getElem?_append]
    rw [e1]
    refine ⟨A, c, ?_, hr⟩
    rw [List.getElem?_append, if_neg (by omega), hl, Nat.sub_self]; rfl
end
def isMv (t : TypeId) : Prop := t = 54
def isVV (t : TypeId) : Prop := t = 54 ∨ t = 52
/-- Finished rows of moves stay while the rows grow. -/
theorem trV_keep {w w' : World} {B : Nat} {rows : List (List Mv)} {vs : List Value} (h : TR RdV w (TyD w B isMv) rows vs) (hk : Keeps (TyD w B isMv) w w') : TR RdV w' (TyD w' B isMv) rows vs :=
  h.turn fun _ _ _ h => (h.keep hk).mono fun b hb _ => TyD.stay hk hb
theorem trVV_keep {w w' : World} {B : Nat} {rows : List (List (List Mv))} {vs : List Value} (h : TR RdVV w (TyD w B isVV) rows vs) (hk : Keeps (TyD w B isVV) w w') : TR RdVV w' (TyD w' B isVV) rows vs :=
  h.turn fun _ _ _ h => monoVV (keepVV h hk) fun b hb _ => TyD.stay hk hb
theorem row_info : (Try.prog.info? 52).map (fun i => (i.zero, i.size, i.bytes)) = some (some (.slice none 0 0), 1, 24) := by kernel_rfl
theorem rows_info : (Try.prog.info? 51).map (fun i => (i.zero, i.size, i.bytes)) = some (some (.slice none 0 0), 1, 24) := by kernel_rfl
theorem build_c (a : Int) (A : Option Addr) (n c : Nat) (w : World) : (Instr.build 25 #[(0, .int .i64 a), (1, .slice A n c)]).run Try.prog w = .ok (.agg #[.int .i64 a, .slice A n c, .slice none 0 0]) w := run_build w 25 _ _ (by kernel_rfl)
/-- The empty row that a literal lays. -/
theorem own_lit0 (w : World) (T : TypeId) (size : Nat) : (w.alloc (.cells #[] T)).ownsRow w.heap.size T size (.slice (some ⟨w.heap.size, 0, none⟩) 0 0) 0 [] :=
  ⟨by simp, .inr ⟨w.heap.size, 0, #[], rfl, Nat.le_refl _, by rw [heap_alloc_new w _], Nat.le_refl _, by simp, by simp, by simp⟩⟩
end Go.Proofs.Ythhknonaebnooaa
set_option linter.unusedVariables false
set_option linter.unusedSimpArgs false
namespace Go.Proofs.Ythhknonaebnooaa
open Go.RowKit

/-- The automaton in its box, and the one that is made, in block kb: its first i rows. -/
structure Oc (w wr : World) (kb : Nat) (cs : Array Value) (x0 x1 : Value) (b : Bu) (i : Nat) (A : Option Addr) (c : Nat) (vs : List Value) : Prop where
  below : Below w.heap.size w wr
  lt : w.heap.size < kb
  box : HasB wr w.heap.size cs b
  out : wr.heap[kb]? = some (.cells #[x0, x1, .slice A i c] 25 (0, 0))
  own : wr.ownsRow (kb + 1) 51 1 (.slice A i c) i vs
  rows : TR RdVV wr (TyD wr (kb + 1) isVV) ((b.next.take i).map fun row => row.map thin) vs
theorem not_isVV : ¬ isVV 51 := by unfold isVV; decide
theorem not_isMv : ¬ isMv 52 := by unfold isMv; decide
theorem Oc.next {w W wr w7 : World} {kb : Nat} {cs : Array Value} {x0 x1 : Value} {b : Bu} {i : Nat} {A A7 Ar : Option Addr} {c c7 cr : Nat} {vs : List Value} {r : List (List Mv)} (h : Oc w W kb cs x0 x1 b i A c vs) (hd : RdBu w (· < w.heap.size) (.agg cs) b) (hi : i < b.next.length) (hb : Below W.heap.size W wr)
    (hr : r = (b.next.getD i []).map thin) (hrd : RdVV wr (TyD wr (kb + 1) isVV) Ar cr r) (o : Obj) (hg : (wr.alloc o).grownBy w7 (Value.slice A i c).ownBlock)
    (hown : w7.ownsRow (kb + 1) 51 1 (.slice A7 (i + 1) c7) (i + 1) (vs ++ [.slice Ar r.length cr])) :
    Oc w (w7.setCell ⟨kb, 2, none⟩ (.slice A7 (i + 1) c7)) kb cs x0 x1 b (i + 1) A7 c7 (vs ++ [.slice Ar r.length cr]) := by
  have hws := h.below.size
  have hkl : kb < W.heap.size := lt_of_block h.out
  have hbl : w.heap.size < W.heap.size := lt_of_block h.box.blk
  have hb6 : Below W.heap.size W (wr.alloc o) := hb.trans ((Below.refl _ _).alloc hb.size o)
  have ho6 : (wr.alloc o).ownsRow (kb + 1) 51 1 (.slice A i c) i vs := own_below h.own hb6
  have hbk6 := (hb6.block _ hkl).trans h.out
  have hbx6 := (hb6.block _ hbl).trans h.box.blk
  have hbk7 := (hg.block _ (lt_of_block hbk6) (fun e => own_ne ho6 hbk6 (by decide) e.symm)).trans hbk6
  have hbx7 := (hg.block _ (lt_of_block hbx6) (fun e => own_ne ho6 hbx6 (by decide) e.symm)).trans hbx6
  have hbw6 : Below w.heap.size w (wr.alloc o) := h.below.trans (hb6.mono hws)
  have hs6 : w.heap.size ≤ (wr.alloc o).heap.size := hbw6.size
  have hbw7 : Below w.heap.size w w7 := hbw6.grown hg hs6 (fun k hk => by have := (ho6.lt k hk).1; have := h.lt; omega)
  have hs7 := hbw7.size
  have hlen : ((b.next.take (i + 1)).map fun row => row.map thin) = ((b.next.take i).map fun row => row.map thin) ++ [r] := by
    rw [take_succ_getD b.next [] hi, List.map_append, hr]; rfl
  have hvl : vs.length = ((b.next.take i).map fun row => row.map thin).length := by
    have := h.own.1
    rw [List.length_map, List.length_take]
    omega
  have hlt := h.lt
  have hset : Keeps (TyD w7 (kb + 1) isVV) w7 (w7.setCell ⟨kb, 2, none⟩ (.slice A7 (i + 1) c7)) := (Keeps.refl _ w7).set (by show ¬ TyD w7 (kb + 1) isVV kb; intro hh; have := hh.lo; omega) _
  refine ⟨?_, hlt, ⟨?_, ?_⟩, set_block hbk7 _, ownsRow_setCell_other hown (own_ne hown hbk7 (by decide)) _, ?_⟩
  · exact hbw7.trans ⟨rfl, rfl, rfl, by simp, fun k hk => Below.heap_setCell _ _ _ _ (by show k ≠ kb; omega)⟩
  · exact (Below.heap_setCell _ _ _ _ (by show w.heap.size ≠ kb; omega)).trans hbx7
  · have hb8 : Below w.heap.size w (w7.setCell ⟨kb, 2, none⟩ (.slice A7 (i + 1) c7)) := hbw7.trans ⟨rfl, rfl, rfl, by simp, fun k hk => Below.heap_setCell _ _ _ _ (by show k ≠ kb; omega)⟩
    exact (hd.keep (Keeps.of_below hb8 fun _ h => h)).mono fun k hk _ => Nat.lt_of_lt_of_le hk hb8.size
  · rw [hlen]
    refine trVV_keep (trVV_keep (trVV_keep ((trVV_keep h.rows (TyD.below hb (Nat.le_refl _))).snoc hvl hrd) (TyD.below ((Below.refl wr.heap.size wr).alloc (Nat.le_refl _) o) (Nat.le_refl _))) (TyD.grown ho6 hg not_isVV)) hset
end Go.Proofs.Ythhknonaebnooaa
